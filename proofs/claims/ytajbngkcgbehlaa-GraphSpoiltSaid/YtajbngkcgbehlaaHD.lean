import Derived.Test.YtajbngkcgbehlaaHB
namespace Go.Proofs.Ytajbngkcgbehlaa
open Go.SX Go.RowKit Go.ChangeShapes Go.WideShapes Go.ChangeAt
/-! A made graph, spoilt: one cell of one node changed -/
structure Fits (n : NodeV) : Prop where
  shape : n.shape.sane
  data : n.data.sane
  bias : n.bias.sane
  dataFew : n.data.xs.length ≤ 5000
  biasFew : n.bias.xs.length ≤ 5000
  kindFits : i64 n.kind
  aFits : i64 n.a
  bFits : i64 n.b
  loFits : i64 n.lo
  hiFits : i64 n.hi
  sizeFits : i64 n.size
theorem Made.fits {n : NodeV} (h : Made n) : Fits n := ⟨h.shape, h.data, h.bias, by have := h.dataFew; omega, by have := h.biasFew; omega, h.kindFits, h.aFits, h.bFits, h.loFits, h.hiFits, h.sizeFits⟩
theorem spoilt_ok {l : List NodeV} {base : Option Addr} {cap : Nat} {out : Int} {R : Nat → Prop} {w : World} (hm : ∀ n ∈ l, Fits n) (hl : l.length ≤ 1000) (hr : RowsI w base 9 (nodeRows l)) (h : (nodesD l).holds R w) (ho : i64 out) : (⟨base, cap, l, out⟩ : GraphV).ok w :=
  ⟨hr, fun n hn => ⟨intsA_ok (hm n hn).shape ((h n hn).1 rfl), intsA_ok (hm n hn).data (h n hn).2.1, intsA_ok (hm n hn).bias (h n hn).2.2, (hm n hn).kindFits, (hm n hn).aFits, (hm n hn).bFits, (hm n hn).loFits, (hm n hn).hiFits, (hm n hn).sizeFits⟩, fun n hn => ⟨(hm n hn).dataFew, (hm n hn).biasFew⟩, by simp only; omega, ho⟩
theorem nstore {l : List NodeV} {k f : Nat} {vs : List Value} {K : List (List Value) → Prop} {n : NodeV} (hk : k < l.length) (hn : l[k] = n) (n' : NodeV) (he : setFrom n.cells f vs = n'.cells) (hf : f + vs.length ≤ 9) (h : K (nodeRows (l.set k n'))) : rowStoreK (nodeRows l) k f vs K := by
  subst hn
  refine rowStore_of (l[k]).cells (nodeRows_get hk) hf ?_
  rw [he]
  have : (nodeRows l).set k n'.cells = nodeRows (l.set k n') := by unfold nodeRows; rw [List.map_set]
  rw [this]
  exact h
theorem nget {l : List NodeV} {k : Nat} {n : NodeV} (hk : k < l.length) (hn : l[k] = n) : (nodeRows l)[k]? = some n.cells := by
  subst hn; exact nodeRows_get hk
theorem none_nil {u : IntsV} {R : Nat → Prop} {w : World} (h : (intsA u).holds R w) : u.base = none → u.xs = [] := fun hb => by
  rcases h.2 with h | ⟨b, off, h, _⟩
  · simpa [ints] using h
  · rw [hb] at h; cases h
theorem at_shape {l : List NodeV} {k N : Nat} {n : NodeV} {R : Nat → Prop} {w : World} (hk : k < l.length) (hn : l[k] = n) (h : ((nodesD l).past N).holds R w) : RowsI w n.shape.base 1 (ints n.shape.xs) := by
  subst hn; exact rowsA_in ((h _ (List.getElem_mem hk)).1 rfl)
theorem at_data {l : List NodeV} {k N : Nat} {n : NodeV} {R : Nat → Prop} {w : World} (hk : k < l.length) (hn : l[k] = n) (h : ((nodesD l).past N).holds R w) : RowsI w n.data.base 1 (ints n.data.xs) := by
  subst hn; exact rowsA_in (h _ (List.getElem_mem hk)).2.1
theorem at_bias {l : List NodeV} {k N : Nat} {n : NodeV} {R : Nat → Prop} {w : World} (hk : k < l.length) (hn : l[k] = n) (h : ((nodesD l).past N).holds R w) : RowsI w n.bias.base 1 (ints n.bias.xs) := by
  subst hn; exact rowsA_in (h _ (List.getElem_mem hk)).2.2
theorem slice_one {a : Addr} {len cap : Nat} {K : SV → Prop} (h1 : 1 ≤ len) (h2 : len ≤ cap) (h : K (.c (.slice (some (if cap = 1 then a else a.add 1)) (len - 1) (cap - 1)))) : sliceK (some a) len cap 1 (some 1) none none K := by
  rw [sliceK_def]
  refine ⟨1, len, cap, rfl, rfl, rfl, h1, h2, Nat.le_refl _, fun h => (by cases h), ?_⟩
  have e : (if cap = 1 then some a else (some a).map (·.add (1 * 1))) = some (if cap = 1 then a else a.add 1) := by
    split <;> rfl
  rw [e]
  exact h
theorem rows_one {w : World} {a : Addr} {cap : Nat} {xs : List Int} (hc : xs.length ≤ cap) (h : RowsI w (some a) 1 (ints xs)) : RowsI w (some (if cap = 1 then a else a.add 1)) 1 (ints (xs.drop 1)) := by
  by_cases hx : xs.drop 1 = []
  · rw [hx]; exact .inl rfl
  have hl : 1 < xs.length := by
    rcases Nat.lt_or_ge 1 xs.length with h | h
    · exact h
    · exact absurd (List.drop_eq_nil_of_le h) hx
  rw [if_neg (by omega)]
  rcases h with h | ⟨a', ha, h⟩
  · exact absurd h (by cases xs <;> simp_all [ints])
  obtain rfl : a = a' := by simpa using ha
  refine .inr ⟨_, rfl, fun i r hr j v hj => ?_⟩
  have hr' : (ints xs)[1 + i]? = some r := by
    unfold ints at hr ⊢
    rw [List.map_drop, List.getElem?_drop] at hr
    exact hr
  have := h (1 + i) r hr' j v hj
  rw [add_add, show 1 + (i * 1 + j) = (1 + i) * 1 + j by omega]
  exact this
theorem set_all {α : Type} {p : α → Prop} {l : List α} {k : Nat} {x : α} (h : ∀ y ∈ l, p y) (hx : p x) : ∀ y ∈ l.set k x, p y := fun y hy => by
  rcases List.mem_or_eq_of_mem_set hy with hy | rfl
  · exact h y hy
  · exact hx
theorem room_ints {xs : List Int} (h : xs.length ≤ 1000) : (1 + (ints xs).length) * 8 ≤ 140737488355328 := by rw [ints_length]; omega
theorem freeze_ints {w0 : World} {i n : Nat} (xs : List Int) {R0 : List (List Value)} {T : TypeId} {H : Heap} {S : Asn} {nx : Nat} {K : SV → Heap → Asn → Nat → Prop} (hN : ∀ R w, S.holds R w → (baseA w0).holds R w) (he : R0 = ints xs) (hn : n = xs.length) (h : ∀ l : SX.Loc, xs.length ≤ l.cap → K (.c (.slice l.base xs.length l.cap)) H (S.and ((intsA ⟨l.base, l.cap, xs⟩).past w0.heap.size)) nx) : ownK (.os i n) ((i, .rows R0 1 T) :: H) S nx K := by
  subst he hn
  exact own_freeze w0.heap.size (fun R w hS b hb => (hN R w hS b hb).1) (fun l hl => h l (by simpa [ints_length] using hl))
theorem nstore3 {l : List NodeV} {k c : Nat} {b : Option Addr} {xs : List Int} {K : List (List Value) → Prop} {n : NodeV} (hk : k < l.length) (hn : l[k] = n) (h : K (nodeRows (l.set k { n with shape := ⟨b, c, xs⟩ }))) : rowStoreK (nodeRows l) k 3 [.slice b xs.length c] K := nstore hk hn _ rfl (Nat.le_of_ble_eq_true rfl) h
theorem nstore7 {l : List NodeV} {k c : Nat} {b : Option Addr} {xs : List Int} {K : List (List Value) → Prop} {n : NodeV} (hk : k < l.length) (hn : l[k] = n) (h : K (nodeRows (l.set k { n with data := ⟨b, c, xs⟩ }))) : rowStoreK (nodeRows l) k 7 [.slice b xs.length c] K := nstore hk hn _ rfl (Nat.le_of_ble_eq_true rfl) h
theorem nstore8 {l : List NodeV} {k c : Nat} {b : Option Addr} {xs : List Int} {K : List (List Value) → Prop} {n : NodeV} (hk : k < l.length) (hn : l[k] = n) (h : K (nodeRows (l.set k { n with bias := ⟨b, c, xs⟩ }))) : rowStoreK (nodeRows l) k 8 [.slice b xs.length c] K := nstore hk hn _ rfl (Nat.le_of_ble_eq_true rfl) h
theorem call_spoilt {cx : Cx} {f : FuncId} {H : Heap} {S : Asn} {nx m j : Nat} {K : SV → Heap → Asn → Nat → Prop} {l : List NodeV} {out : Int} (hf : ∀ ar w, (callFunc f ar).run cx.P w = .ok (.enter f ar) w)
    (hc : ∀ w' g, g.ok w' → Calls cx.P f #[g.val] w' (CheckPost w' (check g))) (hmem : (j, Ent.rows (nodeRows l) 9 43) ∈ H) (hm : m = l.length) (h8 : m ≤ 8) (hfit : ∀ n ∈ l, Fits n) (ho : i64 out)
    (hS : ∀ R w', S.holds R w' → ((nodesD l).past cx.B.w0.heap.size).holds R w')
    (h0 : (check ⟨none, 0, l, out⟩).1 ≠ 0 → K (.c (.tuple #[.slice none 0 0, .int .i64 (check ⟨none, 0, l, out⟩).1])) H S nx)
    (h1 : (check ⟨none, 0, l, out⟩).1 = 0 → ∀ sv : ShapesV, sv.l.map (·.xs) = (check ⟨none, 0, l, out⟩).2 → (∀ u ∈ sv.l, u.sane) → K (.c (.tuple #[sv.val, .int .i64 0])) H (S.and ((shapesD sv).past cx.B.w0.heap.size)) nx) : callK cx f [.agg [.os j m, .c (.int .i64 out)]] H S nx K := by
  subst hm
  refine call_check (check ⟨none, 0, l, out⟩) hf (fun ρ w' hw => ?_) h0 h1
  have hg : (⟨(ρ j).base, (ρ j).cap, l, out⟩ : GraphV).ok w' := holds_of_abs hw fun R h => spoilt_ok hfit (by omega) (rows_of_abs hw hmem) ((nodesD l).mono (hS R w' h) (fun b hb => hb.1)) ho
  exact hc w' _ hg
theorem setD {l : List NodeV} {k N : Nat} {n : NodeV} {R : Nat → Prop} {w : World} (h : ((nodesD l).past N).holds R w) (hn : ((nodeD n false).past N).holds R w) : ((nodesD (l.set k n)).past N).holds R w := set_all (p := fun m => ((nodeD m false).past N).holds R w) h hn
theorem getD {l : List NodeV} {k N : Nat} {n : NodeV} {R : Nat → Prop} {w : World} (hk : k < l.length) (hn : l[k] = n) (h : ((nodesD l).past N).holds R w) : ((nodeD n false).past N).holds R w := by
  subst hn; exact h _ (List.getElem_mem hk)
def sp0 (n : NodeV) (v : Int) : NodeV := { n with kind := v }
def sp1 (n : NodeV) (v : Int) : NodeV := { n with a := v }
def sp2 (n : NodeV) (v : Int) : NodeV := { n with b := v }
def sp3 (n : NodeV) (v : Int) : NodeV := { n with lo := v }
def sp4 (n : NodeV) (v : Int) : NodeV := { n with hi := v }
def sp5 (n : NodeV) (v : Int) : NodeV := { n with size := v }
theorem fits0 {n : NodeV} {v : Int} (h : Fits n) (hv : i64 v) : Fits (sp0 n v) := ⟨h.shape, h.data, h.bias, h.dataFew, h.biasFew, hv, h.aFits, h.bFits, h.loFits, h.hiFits, h.sizeFits⟩
theorem fits1 {n : NodeV} {v : Int} (h : Fits n) (hv : i64 v) : Fits (sp1 n v) := ⟨h.shape, h.data, h.bias, h.dataFew, h.biasFew, h.kindFits, hv, h.bFits, h.loFits, h.hiFits, h.sizeFits⟩
theorem fits2 {n : NodeV} {v : Int} (h : Fits n) (hv : i64 v) : Fits (sp2 n v) := ⟨h.shape, h.data, h.bias, h.dataFew, h.biasFew, h.kindFits, h.aFits, hv, h.loFits, h.hiFits, h.sizeFits⟩
theorem fits3 {n : NodeV} {v : Int} (h : Fits n) (hv : i64 v) : Fits (sp3 n v) := ⟨h.shape, h.data, h.bias, h.dataFew, h.biasFew, h.kindFits, h.aFits, h.bFits, hv, h.hiFits, h.sizeFits⟩
theorem fits4 {n : NodeV} {v : Int} (h : Fits n) (hv : i64 v) : Fits (sp4 n v) := ⟨h.shape, h.data, h.bias, h.dataFew, h.biasFew, h.kindFits, h.aFits, h.bFits, h.loFits, hv, h.sizeFits⟩
theorem fits5 {n : NodeV} {v : Int} (h : Fits n) (hv : i64 v) : Fits (sp5 n v) := ⟨h.shape, h.data, h.bias, h.dataFew, h.biasFew, h.kindFits, h.aFits, h.bFits, h.loFits, h.hiFits, hv⟩
theorem fits_3 {n : NodeV} {u : IntsV} (h : Fits n) (hu : u.sane) : Fits { n with shape := u } := ⟨hu, h.data, h.bias, h.dataFew, h.biasFew, h.kindFits, h.aFits, h.bFits, h.loFits, h.hiFits, h.sizeFits⟩
theorem fits_7 {n : NodeV} {u : IntsV} (h : Fits n) (hu : u.sane) (hl : u.xs.length ≤ 5000) : Fits { n with data := u } := ⟨h.shape, hu, h.bias, hl, h.biasFew, h.kindFits, h.aFits, h.bFits, h.loFits, h.hiFits, h.sizeFits⟩
theorem fits_8 {n : NodeV} {u : IntsV} (h : Fits n) (hu : u.sane) (hl : u.xs.length ≤ 5000) : Fits { n with bias := u } := ⟨h.shape, h.data, hu, h.dataFew, hl, h.kindFits, h.aFits, h.bFits, h.loFits, h.hiFits, h.sizeFits⟩
theorem sane_cons {u : IntsV} {b : Option Addr} {c : Nat} {v : Int} {xs : List Int} (hu : u.sane) (hv : i64 v) (hx : ∀ x ∈ xs, x ∈ u.xs) (hl : xs.length ≤ 1000) (hc : (v :: xs).length ≤ c) : (⟨b, c, v :: xs⟩ : IntsV).sane :=
  ⟨fun x hx' => by
    rcases List.mem_cons.1 hx' with rfl | h
    · exact hv
    · exact hu.fits x (hx x h), hc, by simp only [List.length_cons]; omega⟩
theorem node_sp {n m : NodeV} {N : Nat} {R : Nat → Prop} {w : World} (h : ((nodeD n false).past N).holds R w) (e1 : m.shape = n.shape) (e2 : m.data = n.data) (e3 : m.bias = n.bias) : ((nodeD m false).past N).holds R w := ⟨fun _ => by rw [e1]; exact h.1 rfl, by rw [e2]; exact h.2.1, by rw [e3]; exact h.2.2⟩
theorem node_3 {n : NodeV} {u : IntsV} {N : Nat} {R : Nat → Prop} {w : World} (h : ((nodeD n false).past N).holds R w) (hu : ((intsA u).past N).holds R w) : ((nodeD { n with shape := u } false).past N).holds R w := ⟨fun _ => hu, h.2.1, h.2.2⟩
theorem node_7 {n : NodeV} {u : IntsV} {N : Nat} {R : Nat → Prop} {w : World} (h : ((nodeD n false).past N).holds R w) (hu : ((intsA u).past N).holds R w) : ((nodeD { n with data := u } false).past N).holds R w := ⟨h.1, hu, h.2.2⟩
theorem node_8 {n : NodeV} {u : IntsV} {N : Nat} {R : Nat → Prop} {w : World} (h : ((nodeD n false).past N).holds R w) (hu : ((intsA u).past N).holds R w) : ((nodeD { n with bias := u } false).past N).holds R w := ⟨h.1, h.2.1, hu⟩
set_option maxRecDepth 20000 in
set_option maxHeartbeats 40000000 in
theorem lawSpoilt_any (w : World) (t : BytesV) (ht : t.raw w) (at_ how v : Int) (hat : 0 ≤ at_ ∧ at_ ≤ 255) (hhow : 0 ≤ how ∧ how ≤ 255) (hv : i64 v) : Calls Try.prog 6 #[t.val, .int .u8 at_, .int .u8 how, .int .i64 v] w fun e w' => e = .returned (.bool true) ∧ Ext w w' := by
  by_cases h300 : t.bs.length ≤ 300
  · refine calls_of tab tabOk Try.func6 rfl rfl rfl [] (fun _ => ⟨none, 0⟩) [.c t.val, .c (.int .u8 at_), .c (.int .u8 how), .c (.int .i64 v)] [] (baseA w) 0 rfl rfl (by show 4 ≤ _; decide) (abs_base w) ?_
    (repeat' ((conv => whnf) <;> first | (show callK _ 15 _ _ _ _ _; (refine call_pure (f := 15) Try.call15 (.bool true) (fun ρ w' hw => fixed_any w') ?_)) | (show drawK _ 6 _ _ _ _ _ _; (refine draw_quiet tabOk mixed (by kernel_rfl) ?_)) | (show Wp _ _ _ _ _ _ _; (refine Wp.go tabOk rfl ?_)) | (show @cmpK _ _ _; (first | refine cmp_yes (by omega) ?_ | refine cmp_no (by omega) ?_ | (refine cmp_both ?_ ?_ <;> intro _))) | (show wrapK _ _ _; (refine wrap_i64 (by omega) (by omega) ?_)) | (show leK _ _ _; (refine le_of (by first | exact Nat.le_refl _ | omega) ?_)) | (show roomK _ _ _; (refine room_of (by first | omega | (dsimp only; omega)) ?_)) | (show ltK _ _ _; (refine lt_of (by omega) ?_)) | (show _ ∧ _; (refine ⟨?_, ?_⟩)) | (show keepK _ _ _ _ _; (refine keep_of (by first | exact List.Sublist.refl _ | exact List.Sublist.cons _ (List.Sublist.refl _) | exact List.Sublist.cons _ (List.Sublist.cons _ (List.Sublist.refl _)) | exact List.Sublist.cons _ (List.Sublist.cons _ (List.Sublist.cons _ (List.Sublist.refl _)))) (by first | exact (fun _ _ h => h) | exact (fun _ _ h => h.1) | exact (fun _ _ h => h.1.1)) ?_)) | (show ownK _ _ _ _ _; (refine own_keep ?_))))
    refine call_graph (f := 22) t 0 (by first | exact List.mem_cons_self | exact List.mem_cons_of_mem _ List.mem_cons_self | (repeat (first | exact List.mem_cons_self | apply List.mem_cons_of_mem))) Try.call22 (by omega) ht.fits (Nat.zero_le _) (fun R w' h => base_bytes ht h) (fun w' b htk => make_any w' b t 0 htk) (fun l out k' hml h8 ho0 ho1 => ?_)
    have hl1 := hml.one
    have hmod : 0 ≤ at_ % (l.length : Int) ∧ at_ % (l.length : Int) < l.length := ⟨Int.emod_nonneg _ (by omega), Int.emod_lt_of_pos _ (by omega)⟩
    obtain ⟨n, hn, hn1⟩ : ∃ n : Nat, at_ % (l.length : Int) = n ∧ n < l.length := ⟨(at_ % (l.length : Int)).toNat, by omega, by omega⟩
    (repeat' ((conv => whnf) <;> first | (show drawK _ 6 _ _ _ _ _ _; (refine draw_quiet tabOk mixed (by kernel_rfl) ?_)) | (show @cmpK _ _ _; (first | refine cmp_yes (by omega) ?_ | refine cmp_no (by omega) ?_ | (refine cmp_both ?_ ?_ <;> intro _))) | (show wrapK _ _ _; (refine wrap_i64 (by omega) (by omega) ?_)) | (show leK _ _ _; (refine le_of (by first | exact Nat.le_refl _ | omega) ?_)) | (show roomK _ _ _; (refine room_of (by first | omega | (dsimp only; omega)) ?_)) | (show ltK _ _ _; (refine lt_of (by omega) ?_)) | (show _ ∧ _; (refine ⟨?_, ?_⟩)) | (show keepK _ _ _ _ _; (refine keep_of (by first | exact List.Sublist.refl _ | exact List.Sublist.cons _ (List.Sublist.refl _) | exact List.Sublist.cons _ (List.Sublist.cons _ (List.Sublist.refl _)) | exact List.Sublist.cons _ (List.Sublist.cons _ (List.Sublist.cons _ (List.Sublist.refl _)))) (by first | exact (fun _ _ h => h) | exact (fun _ _ h => h.1) | exact (fun _ _ h => h.1.1)) ?_)) | (show ownK _ _ _ _ _; (refine own_keep ?_))))
    refine Wp.know (p := ∀ m ∈ l, (m.shape.base = none → m.shape.xs = []) ∧ (m.data.base = none → m.data.xs = []) ∧ (m.bias.base = none → m.bias.xs = [])) (fun ρ w' hw => holds_of_abs hw fun R h m hm => ⟨none_nil ((h.2 m hm).1 rfl), none_nil (h.2 m hm).2.1, none_nil (h.2 m hm).2.2⟩) (fun hnil => ?_)
    refine Wp.go tabOk rfl ?_
    have hmade := hml.each _ (List.getElem_mem hn1)
    have hnone := hnil _ (List.getElem_mem hn1)
    obtain ⟨⟨kd, na, nb, ⟨sb, sc, sx⟩, lo, hi, si, ⟨db, dc, dx⟩, ⟨eb, ec, ex⟩⟩, hN⟩ : ∃ N0, l[n] = N0 := ⟨_, rfl⟩
    rw [hN] at hmade hnone
    obtain ⟨nS, nD, nB⟩ := hnone
    simp only at nS nD nB
    have hfit : ∀ m ∈ l, Fits m := fun m hm => (hml.each m hm).fits
    have hfN := hmade.fits
    have rS : sx.length ≤ sc := hmade.shape.room
    have rD : dx.length ≤ dc := hmade.data.room
    have rB : ex.length ≤ ec := hmade.bias.room
    have fS : sx.length ≤ 4 := hmade.shapeFew
    have fD : dx.length ≤ 1000 := hmade.dataFew
    have fB : ex.length ≤ 200 := hmade.biasFew
    (repeat' ((conv => whnf) <;> first | (show remK _ _ _; (refine rem_pos (by omega) (by omega) ?_)) | (show idxRowK _ _ _ _ _ _; (refine idxRow_of n hn hn1 (by rw [nodeRows_length]; exact Nat.le_refl _) ?_)) | (show ltK _ _ _; (refine lt_of (by first | omega | (rw [nodeRows_length]; omega)) ?_)) | (show rowK _ _ _ _; (refine row_of [_, _, _, .slice _ _ _, _, _, _, .slice _ _ _, .slice _ _ _] _ (nget hn1 hN) rfl ?_)) | (show rowStoreK _ _ _ _ _; (first | refine nstore hn1 hN (sp0 ⟨kd, na, nb, ⟨sb, sc, sx⟩, lo, hi, si, ⟨db, dc, dx⟩, ⟨eb, ec, ex⟩⟩ v) rfl (Nat.le_of_ble_eq_true rfl) ?_ | refine nstore hn1 hN (sp1 ⟨kd, na, nb, ⟨sb, sc, sx⟩, lo, hi, si, ⟨db, dc, dx⟩, ⟨eb, ec, ex⟩⟩ v) rfl (Nat.le_of_ble_eq_true rfl) ?_ | refine nstore hn1 hN (sp2 ⟨kd, na, nb, ⟨sb, sc, sx⟩, lo, hi, si, ⟨db, dc, dx⟩, ⟨eb, ec, ex⟩⟩ v) rfl (Nat.le_of_ble_eq_true rfl) ?_ | refine nstore hn1 hN (sp3 ⟨kd, na, nb, ⟨sb, sc, sx⟩, lo, hi, si, ⟨db, dc, dx⟩, ⟨eb, ec, ex⟩⟩ v) rfl (Nat.le_of_ble_eq_true rfl) ?_ | refine nstore hn1 hN (sp4 ⟨kd, na, nb, ⟨sb, sc, sx⟩, lo, hi, si, ⟨db, dc, dx⟩, ⟨eb, ec, ex⟩⟩ v) rfl (Nat.le_of_ble_eq_true rfl) ?_ | refine nstore hn1 hN (sp5 ⟨kd, na, nb, ⟨sb, sc, sx⟩, lo, hi, si, ⟨db, dc, dx⟩, ⟨eb, ec, ex⟩⟩ v) rfl (Nat.le_of_ble_eq_true rfl) ?_)) | (show drawK _ 6 _ _ _ _ _ _; (refine draw_quiet tabOk mixed (by kernel_rfl) ?_)) | (show Wp _ _ _ _ _ _ _; (refine Wp.go tabOk rfl ?_)) | (show @cmpK _ _ _; (first | refine cmp_yes (by omega) ?_ | refine cmp_no (by omega) ?_ | (refine cmp_both ?_ ?_ <;> intro _))) | (show wrapK _ _ _; (refine wrap_i64 (by omega) (by omega) ?_)) | (show leK _ _ _; (refine le_of (by first | exact Nat.le_refl _ | omega) ?_)) | (show roomK _ _ _; (refine room_of (by first | omega | (dsimp only; omega)) ?_)) | (show ltK _ _ _; (refine lt_of (by omega) ?_)) | (show _ ∧ _; (refine ⟨?_, ?_⟩)) | (show keepK _ _ _ _ _; (refine keep_of (by first | exact List.Sublist.refl _ | exact List.Sublist.cons _ (List.Sublist.refl _) | exact List.Sublist.cons _ (List.Sublist.cons _ (List.Sublist.refl _)) | exact List.Sublist.cons _ (List.Sublist.cons _ (List.Sublist.cons _ (List.Sublist.refl _)))) (by first | exact (fun _ _ h => h) | exact (fun _ _ h => h.1) | exact (fun _ _ h => h.1.1)) ?_))))
    all_goals try (refine own_keep ?_; rcases sb with _ | aS <;> rcases db with _ | aD <;> rcases eb with _ | aB)
    all_goals try (obtain rfl := nS rfl)
    all_goals try (obtain rfl := nD rfl)
    all_goals try (obtain rfl := nB rfl)
    (repeat' ((conv => whnf) <;> first | (show ltK _ _ _; (refine lt_of (by first | omega | (rw [nodeRows_length]; omega)) ?_)) | (show rowK _ _ _ _; (refine row_of [_, _, _, .slice _ _ _, _, _, _, .slice _ _ _, .slice _ _ _] _ (nget hn1 hN) rfl ?_)) | (show sliceK _ _ _ _ _ _ _ _; (first | refine slice_one (by omega) (by omega) ?_ | (exfalso; first | omega | simp_all))) | (show roRowsK _ _ _ _ _; (first | refine roRows_in (ints_length _) (fun R w' h => at_shape hn1 hN h.2) ints_row ?_ | refine roRows_in (ints_length _) (fun R w' h => at_data hn1 hN h.2) ints_row ?_ | refine roRows_in (ints_length _) (fun R w' h => at_bias hn1 hN h.2) ints_row ?_ | refine roRows_in (by simp [ints]) (fun R w' h => rows_one rS (at_shape hn1 hN h.2)) ints_row ?_ | refine roRows_in (by simp [ints]) (fun R w' h => rows_one rD (at_data hn1 hN h.2)) ints_row ?_)) | (show roomK _ _ _; (first | refine room_of (room_ints (Nat.le_trans fS (by decide))) ?_ | refine room_of (room_ints fD) ?_ | refine room_of (room_ints (Nat.le_trans fB (by decide))) ?_ | refine room_of (room_ints (by rw [List.length_drop]; omega)) ?_ | refine room_of (Nat.le_of_ble_eq_true rfl) ?_)) | (show drawK _ 6 _ _ _ _ _ _; (refine draw_quiet tabOk mixed (by kernel_rfl) ?_)) | (show Wp _ _ _ _ _ _ _; (refine Wp.go tabOk rfl ?_)) | (show @cmpK _ _ _; (first | refine cmp_yes (by omega) ?_ | refine cmp_no (by omega) ?_ | (refine cmp_both ?_ ?_ <;> intro _))) | (show wrapK _ _ _; (refine wrap_i64 (by omega) (by omega) ?_)) | (show leK _ _ _; (refine le_of (by first | exact Nat.le_refl _ | omega) ?_)) | (show roomK _ _ _; (refine room_of (by first | omega | (dsimp only; omega)) ?_)) | (show ltK _ _ _; (refine lt_of (by omega) ?_)) | (show _ ∧ _; (refine ⟨?_, ?_⟩)) | (show keepK _ _ _ _ _; (refine keep_of (by first | exact List.Sublist.refl _ | exact List.Sublist.cons _ (List.Sublist.refl _) | exact List.Sublist.cons _ (List.Sublist.cons _ (List.Sublist.refl _)) | exact List.Sublist.cons _ (List.Sublist.cons _ (List.Sublist.cons _ (List.Sublist.refl _)))) (by first | exact (fun _ _ h => h) | exact (fun _ _ h => h.1) | exact (fun _ _ h => h.1.1)) ?_))))
    all_goals try first | refine freeze_ints (w0 := w) (v :: sx) (fun R w' h => h.1) rfl (by first | (rw [ints_length]; exact Nat.add_comm _ _) | exact Nat.add_comm _ _ | (simp [ints]; omega)) (fun l1 hl1 => ?_) | refine freeze_ints (w0 := w) (v :: dx) (fun R w' h => h.1) rfl (by first | (rw [ints_length]; exact Nat.add_comm _ _) | exact Nat.add_comm _ _ | (simp [ints]; omega)) (fun l1 hl1 => ?_) | refine freeze_ints (w0 := w) (v :: ex) (fun R w' h => h.1) rfl (by first | (rw [ints_length]; exact Nat.add_comm _ _) | exact Nat.add_comm _ _ | (simp [ints]; omega)) (fun l1 hl1 => ?_) | refine freeze_ints (w0 := w) (v :: sx.drop 1) (fun R w' h => h.1) rfl (by first | (rw [ints_length]; exact Nat.add_comm _ _) | exact Nat.add_comm _ _ | (simp [ints]; omega)) (fun l1 hl1 => ?_) | refine freeze_ints (w0 := w) (v :: dx.drop 1) (fun R w' h => h.1) rfl (by first | (rw [ints_length]; exact Nat.add_comm _ _) | exact Nat.add_comm _ _ | (simp [ints]; omega)) (fun l1 hl1 => ?_) | refine freeze_ints (w0 := w) [v] (fun R w' h => h.1) rfl rfl (fun l1 hl1 => ?_)
    (repeat' ((conv => whnf) <;> first | (show ltK _ _ _; (refine lt_of (by first | omega | (rw [nodeRows_length]; omega)) ?_)) | (show rowK _ _ _ _; (refine row_of [_, _, _, .slice _ _ _, _, _, _, .slice _ _ _, .slice _ _ _] _ (nget hn1 hN) rfl ?_)) | (show rowStoreK _ _ _ _ _; (first | refine nstore3 hn1 hN ?_ | refine nstore7 hn1 hN ?_ | refine nstore8 hn1 hN ?_)) | (show drawK _ 6 _ _ _ _ _ _; (refine draw_quiet tabOk mixed (by kernel_rfl) ?_)) | (show Wp _ _ _ _ _ _ _; (refine Wp.go tabOk rfl ?_)) | (show @cmpK _ _ _; (first | refine cmp_yes (by omega) ?_ | refine cmp_no (by omega) ?_ | (refine cmp_both ?_ ?_ <;> intro _))) | (show wrapK _ _ _; (refine wrap_i64 (by omega) (by omega) ?_)) | (show leK _ _ _; (refine le_of (by first | exact Nat.le_refl _ | omega) ?_)) | (show roomK _ _ _; (refine room_of (by first | omega | (dsimp only; omega)) ?_)) | (show ltK _ _ _; (refine lt_of (by omega) ?_)) | (show _ ∧ _; (refine ⟨?_, ?_⟩)) | (show keepK _ _ _ _ _; (refine keep_of (by first | exact List.Sublist.refl _ | exact List.Sublist.cons _ (List.Sublist.refl _) | exact List.Sublist.cons _ (List.Sublist.cons _ (List.Sublist.refl _)) | exact List.Sublist.cons _ (List.Sublist.cons _ (List.Sublist.cons _ (List.Sublist.refl _)))) (by first | exact (fun _ _ h => h) | exact (fun _ _ h => h.1) | exact (fun _ _ h => h.1.1)) ?_))))
    all_goals (refine call_spoilt (f := 17) Try.call17 (fun w' g hg => check_any w' g hg) (by first | exact List.mem_cons_self | exact List.mem_cons_of_mem _ List.mem_cons_self | (repeat (first | exact List.mem_cons_self | apply List.mem_cons_of_mem))) (by first | rfl | rw [List.length_set]) h8 (by first | exact hfit | exact set_all hfit (fits0 hfN hv) | exact set_all hfit (fits1 hfN hv) | exact set_all hfit (fits2 hfN hv) | exact set_all hfit (fits3 hfN hv) | exact set_all hfit (fits4 hfN hv) | exact set_all hfit (fits5 hfN hv) | exact set_all hfit (fits_3 hfN (sane_cons hfN.shape hv (by first | exact fun x h => h | exact fun x h => List.mem_of_mem_drop h | simp) (by first | exact Nat.zero_le _ | omega | (rw [List.length_drop]; omega)) hl1)) | exact set_all hfit (fits_7 hfN (sane_cons hfN.data hv (by first | exact fun x h => h | exact fun x h => List.mem_of_mem_drop h | simp) (by first | exact Nat.zero_le _ | omega | (rw [List.length_drop]; omega)) hl1) (by simp only [List.length_cons, List.length_drop, List.length_nil]; omega)) | exact set_all hfit (fits_8 hfN (sane_cons hfN.bias hv (by first | exact fun x h => h | exact fun x h => List.mem_of_mem_drop h | simp) (by first | exact Nat.zero_le _ | omega | (rw [List.length_drop]; omega)) hl1) (by simp only [List.length_cons, List.length_drop, List.length_nil]; omega))) (by first | exact hv | exact ⟨by omega, by omega⟩) (by first | exact fun R w' h => h.2 | exact fun R w' h => setD h.2 (node_sp (getD hn1 hN h.2) rfl rfl rfl) | exact fun R w' h => setD h.1.2 (node_3 (getD hn1 hN h.1.2) h.2) | exact fun R w' h => setD h.1.2 (node_7 (getD hn1 hN h.1.2) h.2) | exact fun R w' h => setD h.1.2 (node_8 (getD hn1 hN h.1.2) h.2)) (fun er => ?_) (fun er sv hm hs => ?_))
    (repeat' ((conv => whnf) <;> first | (show drawK _ 6 _ _ _ _ _ _; (refine draw_quiet tabOk mixed (by kernel_rfl) ?_)) | (show Wp _ _ _ _ _ _ _; (refine Wp.go tabOk rfl ?_)) | (show @cmpK _ _ _; (first | refine cmp_yes (by omega) ?_ | refine cmp_no (by omega) ?_ | (refine cmp_both ?_ ?_ <;> intro _))) | (show wrapK _ _ _; (refine wrap_i64 (by omega) (by omega) ?_)) | (show leK _ _ _; (refine le_of (by first | exact Nat.le_refl _ | omega) ?_)) | (show roomK _ _ _; (refine room_of (by first | omega | (dsimp only; omega)) ?_)) | (show ltK _ _ _; (refine lt_of (by omega) ?_)) | (show _ ∧ _; (refine ⟨?_, ?_⟩)) | (show keepK _ _ _ _ _; (refine keep_of (by first | exact List.Sublist.refl _ | exact List.Sublist.cons _ (List.Sublist.refl _) | exact List.Sublist.cons _ (List.Sublist.cons _ (List.Sublist.refl _)) | exact List.Sublist.cons _ (List.Sublist.cons _ (List.Sublist.cons _ (List.Sublist.refl _)))) (by first | exact (fun _ _ h => h) | exact (fun _ _ h => h.1) | exact (fun _ _ h => h.1.1)) ?_)) | (show ownK _ _ _ _ _; (refine own_keep ?_))))
    all_goals (refine call_spoilt (f := 18) Try.call18 (fun w' g hg => refCheck_any w' g hg) (by first | exact List.mem_cons_self | exact List.mem_cons_of_mem _ List.mem_cons_self | (repeat (first | exact List.mem_cons_self | apply List.mem_cons_of_mem))) (by first | rfl | rw [List.length_set]) h8 (by first | exact hfit | exact set_all hfit (fits0 hfN hv) | exact set_all hfit (fits1 hfN hv) | exact set_all hfit (fits2 hfN hv) | exact set_all hfit (fits3 hfN hv) | exact set_all hfit (fits4 hfN hv) | exact set_all hfit (fits5 hfN hv) | exact set_all hfit (fits_3 hfN (sane_cons hfN.shape hv (by first | exact fun x h => h | exact fun x h => List.mem_of_mem_drop h | simp) (by first | exact Nat.zero_le _ | omega | (rw [List.length_drop]; omega)) hl1)) | exact set_all hfit (fits_7 hfN (sane_cons hfN.data hv (by first | exact fun x h => h | exact fun x h => List.mem_of_mem_drop h | simp) (by first | exact Nat.zero_le _ | omega | (rw [List.length_drop]; omega)) hl1) (by simp only [List.length_cons, List.length_drop, List.length_nil]; omega)) | exact set_all hfit (fits_8 hfN (sane_cons hfN.bias hv (by first | exact fun x h => h | exact fun x h => List.mem_of_mem_drop h | simp) (by first | exact Nat.zero_le _ | omega | (rw [List.length_drop]; omega)) hl1) (by simp only [List.length_cons, List.length_drop, List.length_nil]; omega))) (by first | exact hv | exact ⟨by omega, by omega⟩) ?_ ?_ ?_)
    all_goals first | exact (by first | exact fun R w' h => h.2 | exact fun R w' h => setD h.2 (node_sp (getD hn1 hN h.2) rfl rfl rfl) | exact fun R w' h => setD h.1.2 (node_3 (getD hn1 hN h.1.2) h.2) | exact fun R w' h => setD h.1.2 (node_7 (getD hn1 hN h.1.2) h.2) | exact fun R w' h => setD h.1.2 (node_8 (getD hn1 hN h.1.2) h.2)) | exact (by first | exact fun R w' h => h.1.2 | exact fun R w' h => setD h.1.2 (node_sp (getD hn1 hN h.1.2) rfl rfl rfl) | exact fun R w' h => setD h.1.1.2 (node_3 (getD hn1 hN h.1.1.2) h.1.2) | exact fun R w' h => setD h.1.1.2 (node_7 (getD hn1 hN h.1.1.2) h.1.2) | exact fun R w' h => setD h.1.1.2 (node_8 (getD hn1 hN h.1.1.2) h.1.2)) | skip
    all_goals (intro er2)
    all_goals first | exact absurd er2 er | exact absurd er er2 | skip
    all_goals try intro tv hm2 hs2
    (repeat' ((conv => whnf) <;> first | (show @cmpK _ _ _; (refine cmp_yes rfl ?_)) | (show callK _ 19 _ _ _ _ _; (first | refine call_pure (f := 19) Try.call19 (.bool true) (fun ρ w' hw => sameShapes_any w' sv tv (holds_of_abs hw fun R h => shapesD_ok er hm hs h.1.2) (holds_of_abs hw fun R h => shapesD_ok er2 hm2 hs2 h.2) (hm.trans hm2.symm)) ?_ | refine call_pure (f := 19) Try.call19 (.bool true) (fun ρ w' hw => sameShapes_any w' ⟨none, 0, []⟩ ⟨none, 0, []⟩ ⟨.inl rfl, by simp, by simp⟩ ⟨.inl rfl, by simp, by simp⟩ rfl) ?_)) | (show drawK _ 6 _ _ _ _ _ _; (refine draw_quiet tabOk mixed (by kernel_rfl) ?_)) | (show Wp _ _ _ _ _ _ _; (refine Wp.go tabOk rfl ?_)) | (show @cmpK _ _ _; (first | refine cmp_yes (by omega) ?_ | refine cmp_no (by omega) ?_ | (refine cmp_both ?_ ?_ <;> intro _))) | (show wrapK _ _ _; (refine wrap_i64 (by omega) (by omega) ?_)) | (show leK _ _ _; (refine le_of (by first | exact Nat.le_refl _ | omega) ?_)) | (show roomK _ _ _; (refine room_of (by first | omega | (dsimp only; omega)) ?_)) | (show ltK _ _ _; (refine lt_of (by omega) ?_)) | (show _ ∧ _; (refine ⟨?_, ?_⟩)) | (show keepK _ _ _ _ _; (refine keep_of (by first | exact List.Sublist.refl _ | exact List.Sublist.cons _ (List.Sublist.refl _) | exact List.Sublist.cons _ (List.Sublist.cons _ (List.Sublist.refl _)) | exact List.Sublist.cons _ (List.Sublist.cons _ (List.Sublist.cons _ (List.Sublist.refl _)))) (by first | exact (fun _ _ h => h) | exact (fun _ _ h => h.1) | exact (fun _ _ h => h.1.1)) ?_)) | (show ownK _ _ _ _ _; (refine own_keep ?_))))
    all_goals (conv => whnf)
    all_goals (refine ends_bool (B := ⟨w, []⟩) ?_ rfl rfl; intro R w' h; first | exact h.1 | exact h.1.1 | exact h.1.1.1 | exact h.1.1.1.1)
  · refine calls_of tab tabOk Try.func6 rfl rfl rfl [] (fun _ => ⟨none, 0⟩) [.c t.val, .c (.int .u8 at_), .c (.int .u8 how), .c (.int .i64 v)] [] (baseA w) 0 rfl rfl (by show 4 ≤ _; decide) (abs_base w) ?_
    (repeat' ((conv => whnf) <;> first | (show callK _ 15 _ _ _ _ _; (refine call_pure (f := 15) Try.call15 (.bool true) (fun ρ w' hw => fixed_any w') ?_)) | (show drawK _ 6 _ _ _ _ _ _; (refine draw_quiet tabOk mixed (by kernel_rfl) ?_)) | (show Wp _ _ _ _ _ _ _; (refine Wp.go tabOk rfl ?_)) | (show @cmpK _ _ _; (first | refine cmp_yes (by omega) ?_ | refine cmp_no (by omega) ?_ | (refine cmp_both ?_ ?_ <;> intro _))) | (show wrapK _ _ _; (refine wrap_i64 (by omega) (by omega) ?_)) | (show leK _ _ _; (refine le_of (by first | exact Nat.le_refl _ | omega) ?_)) | (show roomK _ _ _; (refine room_of (by first | omega | (dsimp only; omega)) ?_)) | (show ltK _ _ _; (refine lt_of (by omega) ?_)) | (show _ ∧ _; (refine ⟨?_, ?_⟩)) | (show keepK _ _ _ _ _; (refine keep_of (by first | exact List.Sublist.refl _ | exact List.Sublist.cons _ (List.Sublist.refl _) | exact List.Sublist.cons _ (List.Sublist.cons _ (List.Sublist.refl _)) | exact List.Sublist.cons _ (List.Sublist.cons _ (List.Sublist.cons _ (List.Sublist.refl _)))) (by first | exact (fun _ _ h => h) | exact (fun _ _ h => h.1) | exact (fun _ _ h => h.1.1)) ?_)) | (show ownK _ _ _ _ _; (refine own_keep ?_))))
    exact ends_bool (fun _ _ h => h) rfl rfl
theorem trodAll_four {H : Type} {enc : TypeId × Value → H} {P : Program} {w : World} {base : Nat} {spare : Nat → Bool} {held : Bool} {t0 t1 t2 t3 : TypeId} {args : Array Value} {ds : List (DataW H)} {ps : List MemPlace} (h : DataW.TrodAll enc P w base spare held [t0, t1, t2, t3] args.toList ds ps) :
    ∃ v0 v1 v2 v3 d0 d1 d2 d3 p0 p1 p2 p3, args = #[v0, v1, v2, v3] ∧ ds = [d0, d1, d2, d3] ∧ DataW.Trod enc P w base spare held t0 v0 d0 p0 ∧ DataW.Trod enc P w base spare held t1 v1 d1 p1 ∧ DataW.Trod enc P w base spare held t2 v2 d2 p2 ∧ DataW.Trod enc P w base spare held t3 v3 d3 p3 := by
  obtain ⟨v0, vs0, d0, ds0, p0, q0, hargs, rfl, rfl, h0, r0⟩ := trodAll_cons h
  obtain ⟨v1, vs1, d1, ds1, p1, q1, rfl, rfl, rfl, h1, r1⟩ := trodAll_cons r0
  obtain ⟨v2, vs2, d2, ds2, p2, q2, rfl, rfl, rfl, h2, r2⟩ := trodAll_cons r1
  obtain ⟨v3, vs3, d3, ds3, p3, q3, rfl, rfl, rfl, h3, r3⟩ := trodAll_cons r2
  obtain ⟨rfl, rfl, rfl⟩ := trodAll_nil r3
  exact ⟨v0, v1, v2, v3, d0, d1, d2, d3, p0, p1, p2, p3, by cases args; simp_all, rfl, h0, h1, h2, h3⟩
set_option maxRecDepth 100000 in
theorem spoilt_lifted (os : Os) (started : os.Started) (H : Type) (enc : TypeId × Value → H) :
    ReturnsInHanded {} Try.checked os 6 .any (Rows.graphSpoiltSpec.pre6 enc Try.prog Try.f6 Rows.graphSpoiltRow.domain false) (Rows.graphSpoiltSpec.post enc Try.prog Try.f6 false true false false) := by
  refine returnsInHanded_of_change (C := Try.checked) own started (by kernel_rfl) Try.func6
    (ChangeSpec.witness6 (enc := enc) (C := Try.checked) false ⟨#[], #[.slice none 0 0, .int .u8 0, .int .u8 0, .int .i64 0], []⟩ 8 (by kernel_rfl) (by kernel_rfl) (by kernel_rfl) (by kernel_rfl)) ?_
  intro W base args ds gs before hval0 hW hcnd _
  have hval : ∀ (j : Nat) t v, Try.f6.params[j]? = some t → args[j]? = some v → Value.okWide Try.prog W .any base t v := hval0
  have hW' := hW
  obtain ⟨p, q, hA0, hV, rfl, hfz, hnd⟩ := hW
  have hA : DataW.TrodAll enc Try.prog W 0 (fun _ => true) true Try.f6.params.toList args.toList ds p := hA0
  rw [Try.params6] at hA hval
  obtain ⟨v0, v1, v2, v3, d0, d1, d2, d3, p0, p1, p2, p3, rfl, rfl, h0, h1, h2, h3⟩ := trodAll_four hA
  obtain ⟨t, hv0, ht⟩ := opens_of (opens_bytes W) h0
  obtain ⟨x, hx, hv1⟩ := opens_of (opens_int Try.underlying5) h1
  obtain ⟨y, hy, hv2⟩ := opens_of (opens_int Try.underlying5) h2
  obtain ⟨z, hz, hv3⟩ := opens_of (opens_int Try.underlying3) h3
  obtain rfl : v0 = t.val := cells_slice Try.underlying35 (hval 0 35 v0 rfl rfl) hv0
  obtain rfl : v1 = .int .u8 x := cells_int Try.underlying5 (hval 1 5 v1 rfl rfl) hv1
  obtain rfl : v2 = .int .u8 y := cells_int Try.underlying5 (hval 2 5 v2 rfl rfl) hv2
  obtain rfl : v3 = .int .i64 z := cells_int Try.underlying3 (hval 3 3 v3 rfl rfl) hv3
  exact law_contract laidOut (by kernel_rfl) rfl rfl Try.underlying4 rfl hW' (lawSpoilt_any W t ht x y z (wf_u8' hx) (wf_u8' hy) (wf_i64' hz))
/-- GraphSpoilt: for every tape and all numbers the law returns true, and the tape reads as before; no condition. -/
theorem graphSpoilt_holds : Rows.GraphSpoiltSaid :=
  OpenClaim.holds_of_wide 6 Try.f6 rfl rfl rfl rfl rfl rfl rfl ⟨rfl, rfl, rfl, rfl, rfl⟩ rfl rfl rfl rfl rfl (by kernel_rfl) Try.func6 (by kernel_rfl)
    (of_decide_eq_true (by kernel_rfl)) (by unfold Func.isWrapper; first | (rw [if_pos (by decide +kernel)]; kernel_rfl) | (rw [if_neg (by decide +kernel)]; exact ⟨rfl, rfl⟩))
    (fun os started H enc _ => spoilt_lifted os started H enc)
end Go.Proofs.Ytajbngkcgbehlaa
