import Derived.Test.YtdmkdogakbipbaaKTidyMakes7
/- NO -/
namespace Go.Proofs.Ytdmkdogakbipbaa
abbrev dtNO1 : Go.SX.DT := (.take 0 (.take 1 (.take 2 (.take 3 (.take 4 (.take 5 (.take 6 (.take 7 (.one 8 (.one 9 (.one 10 (.one 11 (.one 12 (.take 13 (.one 14 (.done))))))))))))))))
open Go.SX Go.RowKit
theorem cloneV_pl {m : NodeV} {u1 u2 u3 : IntsV} (h1 : u1.xs = m.shape.xs) (h2 : u2.xs = m.data.xs) (h3 : u3.xs = m.bias.xs) : (cloneV m u1 u2 u3).pl = m.pl := by
  show NodeP.mk _ _ _ u1.xs _ _ _ u2.xs u3.xs = _
  rw [h1, h2, h3]; rfl
theorem cloneV_kept {l : List NodeV} {m : NodeV} {u1 u2 u3 : IntsV} (hl : KeptOk l) (hm : m.saneN) (hs : m.small) (h1 : u1.sane) (e2 : u2.xs = m.data.xs) (h2 : u2.sane) (e3 : u3.xs = m.bias.xs) (h3 : u3.sane) : KeptOk (l ++ [cloneV m u1 u2 u3]) := fun n hn => by
  rcases List.mem_append.1 hn with hn | hn
  · exact hl n hn
  · rw [List.mem_singleton.1 hn]
    exact ⟨⟨h1, h2, h3, hm.kindFits, hm.aFits, hm.bFits, hm.loFits, hm.hiFits, hm.sizeFits⟩, by show u2.xs.length ≤ 5000; rw [e2]; exact hs.data, by show u3.xs.length ≤ 5000; rw [e3]; exact hs.bias⟩
theorem lay_row {kept : List NodeV} {m : NodeV} {u1 u2 u3 : IntsV} (h1 : u1.xs = m.shape.xs) (h2 : u2.xs = m.data.xs) (h3 : u3.xs = m.bias.xs) : (kept ++ [cloneV m u1 u2 u3]).map NodeV.pl = kept.map NodeV.pl ++ [m.pl] := by
  rw [List.map_append, List.map_cons, List.map_nil, cloneV_pl h1 h2 h3]
theorem constN_sane {u x : IntsV} (hu : u.sane) (hx : x.sane) : (constN u x).saneN := ⟨hu, hx, ⟨fun y hy => by simp [constN, nilI] at hy, Nat.le_refl _, Nat.zero_le _⟩, i64_2, i64_0, i64_0, i64_0, i64_0, i64_0⟩
theorem constN_ok {u x : IntsV} {w : World} (hu : u.ok w) (hx : x.ok w) : (constN u x).ok w := ⟨hu, hx, nil_ok w, i64_2, i64_0, i64_0, i64_0, i64_0, i64_0⟩
def foldD (x : IntsV × IntsV) : Asn := (intsA x.1).and (intsA x.2)
theorem foldD_ok {u x : IntsV} {R : Nat → Prop} {w : World} {N : Nat} (hu : u.sane) (hx : x.sane) (h : ((foldD (u, x)).past N).holds R w) : (constN u x).ok w := constN_ok (intsA_ok hu ((intsA u).mono h.1 fun b hb => hb.1)) (intsA_ok hx ((intsA x).mono h.2 fun b hb => hb.1))
theorem constN_pl {u x : IntsV} {s d : List Int} (h1 : u.xs = s) (h2 : x.xs = d) : (constN u x).pl = ⟨2, 0, 0, s, 0, 0, 0, d, []⟩ := by subst h1 h2; rfl
theorem setM_nil : (fun _ => none) = setM (fun _ => false) := by funext j; unfold setM; rw [if_neg (by simp)]
theorem mapNew_set {H : Heap} {S : Asn} {nx : Nat} {K : SV → Heap → Asn → Nat → Prop} (h : ∀ r, K (.c (.map (some r))) ((nx, .ext (mapO r (setM fun _ => false))) :: H) S (nx + 1)) : mapNewK H S nx K := ⟨fun r => by have := h r; rwa [← setM_nil] at this⟩
theorem desk_call3 {P : Program} {f : FuncId} {v u x : Value} {w : World} {Q : Ending → World → Prop} {b : Nat} (e : v = .pointer (some ⟨b, 0, none⟩)) (h : Calls P f #[.pointer (some ⟨b, 0, none⟩), u, x] w Q) : Calls P f #[v, u, x] w Q := e ▸ h
def gridN (n : Nat) (p : List Nat) : List Nat := p ++ List.replicate (n - p.length) 0
theorem gridN_length {n : Nat} {p : List Nat} (h : p.length ≤ n) : (gridN n p).length = n := by unfold gridN; simp; omega
theorem gridN_stI (n : Nat) (p : List Nat) : stI (gridN n p) = gridI n (stI p) := by unfold gridN stI gridI; simp
theorem gridN_store {n i x : Nat} {p : List Nat} {K : List (List Value) → Prop} (hl : p.length = i) (hi : i < n) (h : K (ints (stI (gridN n (p ++ [x]))))) : rowStoreK (ints (stI (gridN n p))) i 0 [.int .i64 (x : Int)] K := by
  rw [gridN_stI] at h ⊢
  refine gridI_store (by unfold stI; rw [List.length_map]; exact hl) hi ?_
  have : stI (p ++ [x]) = stI p ++ [(x : Int)] := by unfold stI; simp
  rw [← this]; exact h
theorem gridN_skip {n : Nat} {p : List Nat} (h : p.length < n) : gridN n (p ++ [0]) = gridN n p := by
  unfold gridN
  obtain ⟨k, hk⟩ : ∃ k, n - p.length = k + 1 := ⟨n - p.length - 1, by omega⟩
  rw [hk, List.length_append, List.length_singleton, show n - (p.length + 1) = k by omega, List.append_assoc, List.replicate_succ]
  rfl
theorem gridN_getD {n k : Nat} {p : List Nat} (h : k < p.length) : (gridN n p).getD k 0 = p.getD k 0 := by
  unfold gridN; rw [List.getD_eq_getElem?_getD, List.getD_eq_getElem?_getD, List.getElem?_append_left h]
theorem gridN_moved {n : Nat} {p : List Nat} {x : NodeP} (h : AheadP x p.length) : movedP (gridN n p) x = movedP p x := by
  unfold movedP
  by_cases h12 : x.kind = 1 ∨ x.kind = 2
  · rw [if_pos h12, if_pos h12]
  · rw [if_neg h12, if_neg h12, gridN_getD (h.a1 (by omega) (by omega))]
    by_cases h6 : x.kind = 6
    · rw [if_pos h6, if_pos h6, gridN_getD (h.b1 h6)]
    · rw [if_neg h6, if_neg h6]
theorem gridN_start (n : Nat) : ints (stI (gridN n [])) = List.replicate n [Value.int .i64 0] := by
  unfold gridN stI ints; simp
theorem AheadP.mono {p : NodeP} {k m : Nat} (h : AheadP p k) (hm : k ≤ m) : AheadP p m := ⟨h.a0, fun h1 h2 => Nat.lt_of_lt_of_le (h.a1 h1 h2) hm, h.a2, h.b0, fun h6 => Nat.lt_of_lt_of_le (h.b1 h6) hm, h.b2, h.kind⟩
theorem moved_snoc {p : List Nat} {y : Nat} {x : NodeP} (h : AheadP x p.length) : movedP (p ++ [y]) x = movedP p x := by
  have hg : ∀ k, k < p.length → (p ++ [y]).getD k 0 = p.getD k 0 := fun k hk => by rw [List.getD_eq_getElem?_getD, List.getD_eq_getElem?_getD, List.getElem?_append_left hk]
  unfold movedP
  by_cases h12 : x.kind = 1 ∨ x.kind = 2
  · rw [if_pos h12, if_pos h12]
  · rw [if_neg h12, if_neg h12, hg _ (h.a1 (by omega) (by omega))]
    by_cases h6 : x.kind = 6
    · rw [if_pos h6, if_pos h6, hg _ (h.b1 h6)]
    · rw [if_neg h6, if_neg h6]
theorem desk_abs2 {B : Base} {ρ : Nat → SX.Loc} {nx : Nat} {H : Heap} {S : Asn} {w : World} {d i j m : Nat} {kept : List NodeV} {st : List Nat} {out : Int} {T T1 T2 : TypeId} (hw : Abs B ρ nx H S w) (hm : st.length = m) (hd : (d, Ent.box [.os i kept.length, .c (.int .i64 out), .os j m] T) ∈ H) (hi : (i, Ent.rows (nodeRows kept) 9 T1) ∈ H) (hj : (j, Ent.rows (ints (stI st)) 1 T2) ∈ H) :
    ∃ b, (SV.lp d 0 0 0).rf ρ = .pointer (some ⟨b, 0, none⟩) ∧ DeskAt w b (ρ i).base (ρ i).cap kept (ρ j).base (ρ j).cap (stI st) := by subst hm; exact desk_abs hw hd hi hj
theorem cutL_cons {need : Nat → Bool} {n : NodeP} {r : List NodeP} {i : Nat} {x : List NodeP × List Nat} : cutL need (n :: r) i x = cutL need r (i + 1) (if need i = true ∨ n.kind = 1 then (x.1 ++ [movedP x.2 n], x.2 ++ [x.1.length]) else (x.1, x.2 ++ [0])) := rfl
theorem movedV_sane {st : List Nat} {n : NodeV} (h : n.saneN) (hs : ∀ k, st.getD k 0 ≤ 1000000) : (movedV st n).saneN := by
  obtain ⟨_, _, ea, ea2, eb, eb2⟩ := moved_eq st n.pl
  have ha : i64 (movedP st n.pl).a := by
    by_cases h12 : n.pl.kind = 1 ∨ n.pl.kind = 2
    · rw [ea2 h12]; exact h.aFits
    · rw [ea (by omega) (by omega)]
      have := hs n.pl.a.toNat
      unfold i64; omega
  have hb : i64 (movedP st n.pl).b := by
    by_cases h6 : n.pl.kind = 6
    · rw [eb h6]
      have := hs n.pl.b.toNat
      unfold i64; omega
    · rw [eb2 h6]; exact h.bFits
  exact ⟨h.shape, h.data, h.bias, h.kindFits, ha, hb, h.loFits, h.hiFits, h.sizeFits⟩
theorem snoc_le {p : List Nat} {y m : Nat} (h : ∀ k, p.getD k 0 ≤ m) (hy : y ≤ m) : ∀ k, (p ++ [y]).getD k 0 ≤ m := fun k => by
  rcases Nat.lt_or_ge k p.length with hk | hk
  · rw [List.getD_eq_getElem?_getD, List.getElem?_append_left hk, ← List.getD_eq_getElem?_getD]; exact h k
  · rw [List.getD_eq_getElem?_getD, List.getElem?_append_right hk]
    cases k - p.length with
    | zero => exact hy
    | succ j => exact Nat.zero_le _
theorem gridN_le {n m : Nat} {p : List Nat} (h : ∀ k, p.getD k 0 ≤ m) : ∀ k, (gridN n p).getD k 0 ≤ m := fun k => by
  rcases Nat.lt_or_ge k p.length with hk | hk
  · rw [gridN_getD hk]; exact h k
  · unfold gridN
    rw [List.getD_eq_getElem?_getD, List.getElem?_append_right hk, List.getElem?_replicate]
    split <;> exact Nat.zero_le _
theorem kept_snoc {l : List NodeV} {n : NodeV} (hl : KeptOk l) (h1 : n.saneN) (h2 : n.small) : KeptOk (l ++ [n]) := fun m hm => by
  rcases List.mem_append.1 hm with hm | hm
  · exact hl m hm
  · rw [List.mem_singleton.1 hm]; exact ⟨h1, h2⟩
theorem gridN_here {n : Nat} {p : List Nat} {i : Nat} {T : TypeId} {H : Heap} (hp : p.length < n) (h : (i, Ent.rows (ints (stI (gridN n p))) 1 T) ∈ H) : (i, Ent.rows (ints (stI (gridN n (p ++ [0])))) 1 T) ∈ H := by rw [gridN_skip hp]; exact h
/-- nodes whose numbers stand where others' do -/
def From (kept acc : List NodeV) : Prop := ∀ m ∈ acc, ∃ k ∈ kept, m.shape = k.shape ∧ m.data = k.data ∧ m.bias = k.bias
theorem from_snoc {kept acc : List NodeV} {x : NodeV} {st : List Nat} (h : From kept acc) (hx : x ∈ kept) : From kept (acc ++ [movedV st x]) := fun m hm => by
  rcases List.mem_append.1 hm with hm | hm
  · exact h m hm
  · rw [List.mem_singleton.1 hm]; exact ⟨x, hx, rfl, rfl, rfl⟩
def TidyPost (w : World) (r : Int) (x : List NodeP × Nat) (e : Ending) (w' : World) : Prop :=
  (r ≠ 0 ∧ e = .returned (.tuple #[.agg #[.slice none 0 0, .int .i64 0], .int .i64 r]) ∧ Ext w w') ∨
  (r = 0 ∧ ∃ (l : List NodeV) (base : Option Addr) (cap : Nat), l.map NodeV.pl = x.1 ∧ KeptOk l ∧ l.length ≤ cap ∧ e = .returned (.tuple #[.agg #[.slice base l.length cap, .int .i64 x.2], .int .i64 0]) ∧ Ext w w' ∧
    ∃ F G : Nat → Prop, (∀ b, F b → w.heap.size ≤ b ∧ b < w'.heap.size) ∧ (∀ b, G b → w.heap.size ≤ b ∧ b < w'.heap.size) ∧ (∀ b, F b → ¬ G b) ∧ (∀ n ∈ l, (nodeT n).holds F w') ∧ (rowsA base 9 (nodeRows l)).holds G w')
theorem movedV_ok {w : World} {n : NodeV} {st : List Nat} {k : Nat} (h : n.ok w) (ha : AheadP (movedV st n).pl k) (hk : k ≤ 1000000) : (movedV st n).ok w := by
  have a0 := ha.a0
  have b0 := ha.b0
  have a1 := ha.a1
  have a2 := ha.a2
  have b1 := ha.b1
  have b2 := ha.b2
  refine atV_ok h ?_ ?_
  · show i64 (movedV st n).pl.a
    unfold i64
    by_cases h12 : (movedV st n).pl.kind = 1 ∨ (movedV st n).pl.kind = 2
    · have := a2 h12; omega
    · have := a1 (by omega) (by omega); omega
  · show i64 (movedV st n).pl.b
    unfold i64
    by_cases h6 : (movedV st n).pl.kind = 6
    · have := b1 h6; omega
    · have := b2 h6; omega
theorem call_fold {cx : Cx} {f : FuncId} {args : List SV} {H : Heap} {S : Asn} {nx : Nat} {K : SV → Heap → Asn → Nat → Prop} (s d : List Int) (hf : ∀ ar w, (callFunc f ar).run cx.P w = .ok (.enter f ar) w)
    (hc : ∀ ρ w', Abs cx.B ρ nx H S w' → Calls cx.P f (SV.rfs ρ args).toArray w' (FoldPost w' s d))
    (h : ∀ u x : IntsV, u.xs = s → u.sane → x.xs = d → x.sane → K (.c (constN u x).valA) H (S.and ((foldD (u, x)).past cx.B.w0.heap.size)) nx) : callK cx f args H S nx K :=
  call_past hf (fun x : IntsV × IntsV => (constN x.1 x.2).valA) foldD (fun x => x.1.xs = s ∧ x.1.sane ∧ x.2.xs = d ∧ x.2.sane) (fun ρ w' hw => (hc ρ w' hw).mono fun e w'' he => by
    obtain ⟨u, x, h1, h2, h3, h4, h5, h6, h7, h8⟩ := he
    exact ⟨(u, x), ⟨h1, h2, h3, h4⟩, h5, h6, h7, h8⟩) (fun x hx => h x.1 x.2 hx.1 hx.2.1 hx.2.2.1 hx.2.2.2)
theorem tidy_ends {B : Base} {H : Heap} {S : Asn} {nx i : Nat} {w : World} {acc kept : List NodeV} {o : Nat} {r : Int} {x : List NodeP × Nat} {T : TypeId} (hw0 : B.w0 = w) (hb : ∀ R w', S.holds R w' → (baseA w).holds R w') (hkA : ∀ R w', S.holds R w' → (keptA w.heap.size kept).holds R w') (hi : (i, Ent.rows (nodeRows acc) 9 T) ∈ H) (hfr : From kept acc) (hao : KeptOk acc) (hr : r = 0) (hx : x = (acc.map NodeV.pl, o)) :
    finK B (.tup [.agg [.os i acc.length, .c (.int .i64 o)], .c (.int .i64 0)]) H S nx (TidyPost w r x) := by
  subst hw0 hr hx
  refine fin_of fun ρ w' hw => .inr ⟨rfl, ?_⟩
  have hext := ext_of_abs hw hb
  obtain ⟨R, φ, hwR⟩ := hw
  have hbase := hb R w' hwR.asn
  have hkept := hkA R w' hwR.asn
  obtain ⟨h1, h2, h3⟩ := hwR.ent _ hi
  simp only at h2 h3
  rw [nodeRows_length] at h2
  refine ⟨acc, (ρ i).base, (ρ i).cap, rfl, hao, h2, rfl, hext, fun b => R b ∧ B.w0.heap.size ≤ b, φ i, fun b hb => ⟨hb.2, hwR.ro b hb.1⟩, fun b hb => ⟨?_, Ent.size (hwR.ent _ hi) hb⟩, fun b hb hb' => hwR.apart _ hi b hb' hb.1, fun n hn => ?_, h1, ?_⟩
  · rcases Nat.lt_or_ge b B.w0.heap.size with hl | hl
    · exact absurd (hbase b hl).1 (hwR.apart _ hi b hb)
    · exact hl
  · obtain ⟨k, hk, e1, e2, e3⟩ := hfr n hn
    have := hkept k hk
    unfold nodeT at this ⊢
    rw [e1, e2, e3]
    exact this
  · rcases h3 with ⟨g1, g2, _⟩ | ⟨b, off, c, g1, g2, g3, g4, g5⟩
    · left
      have : acc.length = 0 := by omega
      have := List.eq_nil_of_length_eq_zero this
      subst this; rfl
    · refine .inr ⟨b, off, g1, (g2 b).2 rfl, fun m r hm j v hj => ?_⟩
      have := g5 m r hm j v hj
      rw [← Nat.add_assoc]
      simpa [World.cell?, g3] using this
set_option maxRecDepth 20000 in
set_option maxHeartbeats 4000000 in
theorem tidy_any (w : World) (g : GraphV) (hg : g.ok w) : Calls Try.prog 22 #[g.val] w (TidyPost w (spansH g).1 (tidyP (g.l.map NodeV.pl) (check g).2 g.out.toNat)) := by
  refine calls_of tab tabOk Try.func22 rfl rfl rfl [] (fun _ => ⟨none, 0⟩) [.agg [.c (.slice g.base g.l.length g.cap), .c (.int .i64 g.out)]] [] (baseA w) 0 rfl rfl (by show 1 ≤ _; decide) (abs_base w) ?_
  (repeat' ((conv => whnf) <;> first | (show drawK _ 23 _ _ _ _ _ _; refine draw_tree tabOk mixed [12] _ dtIF0 (by kernel_rfl) (by kernel_rfl) (by kernel_rfl) (List.Sublist.refl _) ?_) | (show drawK _ 24 _ _ _ _ _ _; refine draw_tree tabOk mixed [14] _ dtNO1 (by kernel_rfl) (by kernel_rfl) (by kernel_rfl) (List.Sublist.refl _) ?_) | (show drawK _ _ _ _ _ _ _ _; refine draw_quiet tabOk mixed (by kernel_rfl) ?_) | (show Wp _ _ _ _ _ _ _; refine Wp.go tabOk rfl ?_) | (show @cmpK _ _ _; (first | refine cmpY ?_ | refine cmpN ?_ | (refine cmp_both ?_ ?_ <;> intro _))) | (show wrapK _ _ _; refine wrapA ?_) | (show leK _ _ _; refine leA ?_) | (show roomK _ _ _; refine roomA ?_) | (show ltK _ _ _; refine ltA ?_) | (show _ ∧ _; refine ⟨?_, ?_⟩) | (show keepK _ _ _ _ _; refine keepA ?_) | refine own_keep ?_ | refine ap_old ?_))
  refine call_spans (f := 25) (spansH g) Try.call25 (fun ρ w' hw => spans_all w' g (holds_of_abs hw fun R h => hg.later h)) (fun hne => ?_) (fun hsp qb qc => ?_)
  · (repeat' ((conv => whnf) <;> first | (show @cmpK _ _ _; refine cmp_yes hne ?_) | (show drawK _ 23 _ _ _ _ _ _; refine draw_tree tabOk mixed [12] _ dtIF0 (by kernel_rfl) (by kernel_rfl) (by kernel_rfl) (List.Sublist.refl _) ?_) | (show drawK _ 24 _ _ _ _ _ _; refine draw_tree tabOk mixed [14] _ dtNO1 (by kernel_rfl) (by kernel_rfl) (by kernel_rfl) (List.Sublist.refl _) ?_) | (show drawK _ _ _ _ _ _ _ _; refine draw_quiet tabOk mixed (by kernel_rfl) ?_) | (show Wp _ _ _ _ _ _ _; refine Wp.go tabOk rfl ?_) | (show @cmpK _ _ _; (first | refine cmpY ?_ | refine cmpN ?_ | (refine cmp_both ?_ ?_ <;> intro _))) | (show wrapK _ _ _; refine wrapA ?_) | (show leK _ _ _; refine leA ?_) | (show roomK _ _ _; refine roomA ?_) | (show ltK _ _ _; refine ltA ?_) | (show _ ∧ _; refine ⟨?_, ?_⟩) | (show keepK _ _ _ _ _; refine keepA ?_) | refine own_keep ?_ | refine ap_old ?_))
    conv => whnf
    exact fin_of fun ρ w' hw => .inl ⟨hne, rfl, ext_of_abs hw (fun _ _ h => h)⟩
  obtain ⟨hck, hsl, hsi⟩ := spansH_in hsp
  obtain ⟨hl1, hl24, hout, hcl, hin⟩ := check_in hck
  have hL := rowOk_graph hsp
  (repeat' ((conv => whnf) <;> first | (show drawK _ 23 _ _ _ _ _ _; refine draw_tree tabOk mixed [12] _ dtIF0 (by kernel_rfl) (by kernel_rfl) (by kernel_rfl) (List.Sublist.refl _) ?_) | (show drawK _ 24 _ _ _ _ _ _; refine draw_tree tabOk mixed [14] _ dtNO1 (by kernel_rfl) (by kernel_rfl) (by kernel_rfl) (List.Sublist.refl _) ?_) | (show drawK _ _ _ _ _ _ _ _; refine draw_quiet tabOk mixed (by kernel_rfl) ?_) | (show Wp _ _ _ _ _ _ _; refine Wp.go tabOk rfl ?_) | (show @cmpK _ _ _; (first | refine cmpY ?_ | refine cmpN ?_ | (refine cmp_both ?_ ?_ <;> intro _))) | (show wrapK _ _ _; refine wrapA ?_) | (show leK _ _ _; refine leA ?_) | (show roomK _ _ _; refine roomA ?_) | (show ltK _ _ _; refine ltA ?_) | (show _ ∧ _; refine ⟨?_, ?_⟩) | (show keepK _ _ _ _ _; refine keepA ?_) | refine own_keep ?_ | refine ap_old ?_))
  refine Wp.loop (σ := Nat × List NodeV × List Nat) 5 (fun ⟨i, kept, st⟩ => [(6, .lp 2 0 0 0), (1, .lp 0 0 0 0), (2, .lp 1 0 0 0), (28, .c (.slice g.base g.l.length g.cap)), (29, .c (.int .i64 g.l.length)), (30, .c (.int .i64 i))])
    (fun ⟨i, kept, st⟩ => [(4, .rows (ints (stI st)) 1 3), (3, .rows (nodeRows kept) 9 38), (2, .box [.os 3 kept.length, .c (.int .i64 0), .os 4 st.length] 81), (1, .box [.c (.slice none 0 0), .c (.int .i64 0)] 26), (0, .box [.c (.slice g.base g.l.length g.cap), .c (.int .i64 g.out)] 26)])
    (fun ⟨_, kept, _⟩ => (baseA w).and (keptA w.heap.size kept))
    (fun ⟨i, kept, st⟩ => i ≤ g.l.length ∧ KeptOk kept ∧ TidyAt (g.l.map NodeV.pl) (check g).2 (spansH g).2 i (kept.map NodeV.pl) st) (fun s => g.l.length - s.1) (0, [], []) [(3, none), (4, none)] (by decide) (fun s => ⟨rfl, rfl⟩)
    ⟨Nat.zero_le _, fun n hn => by simp at hn, tidyAt_start _ _ _⟩ ⟨rfl, ⟨rfl, rfl, rfl, rfl, rfl, rfl, trivial⟩, ⟨rfl, rfl, (by repeat (first | exact List.mem_cons_self | apply List.mem_cons_of_mem)), (by repeat (first | exact List.mem_cons_self | apply List.mem_cons_of_mem)), (by repeat (first | exact List.mem_cons_self | apply List.mem_cons_of_mem)), trivial⟩, fun R w' h => ⟨h.1, keptA_nil _ R w'⟩⟩ ?_
  rintro ⟨i, kept, st⟩ ⟨hi, hko, hT⟩
  by_cases hlt : i < g.l.length
  · obtain ⟨a, ha⟩ : ∃ a, g.base = some a := base_some (j := i) hg.rows (by rw [nodeRows_length]; omega)
    have hrow := nodeRows_get hlt
    have hnm := List.getElem_mem hlt
    have hnp : (g.l.map NodeV.pl)[i]? = some g.l[i].pl := by rw [List.getElem?_map, List.getElem?_eq_getElem hlt]; rfl
    generalize g.l[i] = n at *
    have hno := hg.each n hnm
    have hns := hg.small n hnm
    have hnah := hL.ahead hnp
    have hstl := hT.len
    have hkl := hT.few
    rw [List.length_map] at hkl
    obtain ⟨rsh, rsp, hR, hS⟩ := hT.ok
    have hnp' : (g.l.map NodeV.pl)[st.length]? = some n.pl := by rw [hstl]; exact hnp
    obtain ⟨hm, ht⟩ := moved_in hL hR hS hnp'
    have hspn := (hL.span _ _ hnp').2
    have hT' := hT.step hL hnp
    rw [← hstl] at hnah
    rw [hstl] at hm ht hspn
    have hpl : (movedV st n).pl = movedP st n.pl := movedV_pl st n
    rw [← hpl] at hm ht
    have hmah := aheadP_of hm.form
    rw [hR.lenS, List.length_map] at hmah
    have hmo : ∀ w', n.ok w' → (movedV st n).ok w' := fun w' h => movedV_ok h hmah (by omega)
    have hms : (movedV st n).small := ⟨hns.data, hns.bias⟩
    have hb1 : -1048576 ≤ (spanP (movedV st n).pl (gD (check g).2 i) rsh rsp).1 := by unfold tight at ht; omega
    have hb2 : (spanP (movedV st n).pl (gD (check g).2 i) rsh rsp).2 ≤ 1048576 := by unfold tight at ht; omega
    have hfold : foldP (gD (check g).2 i) (kept.map NodeV.pl) (movedP st n.pl) = foldP (gD (check g).2 i) (kept.map NodeV.pl) (movedV st n).pl := by rw [hpl]
    (repeat' ((conv => whnf) <;> first | (show idxK _ _ _ _ _; refine idx_of a i ha rfl hlt ?_) | (show roAggK _ _ _ _; (refine roAgg_row (fun R w' h => by rw [← ha]; exact rows_base h.1 hg.rows) _ hrow rfl ?_)) | (show drawK _ 23 _ _ _ _ _ _; refine draw_tree tabOk mixed [12] _ dtIF0 (by kernel_rfl) (by kernel_rfl) (by kernel_rfl) (List.Sublist.refl _) ?_) | (show drawK _ 24 _ _ _ _ _ _; refine draw_tree tabOk mixed [14] _ dtNO1 (by kernel_rfl) (by kernel_rfl) (by kernel_rfl) (List.Sublist.refl _) ?_) | (show drawK _ _ _ _ _ _ _ _; refine draw_quiet tabOk mixed (by kernel_rfl) ?_) | (show Wp _ _ _ _ _ _ _; refine Wp.go tabOk rfl ?_) | (show @cmpK _ _ _; (first | refine cmpY ?_ | refine cmpN ?_ | (refine cmp_both ?_ ?_ <;> intro _))) | (show wrapK _ _ _; refine wrapA ?_) | (show leK _ _ _; refine leA ?_) | (show roomK _ _ _; refine roomA ?_) | (show ltK _ _ _; refine ltA ?_) | (show _ ∧ _; refine ⟨?_, ?_⟩) | (show keepK _ _ _ _ _; refine keepA ?_) | refine own_keep ?_ | refine ap_old ?_))
    refine Wp.rounds 3 ?_
    by_cases hk : knownP (kept.map NodeV.pl) (movedV st n).pl = true
    · have hstep : stepP (gD (check g).2 i) (kept.map NodeV.pl, st) n.pl = ((layP (kept.map NodeV.pl) ⟨2, 0, 0, gD (check g).2 i, 0, 0, 0, numsP (gD (check g).2 i) (kept.map NodeV.pl) (movedV st n).pl, []⟩).1, st ++ [(layP (kept.map NodeV.pl) ⟨2, 0, 0, gD (check g).2 i, 0, 0, 0, numsP (gD (check g).2 i) (kept.map NodeV.pl) (movedV st n).pl, []⟩).2]) := by
        unfold stepP; simp only; rw [hfold, foldP, if_pos hk]
      rw [hstep] at hT'
      unfold layP at hT'
      have hKn := known_in hR hm hk
      have hcl2 := (numsP_in hR hm hKn).2
      have he64 := (entries_bd (gD (check g).2 i)).2
      have hfd : ∀ w' b nb nc sb sc, DeskAt w' b nb nc kept sb sc (stI st) → (∀ k ∈ kept, k.ok w' ∧ k.small) → n.ok w' → Calls Try.prog 50 #[.pointer (some ⟨b, 0, none⟩), (movedV st n).valA] w' (FoldPost w' (gD (check g).2 i) (numsP (gD (check g).2 i) (kept.map NodeV.pl) (movedV st n).pl)) := fun w' b nb nc sb sc g1 g2 g3 => by
        by_cases h6 : (movedV st n).kind = 6
        · exact folded_two g1 g2 hR _ (hmo w' g3) hms hm hk hb1 hb2 h6
        · exact folded_one g1 g2 hR _ (hmo w' g3) hms hm hk hb1 hb2 h6
      cases hf : findP (kept.map NodeV.pl) ⟨2, 0, 0, gD (check g).2 i, 0, 0, 0, numsP (gD (check g).2 i) (kept.map NodeV.pl) (movedV st n).pl, []⟩ with
      | some k =>
        rw [hf] at hT'
        (repeat' ((conv => whnf) <;> first | (show callK _ 49 _ _ _ _ _; (refine call_pure (f := 49) Try.call49 (movedV st n).valA (fun ρ w' hw => by obtain ⟨b, e, hd⟩ := desk_abs hw (by repeat (first | exact List.mem_cons_self | apply List.mem_cons_of_mem)) (by repeat (first | exact List.mem_cons_self | apply List.mem_cons_of_mem)) (by repeat (first | exact List.mem_cons_self | apply List.mem_cons_of_mem)); exact desk_call e (moved_any hd n hnah (by omega))) ?_)) | (show callK _ 50 _ _ _ _ _; (refine call_fold (gD (check g).2 i) (numsP (gD (check g).2 i) (kept.map NodeV.pl) (movedV st n).pl) Try.call50 (fun ρ w' hw => by obtain ⟨b, e, hd⟩ := desk_abs hw (by repeat (first | exact List.mem_cons_self | apply List.mem_cons_of_mem)) (by repeat (first | exact List.mem_cons_self | apply List.mem_cons_of_mem)) (by repeat (first | exact List.mem_cons_self | apply List.mem_cons_of_mem)); exact desk_call e (hfd w' b _ _ _ _ hd (holds_of_abs hw fun R h => kept_ok hko h.2) (holds_of_abs hw fun R h => hno.later h.1))) (fun u x r1 r2 r3 r4 => ?_))) | (show callK _ 51 _ _ _ _ _; (refine lay_found (m := constN u x) (fun R w' h => foldD_ok r2 r4 h.2) (fun R w' h y hy => (kept_ok hko h.1.2 y hy).1) (by omega) (by omega) (by rw [constN_pl r1 r3]; exact hf) (fun e8 e7 => ?_))) | (show drawK _ 23 _ _ _ _ _ _; refine draw_tree tabOk mixed [12] _ dtIF0 (by kernel_rfl) (by kernel_rfl) (by kernel_rfl) (List.Sublist.refl _) ?_) | (show drawK _ 24 _ _ _ _ _ _; refine draw_tree tabOk mixed [14] _ dtNO1 (by kernel_rfl) (by kernel_rfl) (by kernel_rfl) (List.Sublist.refl _) ?_) | (show drawK _ _ _ _ _ _ _ _; refine draw_quiet tabOk mixed (by kernel_rfl) ?_) | (show Wp _ _ _ _ _ _ _; refine Wp.go tabOk rfl ?_) | (show @cmpK _ _ _; (first | refine cmpY ?_ | refine cmpN ?_ | (refine cmp_both ?_ ?_ <;> intro _))) | (show wrapK _ _ _; refine wrapA ?_) | (show leK _ _ _; refine leA ?_) | (show roomK _ _ _; refine roomA ?_) | (show ltK _ _ _; refine ltA ?_) | (show _ ∧ _; refine ⟨?_, ?_⟩) | (show keepK _ _ _ _ _; refine keepA ?_) | refine own_keep ?_ | refine ap_old ?_))
        all_goals (conv => whnf)
        all_goals exact ⟨(i + 1, kept, st ++ [k]), [(4, some 9), (3, some 3)], ⟨hlt, hko, hT'⟩, by simp only; omega, rfl, ⟨rfl, rfl, rfl, rfl, rfl, rfl, trivial⟩, ⟨(by repeat (first | exact List.mem_cons_self | apply List.mem_cons_of_mem)), (by repeat (first | exact List.mem_cons_self | apply List.mem_cons_of_mem)), (by repeat (first | exact List.mem_cons_self | apply List.mem_cons_of_mem)), (by repeat (first | exact List.mem_cons_self | apply List.mem_cons_of_mem)), (by repeat (first | exact List.mem_cons_self | apply List.mem_cons_of_mem)), trivial⟩, fun R w' h => h.1⟩
      | none =>
        rw [hf] at hT'
        (repeat' ((conv => whnf) <;> first | (show callK _ 49 _ _ _ _ _; (refine call_pure (f := 49) Try.call49 (movedV st n).valA (fun ρ w' hw => by obtain ⟨b, e, hd⟩ := desk_abs hw (by repeat (first | exact List.mem_cons_self | apply List.mem_cons_of_mem)) (by repeat (first | exact List.mem_cons_self | apply List.mem_cons_of_mem)) (by repeat (first | exact List.mem_cons_self | apply List.mem_cons_of_mem)); exact desk_call e (moved_any hd n hnah (by omega))) ?_)) | (show callK _ 50 _ _ _ _ _; (refine call_fold (gD (check g).2 i) (numsP (gD (check g).2 i) (kept.map NodeV.pl) (movedV st n).pl) Try.call50 (fun ρ w' hw => by obtain ⟨b, e, hd⟩ := desk_abs hw (by repeat (first | exact List.mem_cons_self | apply List.mem_cons_of_mem)) (by repeat (first | exact List.mem_cons_self | apply List.mem_cons_of_mem)) (by repeat (first | exact List.mem_cons_self | apply List.mem_cons_of_mem)); exact desk_call e (hfd w' b _ _ _ _ hd (holds_of_abs hw fun R h => kept_ok hko h.2) (holds_of_abs hw fun R h => hno.later h.1))) (fun u x r1 r2 r3 r4 => ?_))) | (show callK _ 51 _ _ _ _ _; (refine lay_new (m := constN u x) (fun R w' h => foldD_ok r2 r4 h.2) (fun R w' h y hy => (kept_ok hko h.1.2 y hy).1) (by omega) (by omega) (by rw [constN_pl r1 r3]; exact hf) (fun e10 e8 e7 u1 u2 u3 q1 q2 q3 q4 q5 q6 => ?_))) | (show drawK _ 23 _ _ _ _ _ _; refine draw_tree tabOk mixed [12] _ dtIF0 (by kernel_rfl) (by kernel_rfl) (by kernel_rfl) (List.Sublist.refl _) ?_) | (show drawK _ 24 _ _ _ _ _ _; refine draw_tree tabOk mixed [14] _ dtNO1 (by kernel_rfl) (by kernel_rfl) (by kernel_rfl) (List.Sublist.refl _) ?_) | (show drawK _ _ _ _ _ _ _ _; refine draw_quiet tabOk mixed (by kernel_rfl) ?_) | (show Wp _ _ _ _ _ _ _; refine Wp.go tabOk rfl ?_) | (show @cmpK _ _ _; (first | refine cmpY ?_ | refine cmpN ?_ | (refine cmp_both ?_ ?_ <;> intro _))) | (show wrapK _ _ _; refine wrapA ?_) | (show leK _ _ _; refine leA ?_) | (show roomK _ _ _; refine roomA ?_) | (show ltK _ _ _; refine ltA ?_) | (show _ ∧ _; refine ⟨?_, ?_⟩) | (show keepK _ _ _ _ _; refine keepA ?_) | refine own_keep ?_ | refine ap_old ?_))
        all_goals (conv => whnf)
        all_goals exact ⟨(i + 1, kept ++ [cloneV (constN u x) u1 u2 u3], st ++ [kept.length]), [(4, some 11), (3, some 9)], ⟨hlt, cloneV_kept hko (constN_sane r2 r4) ⟨by show x.xs.length ≤ 5000; rw [r3, hcl2]; omega, Nat.zero_le _⟩ q2 q3 q4 q5 q6, by rw [lay_row q1 q3 q5, constN_pl r1 r3]; rw [List.length_map] at hT'; exact hT'⟩, by simp only; omega, rfl, ⟨rfl, rfl, rfl, rfl, rfl, rfl, trivial⟩, ⟨(by repeat (first | exact List.mem_cons_self | apply List.mem_cons_of_mem)), (by repeat (first | exact List.mem_cons_self | apply List.mem_cons_of_mem)), (by repeat (first | exact List.mem_cons_self | apply List.mem_cons_of_mem)), (by repeat (first | exact List.mem_cons_self | apply List.mem_cons_of_mem)), (by repeat (first | exact List.mem_cons_self | apply List.mem_cons_of_mem)), trivial⟩, fun R w' h => ⟨h.1.1.1.1.1, keptA_snoc h.1.1.1.1.2 ⟨h.1.1.2, h.1.2, h.2⟩⟩⟩
    · have hstep : stepP (gD (check g).2 i) (kept.map NodeV.pl, st) n.pl = ((layP (kept.map NodeV.pl) (movedV st n).pl).1, st ++ [(layP (kept.map NodeV.pl) (movedV st n).pl).2]) := by
        unfold stepP; simp only; rw [hfold, foldP, if_neg hk]
      rw [hstep] at hT'
      unfold layP at hT'
      cases hf : findP (kept.map NodeV.pl) (movedV st n).pl with
      | some k =>
        rw [hf] at hT'
        (repeat' ((conv => whnf) <;> first | (show callK _ 49 _ _ _ _ _; (refine call_pure (f := 49) Try.call49 (movedV st n).valA (fun ρ w' hw => by obtain ⟨b, e, hd⟩ := desk_abs hw (by repeat (first | exact List.mem_cons_self | apply List.mem_cons_of_mem)) (by repeat (first | exact List.mem_cons_self | apply List.mem_cons_of_mem)) (by repeat (first | exact List.mem_cons_self | apply List.mem_cons_of_mem)); exact desk_call e (moved_any hd n hnah (by omega))) ?_)) | (show callK _ 50 _ _ _ _ _; (refine call_pure (f := 50) Try.call50 (movedV st n).valA (fun ρ w' hw => by obtain ⟨b, e, hd⟩ := desk_abs hw (by repeat (first | exact List.mem_cons_self | apply List.mem_cons_of_mem)) (by repeat (first | exact List.mem_cons_self | apply List.mem_cons_of_mem)) (by repeat (first | exact List.mem_cons_self | apply List.mem_cons_of_mem)); exact desk_call e (folded_no hd (movedV st n) hmah (by simpa using hk))) ?_)) | (show callK _ 51 _ _ _ _ _; refine lay_found (m := movedV st n) (fun R w' h => hmo w' (hno.later h.1)) (fun R w' h x hx => (kept_ok hko h.2 x hx).1) (by omega) (by omega) hf (fun e8 e7 => ?_)) | (show drawK _ 23 _ _ _ _ _ _; refine draw_tree tabOk mixed [12] _ dtIF0 (by kernel_rfl) (by kernel_rfl) (by kernel_rfl) (List.Sublist.refl _) ?_) | (show drawK _ 24 _ _ _ _ _ _; refine draw_tree tabOk mixed [14] _ dtNO1 (by kernel_rfl) (by kernel_rfl) (by kernel_rfl) (List.Sublist.refl _) ?_) | (show drawK _ _ _ _ _ _ _ _; refine draw_quiet tabOk mixed (by kernel_rfl) ?_) | (show Wp _ _ _ _ _ _ _; refine Wp.go tabOk rfl ?_) | (show @cmpK _ _ _; (first | refine cmpY ?_ | refine cmpN ?_ | (refine cmp_both ?_ ?_ <;> intro _))) | (show wrapK _ _ _; refine wrapA ?_) | (show leK _ _ _; refine leA ?_) | (show roomK _ _ _; refine roomA ?_) | (show ltK _ _ _; refine ltA ?_) | (show _ ∧ _; refine ⟨?_, ?_⟩) | (show keepK _ _ _ _ _; refine keepA ?_) | refine own_keep ?_ | refine ap_old ?_))
        all_goals (conv => whnf)
        all_goals exact ⟨(i + 1, kept, st ++ [k]), [(4, some 9), (3, some 3)], ⟨hlt, hko, hT'⟩, by simp only; omega, rfl, ⟨rfl, rfl, rfl, rfl, rfl, rfl, trivial⟩, ⟨(by repeat (first | exact List.mem_cons_self | apply List.mem_cons_of_mem)), (by repeat (first | exact List.mem_cons_self | apply List.mem_cons_of_mem)), (by repeat (first | exact List.mem_cons_self | apply List.mem_cons_of_mem)), (by repeat (first | exact List.mem_cons_self | apply List.mem_cons_of_mem)), (by repeat (first | exact List.mem_cons_self | apply List.mem_cons_of_mem)), trivial⟩, fun R w' h => h⟩
      | none =>
        rw [hf] at hT'
        have hmsn : (movedV st n).saneN := (hmo w hno).saneN
        (repeat' ((conv => whnf) <;> first | (show callK _ 49 _ _ _ _ _; (refine call_pure (f := 49) Try.call49 (movedV st n).valA (fun ρ w' hw => by obtain ⟨b, e, hd⟩ := desk_abs hw (by repeat (first | exact List.mem_cons_self | apply List.mem_cons_of_mem)) (by repeat (first | exact List.mem_cons_self | apply List.mem_cons_of_mem)) (by repeat (first | exact List.mem_cons_self | apply List.mem_cons_of_mem)); exact desk_call e (moved_any hd n hnah (by omega))) ?_)) | (show callK _ 50 _ _ _ _ _; (refine call_pure (f := 50) Try.call50 (movedV st n).valA (fun ρ w' hw => by obtain ⟨b, e, hd⟩ := desk_abs hw (by repeat (first | exact List.mem_cons_self | apply List.mem_cons_of_mem)) (by repeat (first | exact List.mem_cons_self | apply List.mem_cons_of_mem)) (by repeat (first | exact List.mem_cons_self | apply List.mem_cons_of_mem)); exact desk_call e (folded_no hd (movedV st n) hmah (by simpa using hk))) ?_)) | (show callK _ 51 _ _ _ _ _; refine lay_new (m := movedV st n) (fun R w' h => hmo w' (hno.later h.1)) (fun R w' h x hx => (kept_ok hko h.2 x hx).1) (by omega) (by omega) hf (fun e10 e8 e7 u1 u2 u3 q1 q2 q3 q4 q5 q6 => ?_)) | (show drawK _ 23 _ _ _ _ _ _; refine draw_tree tabOk mixed [12] _ dtIF0 (by kernel_rfl) (by kernel_rfl) (by kernel_rfl) (List.Sublist.refl _) ?_) | (show drawK _ 24 _ _ _ _ _ _; refine draw_tree tabOk mixed [14] _ dtNO1 (by kernel_rfl) (by kernel_rfl) (by kernel_rfl) (List.Sublist.refl _) ?_) | (show drawK _ _ _ _ _ _ _ _; refine draw_quiet tabOk mixed (by kernel_rfl) ?_) | (show Wp _ _ _ _ _ _ _; refine Wp.go tabOk rfl ?_) | (show @cmpK _ _ _; (first | refine cmpY ?_ | refine cmpN ?_ | (refine cmp_both ?_ ?_ <;> intro _))) | (show wrapK _ _ _; refine wrapA ?_) | (show leK _ _ _; refine leA ?_) | (show roomK _ _ _; refine roomA ?_) | (show ltK _ _ _; refine ltA ?_) | (show _ ∧ _; refine ⟨?_, ?_⟩) | (show keepK _ _ _ _ _; refine keepA ?_) | refine own_keep ?_ | refine ap_old ?_))
        all_goals (conv => whnf)
        all_goals exact ⟨(i + 1, kept ++ [cloneV (movedV st n) u1 u2 u3], st ++ [kept.length]), [(4, some 11), (3, some 9)], ⟨hlt, cloneV_kept hko hmsn hms q2 q3 q4 q5 q6, by rw [lay_row q1 q3 q5]; rw [List.length_map] at hT'; exact hT'⟩, by simp only; omega, rfl, ⟨rfl, rfl, rfl, rfl, rfl, rfl, trivial⟩, ⟨(by repeat (first | exact List.mem_cons_self | apply List.mem_cons_of_mem)), (by repeat (first | exact List.mem_cons_self | apply List.mem_cons_of_mem)), (by repeat (first | exact List.mem_cons_self | apply List.mem_cons_of_mem)), (by repeat (first | exact List.mem_cons_self | apply List.mem_cons_of_mem)), (by repeat (first | exact List.mem_cons_self | apply List.mem_cons_of_mem)), trivial⟩, fun R w' h => ⟨h.1.1.1.1, keptA_snoc h.1.1.1.2 ⟨h.1.1.2, h.1.2, h.2⟩⟩⟩
  · obtain rfl : i = g.l.length := by omega
    have hdone : tidyL (g.l.map NodeV.pl) (check g).2 ([], []) = (kept.map NodeV.pl, st) := by
      have e : (g.l.map NodeV.pl).length = g.l.length := List.length_map _
      rw [← e] at hT
      exact hT.done
    have hstl := hT.len
    have hkl := hT.few
    rw [List.length_map] at hkl
    obtain ⟨rsh, rsp, hR, hS⟩ := hT.ok
    have hoL : g.out.toNat < st.length := by omega
    have hoK : st.getD g.out.toNat 0 < kept.length := by have := hS.lt _ hoL; rwa [hR.lenS, List.length_map] at this
    have hx : tidyP (g.l.map NodeV.pl) (check g).2 g.out.toNat = ((cutL (needB (kept.map NodeV.pl) (st.getD g.out.toNat 0)) (kept.map NodeV.pl) 0 ([], [])).1, (cutL (needB (kept.map NodeV.pl) (st.getD g.out.toNat 0)) (kept.map NodeV.pl) 0 ([], [])).2.getD (st.getD g.out.toNat 0) 0) := by unfold tidyP; rw [hdone]
    rw [hx]
    have hoR : (ints (stI st))[g.out.toNat]? = some [.int .i64 (st.getD g.out.toNat 0)] := stI_get hoL
    generalize st.getD g.out.toNat 0 = out at *
    (repeat' ((conv => whnf) <;> first | (show mapNewK _ _ _ _; refine mapNew_set (fun r => ?_)) | (show idxRowK _ _ _ _ _ _; (refine idxRow_of g.out.toNat (by omega) hoL (by rw [stI_length]; exact Nat.le_refl _) ?_)) | (show rowK _ _ _ _; refine row_of _ _ hoR rfl ?_) | (show callK _ 52 _ _ _ _ _; (refine call_map (by repeat (first | exact List.mem_cons_self | apply List.mem_cons_of_mem)) Try.call52 (fun _ => .tuple #[]) setM (NeedR (kept.map NodeV.pl) out (fun _ => false)) (fun ρ w' hw hm' => by obtain ⟨b, e, hd⟩ := desk_abs hw (by repeat (first | exact List.mem_cons_self | apply List.mem_cons_of_mem)) (by repeat (first | exact List.mem_cons_self | apply List.mem_cons_of_mem)) (by repeat (first | exact List.mem_cons_self | apply List.mem_cons_of_mem)); exact desk_call3 e (needed_any hR (out + 1) out (Nat.lt_succ_self _) hoK w' _ hd hm')) (fun s hs => ?_))) | (show makeK _ _ _ _; (refine make_of kept.length rfl rfl (by show 8 * _ ≤ _; omega) (by omega) ?_)) | (show drawK _ 23 _ _ _ _ _ _; refine draw_tree tabOk mixed [12] _ dtIF0 (by kernel_rfl) (by kernel_rfl) (by kernel_rfl) (List.Sublist.refl _) ?_) | (show drawK _ 24 _ _ _ _ _ _; refine draw_tree tabOk mixed [14] _ dtNO1 (by kernel_rfl) (by kernel_rfl) (by kernel_rfl) (List.Sublist.refl _) ?_) | (show drawK _ _ _ _ _ _ _ _; refine draw_quiet tabOk mixed (by kernel_rfl) ?_) | (show Wp _ _ _ _ _ _ _; refine Wp.go tabOk rfl ?_) | (show @cmpK _ _ _; (first | refine cmpY ?_ | refine cmpN ?_ | (refine cmp_both ?_ ?_ <;> intro _))) | (show wrapK _ _ _; refine wrapA ?_) | (show leK _ _ _; refine leA ?_) | (show roomK _ _ _; refine roomA ?_) | (show ltK _ _ _; refine ltA ?_) | (show _ ∧ _; refine ⟨?_, ?_⟩) | (show keepK _ _ _ _ _; refine keepA ?_) | refine own_keep ?_ | refine ap_old ?_))
    have hoK' : out < (kept.map NodeV.pl).length := by rw [List.length_map]; exact hoK
    obtain rfl := need_set hR.aheads hoK' hs
    generalize hneed : needB (kept.map NodeV.pl) out = need at *
    generalize hfin : cutL need (kept.map NodeV.pl) 0 ([], []) = fin at *
    refine Wp.loop (σ := Nat × List NodeV × List Nat) 9 (fun ⟨j, acc, p⟩ => [(13, .lp 7 0 0 0), (11, .c (.map (some r))), (12, .c (.int .i64 out)), (2, .lp 1 0 0 0), (78, .os 3 kept.length), (79, .c (.int .i64 kept.length)), (80, .c (.int .i64 j))])
      (fun ⟨j, acc, p⟩ => [(8, .rows (nodeRows acc) 9 38), (7, .box [.os 8 acc.length, .c (.int .i64 0), .os 6 kept.length] 81), (6, .rows (ints (stI (gridN kept.length p))) 1 3), (5, .ext (mapO r (setM need))), (3, .rows (nodeRows kept) 9 38), (1, .box [.c (.slice none 0 0), .c (.int .i64 0)] 26)])
      (fun _ => (baseA w).and (keptA w.heap.size kept))
      (fun ⟨j, acc, p⟩ => j ≤ kept.length ∧ p.length = j ∧ acc.length ≤ j ∧ KeptOk acc ∧ From kept acc ∧ cutL need ((kept.map NodeV.pl).drop j) j (acc.map NodeV.pl, p) = fin ∧ ∀ k, p.getD k 0 ≤ 1000000) (fun s => kept.length - s.1) (0, [], []) [(8, none)] (by decide) (fun s => ⟨rfl, rfl⟩)
      ⟨Nat.zero_le _, rfl, Nat.zero_le _, fun n hn => by simp at hn, fun n hn => by simp at hn, hfin, fun k => Nat.zero_le _⟩ ⟨rfl, ⟨rfl, rfl, rfl, rfl, rfl, rfl, rfl, trivial⟩, ⟨rfl, (by repeat (first | exact List.mem_cons_self | apply List.mem_cons_of_mem)), ?_, (by repeat (first | exact List.mem_cons_self | apply List.mem_cons_of_mem)), (by repeat (first | exact List.mem_cons_self | apply List.mem_cons_of_mem)), (by repeat (first | exact List.mem_cons_self | apply List.mem_cons_of_mem)), trivial⟩, fun R w' h => h⟩ ?_
    · show (6, Ent.rows (ints (stI (gridN kept.length []))) 1 3) ∈ _
      rw [gridN_start]
      exact (by repeat (first | exact List.mem_cons_self | apply List.mem_cons_of_mem))
    rintro ⟨j, acc, p⟩ ⟨hj, hpl, hal, hao, hfr, hcut, hple⟩
    have hgl : (ints (stI (gridN kept.length p))).length = kept.length := by rw [stI_length, gridN_length (by omega)]
    by_cases hlt : j < kept.length
    · have hrow := nodeRows_get hlt
      have hxm := List.getElem_mem hlt
      have hjr : j < (kept.map NodeV.pl).length := by rw [List.length_map]; exact hlt
      have hxr : (kept.map NodeV.pl)[j] = kept[j].pl := by simp
      have hxa := hR.ahead (List.getElem?_eq_getElem hjr)
      rw [List.drop_eq_getElem_cons hjr] at hcut
      rw [hxr] at hxa hcut
      generalize kept[j] = x at *
      have hxo := hko x hxm
      have hkx : x.pl.kind = x.kind := rfl
      rw [cutL_cons, hkx] at hcut
      have hq : (gridN kept.length (p ++ [acc.length])).length = kept.length := gridN_length (by rw [List.length_append, List.length_singleton]; omega)
      have hxq : AheadP x.pl (gridN kept.length (p ++ [acc.length])).length := by rw [hq]; exact hxa.mono (by omega)
      have hxv : (movedV (gridN kept.length (p ++ [acc.length])) x).pl = movedP p x.pl := by
        rw [movedV_pl, gridN_moved (by rw [List.length_append, List.length_singleton, hpl]; exact hxa.mono (by omega)), moved_snoc (by rw [hpl]; exact hxa)]
      by_cases hin : need j = true ∨ x.kind = 1
      · rw [if_pos hin] at hcut
        have hkeep : KeptOk (acc ++ [movedV (gridN kept.length (p ++ [acc.length])) x]) := kept_snoc hao (movedV_sane hxo.1 (gridN_le (snoc_le hple (by omega)))) ⟨hxo.2.data, hxo.2.bias⟩
        have hcut2 : cutL need ((kept.map NodeV.pl).drop (j + 1)) (j + 1) ((acc ++ [movedV (gridN kept.length (p ++ [acc.length])) x]).map NodeV.pl, p ++ [acc.length]) = fin := by
          rw [List.map_append, List.map_cons, List.map_nil, hxv]
          simp only [List.length_map] at hcut
          exact hcut
        cases hsb : need j with
        | true =>
          (repeat' ((conv => whnf) <;> first | (show lookK _ _ _ _ _ _ _ _; (refine look_set (by repeat (first | exact List.mem_cons_self | apply List.mem_cons_of_mem)) hsb ?_)) | (show idxRowK _ _ _ _ _ _; (first | refine idxRow_of j rfl hlt (Nat.le_of_eq (nodeRows_length kept).symm) ?_ | refine idxRow_of j rfl hlt (Nat.le_of_eq hgl.symm) ?_)) | (show rowAggK _ _ _ _ _; refine rowAgg_of _ _ hrow rfl rfl ?_) | (show rowStoreK _ _ _ _ _; refine gridN_store hpl hlt ?_) | (show drawK _ 24 _ _ _ _ _ _; refine draw_tree tabOk mixed [14] _ dtNO1 (by kernel_rfl) (by kernel_rfl) (by kernel_rfl) (List.Sublist.cons_cons _ (List.Sublist.cons _ (List.Sublist.refl _))) ?_) | (show callK _ 49 _ _ _ _ _; (refine call_pure (f := 49) Try.call49 (movedV (gridN kept.length (p ++ [acc.length])) x).valA (fun ρ w' hw => by obtain ⟨b, e, hd⟩ := desk_abs2 (st := gridN kept.length (p ++ [acc.length])) hw hq (by repeat (first | exact List.mem_cons_self | apply List.mem_cons_of_mem)) (by repeat (first | exact List.mem_cons_self | apply List.mem_cons_of_mem)) (by repeat (first | exact List.mem_cons_self | apply List.mem_cons_of_mem)); exact desk_call e (moved_any hd x hxq (by omega))) ?_)) | (show ownK _ ((_, .rows (List.take acc.length _ ++ _) _ _) :: _) _ _ _; refine own_eq (ys := nodeRows (acc ++ [movedV (gridN kept.length (p ++ [acc.length])) x])) (m := (acc ++ [movedV (gridN kept.length (p ++ [acc.length])) x]).length) ?_ (nodes_snoc acc (movedV (gridN kept.length (p ++ [acc.length])) x)) (by show acc.length + 1 = _; rw [List.length_append]; rfl)) | (show leK _ _ _; (refine le_of (by rw [nodeRows_length]; exact Nat.le_refl _) ?_)) | (show roomK _ _ _; (refine room_of (by show (acc.length + 1) * 120 ≤ 140737488355328; omega) ?_)) | (show keepK _ _ _ _ _; (first | refine keep_of (List.Sublist.cons _ (List.Sublist.cons _ (List.Sublist.refl _))) (fun _ _ h => h) ?_ | refine keep_of (List.Sublist.cons_cons _ (List.Sublist.cons _ (List.Sublist.refl _))) (fun _ _ h => h) ?_ | refine keep_of (List.Sublist.cons _ (List.Sublist.cons_cons _ (List.Sublist.cons _ (List.Sublist.refl _)))) (fun _ _ h => h) ?_)) | (show drawK _ 23 _ _ _ _ _ _; refine draw_tree tabOk mixed [12] _ dtIF0 (by kernel_rfl) (by kernel_rfl) (by kernel_rfl) (List.Sublist.refl _) ?_) | (show drawK _ _ _ _ _ _ _ _; refine draw_quiet tabOk mixed (by kernel_rfl) ?_) | (show Wp _ _ _ _ _ _ _; refine Wp.go tabOk rfl ?_) | (show @cmpK _ _ _; (first | refine cmpY ?_ | refine cmpN ?_ | (refine cmp_both ?_ ?_ <;> intro _))) | (show wrapK _ _ _; refine wrapA ?_) | (show leK _ _ _; refine leA ?_) | (show roomK _ _ _; refine roomA ?_) | (show ltK _ _ _; refine ltA ?_) | (show _ ∧ _; refine ⟨?_, ?_⟩) | (show keepK _ _ _ _ _; refine keepA ?_) | refine own_keep ?_ | refine ap_old ?_))
          all_goals (conv => whnf)
          all_goals exact ⟨(j + 1, acc ++ [movedV (gridN kept.length (p ++ [acc.length])) x], p ++ [acc.length]), [(8, some 11)], ⟨hlt, by rw [List.length_append, List.length_singleton, hpl], by rw [List.length_append, List.length_singleton]; omega, hkeep, from_snoc hfr hxm, hcut2, snoc_le hple (by omega)⟩, by simp only; omega, rfl, ⟨rfl, rfl, rfl, rfl, rfl, rfl, rfl, trivial⟩, ⟨(by repeat (first | exact List.mem_cons_self | apply List.mem_cons_of_mem)), (by repeat (first | exact List.mem_cons_self | apply List.mem_cons_of_mem)), (by repeat (first | exact List.mem_cons_self | apply List.mem_cons_of_mem)), (by repeat (first | exact List.mem_cons_self | apply List.mem_cons_of_mem)), (by repeat (first | exact List.mem_cons_self | apply List.mem_cons_of_mem)), (by repeat (first | exact List.mem_cons_self | apply List.mem_cons_of_mem)), trivial⟩, fun R w' h => h⟩
        | false =>
          have hk1 : x.kind = 1 := by rw [hsb] at hin; simpa using hin
          (repeat' ((conv => whnf) <;> first | (show lookK _ _ _ _ _ _ _ _; (refine look_set (by repeat (first | exact List.mem_cons_self | apply List.mem_cons_of_mem)) hsb ?_)) | (show idxRowK _ _ _ _ _ _; (first | refine idxRow_of j rfl hlt (Nat.le_of_eq (nodeRows_length kept).symm) ?_ | refine idxRow_of j rfl hlt (Nat.le_of_eq hgl.symm) ?_)) | (show rowAggK _ _ _ _ _; refine rowAgg_of _ _ hrow rfl rfl ?_) | (show rowStoreK _ _ _ _ _; refine gridN_store hpl hlt ?_) | (show drawK _ 24 _ _ _ _ _ _; refine draw_tree tabOk mixed [14] _ dtNO1 (by kernel_rfl) (by kernel_rfl) (by kernel_rfl) (List.Sublist.cons_cons _ (List.Sublist.cons _ (List.Sublist.refl _))) ?_) | (show callK _ 49 _ _ _ _ _; (refine call_pure (f := 49) Try.call49 (movedV (gridN kept.length (p ++ [acc.length])) x).valA (fun ρ w' hw => by obtain ⟨b, e, hd⟩ := desk_abs2 (st := gridN kept.length (p ++ [acc.length])) hw hq (by repeat (first | exact List.mem_cons_self | apply List.mem_cons_of_mem)) (by repeat (first | exact List.mem_cons_self | apply List.mem_cons_of_mem)) (by repeat (first | exact List.mem_cons_self | apply List.mem_cons_of_mem)); exact desk_call e (moved_any hd x hxq (by omega))) ?_)) | (show ownK _ ((_, .rows (List.take acc.length _ ++ _) _ _) :: _) _ _ _; refine own_eq (ys := nodeRows (acc ++ [movedV (gridN kept.length (p ++ [acc.length])) x])) (m := (acc ++ [movedV (gridN kept.length (p ++ [acc.length])) x]).length) ?_ (nodes_snoc acc (movedV (gridN kept.length (p ++ [acc.length])) x)) (by show acc.length + 1 = _; rw [List.length_append]; rfl)) | (show leK _ _ _; (refine le_of (by rw [nodeRows_length]; exact Nat.le_refl _) ?_)) | (show roomK _ _ _; (refine room_of (by show (acc.length + 1) * 120 ≤ 140737488355328; omega) ?_)) | (show keepK _ _ _ _ _; (first | refine keep_of (List.Sublist.cons _ (List.Sublist.cons _ (List.Sublist.refl _))) (fun _ _ h => h) ?_ | refine keep_of (List.Sublist.cons_cons _ (List.Sublist.cons _ (List.Sublist.refl _))) (fun _ _ h => h) ?_ | refine keep_of (List.Sublist.cons _ (List.Sublist.cons_cons _ (List.Sublist.cons _ (List.Sublist.refl _)))) (fun _ _ h => h) ?_)) | (show drawK _ 23 _ _ _ _ _ _; refine draw_tree tabOk mixed [12] _ dtIF0 (by kernel_rfl) (by kernel_rfl) (by kernel_rfl) (List.Sublist.refl _) ?_) | (show drawK _ _ _ _ _ _ _ _; refine draw_quiet tabOk mixed (by kernel_rfl) ?_) | (show Wp _ _ _ _ _ _ _; refine Wp.go tabOk rfl ?_) | (show @cmpK _ _ _; (first | refine cmpY ?_ | refine cmpN ?_ | (refine cmp_both ?_ ?_ <;> intro _))) | (show wrapK _ _ _; refine wrapA ?_) | (show leK _ _ _; refine leA ?_) | (show roomK _ _ _; refine roomA ?_) | (show ltK _ _ _; refine ltA ?_) | (show _ ∧ _; refine ⟨?_, ?_⟩) | (show keepK _ _ _ _ _; refine keepA ?_) | refine own_keep ?_ | refine ap_old ?_))
          all_goals (conv => whnf)
          all_goals exact ⟨(j + 1, acc ++ [movedV (gridN kept.length (p ++ [acc.length])) x], p ++ [acc.length]), [(8, some 11)], ⟨hlt, by rw [List.length_append, List.length_singleton, hpl], by rw [List.length_append, List.length_singleton]; omega, hkeep, from_snoc hfr hxm, hcut2, snoc_le hple (by omega)⟩, by simp only; omega, rfl, ⟨rfl, rfl, rfl, rfl, rfl, rfl, rfl, trivial⟩, ⟨(by repeat (first | exact List.mem_cons_self | apply List.mem_cons_of_mem)), (by repeat (first | exact List.mem_cons_self | apply List.mem_cons_of_mem)), (by repeat (first | exact List.mem_cons_self | apply List.mem_cons_of_mem)), (by repeat (first | exact List.mem_cons_self | apply List.mem_cons_of_mem)), (by repeat (first | exact List.mem_cons_self | apply List.mem_cons_of_mem)), (by repeat (first | exact List.mem_cons_self | apply List.mem_cons_of_mem)), trivial⟩, fun R w' h => h⟩
      · rw [if_neg hin] at hcut
        have hsb : need j = false := by simpa using fun h => hin (.inl h)
        have hk1 : ¬ x.kind = 1 := fun h => hin (.inr h)
        (repeat' ((conv => whnf) <;> first | (show lookK _ _ _ _ _ _ _ _; (refine look_set (by repeat (first | exact List.mem_cons_self | apply List.mem_cons_of_mem)) hsb ?_)) | (show idxRowK _ _ _ _ _ _; (first | refine idxRow_of j rfl hlt (Nat.le_of_eq (nodeRows_length kept).symm) ?_ | refine idxRow_of j rfl hlt (Nat.le_of_eq hgl.symm) ?_)) | (show rowAggK _ _ _ _ _; refine rowAgg_of _ _ hrow rfl rfl ?_) | (show rowStoreK _ _ _ _ _; refine gridN_store hpl hlt ?_) | (show drawK _ 24 _ _ _ _ _ _; refine draw_tree tabOk mixed [14] _ dtNO1 (by kernel_rfl) (by kernel_rfl) (by kernel_rfl) (List.Sublist.cons_cons _ (List.Sublist.cons _ (List.Sublist.refl _))) ?_) | (show callK _ 49 _ _ _ _ _; (refine call_pure (f := 49) Try.call49 (movedV (gridN kept.length (p ++ [acc.length])) x).valA (fun ρ w' hw => by obtain ⟨b, e, hd⟩ := desk_abs2 (st := gridN kept.length (p ++ [acc.length])) hw hq (by repeat (first | exact List.mem_cons_self | apply List.mem_cons_of_mem)) (by repeat (first | exact List.mem_cons_self | apply List.mem_cons_of_mem)) (by repeat (first | exact List.mem_cons_self | apply List.mem_cons_of_mem)); exact desk_call e (moved_any hd x hxq (by omega))) ?_)) | (show ownK _ ((_, .rows (List.take acc.length _ ++ _) _ _) :: _) _ _ _; refine own_eq (ys := nodeRows (acc ++ [movedV (gridN kept.length (p ++ [acc.length])) x])) (m := (acc ++ [movedV (gridN kept.length (p ++ [acc.length])) x]).length) ?_ (nodes_snoc acc (movedV (gridN kept.length (p ++ [acc.length])) x)) (by show acc.length + 1 = _; rw [List.length_append]; rfl)) | (show leK _ _ _; (refine le_of (by rw [nodeRows_length]; exact Nat.le_refl _) ?_)) | (show roomK _ _ _; (refine room_of (by show (acc.length + 1) * 120 ≤ 140737488355328; omega) ?_)) | (show keepK _ _ _ _ _; (first | refine keep_of (List.Sublist.cons _ (List.Sublist.cons _ (List.Sublist.refl _))) (fun _ _ h => h) ?_ | refine keep_of (List.Sublist.cons_cons _ (List.Sublist.cons _ (List.Sublist.refl _))) (fun _ _ h => h) ?_ | refine keep_of (List.Sublist.cons _ (List.Sublist.cons_cons _ (List.Sublist.cons _ (List.Sublist.refl _)))) (fun _ _ h => h) ?_)) | (show drawK _ 23 _ _ _ _ _ _; refine draw_tree tabOk mixed [12] _ dtIF0 (by kernel_rfl) (by kernel_rfl) (by kernel_rfl) (List.Sublist.refl _) ?_) | (show drawK _ _ _ _ _ _ _ _; refine draw_quiet tabOk mixed (by kernel_rfl) ?_) | (show Wp _ _ _ _ _ _ _; refine Wp.go tabOk rfl ?_) | (show @cmpK _ _ _; (first | refine cmpY ?_ | refine cmpN ?_ | (refine cmp_both ?_ ?_ <;> intro _))) | (show wrapK _ _ _; refine wrapA ?_) | (show leK _ _ _; refine leA ?_) | (show roomK _ _ _; refine roomA ?_) | (show ltK _ _ _; refine ltA ?_) | (show _ ∧ _; refine ⟨?_, ?_⟩) | (show keepK _ _ _ _ _; refine keepA ?_) | refine own_keep ?_ | refine ap_old ?_))
        all_goals (conv => whnf)
        all_goals exact ⟨(j + 1, acc, p ++ [0]), [(8, some 8)], ⟨hlt, by rw [List.length_append, List.length_singleton, hpl], by omega, hao, hfr, hcut, snoc_le hple (Nat.zero_le _)⟩, by simp only; omega, rfl, ⟨rfl, rfl, rfl, rfl, rfl, rfl, rfl, trivial⟩, ⟨(by repeat (first | exact List.mem_cons_self | apply List.mem_cons_of_mem)), (by repeat (first | exact List.mem_cons_self | apply List.mem_cons_of_mem)), gridN_here (by omega) (by repeat (first | exact List.mem_cons_self | apply List.mem_cons_of_mem)), (by repeat (first | exact List.mem_cons_self | apply List.mem_cons_of_mem)), (by repeat (first | exact List.mem_cons_self | apply List.mem_cons_of_mem)), (by repeat (first | exact List.mem_cons_self | apply List.mem_cons_of_mem)), trivial⟩, fun R w' h => h⟩
    · obtain rfl : j = kept.length := by omega
      rw [List.drop_of_length_le (by rw [List.length_map]; exact Nat.le_refl _)] at hcut
      have hcut : (acc.map NodeV.pl, p) = fin := hcut
      subst hcut
      have hgp : gridN kept.length p = p := by unfold gridN; rw [hpl, Nat.sub_self]; simp
      have hop : (ints (stI (gridN kept.length p)))[out]? = some [.int .i64 (p.getD out 0)] := by rw [hgp]; exact stI_get (by omega)
      (repeat' ((conv => whnf) <;> first | (show idxRowK _ _ _ _ _ _; refine idxRow_of out rfl hoK (Nat.le_of_eq hgl.symm) ?_) | (show rowK _ _ _ _; refine row_of _ _ hop rfl ?_) | (show drawK _ 23 _ _ _ _ _ _; refine draw_tree tabOk mixed [12] _ dtIF0 (by kernel_rfl) (by kernel_rfl) (by kernel_rfl) (List.Sublist.refl _) ?_) | (show drawK _ 24 _ _ _ _ _ _; refine draw_tree tabOk mixed [14] _ dtNO1 (by kernel_rfl) (by kernel_rfl) (by kernel_rfl) (List.Sublist.refl _) ?_) | (show drawK _ _ _ _ _ _ _ _; refine draw_quiet tabOk mixed (by kernel_rfl) ?_) | (show Wp _ _ _ _ _ _ _; refine Wp.go tabOk rfl ?_) | (show @cmpK _ _ _; (first | refine cmpY ?_ | refine cmpN ?_ | (refine cmp_both ?_ ?_ <;> intro _))) | (show wrapK _ _ _; refine wrapA ?_) | (show leK _ _ _; refine leA ?_) | (show roomK _ _ _; refine roomA ?_) | (show ltK _ _ _; refine ltA ?_) | (show _ ∧ _; refine ⟨?_, ?_⟩) | (show keepK _ _ _ _ _; refine keepA ?_) | refine own_keep ?_ | refine ap_old ?_))
      all_goals (conv => whnf)
      all_goals exact tidy_ends rfl (fun R w' h => h.1) (fun R w' h => h.2) (by repeat (first | exact List.mem_cons_self | apply List.mem_cons_of_mem)) hfr hao hsp rfl
end Go.Proofs.Ytdmkdogakbipbaa

/- NP -/
namespace Go.Proofs.Ytdmkdogakbipbaa
open Go.SX Go.RowKit
def TakesPost (w : World) (n : NodeV) (e : Ending) (w' : World) : Prop := ∃ u : IntsV, (u.xs = takesP n.pl ∧ u.sane) ∧ e = .returned u.val ∧ Ext w w' ∧ (intsA u).holds (fun b => w.heap.size ≤ b ∧ b < w'.heap.size) w'
theorem takes_end {B : Base} {i m : Nat} {H : Heap} {S : Asn} {nx : Nat} {w : World} {n : NodeV} {l : List Int} {R : List (List Value)} (hb : ∀ R w', S.holds R w' → (baseA B.w0).holds R w') (hw0 : B.w0 = w) (he : (i, Ent.rows R 1 3) ∈ H) (hR : R = ints l) (hm : m = l.length) (hf : ∀ x ∈ l, i64 x) (hl : l.length ≤ 1000000) (hx : takesP n.pl = l) : finK B (.os i m) H S nx (TakesPost w n) := by
  subst hw0 hm hR
  refine fin_of fun ρ w' hw => ?_
  have hn := new_of_abs hw hb he
  rw [ints_length] at hn
  obtain ⟨u, e1, e2, e3, e4⟩ := newInts hn hf hl
  exact ⟨u, ⟨e2.trans hx.symm, e3⟩, by rw [e1], ext_of_abs hw hb, e4⟩
set_option maxRecDepth 20000 in
theorem takes_any (w : World) (n : NodeV) (ha : i64 n.a) (hb : i64 n.b) : Calls Try.prog 54 #[n.valA] w (TakesPost w n) := by
  by_cases h12 : n.kind = 1 ∨ n.kind = 2
  · have ht : takesP n.pl = [] := by unfold takesP; rw [if_pos (show n.pl.kind = 1 ∨ n.pl.kind = 2 from h12)]
    refine calls_of tab tabOk Try.func54 rfl rfl rfl [] (fun _ => ⟨none, 0⟩) [.agg [.c (.int .i64 n.kind), .c (.int .i64 n.a), .c (.int .i64 n.b), .c n.shape.val, .c (.int .i64 n.lo), .c (.int .i64 n.hi), .c (.int .i64 n.size), .c n.data.val, .c n.bias.val]] [] (baseA w) 0 rfl rfl (by show 1 ≤ _; decide) (abs_base w) ?_
    (repeat' ((conv => whnf) <;> first | (show Wp _ _ _ _ _ _ _; refine Wp.go tabOk rfl ?_) | (show @cmpK _ _ _; (first | refine cmpY ?_ | refine cmpN ?_ | (refine cmp_both ?_ ?_ <;> intro _))) | (show wrapK _ _ _; refine wrapA ?_) | (show leK _ _ _; refine leA ?_) | (show roomK _ _ _; refine roomA ?_) | (show ltK _ _ _; refine ltA ?_) | (show _ ∧ _; refine ⟨?_, ?_⟩) | (show keepK _ _ _ _ _; refine keepA ?_) | refine own_keep ?_ | refine ap_old ?_))
    all_goals (conv => whnf)
    all_goals exact fin_of fun ρ w' hw => ⟨nilI, ⟨ht.symm, fun x hx => by simp [nilI] at hx, Nat.le_refl _, Nat.zero_le _⟩, rfl, ext_of_abs hw (fun _ _ h => h), ⟨fun r hr => by simp [nilI, ints] at hr, .inl rfl⟩⟩
  · by_cases h6 : n.kind = 6
    · have ht : takesP n.pl = [n.a, n.b] := by unfold takesP; rw [if_neg (show ¬ (n.pl.kind = 1 ∨ n.pl.kind = 2) from h12), if_pos (show n.pl.kind = 6 from h6)]; rfl
      refine calls_of tab tabOk Try.func54 rfl rfl rfl [] (fun _ => ⟨none, 0⟩) [.agg [.c (.int .i64 n.kind), .c (.int .i64 n.a), .c (.int .i64 n.b), .c n.shape.val, .c (.int .i64 n.lo), .c (.int .i64 n.hi), .c (.int .i64 n.size), .c n.data.val, .c n.bias.val]] [] (baseA w) 0 rfl rfl (by show 1 ≤ _; decide) (abs_base w) ?_
      (repeat' ((conv => whnf) <;> first | (show Wp _ _ _ _ _ _ _; refine Wp.go tabOk rfl ?_) | (show @cmpK _ _ _; (first | refine cmpY ?_ | refine cmpN ?_ | (refine cmp_both ?_ ?_ <;> intro _))) | (show wrapK _ _ _; refine wrapA ?_) | (show leK _ _ _; refine leA ?_) | (show roomK _ _ _; refine roomA ?_) | (show ltK _ _ _; refine ltA ?_) | (show _ ∧ _; refine ⟨?_, ?_⟩) | (show keepK _ _ _ _ _; refine keepA ?_) | refine own_keep ?_ | refine ap_old ?_))
      all_goals (conv => whnf)
      all_goals exact takes_end (l := [n.a, n.b]) (fun _ _ h => h) rfl (by repeat (first | exact List.mem_cons_self | apply List.mem_cons_of_mem)) rfl rfl (fun x hx => by
        simp only [List.mem_cons, List.not_mem_nil, or_false] at hx
        rcases hx with rfl | rfl
        · exact ha
        · exact hb) (show 2 ≤ 1000000 by decide) ht
    · have ht : takesP n.pl = [n.a] := by unfold takesP; rw [if_neg (show ¬ (n.pl.kind = 1 ∨ n.pl.kind = 2) from h12), if_neg (show ¬ n.pl.kind = 6 from h6)]; rfl
      refine calls_of tab tabOk Try.func54 rfl rfl rfl [] (fun _ => ⟨none, 0⟩) [.agg [.c (.int .i64 n.kind), .c (.int .i64 n.a), .c (.int .i64 n.b), .c n.shape.val, .c (.int .i64 n.lo), .c (.int .i64 n.hi), .c (.int .i64 n.size), .c n.data.val, .c n.bias.val]] [] (baseA w) 0 rfl rfl (by show 1 ≤ _; decide) (abs_base w) ?_
      (repeat' ((conv => whnf) <;> first | (show Wp _ _ _ _ _ _ _; refine Wp.go tabOk rfl ?_) | (show @cmpK _ _ _; (first | refine cmpY ?_ | refine cmpN ?_ | (refine cmp_both ?_ ?_ <;> intro _))) | (show wrapK _ _ _; refine wrapA ?_) | (show leK _ _ _; refine leA ?_) | (show roomK _ _ _; refine roomA ?_) | (show ltK _ _ _; refine ltA ?_) | (show _ ∧ _; refine ⟨?_, ?_⟩) | (show keepK _ _ _ _ _; refine keepA ?_) | refine own_keep ?_ | refine ap_old ?_))
      all_goals (conv => whnf)
      all_goals exact takes_end (l := [n.a]) (fun _ _ h => h) rfl (by repeat (first | exact List.mem_cons_self | apply List.mem_cons_of_mem)) rfl rfl (fun x hx => by
        rw [List.mem_singleton.1 hx]
        exact ha) (show 1 ≤ 1000000 by decide) ht
theorem call_takes {cx : Cx} {f : FuncId} {args : List SV} {H : Heap} {S : Asn} {nx : Nat} {K : SV → Heap → Asn → Nat → Prop} (n : NodeV) (hf : ∀ ar w, (callFunc f ar).run cx.P w = .ok (.enter f ar) w)
    (hc : ∀ ρ w', Abs cx.B ρ nx H S w' → Calls cx.P f (SV.rfs ρ args).toArray w' (TakesPost w' n))
    (h : ∀ u : IntsV, u.xs = takesP n.pl → u.sane → K (.c u.val) H (S.and ((intsA u).past cx.B.w0.heap.size)) nx) : callK cx f args H S nx K :=
  call_past hf IntsV.val intsA (fun u => u.xs = takesP n.pl ∧ u.sane) hc (fun u hu => h u hu.1 hu.2)
def boolR (l : List Bool) : List (List Value) := l.map fun b => [.bool b]
theorem boolR_length (l : List Bool) : (boolR l).length = l.length := by simp [boolR]
theorem boolR_get {l : List Bool} {k : Nat} {b : Bool} (h : k < l.length) (hb : l.getD k false = b) : (boolR l)[k]? = some [.bool b] := by
  subst hb
  unfold boolR
  rw [List.getElem?_map, List.getElem?_eq_getElem h, List.getD_eq_getElem?_getD, List.getElem?_eq_getElem h]; rfl
theorem boolR_store {l : List Bool} {k : Nat} {K : List (List Value) → Prop} (hk : k < l.length) (h : K (boolR (l.set k true))) : rowStoreK (boolR l) k 0 [.bool true] K := by
  refine rowStore_of _ (boolR_get hk rfl) (by show 0 + 1 ≤ 1; omega) ?_
  have e : (boolR l).set k (setFrom [.bool (l.getD k false)] 0 [.bool true]) = boolR (l.set k true) := by
    have e2 : setFrom [Value.bool (l.getD k false)] 0 [.bool true] = [Value.bool true] := rfl
    rw [e2]
    unfold boolR
    rw [List.map_set]
  rw [e]; exact h
end Go.Proofs.Ytdmkdogakbipbaa

/- NQ -/
namespace Go.Proofs.Ytdmkdogakbipbaa
open Go.SX Go.RowKit
def CutPost (w : World) (l : List NodeV) (x : List NodeP × List Nat) (out : Nat) (e : Ending) (w' : World) : Prop :=
  ∃ (l' : List NodeV) (base : Option Addr) (cap : Nat), l'.map NodeV.pl = x.1 ∧ From l l' ∧ (∀ n ∈ l', n.saneN) ∧ l'.length ≤ l.length ∧ e = .returned (.agg #[.slice base l'.length cap, .int .i64 (x.2.getD out 0 : Nat)]) ∧ Ext w w' ∧ (rowsA base 9 (nodeRows l')).holds (fun b => w.heap.size ≤ b ∧ b < w'.heap.size) w'
theorem cut_end {B : Base} {i m : Nat} {H : Heap} {S : Asn} {nx : Nat} {w : World} {l l' : List NodeV} {x : List NodeP × List Nat} {out o : Nat} {T : TypeId} (hb : ∀ R w', S.holds R w' → (baseA B.w0).holds R w') (hw0 : B.w0 = w) (he : (i, Ent.rows (nodeRows l') 9 T) ∈ H) (hm : m = l'.length) (h1 : l'.map NodeV.pl = x.1) (h2 : From l l') (h3 : ∀ n ∈ l', n.saneN) (h4 : l'.length ≤ l.length) (ho : o = x.2.getD out 0) : finK B (.agg [.os i m, .c (.int .i64 (o : Nat))]) H S nx (CutPost w l x out) := by
  subst hw0 hm ho
  refine fin_of fun ρ w' hw => ?_
  have hn := new_of_abs hw hb he
  rw [nodeRows_length] at hn
  obtain ⟨base, cap, e1, hD⟩ := newRows_data hn
  rw [nodeRows_length] at e1
  refine ⟨l', base, cap, h1, h2, h3, h4, ?_, ext_of_abs hw hb, hD⟩
  show Ending.returned (.agg #[(SV.os i l'.length).rf ρ, .int .i64 _]) = _
  rw [e1]
theorem call_takesL {cx : Cx} {f : FuncId} {args : List SV} {H : Heap} {S : Asn} {nx : Nat} {K : SV → Heap → Asn → Nat → Prop} (n : NodeV) (k : Nat) {ts : List Int} (hk : ts.length = k) (ht : takesP n.pl = ts) (hf : ∀ ar w, (callFunc f ar).run cx.P w = .ok (.enter f ar) w)
    (hc : ∀ ρ w', Abs cx.B ρ nx H S w' → Calls cx.P f (SV.rfs ρ args).toArray w' (TakesPost w' n))
    (h : ∀ u : IntsV, u.xs = ts → u.xs.length = k → u.sane → K (.c u.val) H (S.and ((intsA u).past cx.B.w0.heap.size)) nx) : callK cx f args H S nx K :=
  call_takes n hf hc (fun u hu hs => h u (hu.trans ht) (by rw [hu, ht]; exact hk) hs)
theorem takes_in {p : NodeP} {k : Nat} (h : AheadP p k) : ∀ t ∈ takesP p, 0 ≤ t ∧ t.toNat < k := by
  intro t ht
  unfold takesP at ht
  split at ht
  · simp at ht
  · rename_i h12
    split at ht
    · rename_i h6
      simp only [List.mem_cons, List.not_mem_nil, or_false] at ht
      rcases ht with rfl | rfl
      · exact ⟨h.a0, h.a1 (by omega) (by omega)⟩
      · exact ⟨h.b0, h.b1 h6⟩
    · simp only [List.mem_singleton] at ht
      subst ht
      exact ⟨h.a0, h.a1 (by omega) (by omega)⟩
theorem takes_few (p : NodeP) : (takesP p).length ≤ 2 := by
  unfold takesP
  split
  · simp
  · split <;> simp
theorem wrap_eq {z y : Int} {K : Int → Prop} (h : K y) (e : z = y) (h1 : -9223372036854775808 ≤ y) (h2 : y ≤ 9223372036854775807) : wrapK .i64 z K := by subst e; exact wrap_i64 h1 h2 h
theorem marks_cons (t : Int) (r : List Int) (nd : List Bool) : marks (t :: r) nd = marks r (nd.set t.toNat true) := rfl
set_option maxRecDepth 20000 in
set_option maxHeartbeats 4000000 in
theorem cut_any (w : World) (rb : Option Addr) (rc : Nat) (l : List NodeV) (hr : RowsI w rb 9 (nodeRows l)) (hs : ∀ n ∈ l, n.saneN) {rsh : List (List Int)} {rsp : List Sp} (hR : RowOk (l.map NodeV.pl) rsh rsp) (h24 : l.length ≤ 24) (out : Nat) (ho : out < l.length) : Calls Try.prog 57 #[.slice rb l.length rc, .int .i64 out] w (CutPost w l (cutL (needB (l.map NodeV.pl) out) (l.map NodeV.pl) 0 ([], [])) out) := by
  have hlr : (l.map NodeV.pl).length = l.length := List.length_map _
  obtain ⟨ra, hra⟩ : ∃ a, rb = some a := base_some (j := out) hr (by rw [nodeRows_length]; omega)
  refine calls_of tab tabOk Try.func57 rfl rfl rfl [] (fun _ => ⟨none, 0⟩) [.c (.slice rb l.length rc), .c (.int .i64 out)] [] (baseA w) 0 rfl rfl (by show 2 ≤ _; decide) (abs_base w) ?_
  (repeat' ((conv => whnf) <;> first | (show makeK _ _ _ _; (refine make_of l.length rfl rfl (by show 1 * l.length ≤ _; omega) (by omega) ?_)) | (show ownK _ ((_, .rows (List.replicate _ [.bool _]) _ _) :: _) _ _ _; refine own_eq (ys := boolR (List.replicate l.length false)) (m := l.length) ?_ (by simp [boolR]) rfl) | (show idxRowK _ _ _ _ _ _; refine idxRow_of out rfl ho (Nat.le_of_eq (by rw [boolR_length, List.length_replicate])) ?_) | (show rowStoreK _ _ _ _ _; (refine boolR_store (by rw [List.length_replicate]; exact ho) ?_)) | (show Wp _ _ _ _ _ _ _; refine Wp.go tabOk rfl ?_) | (show @cmpK _ _ _; (first | refine cmpY ?_ | refine cmpN ?_ | (refine cmp_both ?_ ?_ <;> intro _))) | (show wrapK _ _ _; refine wrapA ?_) | (show leK _ _ _; refine leA ?_) | (show roomK _ _ _; refine roomA ?_) | (show ltK _ _ _; refine ltA ?_) | (show _ ∧ _; refine ⟨?_, ?_⟩) | (show keepK _ _ _ _ _; refine keepA ?_) | refine own_keep ?_ | refine ap_old ?_))
  refine Wp.loop (σ := Nat × List Bool) 2 (fun ⟨i, nd⟩ => [(0, .c (.slice rb l.length rc)), (1, .c (.int .i64 out)), (5, .os 1 l.length), (4, .lp 0 0 0 0), (6, .c (.int .i64 ((i : Int) - 1)))]) (fun ⟨i, nd⟩ => [(1, .rows (boolR nd) 1 4), (0, .box [.c (.slice none 0 0), .c (.int .i64 0)] 26)]) (fun _ => baseA w)
    (fun ⟨i, nd⟩ => i ≤ l.length ∧ nd.length = l.length ∧ sweep (l.map NodeV.pl) i nd = needL (l.map NodeV.pl) out) (fun s => s.1) (l.length, (List.replicate l.length false).set out true) [] (by decide) (fun s => ⟨rfl, rfl⟩)
    ⟨Nat.le_refl _, by simp, by unfold needL; rw [hlr]⟩ ⟨rfl, ⟨rfl, rfl, rfl, rfl, rfl, trivial⟩, ⟨(by repeat (first | exact List.mem_cons_self | apply List.mem_cons_of_mem)), (by repeat (first | exact List.mem_cons_self | apply List.mem_cons_of_mem)), trivial⟩, fun _ _ h => h⟩ ?_
  rintro ⟨i, nd⟩ ⟨hi, hnl, hsw⟩
  have hbl := boolR_length nd
  cases i with
  | succ i =>
    have hlt : i < l.length := by omega
    have hrow := nodeRows_get hlt
    have hnm := hs _ (List.getElem_mem hlt)
    have hir : i < (l.map NodeV.pl).length := by omega
    have hnp : (l.map NodeV.pl).getD i nilP = l[i].pl := keptD hlt
    have hna := hR.ahead (getD_some hir)
    rw [hnp] at hna
    unfold sweep at hsw
    rw [hnp] at hsw
    generalize l[i] = n at *
    have hti := takes_in hna
    have htf := takes_few n.pl
    cases hb : nd.getD i false with
    | false =>
      rw [if_neg (by rw [hb]; decide)] at hsw
      (repeat' ((conv => whnf) <;> first | (show wrapK _ _ _; refine wrap_eq (y := (i : Int) - 1) ?_ (by omega) (by omega) (by omega)) | (show idxRowK _ _ _ _ _ _; refine idxRow_of i (by omega) hlt (by omega) ?_) | (show rowK _ _ _ _; refine row_of _ _ (boolR_get (by omega) hb) rfl ?_) | (show Wp _ _ _ _ _ _ _; refine Wp.go tabOk rfl ?_) | (show @cmpK _ _ _; (first | refine cmpY ?_ | refine cmpN ?_ | (refine cmp_both ?_ ?_ <;> intro _))) | (show wrapK _ _ _; refine wrapA ?_) | (show leK _ _ _; refine leA ?_) | (show roomK _ _ _; refine roomA ?_) | (show ltK _ _ _; refine ltA ?_) | (show _ ∧ _; refine ⟨?_, ?_⟩) | (show keepK _ _ _ _ _; refine keepA ?_) | refine own_keep ?_ | refine ap_old ?_))
      all_goals (conv => whnf)
      all_goals exact ⟨(i, nd), [], ⟨by omega, hnl, hsw⟩, Nat.lt_succ_self i, rfl, ⟨rfl, rfl, rfl, rfl, rfl, trivial⟩, ⟨(by repeat (first | exact List.mem_cons_self | apply List.mem_cons_of_mem)), (by repeat (first | exact List.mem_cons_self | apply List.mem_cons_of_mem)), trivial⟩, fun _ _ h => h⟩
    | true =>
      rw [if_pos hb] at hsw
      (repeat' ((conv => whnf) <;> first | (show idxRowK _ _ _ _ _ _; refine idxRow_of i (by omega) hlt (by omega) ?_) | (show rowK _ _ _ _; refine row_of _ _ (boolR_get (by omega) hb) rfl ?_) | (show idxK _ _ _ _ _; refine idx_of ra i hra (by omega) hlt ?_) | (show roAggK _ _ _ _; (refine roAgg_row (fun R w' h => by rw [← hra]; exact rows_base h hr) _ hrow rfl ?_)) | (show callK _ 54 _ _ _ _ _; refine call_takes n Try.call54 (fun ρ w' hw => takes_any w' n hnm.aFits hnm.bFits) (fun u hu hus => ?_)) | (show Wp _ _ _ _ _ _ _; refine Wp.go tabOk rfl ?_) | (show @cmpK _ _ _; (first | refine cmpY ?_ | refine cmpN ?_ | (refine cmp_both ?_ ?_ <;> intro _))) | (show wrapK _ _ _; refine wrapA ?_) | (show leK _ _ _; refine leA ?_) | (show roomK _ _ _; refine roomA ?_) | (show ltK _ _ _; refine ltA ?_) | (show _ ∧ _; refine ⟨?_, ?_⟩) | (show keepK _ _ _ _ _; refine keepA ?_) | refine own_keep ?_ | refine ap_old ?_))
      have hul : u.xs.length ≤ 2 := by rw [hu]; exact htf
      refine Wp.loop (σ := Nat × List Bool) 2 (fun ⟨j, nd⟩ => [(0, .c (.slice rb l.length rc)), (1, .c (.int .i64 out)), (5, .os 1 l.length), (4, .lp 0 0 0 0), (6, .c (.int .i64 (((i + 1 : Nat) : Int) - 1))), (34, .c u.val), (35, .c (.int .i64 u.xs.length)), (36, .c (.int .i64 j))]) (fun ⟨j, nd⟩ => [(1, .rows (boolR nd) 1 4), (0, .box [.c (.slice none 0 0), .c (.int .i64 0)] 26)]) (fun _ => (baseA w).and ((intsA u).past w.heap.size))
        (fun ⟨j, nd2⟩ => j ≤ u.xs.length ∧ nd2.length = l.length ∧ marks (u.xs.drop j) nd2 = marks u.xs nd) (fun s => u.xs.length - s.1) (0, nd) [] (by decide) (fun s => ⟨rfl, rfl⟩) ⟨Nat.zero_le _, hnl, rfl⟩ ⟨rfl, ⟨rfl, rfl, rfl, rfl, rfl, rfl, rfl, rfl, trivial⟩, ⟨(by repeat (first | exact List.mem_cons_self | apply List.mem_cons_of_mem)), (by repeat (first | exact List.mem_cons_self | apply List.mem_cons_of_mem)), trivial⟩, fun _ _ h => h⟩ ?_
      rintro ⟨j, nd2⟩ ⟨hj, hnl2, hmk⟩
      have hbl2 := boolR_length nd2
      by_cases hlt2 : j < u.xs.length
      · refine Wp.know (p := ∃ a, u.base = some a) (fun ρ w' hw => holds_of_abs hw fun R h => base_some (j := j) (rowsA_in ((intsA u).mono h.2 (fun b hb => hb.1))) (by rw [ints_length]; exact hlt2)) ?_
        rintro ⟨ua, hua⟩
        have ht := hti u.xs[j] (by rw [← hu]; exact List.getElem_mem hlt2)
        have hge := ints_get hlt2
        rw [List.drop_eq_getElem_cons hlt2, marks_cons] at hmk
        generalize u.xs[j] = t at *
        refine Wp.go tabOk rfl ?_
        (repeat' ((conv => whnf) <;> first | (show idxK _ _ _ _ _; refine idx_of ua j hua rfl hlt2 ?_) | (show roK _ _ _; (refine ro_row0 (fun R w' h => by rw [← hua]; exact rowsA_in ((intsA u).mono h.2 (fun b hb => hb.1))) _ _ hge rfl ?_)) | (show idxRowK _ _ _ _ _ _; refine idxRow_of t.toNat (by omega) (by omega) (by omega) ?_) | (show rowStoreK _ _ _ _ _; refine boolR_store (by omega) ?_) | (show Wp _ _ _ _ _ _ _; refine Wp.go tabOk rfl ?_) | (show @cmpK _ _ _; (first | refine cmpY ?_ | refine cmpN ?_ | (refine cmp_both ?_ ?_ <;> intro _))) | (show wrapK _ _ _; refine wrapA ?_) | (show leK _ _ _; refine leA ?_) | (show roomK _ _ _; refine roomA ?_) | (show ltK _ _ _; refine ltA ?_) | (show _ ∧ _; refine ⟨?_, ?_⟩) | (show keepK _ _ _ _ _; refine keepA ?_) | refine own_keep ?_ | refine ap_old ?_))
        all_goals (conv => whnf)
        all_goals exact ⟨(j + 1, nd2.set t.toNat true), [], ⟨hlt2, by rw [List.length_set]; exact hnl2, hmk⟩, by simp only; omega, rfl, ⟨rfl, rfl, rfl, rfl, rfl, rfl, rfl, rfl, trivial⟩, ⟨(by repeat (first | exact List.mem_cons_self | apply List.mem_cons_of_mem)), (by repeat (first | exact List.mem_cons_self | apply List.mem_cons_of_mem)), trivial⟩, fun _ _ h => h⟩
      · rw [List.drop_of_length_le (by omega)] at hmk
        have hmk : nd2 = marks u.xs nd := hmk
        (repeat' ((conv => whnf) <;> first | (show wrapK _ _ _; refine wrap_eq (y := (i : Int) - 1) ?_ (by omega) (by omega) (by omega)) | (show Wp _ _ _ _ _ _ _; refine Wp.go tabOk rfl ?_) | (show @cmpK _ _ _; (first | refine cmpY ?_ | refine cmpN ?_ | (refine cmp_both ?_ ?_ <;> intro _))) | (show wrapK _ _ _; refine wrapA ?_) | (show leK _ _ _; refine leA ?_) | (show roomK _ _ _; refine roomA ?_) | (show ltK _ _ _; refine ltA ?_) | (show _ ∧ _; refine ⟨?_, ?_⟩) | (show keepK _ _ _ _ _; refine keepA ?_) | refine own_keep ?_ | refine ap_old ?_))
        all_goals (conv => whnf)
        all_goals exact ⟨(i, nd2), [], ⟨by omega, hnl2, by rw [hmk, hu]; exact hsw⟩, Nat.lt_succ_self i, rfl, ⟨rfl, rfl, rfl, rfl, rfl, trivial⟩, ⟨(by repeat (first | exact List.mem_cons_self | apply List.mem_cons_of_mem)), (by repeat (first | exact List.mem_cons_self | apply List.mem_cons_of_mem)), trivial⟩, fun _ _ h => h.1⟩
  | zero =>
    have hsw : nd = needL (l.map NodeV.pl) out := hsw
    (repeat' ((conv => whnf) <;> first | (show makeK _ _ _ _; (refine make_of l.length rfl rfl (by show 8 * l.length ≤ _; omega) (by omega) ?_)) | (show Wp _ _ _ _ _ _ _; refine Wp.go tabOk rfl ?_) | (show @cmpK _ _ _; (first | refine cmpY ?_ | refine cmpN ?_ | (refine cmp_both ?_ ?_ <;> intro _))) | (show wrapK _ _ _; refine wrapA ?_) | (show leK _ _ _; refine leA ?_) | (show roomK _ _ _; refine roomA ?_) | (show ltK _ _ _; refine ltA ?_) | (show _ ∧ _; refine ⟨?_, ?_⟩) | (show keepK _ _ _ _ _; refine keepA ?_) | refine own_keep ?_ | refine ap_old ?_))
    have hbl : (boolR nd).length = l.length := by rw [boolR_length]; exact hnl
    generalize hfin : cutL (needB (l.map NodeV.pl) out) (l.map NodeV.pl) 0 ([], []) = fin at *
    have hnd : ∀ j, needB (l.map NodeV.pl) out j = nd.getD j false := fun j => by unfold needB; rw [← hsw]
    refine Wp.loop (σ := Nat × List NodeV × List Nat) 5 (fun ⟨j, acc, p⟩ => [(1, .c (.int .i64 out)), (5, .os 1 l.length), (4, .lp 0 0 0 0), (9, .os 2 l.length), (10, .lp 3 0 0 0), (47, .c (.slice rb l.length rc)), (48, .c (.int .i64 l.length)), (49, .c (.int .i64 j))]) (fun ⟨j, acc, p⟩ => [(4, .rows (nodeRows acc) 9 38), (3, .box [.os 4 acc.length, .c (.int .i64 0)] 26), (2, .rows (ints (stI (gridN l.length p))) 1 3), (1, .rows (boolR nd) 1 4), (0, .box [.c (.slice none 0 0), .c (.int .i64 0)] 26)]) (fun _ => baseA w)
      (fun ⟨j, acc, p⟩ => j ≤ l.length ∧ p.length = j ∧ acc.length ≤ j ∧ (∀ n ∈ acc, n.saneN) ∧ From l acc ∧ cutL (needB (l.map NodeV.pl) out) ((l.map NodeV.pl).drop j) j (acc.map NodeV.pl, p) = fin ∧ ∀ k, p.getD k 0 ≤ 1000000) (fun s => l.length - s.1) (0, [], []) [(4, none)] (by decide) (fun s => ⟨rfl, rfl⟩)
      ⟨Nat.zero_le _, rfl, Nat.zero_le _, fun n hn => by simp at hn, fun n hn => by simp at hn, hfin, fun k => Nat.zero_le _⟩ ⟨rfl, ⟨rfl, rfl, rfl, rfl, rfl, rfl, rfl, rfl, trivial⟩, ⟨rfl, (by repeat (first | exact List.mem_cons_self | apply List.mem_cons_of_mem)), ?_, (by repeat (first | exact List.mem_cons_self | apply List.mem_cons_of_mem)), (by repeat (first | exact List.mem_cons_self | apply List.mem_cons_of_mem)), trivial⟩, fun _ _ h => h⟩ ?_
    · show (2, Ent.rows (ints (stI (gridN l.length []))) 1 3) ∈ _
      rw [gridN_start]
      exact (by repeat (first | exact List.mem_cons_self | apply List.mem_cons_of_mem))
    rintro ⟨j, acc, p⟩ ⟨hj, hpl, hal, hao, hfr, hcut, hple⟩
    have hgl : (ints (stI (gridN l.length p))).length = l.length := by rw [stI_length, gridN_length (by omega)]
    have hgN : (gridN l.length p).length = l.length := gridN_length (by omega)
    by_cases hlt : j < l.length
    · have hrow := nodeRows_get hlt
      have hxm := List.getElem_mem hlt
      have hjr : j < (l.map NodeV.pl).length := by rw [List.length_map]; exact hlt
      have hxr : (l.map NodeV.pl)[j] = l[j].pl := by simp
      have hxa := hR.ahead (List.getElem?_eq_getElem hjr)
      rw [List.drop_eq_getElem_cons hjr] at hcut
      rw [hxr] at hxa hcut
      generalize l[j] = x at *
      have hxs := hs x hxm
      have hkx : x.pl.kind = x.kind := rfl
      rw [cutL_cons, hkx, hnd j] at hcut
      have hxa0 := hxa.a0
      have hxa1 := hxa.a1
      have hxb0 := hxa.b0
      have hxb1 := hxa.b1
      rw [hkx] at hxa1 hxb1
      rw [show x.pl.a = x.a from rfl] at hxa0 hxa1
      rw [show x.pl.b = x.b from rfl] at hxb0 hxb1
      by_cases hin : nd.getD j false = true ∨ x.kind = 1
      · rw [if_pos hin] at hcut
        have hms : ∀ n ∈ acc ++ [movedV (gridN l.length p) x], n.saneN := fun n hn => by
          rcases List.mem_append.1 hn with hn | hn
          · exact hao n hn
          · rw [List.mem_singleton.1 hn]
            exact movedV_sane hxs (gridN_le hple)
        have hmf : From l (acc ++ [movedV (gridN l.length p) x]) := from_snoc hfr hxm
        have hcut2 : cutL (needB (l.map NodeV.pl) out) ((l.map NodeV.pl).drop (j + 1)) (j + 1) ((acc ++ [movedV (gridN l.length p) x]).map NodeV.pl, p ++ [acc.length]) = fin := by
          rw [List.map_append, List.map_cons, List.map_nil, movedV_pl, gridN_moved (by rw [hpl]; exact hxa)]
          simp only [List.length_map] at hcut
          exact hcut
        have hbb : (nd.getD j false = true) ∨ (nd.getD j false = false ∧ x.kind = 1) := by
          cases h : nd.getD j false with
          | true => exact .inl rfl
          | false => exact .inr ⟨rfl, by rw [h] at hin; simpa using hin⟩
        by_cases h12 : x.kind = 1 ∨ x.kind = 2
        · have e : movedV (gridN l.length p) x = x := by unfold movedV movedP; rw [if_pos (show x.pl.kind = 1 ∨ x.pl.kind = 2 from h12)]; rfl
          have ht : takesP x.pl = [] := by unfold takesP; rw [if_pos (show x.pl.kind = 1 ∨ x.pl.kind = 2 from h12)]
          rw [e] at hms hmf hcut2
          rcases hbb with hb | ⟨hb, hk1⟩
          · (repeat' ((conv => whnf) <;> first | (show idxK _ _ _ _ _; refine idx_of ra j hra rfl hlt ?_) | (show roAggK _ _ _ _; (refine roAgg_row (fun R w' h => by rw [← hra]; exact rows_base h hr) _ hrow rfl ?_)) | (show idxRowK _ _ _ _ _ _; (first | refine idxRow_of j rfl hlt (Nat.le_of_eq hbl.symm) ?_ | refine idxRow_of j rfl hlt (Nat.le_of_eq hgl.symm) ?_ | refine idxRow_of x.a.toNat (by omega) (by omega) (Nat.le_of_eq hgl.symm) ?_ | refine idxRow_of x.b.toNat (by omega) (by omega) (Nat.le_of_eq hgl.symm) ?_)) | (show rowK _ _ _ _; (first | refine row_of _ _ (boolR_get (by omega) hb) rfl ?_ | refine row_of _ _ (stI_get (k := x.a.toNat) (by omega)) rfl ?_ | refine row_of _ _ (stI_get (k := x.b.toNat) (by omega)) rfl ?_)) | (show rowStoreK _ _ _ _ _; refine gridN_store hpl hlt ?_) | (show callK _ 54 _ _ _ _ _; refine call_takesL x 0 rfl ht Try.call54 (fun ρ w' hw => takes_any w' x hxs.aFits hxs.bFits) (fun u hu hul hus => ?_)) | (show ownK _ ((_, .rows (List.take acc.length _ ++ _) _ _) :: _) _ _ _; refine own_eq (ys := nodeRows (acc ++ [x])) (m := (acc ++ [x]).length) ?_ (nodes_snoc acc (x)) (by show acc.length + 1 = _; rw [List.length_append]; rfl)) | (show leK _ _ _; (refine le_of (by rw [nodeRows_length]; exact Nat.le_refl _) ?_)) | (show roomK _ _ _; (refine room_of (by show (acc.length + 1) * 120 ≤ 140737488355328; omega) ?_)) | (show Wp _ _ _ _ _ _ _; refine Wp.go tabOk rfl ?_) | (show @cmpK _ _ _; (first | refine cmpY ?_ | refine cmpN ?_ | (refine cmp_both ?_ ?_ <;> intro _))) | (show wrapK _ _ _; refine wrapA ?_) | (show leK _ _ _; refine leA ?_) | (show roomK _ _ _; refine roomA ?_) | (show ltK _ _ _; refine ltA ?_) | (show _ ∧ _; refine ⟨?_, ?_⟩) | (show keepK _ _ _ _ _; refine keepA ?_) | refine own_keep ?_ | refine ap_old ?_))
            all_goals (conv => whnf)
            all_goals exact ⟨(j + 1, acc ++ [x], p ++ [acc.length]), [(4, some 7)], ⟨hlt, by rw [List.length_append, List.length_singleton, hpl], by rw [List.length_append, List.length_singleton]; omega, hms, hmf, hcut2, snoc_le hple (by omega)⟩, by simp only; omega, rfl, ⟨rfl, rfl, rfl, rfl, rfl, rfl, rfl, rfl, trivial⟩, ⟨(by repeat (first | exact List.mem_cons_self | apply List.mem_cons_of_mem)), (by repeat (first | exact List.mem_cons_self | apply List.mem_cons_of_mem)), (by repeat (first | exact List.mem_cons_self | apply List.mem_cons_of_mem)), (by repeat (first | exact List.mem_cons_self | apply List.mem_cons_of_mem)), (by repeat (first | exact List.mem_cons_self | apply List.mem_cons_of_mem)), trivial⟩, fun _ _ h => h.1⟩
          · (repeat' ((conv => whnf) <;> first | (show idxK _ _ _ _ _; refine idx_of ra j hra rfl hlt ?_) | (show roAggK _ _ _ _; (refine roAgg_row (fun R w' h => by rw [← hra]; exact rows_base h hr) _ hrow rfl ?_)) | (show idxRowK _ _ _ _ _ _; (first | refine idxRow_of j rfl hlt (Nat.le_of_eq hbl.symm) ?_ | refine idxRow_of j rfl hlt (Nat.le_of_eq hgl.symm) ?_ | refine idxRow_of x.a.toNat (by omega) (by omega) (Nat.le_of_eq hgl.symm) ?_ | refine idxRow_of x.b.toNat (by omega) (by omega) (Nat.le_of_eq hgl.symm) ?_)) | (show rowK _ _ _ _; (first | refine row_of _ _ (boolR_get (by omega) hb) rfl ?_ | refine row_of _ _ (stI_get (k := x.a.toNat) (by omega)) rfl ?_ | refine row_of _ _ (stI_get (k := x.b.toNat) (by omega)) rfl ?_)) | (show rowStoreK _ _ _ _ _; refine gridN_store hpl hlt ?_) | (show callK _ 54 _ _ _ _ _; refine call_takesL x 0 rfl ht Try.call54 (fun ρ w' hw => takes_any w' x hxs.aFits hxs.bFits) (fun u hu hul hus => ?_)) | (show ownK _ ((_, .rows (List.take acc.length _ ++ _) _ _) :: _) _ _ _; refine own_eq (ys := nodeRows (acc ++ [x])) (m := (acc ++ [x]).length) ?_ (nodes_snoc acc (x)) (by show acc.length + 1 = _; rw [List.length_append]; rfl)) | (show leK _ _ _; (refine le_of (by rw [nodeRows_length]; exact Nat.le_refl _) ?_)) | (show roomK _ _ _; (refine room_of (by show (acc.length + 1) * 120 ≤ 140737488355328; omega) ?_)) | (show Wp _ _ _ _ _ _ _; refine Wp.go tabOk rfl ?_) | (show @cmpK _ _ _; (first | refine cmpY ?_ | refine cmpN ?_ | (refine cmp_both ?_ ?_ <;> intro _))) | (show wrapK _ _ _; refine wrapA ?_) | (show leK _ _ _; refine leA ?_) | (show roomK _ _ _; refine roomA ?_) | (show ltK _ _ _; refine ltA ?_) | (show _ ∧ _; refine ⟨?_, ?_⟩) | (show keepK _ _ _ _ _; refine keepA ?_) | refine own_keep ?_ | refine ap_old ?_))
            all_goals (conv => whnf)
            all_goals exact ⟨(j + 1, acc ++ [x], p ++ [acc.length]), [(4, some 7)], ⟨hlt, by rw [List.length_append, List.length_singleton, hpl], by rw [List.length_append, List.length_singleton]; omega, hms, hmf, hcut2, snoc_le hple (by omega)⟩, by simp only; omega, rfl, ⟨rfl, rfl, rfl, rfl, rfl, rfl, rfl, rfl, trivial⟩, ⟨(by repeat (first | exact List.mem_cons_self | apply List.mem_cons_of_mem)), (by repeat (first | exact List.mem_cons_self | apply List.mem_cons_of_mem)), (by repeat (first | exact List.mem_cons_self | apply List.mem_cons_of_mem)), (by repeat (first | exact List.mem_cons_self | apply List.mem_cons_of_mem)), (by repeat (first | exact List.mem_cons_self | apply List.mem_cons_of_mem)), trivial⟩, fun _ _ h => h.1⟩
        · have hb : nd.getD j false = true := hbb.resolve_right (fun h => h12 (.inl h.2))
          by_cases h6 : x.kind = 6
          · have e : movedV (gridN l.length p) x = atV x ((gridN l.length p).getD x.a.toNat 0) ((gridN l.length p).getD x.b.toNat 0) := by unfold movedV movedP; rw [if_neg (show ¬ (x.pl.kind = 1 ∨ x.pl.kind = 2) from h12), if_pos (show x.pl.kind = 6 from h6)]; rfl
            have ht : takesP x.pl = [x.a, x.b] := by unfold takesP; rw [if_neg (show ¬ (x.pl.kind = 1 ∨ x.pl.kind = 2) from h12), if_pos (show x.pl.kind = 6 from h6)]; rfl
            rw [e] at hms hmf hcut2
            (repeat' ((conv => whnf) <;> first | (show idxK _ _ _ _ _; refine idx_of ra j hra rfl hlt ?_) | (show roAggK _ _ _ _; (refine roAgg_row (fun R w' h => by rw [← hra]; exact rows_base h hr) _ hrow rfl ?_)) | (show idxRowK _ _ _ _ _ _; (first | refine idxRow_of j rfl hlt (Nat.le_of_eq hbl.symm) ?_ | refine idxRow_of j rfl hlt (Nat.le_of_eq hgl.symm) ?_ | refine idxRow_of x.a.toNat (by omega) (by omega) (Nat.le_of_eq hgl.symm) ?_ | refine idxRow_of x.b.toNat (by omega) (by omega) (Nat.le_of_eq hgl.symm) ?_)) | (show rowK _ _ _ _; (first | refine row_of _ _ (boolR_get (by omega) hb) rfl ?_ | refine row_of _ _ (stI_get (k := x.a.toNat) (by omega)) rfl ?_ | refine row_of _ _ (stI_get (k := x.b.toNat) (by omega)) rfl ?_)) | (show rowStoreK _ _ _ _ _; refine gridN_store hpl hlt ?_) | (show callK _ 54 _ _ _ _ _; refine call_takesL x 2 rfl ht Try.call54 (fun ρ w' hw => takes_any w' x hxs.aFits hxs.bFits) (fun u hu hul hus => ?_)) | (show ownK _ ((_, .rows (List.take acc.length _ ++ _) _ _) :: _) _ _ _; refine own_eq (ys := nodeRows (acc ++ [atV x ((gridN l.length p).getD x.a.toNat 0) ((gridN l.length p).getD x.b.toNat 0)])) (m := (acc ++ [atV x ((gridN l.length p).getD x.a.toNat 0) ((gridN l.length p).getD x.b.toNat 0)]).length) ?_ (nodes_snoc acc (atV x ((gridN l.length p).getD x.a.toNat 0) ((gridN l.length p).getD x.b.toNat 0))) (by show acc.length + 1 = _; rw [List.length_append]; rfl)) | (show leK _ _ _; (refine le_of (by rw [nodeRows_length]; exact Nat.le_refl _) ?_)) | (show roomK _ _ _; (refine room_of (by show (acc.length + 1) * 120 ≤ 140737488355328; omega) ?_)) | (show Wp _ _ _ _ _ _ _; refine Wp.go tabOk rfl ?_) | (show @cmpK _ _ _; (first | refine cmpY ?_ | refine cmpN ?_ | (refine cmp_both ?_ ?_ <;> intro _))) | (show wrapK _ _ _; refine wrapA ?_) | (show leK _ _ _; refine leA ?_) | (show roomK _ _ _; refine roomA ?_) | (show ltK _ _ _; refine ltA ?_) | (show _ ∧ _; refine ⟨?_, ?_⟩) | (show keepK _ _ _ _ _; refine keepA ?_) | refine own_keep ?_ | refine ap_old ?_))
            all_goals (conv => whnf)
            all_goals exact ⟨(j + 1, acc ++ [atV x ((gridN l.length p).getD x.a.toNat 0) ((gridN l.length p).getD x.b.toNat 0)], p ++ [acc.length]), [(4, some 7)], ⟨hlt, by rw [List.length_append, List.length_singleton, hpl], by rw [List.length_append, List.length_singleton]; omega, hms, hmf, hcut2, snoc_le hple (by omega)⟩, by simp only; omega, rfl, ⟨rfl, rfl, rfl, rfl, rfl, rfl, rfl, rfl, trivial⟩, ⟨(by repeat (first | exact List.mem_cons_self | apply List.mem_cons_of_mem)), (by repeat (first | exact List.mem_cons_self | apply List.mem_cons_of_mem)), (by repeat (first | exact List.mem_cons_self | apply List.mem_cons_of_mem)), (by repeat (first | exact List.mem_cons_self | apply List.mem_cons_of_mem)), (by repeat (first | exact List.mem_cons_self | apply List.mem_cons_of_mem)), trivial⟩, fun _ _ h => h.1⟩
          · have e : movedV (gridN l.length p) x = atV x ((gridN l.length p).getD x.a.toNat 0) x.b := by unfold movedV movedP; rw [if_neg (show ¬ (x.pl.kind = 1 ∨ x.pl.kind = 2) from h12), if_neg (show ¬ x.pl.kind = 6 from h6)]; rfl
            have ht : takesP x.pl = [x.a] := by unfold takesP; rw [if_neg (show ¬ (x.pl.kind = 1 ∨ x.pl.kind = 2) from h12), if_neg (show ¬ x.pl.kind = 6 from h6)]; rfl
            rw [e] at hms hmf hcut2
            (repeat' ((conv => whnf) <;> first | (show idxK _ _ _ _ _; refine idx_of ra j hra rfl hlt ?_) | (show roAggK _ _ _ _; (refine roAgg_row (fun R w' h => by rw [← hra]; exact rows_base h hr) _ hrow rfl ?_)) | (show idxRowK _ _ _ _ _ _; (first | refine idxRow_of j rfl hlt (Nat.le_of_eq hbl.symm) ?_ | refine idxRow_of j rfl hlt (Nat.le_of_eq hgl.symm) ?_ | refine idxRow_of x.a.toNat (by omega) (by omega) (Nat.le_of_eq hgl.symm) ?_ | refine idxRow_of x.b.toNat (by omega) (by omega) (Nat.le_of_eq hgl.symm) ?_)) | (show rowK _ _ _ _; (first | refine row_of _ _ (boolR_get (by omega) hb) rfl ?_ | refine row_of _ _ (stI_get (k := x.a.toNat) (by omega)) rfl ?_ | refine row_of _ _ (stI_get (k := x.b.toNat) (by omega)) rfl ?_)) | (show rowStoreK _ _ _ _ _; refine gridN_store hpl hlt ?_) | (show callK _ 54 _ _ _ _ _; refine call_takesL x 1 rfl ht Try.call54 (fun ρ w' hw => takes_any w' x hxs.aFits hxs.bFits) (fun u hu hul hus => ?_)) | (show ownK _ ((_, .rows (List.take acc.length _ ++ _) _ _) :: _) _ _ _; refine own_eq (ys := nodeRows (acc ++ [atV x ((gridN l.length p).getD x.a.toNat 0) x.b])) (m := (acc ++ [atV x ((gridN l.length p).getD x.a.toNat 0) x.b]).length) ?_ (nodes_snoc acc (atV x ((gridN l.length p).getD x.a.toNat 0) x.b)) (by show acc.length + 1 = _; rw [List.length_append]; rfl)) | (show leK _ _ _; (refine le_of (by rw [nodeRows_length]; exact Nat.le_refl _) ?_)) | (show roomK _ _ _; (refine room_of (by show (acc.length + 1) * 120 ≤ 140737488355328; omega) ?_)) | (show Wp _ _ _ _ _ _ _; refine Wp.go tabOk rfl ?_) | (show @cmpK _ _ _; (first | refine cmpY ?_ | refine cmpN ?_ | (refine cmp_both ?_ ?_ <;> intro _))) | (show wrapK _ _ _; refine wrapA ?_) | (show leK _ _ _; refine leA ?_) | (show roomK _ _ _; refine roomA ?_) | (show ltK _ _ _; refine ltA ?_) | (show _ ∧ _; refine ⟨?_, ?_⟩) | (show keepK _ _ _ _ _; refine keepA ?_) | refine own_keep ?_ | refine ap_old ?_))
            all_goals (conv => whnf)
            all_goals exact ⟨(j + 1, acc ++ [atV x ((gridN l.length p).getD x.a.toNat 0) x.b], p ++ [acc.length]), [(4, some 7)], ⟨hlt, by rw [List.length_append, List.length_singleton, hpl], by rw [List.length_append, List.length_singleton]; omega, hms, hmf, hcut2, snoc_le hple (by omega)⟩, by simp only; omega, rfl, ⟨rfl, rfl, rfl, rfl, rfl, rfl, rfl, rfl, trivial⟩, ⟨(by repeat (first | exact List.mem_cons_self | apply List.mem_cons_of_mem)), (by repeat (first | exact List.mem_cons_self | apply List.mem_cons_of_mem)), (by repeat (first | exact List.mem_cons_self | apply List.mem_cons_of_mem)), (by repeat (first | exact List.mem_cons_self | apply List.mem_cons_of_mem)), (by repeat (first | exact List.mem_cons_self | apply List.mem_cons_of_mem)), trivial⟩, fun _ _ h => h.1⟩
      · rw [if_neg hin] at hcut
        have hb : nd.getD j false = false := by simpa using fun h => hin (.inl h)
        have hk1 : ¬ x.kind = 1 := fun h => hin (.inr h)
        (repeat' ((conv => whnf) <;> first | (show idxK _ _ _ _ _; refine idx_of ra j hra rfl hlt ?_) | (show roAggK _ _ _ _; (refine roAgg_row (fun R w' h => by rw [← hra]; exact rows_base h hr) _ hrow rfl ?_)) | (show idxRowK _ _ _ _ _ _; (first | refine idxRow_of j rfl hlt (Nat.le_of_eq hbl.symm) ?_ | refine idxRow_of j rfl hlt (Nat.le_of_eq hgl.symm) ?_ | refine idxRow_of x.a.toNat (by omega) (by omega) (Nat.le_of_eq hgl.symm) ?_ | refine idxRow_of x.b.toNat (by omega) (by omega) (Nat.le_of_eq hgl.symm) ?_)) | (show rowK _ _ _ _; refine row_of _ _ (boolR_get (by omega) hb) rfl ?_) | (show Wp _ _ _ _ _ _ _; refine Wp.go tabOk rfl ?_) | (show @cmpK _ _ _; (first | refine cmpY ?_ | refine cmpN ?_ | (refine cmp_both ?_ ?_ <;> intro _))) | (show wrapK _ _ _; refine wrapA ?_) | (show leK _ _ _; refine leA ?_) | (show roomK _ _ _; refine roomA ?_) | (show ltK _ _ _; refine ltA ?_) | (show _ ∧ _; refine ⟨?_, ?_⟩) | (show keepK _ _ _ _ _; refine keepA ?_) | refine own_keep ?_ | refine ap_old ?_))
        all_goals (conv => whnf)
        all_goals exact ⟨(j + 1, acc, p ++ [0]), [(4, some 4)], ⟨hlt, by rw [List.length_append, List.length_singleton, hpl], by omega, hao, hfr, hcut, snoc_le hple (Nat.zero_le _)⟩, by simp only; omega, rfl, ⟨rfl, rfl, rfl, rfl, rfl, rfl, rfl, rfl, trivial⟩, ⟨(by repeat (first | exact List.mem_cons_self | apply List.mem_cons_of_mem)), (by repeat (first | exact List.mem_cons_self | apply List.mem_cons_of_mem)), gridN_here (by omega) (by repeat (first | exact List.mem_cons_self | apply List.mem_cons_of_mem)), (by repeat (first | exact List.mem_cons_self | apply List.mem_cons_of_mem)), (by repeat (first | exact List.mem_cons_self | apply List.mem_cons_of_mem)), trivial⟩, fun _ _ h => h⟩
    · obtain rfl : j = l.length := by omega
      rw [List.drop_of_length_le (by omega)] at hcut
      have hcut : (acc.map NodeV.pl, p) = fin := hcut
      have hgp : gridN l.length p = p := by unfold gridN; rw [hpl, Nat.sub_self]; simp
      have hop : (ints (stI (gridN l.length p)))[out]? = some [.int .i64 (p.getD out 0)] := by rw [hgp]; exact stI_get (by omega)
      (repeat' ((conv => whnf) <;> first | (show idxRowK _ _ _ _ _ _; refine idxRow_of out rfl ho (Nat.le_of_eq hgl.symm) ?_) | (show rowK _ _ _ _; refine row_of _ _ hop rfl ?_) | (show Wp _ _ _ _ _ _ _; refine Wp.go tabOk rfl ?_) | (show @cmpK _ _ _; (first | refine cmpY ?_ | refine cmpN ?_ | (refine cmp_both ?_ ?_ <;> intro _))) | (show wrapK _ _ _; refine wrapA ?_) | (show leK _ _ _; refine leA ?_) | (show roomK _ _ _; refine roomA ?_) | (show ltK _ _ _; refine ltA ?_) | (show _ ∧ _; refine ⟨?_, ?_⟩) | (show keepK _ _ _ _ _; refine keepA ?_) | refine own_keep ?_ | refine ap_old ?_))
      all_goals (conv => whnf)
      all_goals exact cut_end (o := p.getD out 0) (fun _ _ h => h) rfl (by repeat (first | exact List.mem_cons_self | apply List.mem_cons_of_mem)) rfl (by rw [← hcut]) hfr hao hal (by rw [← hcut])
end Go.Proofs.Ytdmkdogakbipbaa

/- JE -/
namespace Go.Proofs.Ytdmkdogakbipbaa
open Go.SX Go.RowKit
def sumG (g : Nat → Int → Int) : Nat → List Int → Int
  | _, [] => 0
  | i, w :: r => g i w + sumG g (i + 1) r
def sumT (g : Nat → Int → Int) : List Sp → Int
  | [] => 0
  | t :: r => g t.2.toNat t.1 + sumT g r
def setT (r : List Int) (t : Sp) : List Int := r.set t.2.toNat t.1
theorem sumG_append (g : Nat → Int → Int) : ∀ (a b : List Int) (i : Nat), sumG g i (a ++ b) = sumG g i a + sumG g (i + a.length) b
  | [], b, i => by simp [sumG]
  | x :: r, b, i => by
    rw [List.cons_append, sumG, sumG, sumG_append g r b (i + 1), List.length_cons, show i + 1 + r.length = i + (r.length + 1) by omega]
    omega
theorem sumG_snoc (g : Nat → Int → Int) {l : List Int} {j : Nat} (h : j < l.length) : sumG g 0 (l.take (j + 1)) = sumG g 0 (l.take j) + g j (l.getD j 0) := by
  rw [List.take_succ_eq_append_getElem h, sumG_append, List.length_take, Nat.min_eq_left (Nat.le_of_lt h)]
  have : l.getD j 0 = l[j] := by rw [List.getD_eq_getElem?_getD, List.getElem?_eq_getElem h]; rfl
  rw [this]
  simp [sumG]
theorem sumG_set (g : Nat → Int → Int) {v : Int} : ∀ {r : List Int} {i j : Nat}, j < r.length → r.getD j 0 = 0 → g (i + j) 0 = 0 → sumG g i (r.set j v) = sumG g i r + g (i + j) v
  | [], i, j, h, _, _ => by simp at h
  | x :: r, i, 0, _, h0, hg => by
    have hx : x = 0 := by simpa using h0
    subst hx
    rw [List.set_cons_zero, sumG, sumG]
    simp only [Nat.add_zero] at hg ⊢
    omega
  | x :: r, i, j + 1, h, h0, hg => by
    rw [List.set_cons_succ, sumG, sumG, sumG_set g (i := i + 1) (by simpa using h) (by simpa using h0) (by rw [show i + 1 + j = i + (j + 1) by omega]; exact hg), show i + 1 + j = i + (j + 1) by omega]
    omega
theorem sumG_zero (g : Nat → Int → Int) (hg : ∀ k, g k 0 = 0) : ∀ (n i : Nat), sumG g i (List.replicate n 0) = 0
  | 0, i => rfl
  | n + 1, i => by rw [List.replicate_succ, sumG, hg, sumG_zero g hg n (i + 1)]; rfl
theorem setT_length (r : List Int) (t : Sp) : (setT r t).length = r.length := by simp [setT]
theorem setsT_length : ∀ (T : List Sp) (r : List Int), (T.foldl setT r).length = r.length
  | [], r => rfl
  | t :: T, r => by rw [List.foldl_cons, setsT_length T, setT_length]
theorem sumG_terms (g : Nat → Int → Int) (hg : ∀ k, g k 0 = 0) : ∀ {T : List Sp} {r : List Int}, (∀ t ∈ T, (0 ≤ t.2 ∧ t.2 < r.length) ∧ r.getD t.2.toNat 0 = 0) → T.Pairwise (fun x y => x.2 ≠ y.2) → sumG g 0 (T.foldl setT r) = sumG g 0 r + sumT g T
  | [], r, _, _ => by simp [sumT]
  | t :: T, r, h, hp => by
    obtain ⟨hp1, hp2⟩ := List.pairwise_cons.1 hp
    obtain ⟨⟨h1, h2⟩, h3⟩ := h t List.mem_cons_self
    rw [List.foldl_cons, sumG_terms g hg (T := T) (r := setT r t) (fun u hu => ?_) hp2]
    · have e : sumG g 0 (setT r t) = sumG g 0 r + g t.2.toNat t.1 := by
        have := sumG_set g (v := t.1) (r := r) (i := 0) (j := t.2.toNat) (by omega) h3 (hg _)
        rw [Nat.zero_add] at this
        exact this
      rw [e, sumT]; omega
    · obtain ⟨g1, g2⟩ := h u (List.mem_cons_of_mem _ hu)
      refine ⟨by rw [setT_length]; exact g1, ?_⟩
      have hne := hp1 u hu
      unfold setT
      rw [List.getD_eq_getElem?_getD, List.getElem?_set_ne (by omega), ← List.getD_eq_getElem?_getD]
      exact g2
def gLo (a : Sp) (_ : Nat) (w : Int) : Int := min (w * a.1) (w * a.2)
def gHi (a : Sp) (_ : Nat) (w : Int) : Int := max (w * a.1) (w * a.2)
def gNum (av : List Int) (i : Nat) (w : Int) : Int := w * av.getD i 0
theorem gLo_zero (a : Sp) (k : Nat) : gLo a k 0 = 0 := by unfold gLo; omega
theorem gHi_zero (a : Sp) (k : Nat) : gHi a k 0 = 0 := by unfold gHi; omega
theorem gNum_zero (av : List Int) (k : Nat) : gNum av k 0 = 0 := by unfold gNum; omega
theorem foldl_lo (a : Sp) : ∀ (T : List Sp) (s : Int), T.foldl (fLo a) s = s + sumT (gLo a) T
  | [], s => by simp [sumT]
  | t :: T, s => by
    rw [List.foldl_cons, foldl_lo a T, sumT]
    have e1 : fLo a s t = s + min (t.1 * a.1) (t.1 * a.2) := rfl
    have e2 : gLo a t.2.toNat t.1 = min (t.1 * a.1) (t.1 * a.2) := rfl
    omega
theorem foldl_hi (a : Sp) : ∀ (T : List Sp) (s : Int), T.foldl (fHi a) s = s + sumT (gHi a) T
  | [], s => by simp [sumT]
  | t :: T, s => by
    rw [List.foldl_cons, foldl_hi a T, sumT]
    have e1 : fHi a s t = s + max (t.1 * a.1) (t.1 * a.2) := rfl
    have e2 : gHi a t.2.toNat t.1 = max (t.1 * a.1) (t.1 * a.2) := rfl
    omega
theorem foldl_num (av : List Int) : ∀ (T : List Sp) (s : Int), T.foldl (fNum av) s = s + sumT (gNum av) T
  | [], s => by simp [sumT]
  | t :: T, s => by
    rw [List.foldl_cons, foldl_num av T, sumT]
    have e1 : fNum av s t = s + t.1 * av.getD t.2.toNat 0 := rfl
    have e2 : gNum av t.2.toNat t.1 = t.1 * av.getD t.2.toNat 0 := rfl
    omega
theorem mul_add_inj {A B x y m : Int} (hx : 0 ≤ x ∧ x < m) (hy : 0 ≤ y ∧ y < m) (h : A * m + x = B * m + y) : A = B ∧ x = y := by
  have hm : 0 < m := by omega
  have e1 : (A * m + x) / m = A := by rw [Int.add_comm, Int.add_mul_ediv_right _ _ (by omega), Int.ediv_eq_zero_of_lt hx.1 hx.2]; omega
  have e2 : (B * m + y) / m = B := by rw [Int.add_comm, Int.add_mul_ediv_right _ _ (by omega), Int.ediv_eq_zero_of_lt hy.1 hy.2]; omega
  have : A = B := by rw [← e1, ← e2, h]
  subst this
  exact ⟨rfl, by omega⟩
theorem div_mod_inj {i j m : Int} (_hm : 0 < m) (h1 : i / m = j / m) (h2 : i % m = j % m) : i = j := by
  have q1 := Int.mul_ediv_add_emod i m
  have q2 := Int.mul_ediv_add_emod j m
  rw [h1, h2] at q1
  omega
theorem conv_inj {d : List Int} {k1 k2 k3 i1 i2 o : Int} {i j : Nat} (h2 : 1 ≤ k2 ∧ k2 ≤ i1) (h3 : 1 ≤ k3 ∧ k3 ≤ i2) (ho : 0 ≤ o) (h : (convTerm d k1 k2 k3 i1 i2 o i).2 = (convTerm d k1 k2 k3 i1 i2 o j).2) : i = j := by
  have hW : 0 < i2 - k3 + 1 := by omega
  have hH : 0 < i1 - k2 + 1 := by omega
  obtain ⟨d1, d2, d3, d4⟩ := div_bd ho hW
  obtain ⟨d5, d6, d7, d8⟩ := div_bd d1 hH
  have c3 := Int.emod_nonneg (i : Int) (show k3 ≠ 0 by omega)
  have c4 := Int.emod_lt_of_pos (i : Int) (show 0 < k3 by omega)
  have e3 := Int.emod_nonneg (j : Int) (show k3 ≠ 0 by omega)
  have e4 := Int.emod_lt_of_pos (j : Int) (show 0 < k3 by omega)
  have c7 := Int.emod_nonneg ((i : Int) / k3) (show k2 ≠ 0 by omega)
  have c8 := Int.emod_lt_of_pos ((i : Int) / k3) (show 0 < k2 by omega)
  have e7 := Int.emod_nonneg ((j : Int) / k3) (show k2 ≠ 0 by omega)
  have e8 := Int.emod_lt_of_pos ((j : Int) / k3) (show 0 < k2 by omega)
  have h' : ((i : Int) / k3 / k2 * i1 + o / (i2 - k3 + 1) % (i1 - k2 + 1) + (i : Int) / k3 % k2) * i2 + o % (i2 - k3 + 1) + (i : Int) % k3 = ((j : Int) / k3 / k2 * i1 + o / (i2 - k3 + 1) % (i1 - k2 + 1) + (j : Int) / k3 % k2) * i2 + o % (i2 - k3 + 1) + (j : Int) % k3 := h
  rw [Int.add_assoc, Int.add_assoc _ _ ((j : Int) % k3)] at h'
  obtain ⟨q1, q2⟩ := mul_add_inj ⟨by omega, by omega⟩ ⟨by omega, by omega⟩ h'
  rw [Int.add_assoc, Int.add_assoc _ _ ((j : Int) / k3 % k2)] at q1
  obtain ⟨q3, q4⟩ := mul_add_inj ⟨by omega, by omega⟩ ⟨by omega, by omega⟩ q1
  have q5 := div_mod_inj (by omega) q3 (show (i : Int) / k3 % k2 = (j : Int) / k3 % k2 by omega)
  have q6 := div_mod_inj (by omega) q5 (show (i : Int) % k3 = (j : Int) % k3 by omega)
  omega
theorem pool_inj {z i1 i2 o : Int} {i j : Nat} (hz : 1 ≤ z) (h1 : z ≤ i1) (h2 : z ≤ i2) (m1 : i1 % z = 0) (m2 : i2 % z = 0) (ho : 0 ≤ o) (hi : (i : Int) < z * z) (hj : (j : Int) < z * z) (h : (poolTerm z i1 i2 o i).2 = (poolTerm z i1 i2 o j).2) : i = j := by
  have hW := div_pos1 (x := i2) (y := z) (by omega) h2
  have hH := div_pos1 (x := i1) (y := z) (by omega) h1
  have q1 := Int.mul_ediv_add_emod i1 z
  have q2 := Int.mul_ediv_add_emod i2 z
  obtain ⟨d1, d2, d3, d4⟩ := div_bd (x := o) (y := i2 / z) ho (by omega)
  obtain ⟨d5, d6, d7, d8⟩ := div_bd (x := o / (i2 / z)) (y := i1 / z) d1 (by omega)
  obtain ⟨c1, c2, c3, c4⟩ := div_bd (x := (i : Int)) (y := z) (by omega) (by omega)
  obtain ⟨e1, e2, e3, e4⟩ := div_bd (x := (j : Int)) (y := z) (by omega) (by omega)
  have hdy : (i : Int) / z < z := Int.ediv_lt_of_lt_mul (by omega) hi
  have hdj : (j : Int) / z < z := Int.ediv_lt_of_lt_mul (by omega) hj
  have h' : (o / (i2 / z) / (i1 / z) * i1 + o / (i2 / z) % (i1 / z) * z + (i : Int) / z) * i2 + o % (i2 / z) * z + (i : Int) % z = (o / (i2 / z) / (i1 / z) * i1 + o / (i2 / z) % (i1 / z) * z + (j : Int) / z) * i2 + o % (i2 / z) * z + (j : Int) % z := h
  have y0 : 0 ≤ o / (i2 / z) % (i1 / z) * z := Int.mul_nonneg d7 (by omega)
  have x0 : 0 ≤ o % (i2 / z) * z := Int.mul_nonneg d3 (by omega)
  have y1 : o / (i2 / z) % (i1 / z) * z ≤ (i1 / z - 1) * z := Int.mul_le_mul_of_nonneg_right (by omega) (by omega)
  have x1 : o % (i2 / z) * z ≤ (i2 / z - 1) * z := Int.mul_le_mul_of_nonneg_right (by omega) (by omega)
  have y2 : (i1 / z - 1) * z = z * (i1 / z) - z := by rw [Int.sub_mul, Int.one_mul, Int.mul_comm]
  have x2 : (i2 / z - 1) * z = z * (i2 / z) - z := by rw [Int.sub_mul, Int.one_mul, Int.mul_comm]
  rw [Int.add_assoc, Int.add_assoc _ _ ((j : Int) % z)] at h'
  obtain ⟨g1, g2⟩ := mul_add_inj ⟨by omega, by omega⟩ ⟨by omega, by omega⟩ h'
  have q6 := div_mod_inj (by omega) (show (i : Int) / z = (j : Int) / z by omega) (show (i : Int) % z = (j : Int) % z by omega)
  omega
end Go.Proofs.Ytdmkdogakbipbaa

/- JF -/
namespace Go.Proofs.Ytdmkdogakbipbaa
open Go.SX Go.RowKit
def matRow (n : NodeV) (tl : List Int) (o : Nat) : List Int :=
  if n.kind = 3 then (n.data.xs.drop (o * (entries tl).toNat)).take (entries tl).toNat else (termsG n tl o).foldl setT (List.replicate (entries tl).toNat 0)
def matRows (n : NodeV) (tl : List Int) (cnt : Nat) : List (List Int) := (List.range cnt).map (matRow n tl)
def matBias (n : NodeV) (cnt : Nat) : List Int := (List.range cnt).map (biasI n cnt)
theorem pairwise_map_range {f : Nat → Sp} {m : Nat} (h : ∀ i j, i < m → j < m → (f i).2 = (f j).2 → i = j) : ((List.range m).map f).Pairwise (fun x y => x.2 ≠ y.2) := by
  rw [List.pairwise_map]
  refine List.Pairwise.imp_of_mem ?_ (List.pairwise_lt_range (n := m))
  intro i j hi hj hlt e
  have := h i j (List.mem_range.1 hi) (List.mem_range.1 hj) e
  omega
/-- a node's sizes, of the kind of a convolution -/
structure ConvIn (n : NodeV) (t : List Int) : Prop where
  k2 : 1 ≤ n.shape.xs.getD 2 0 ∧ n.shape.xs.getD 2 0 ≤ t.getD 1 0
  k3 : 1 ≤ n.shape.xs.getD 3 0 ∧ n.shape.xs.getD 3 0 ≤ t.getD 2 0
theorem conv_in {n : NodeV} {sh : List (List Int)} {s t : List Int} {cnt : Nat} (h : PlaceIn n sh s t cnt) (hk : n.kind = 4) : ConvIn n t := by
  have hsh := h.node.shape
  have hker := (formed_of h.node.form).kern hk
  obtain ⟨hl4, hdim⟩ := kernel_dims hker
  have dm2 := hdim _ (getD_mem (xs := n.shape.xs) (k := 2) (by omega))
  have dm3 := hdim _ (getD_mem (xs := n.shape.xs) (k := 3) (by omega))
  unfold shapeO at hsh
  rw [if_neg (by omega), if_neg (by omega), if_pos hk, (h.first (.inr (.inl hk))).1] at hsh
  split at hsh
  · cases hsh
  · exact ⟨by omega, by omega⟩
structure PoolIn (n : NodeV) (t : List Int) : Prop where
  z : 1 ≤ n.size
  z1 : n.size ≤ t.getD 1 0
  z2 : n.size ≤ t.getD 2 0
  m1 : t.getD 1 0 % n.size = 0
  m2 : t.getD 2 0 % n.size = 0
theorem pool_in {n : NodeV} {sh : List (List Int)} {s t : List Int} {cnt : Nat} (h : PlaceIn n sh s t cnt) (hk : n.kind = 5) : PoolIn n t := by
  have hsh := h.node.shape
  have hz := (formed_of h.node.form).pool hk
  obtain ⟨hf, hg⟩ := h.first (.inr (.inr hk))
  unfold shapeO at hsh
  rw [if_neg (by omega), if_neg (by omega), if_neg (by omega), if_pos hk, hf] at hsh
  split at hsh
  · cases hsh
  · rename_i hbad
    have tdm := (entries_dims hg).2.2
    have td1 := tdm _ (getD_mem (xs := t) (k := 1) (by omega))
    have td2 := tdm _ (getD_mem (xs := t) (k := 2) (by omega))
    have m1 : t.getD 1 0 % n.size = 0 := by omega
    have m2 : t.getD 2 0 % n.size = 0 := by omega
    refine ⟨by omega, ?_, ?_, m1, m2⟩
    · rcases (by omega : t.getD 1 0 < n.size ∨ n.size ≤ t.getD 1 0) with hlt | hge
      · rw [Int.emod_eq_of_lt (by omega) hlt] at m1; omega
      · exact hge
    · rcases (by omega : t.getD 2 0 < n.size ∨ n.size ≤ t.getD 2 0) with hlt | hge
      · rw [Int.emod_eq_of_lt (by omega) hlt] at m2; omega
      · exact hge
theorem terms_pw {n : NodeV} {sh : List (List Int)} {s t : List Int} {cnt : Nat} (h : PlaceIn n sh s t cnt) (hl : isLin n) (hk3 : n.kind ≠ 3) (o : Nat) : (termsG n t o).Pairwise (fun x y => x.2 ≠ y.2) := by
  rcases hl with hk | hk | hk
  · exact absurd hk hk3
  · have c := conv_in h hk
    have hG : termsG n t o = convT n.data.xs (n.shape.xs.getD 1 0) (n.shape.xs.getD 2 0) (n.shape.xs.getD 3 0) (t.getD 1 0) (t.getD 2 0) o := by unfold termsG; rw [if_neg (by omega), if_pos hk]
    rw [hG]
    exact pairwise_map_range fun i j _ _ e => conv_inj c.k2 c.k3 (by omega) e
  · have c := pool_in h hk
    have hG : termsG n t o = poolT n.size (t.getD 1 0) (t.getD 2 0) o := by unfold termsG; rw [if_neg (by omega), if_neg (by omega)]
    rw [hG]
    exact pairwise_map_range fun i j hi hj e => pool_inj c.z c.z1 c.z2 c.m1 c.m2 (by omega) (by omega) (by omega) e
theorem sumT_range (g : Nat → Int → Int) (f : Nat → Int) : ∀ (m i : Nat), sumT g ((List.range' i m).map fun k => (f k, (k : Int))) = sumG g i ((List.range' i m).map f)
  | 0, i => rfl
  | m + 1, i => by
    rw [List.range'_succ, List.map_cons, List.map_cons, sumT, sumG, sumT_range g f m (i + 1)]
    simp
theorem mat_sum {n : NodeV} {sh : List (List Int)} {s t : List Int} {cnt : Nat} (h : PlaceIn n sh s t cnt) (hl : isLin n) {o : Nat} (ho : o < cnt) (g : Nat → Int → Int) (hg : ∀ k, g k 0 = 0) : sumG g 0 (matRow n t o) = sumT g (termsG n t o) := by
  obtain ⟨F, P0, hL⟩ := PlaceIn.lin (t := ⟨none, 0, t⟩) h hl
  by_cases hk : n.kind = 3
  · have hG : termsG n t o = denseT n o (entries t).toNat := by unfold termsG; rw [if_pos hk]
    have hR : matRow n t o = (n.data.xs.drop (o * (entries t).toNat)).take (entries t).toNat := if_pos hk
    rw [hG, hR]
    unfold denseT
    have hsh := h.node.shape
    have hc := h.cnt
    obtain ⟨hf, hgp⟩ := h.first hl
    obtain ⟨b1, b2⟩ := (formed_of h.node.form).bias hk
    unfold shapeO at hsh
    rw [if_neg (by omega), if_pos hk, hf] at hsh
    split at hsh
    · rename_i hdl
      rw [Option.some.injEq] at hsh
      have he1 : entries [(n.bias.xs.length : Int)] = n.bias.xs.length := by
        unfold entries
        rw [if_neg (by simp)]
        simp only [entLoop]
        rw [if_neg (by omega)]
        omega
      rw [← hsh, he1] at hc
      obtain ⟨size, hsz⟩ : ∃ size : Nat, entries t = size := ⟨(entries t).toNat, by omega⟩
      have hdl' : n.data.xs.length = n.bias.xs.length * size := by
        rw [hsz, ← Int.natCast_mul] at hdl
        exact Int.ofNat.inj hdl
      rw [hsz, Int.toNat_natCast]
      have hle : o * size + size ≤ n.data.xs.length := by
        have : (o + 1) * size ≤ n.bias.xs.length * size := Nat.mul_le_mul_right _ (by omega)
        rw [Nat.add_mul, Nat.one_mul] at this
        omega
      have e := sumT_range g (fun i => n.data.xs.getD (o * size + i) 0) size 0
      rw [← List.range_eq_range'] at e
      rw [e]
      congr 1
      apply List.ext_getElem
      · simp; omega
      · intro i h1 h2
        rw [List.getElem_take, List.getElem_drop, List.getElem_map, List.getElem_range, List.getD_eq_getElem?_getD, List.getElem?_eq_getElem]
        rfl
    · cases hsh
  · have hR : matRow n t o = (termsG n t o).foldl setT (List.replicate (entries t).toNat 0) := if_neg hk
    rw [hR, sumG_terms g hg (fun u hu => ?_) (terms_pw h hl hk o), sumG_zero g hg]
    · omega
    · have : 0 ≤ u.2 ∧ u.2 < entries t := hL.at_ o ho u hu
      rw [List.length_replicate]
      refine ⟨by omega, ?_⟩
      rw [List.getD_eq_getElem?_getD, List.getElem?_replicate]
      split <;> rfl
end Go.Proofs.Ytdmkdogakbipbaa

/- JG -/
namespace Go.Proofs.Ytdmkdogakbipbaa
open Go.SX Go.RowKit
theorem newSlicesM {w w' : World} {v : Value} {l : List IntsV} {T : TypeId} (h : NewRows w w' v 1 T (shRows l)) : ∃ base cap, v = .slice base l.length cap ∧ l.length ≤ cap ∧ (rowsA base 1 (shRows l)).holds (fun b => w.heap.size ≤ b ∧ b < w'.heap.size) w' := by
  obtain ⟨base, cap, e, h1⟩ := newRows_data h
  obtain ⟨lc, e2, F, hF, hr, hcap, _⟩ := h
  rw [e2] at e
  simp only [Value.slice.injEq] at e
  obtain ⟨e3, _, e4⟩ := e
  refine ⟨base, cap, ?_, ?_, h1⟩
  · rw [e2, e3, e4, shRows_length]
  · rw [← e4]; simpa [shRows_length] using hcap
/-- what Matrix hands back -/
structure MatV where
  rows : ShapesV
  bias : IntsV
  own : Bool
def MatV.val (x : MatV) : Value := .tuple #[x.rows.val, x.bias.val]
def matD (x : MatV) : Asn where
  holds R w := (rowsA x.rows.base 1 (shRows x.rows.l)).holds R w ∧ (x.own = true → (∀ u ∈ x.rows.l, (intsA u).holds R w) ∧ (intsA x.bias).holds R w)
  stable := fun hR hw h => ⟨(rowsA _ _ _).stable hR hw h.1, fun e => ⟨fun u hu => (intsA u).stable hR hw ((h.2 e).1 u hu), (intsA _).stable hR hw (h.2 e).2⟩⟩
structure MatIs (n : NodeV) (tl : List Int) (cnt : Nat) (x : MatV) : Prop where
  rows : x.rows.l.map IntsV.xs = matRows n tl cnt
  bias : x.bias.xs = matBias n cnt
  sane : ∀ u ∈ x.rows.l, u.sane
  biasSane : x.bias.sane
  old : x.own = false → x.bias = n.bias ∧ ∀ w, n.data.ok w → ∀ u ∈ x.rows.l, u.ok w
def MatPost (w : World) (n : NodeV) (tl : List Int) (cnt : Nat) (e : Ending) (w' : World) : Prop :=
  ∃ x, MatIs n tl cnt x ∧ e = .returned x.val ∧ Ext w w' ∧ (matD x).holds (fun b => w.heap.size ≤ b ∧ b < w'.heap.size) w'
def cutU (u : IntsV) (a : Addr) (size o : Nat) : IntsV := ⟨some (a.add (o * size)), u.cap - o * size, (u.xs.drop (o * size)).take size⟩
theorem slice_cut {base : Option Addr} {a : Addr} {len cap lo hi : Nat} {z1 z2 : Int} {K : SV → Prop} (hb : base = some a) (h1 : z1 = lo) (h2 : z2 = hi) (h3 : lo < hi) (h4 : hi ≤ len) (h5 : len ≤ cap) (h : K (.c (.slice (some (a.add lo)) (hi - lo) (cap - lo)))) : sliceK base len cap 1 (some z1) (some z2) none K := by
  subst hb
  rw [sliceK_def]
  refine ⟨lo, hi, cap, h1, h2, rfl, by omega, by omega, by omega, fun h => (by cases h), ?_⟩
  rw [if_neg (by omega)]
  simpa using h
theorem rowsI_cut {w : World} {a : Addr} {xs : List (List Value)} (lo m : Nat) (h : RowsI w (some a) 1 xs) : RowsI w (some (a.add lo)) 1 ((xs.drop lo).take m) := by
  rcases h with h | ⟨a', ha, h⟩
  · subst h; exact .inl (by simp)
  · obtain rfl : a = a' := by simpa using ha
    refine .inr ⟨_, rfl, fun i r hr j v hj => ?_⟩
    rw [List.getElem?_take] at hr
    split at hr
    · rw [List.getElem?_drop] at hr
      have := h (lo + i) r hr j v hj
      rw [add_add, show lo + (i * 1 + j) = (lo + i) * 1 + j by omega]
      exact this
    · cases hr
theorem cutU_ok {w : World} {u : IntsV} {a : Addr} (size o : Nat) (hu : u.ok w) (ha : u.base = some a) (hl : o * size + size ≤ u.xs.length) : (cutU u a size o).ok w := by
  have hr := hu.rows
  rw [ha] at hr
  refine ⟨?_, fun x hx => hu.fits x (List.mem_of_mem_drop (List.mem_of_mem_take hx)), ?_, ?_⟩
  · show RowsI w (some (a.add (o * size))) 1 (ints ((u.xs.drop (o * size)).take size))
    have e : ints ((u.xs.drop (o * size)).take size) = ((ints u.xs).drop (o * size)).take size := by simp [ints, List.map_drop, List.map_take]
    rw [e]
    exact rowsI_cut _ _ hr
  · show ((u.xs.drop (o * size)).take size).length ≤ u.cap - o * size
    have := hu.room
    simp only [List.length_take, List.length_drop]
    omega
  · show ((u.xs.drop (o * size)).take size).length ≤ _
    have := hu.few
    simp only [List.length_take, List.length_drop]
    omega
theorem cutU_sane {w : World} {u : IntsV} {a : Addr} (size o : Nat) (hu : u.ok w) (ha : u.base = some a) (hl : o * size + size ≤ u.xs.length) : (cutU u a size o).sane := ⟨(cutU_ok size o hu ha hl).fits, (cutU_ok size o hu ha hl).room, (cutU_ok size o hu ha hl).few⟩
end Go.Proofs.Ytdmkdogakbipbaa

/- JH -/
namespace Go.Proofs.Ytdmkdogakbipbaa
abbrev dtJH0 : Go.SX.DT := (.take 0 (.take 1 (.take 2 (.take 3 (.take 4 (.take 5 (.take 6 (.take 7 (.take 8 (.take 9 (.take 10 (.take 11 (.take 12 (.take 13 (.take 14 (.take 15 (.take 16 (.take 17 (.take 18 (.take 19 (.take 20 (.take 21 (.take 22 (.take 23 (.take 24 (.one 25 (.done)))))))))))))))))))))))))))
abbrev dtJH1 : Go.SX.DT := (.take 0 (.take 1 (.take 2 (.take 4 (.one 3 (.take 5 (.done)))))))
abbrev dtJH2 : Go.SX.DT := (.take 0 (.take 1 (.take 2 (.take 3 (.take 4 (.take 5 (.take 6 (.take 7 (.take 8 (.take 9 (.take 10 (.take 11 (.take 12 (.take 13 (.take 14 (.take 15 (.take 16 (.take 17 (.take 18 (.take 19 (.take 20 (.take 21 (.take 22 (.take 23 (.take 24 (.take 25 (.take 26 (.take 27 (.take 28 (.take 29 (.take 30 (.take 31 (.take 32 (.take 33 (.take 34 (.take 35 (.take 36 (.take 37 (.take 38 (.take 39 (.take 40 (.take 41 (.one 42 (.done))))))))))))))))))))))))))))))))))))))))))))
open Go.SX Go.RowKit
theorem mat_end_old {B : Base} {H : Heap} {S : Asn} {nx i m : Nat} {w : World} {n : NodeV} {tl : List Int} {cnt : Nat} {us : List IntsV} (hb : ∀ R w', S.holds R w' → (baseA B.w0).holds R w') (hw0 : B.w0 = w) (he : (i, Ent.rows (shRows us) 1 33) ∈ H) (hm : m = us.length)
    (h1 : us.map IntsV.xs = matRows n tl cnt) (h2 : n.bias.xs = matBias n cnt) (h3 : ∀ u ∈ us, u.sane) (h4 : n.bias.sane) (h5 : ∀ w, n.data.ok w → ∀ u ∈ us, u.ok w) : finK B (.tup [.os i m, .c n.bias.val]) H S nx (MatPost w n tl cnt) := by
  subst hw0 hm
  refine fin_of fun ρ w' hw => ?_
  have hn := new_of_abs hw hb he
  rw [shRows_length] at hn
  obtain ⟨base, cap, e, hc, hD⟩ := newSlicesM hn
  refine ⟨⟨⟨base, cap, us⟩, n.bias, false⟩, ⟨h1, h2, h3, h4, fun _ => ⟨rfl, h5⟩⟩, ?_, ext_of_abs hw hb, hD, fun h => by cases h⟩
  show Ending.returned (.tuple #[(SV.os i us.length).rf ρ, n.bias.val]) = _
  rw [e]; rfl
set_option maxRecDepth 20000 in
set_option maxHeartbeats 2000000 in
theorem mat_dense (w : World) (n : NodeV) (t : IntsV) (ht : t.ok w) (hno : n.ok w) (hk : n.kind = 3) (size cnt : Nat) (hsz : entries t.xs = size) (h1 : 1 ≤ size ∧ size ≤ 64) (hb : n.bias.xs.length = cnt) (hc : 1 ≤ cnt ∧ cnt ≤ 64) (hdl : n.data.xs.length = cnt * size) : Calls Try.prog 66 #[n.valA, t.val] w (MatPost w n t.xs cnt) := by
  have hd := hno.data
  have hpos : size ≤ cnt * size := Nat.le_mul_of_pos_left _ hc.1
  obtain ⟨ua, hua⟩ := hd.base (by omega)
  refine calls_of tab tabOk Try.func66 rfl rfl rfl [] (fun _ => ⟨none, 0⟩) [.agg [.c (.int .i64 n.kind), .c (.int .i64 n.a), .c (.int .i64 n.b), .c n.shape.val, .c (.int .i64 n.lo), .c (.int .i64 n.hi), .c (.int .i64 n.size), .c n.data.val, .c n.bias.val], .c t.val] [] (baseA w) 0 rfl rfl (by show 2 ≤ _; decide) (abs_base w) ?_
  (repeat' ((conv => whnf) <;> first | (show callK _ 34 _ _ _ _ _; refine call_pure (f := 34) Try.call34 (.int .i64 (entries t.xs)) (fun ρ w' hw => refEntries_any w' t.base t.cap t.xs (holds_of_abs hw fun R h => rows_base h ht.rows)) ?_) | (show drawK _ 28 _ _ _ _ _ _; refine draw_tree tabOk mixed [25] _ dtJH0 (by kernel_rfl) (by kernel_rfl) (by kernel_rfl) (List.Sublist.refl _) ?_) | (show drawK _ 30 _ _ _ _ _ _; refine draw_tree tabOk mixed [] _ dtJH1 (by kernel_rfl) (by kernel_rfl) (by kernel_rfl) (List.Sublist.refl _) ?_) | (show drawK _ 52 _ _ _ _ _ _; refine draw_tree tabOk mixed [42] _ dtJH2 (by kernel_rfl) (by kernel_rfl) (by kernel_rfl) (List.Sublist.refl _) ?_) | (show drawK _ _ _ _ _ _ _ _; refine draw_quiet tabOk mixed (by kernel_rfl) ?_) | (show Wp _ _ _ _ _ _ _; refine Wp.go tabOk rfl ?_) | (show @cmpK _ _ _; (first | refine cmpY ?_ | refine cmpN ?_ | (refine cmp_both ?_ ?_ <;> intro _))) | (show wrapK _ _ _; refine wrapA ?_) | (show leK _ _ _; refine leA ?_) | (show roomK _ _ _; refine roomA ?_) | (show ltK _ _ _; refine ltA ?_) | (show _ ∧ _; refine ⟨?_, ?_⟩) | (show keepK _ _ _ _ _; refine keepA ?_) | refine own_keep ?_ | refine ap_old ?_))
  refine Wp.loop (σ := Nat × Nat × List IntsV) 2 (fun ⟨o, m, us⟩ => [(2, .lp 0 0 0 0), (6, .c (.int .i64 size)), (7, .os 1 m), (33, .c (.int .i64 cnt)), (34, .c (.int .i64 o))]) (fun ⟨_, _, us⟩ => [(1, .rows (shRows us) 1 33), (0, .box [.c (.int .i64 n.kind), .c (.int .i64 n.a), .c (.int .i64 n.b), .c n.shape.val, .c (.int .i64 n.lo), .c (.int .i64 n.hi), .c (.int .i64 n.size), .c n.data.val, .c n.bias.val] 38)]) (fun _ => baseA w)
    (fun ⟨o, m, us⟩ => o ≤ cnt ∧ m = us.length ∧ us = (List.range o).map (cutU n.data ua size)) (fun s => cnt - s.1) (0, 0, []) [(1, none)] (by decide) (fun s => ⟨rfl, rfl⟩) ⟨Nat.zero_le _, rfl, rfl⟩ ⟨rfl, ⟨rfl, ?_, rfl, ?_, rfl, trivial⟩, ⟨rfl, (by repeat (first | exact List.mem_cons_self | apply List.mem_cons_of_mem)), trivial⟩, fun _ _ h => h⟩ ?_
  · rw [hsz]; rfl
  · rw [hb]; rfl
  rintro ⟨o, m, us⟩ ⟨ho, hm, hus⟩
  have hml : us.length = o := by rw [hus]; simp
  by_cases hlt : o < cnt
  · have q1 : o * size + size ≤ cnt * size := by
      have : (o + 1) * size ≤ cnt * size := Nat.mul_le_mul_right _ (by omega)
      rw [Nat.add_mul, Nat.one_mul] at this
      exact this
    have q2 : cnt * size ≤ 64 * 64 := Nat.mul_le_mul hc.2 h1.2
    have e1 : (o : Int) * size = ((o * size : Nat) : Int) := by rw [Int.natCast_mul]
    have e2 : ((o : Int) + 1) * size = ((o * size + size : Nat) : Int) := by rw [Int.add_mul, Int.one_mul, Int.natCast_add, Int.natCast_mul]
    generalize hP : o * size = P at *
    have hroom := hd.room
    (repeat' ((conv => whnf) <;> first | (show sliceK _ _ _ _ _ _ _ _; refine slice_cut hua e1 e2 (by omega) (by omega) (by omega) ?_) | (show leK _ _ _; (refine le_of (by rw [shRows_length, hm]; exact Nat.le_refl _) ?_)) | (show roomK _ _ _; (refine room_of (by show (m + 1) * 24 ≤ 140737488355328; omega) ?_)) | (show drawK _ 28 _ _ _ _ _ _; refine draw_tree tabOk mixed [25] _ dtJH0 (by kernel_rfl) (by kernel_rfl) (by kernel_rfl) (List.Sublist.refl _) ?_) | (show drawK _ 30 _ _ _ _ _ _; refine draw_tree tabOk mixed [] _ dtJH1 (by kernel_rfl) (by kernel_rfl) (by kernel_rfl) (List.Sublist.refl _) ?_) | (show drawK _ 52 _ _ _ _ _ _; refine draw_tree tabOk mixed [42] _ dtJH2 (by kernel_rfl) (by kernel_rfl) (by kernel_rfl) (List.Sublist.refl _) ?_) | (show drawK _ _ _ _ _ _ _ _; refine draw_quiet tabOk mixed (by kernel_rfl) ?_) | (show Wp _ _ _ _ _ _ _; refine Wp.go tabOk rfl ?_) | (show @cmpK _ _ _; (first | refine cmpY ?_ | refine cmpN ?_ | (refine cmp_both ?_ ?_ <;> intro _))) | (show wrapK _ _ _; refine wrapA ?_) | (show leK _ _ _; refine leA ?_) | (show roomK _ _ _; refine roomA ?_) | (show ltK _ _ _; refine ltA ?_) | (show _ ∧ _; refine ⟨?_, ?_⟩) | (show keepK _ _ _ _ _; refine keepA ?_) | refine own_keep ?_ | refine ap_old ?_))
    all_goals (conv => whnf)
    have hval : Value.slice (some (ua.add P)) (P + size - P) (n.data.cap - P) = (cutU n.data ua size o).val := by
      unfold cutU IntsV.val
      simp only [List.length_take, List.length_drop, hP]
      congr 1
      omega
    exact ⟨(o + 1, m + 1, us ++ [cutU n.data ua size o]), [(1, some 3)], ⟨hlt, by rw [hm]; simp, by rw [hus, List.range_succ, List.map_append]; rfl⟩, by simp only; omega, rfl, ⟨rfl, rfl, rfl, rfl, rfl, trivial⟩, ⟨by
      have := rows_snoc us (cutU n.data ua size o) (i := 3) (T := 33) (H := [])
      rw [← hval, ← hm] at this
      exact List.mem_cons.2 (.inl (List.mem_singleton.1 this)), (by repeat (first | exact List.mem_cons_self | apply List.mem_cons_of_mem)), trivial⟩, fun _ _ h => h⟩
  · obtain rfl : o = cnt := by omega
    (repeat' ((conv => whnf) <;> first | (show drawK _ 28 _ _ _ _ _ _; refine draw_tree tabOk mixed [25] _ dtJH0 (by kernel_rfl) (by kernel_rfl) (by kernel_rfl) (List.Sublist.refl _) ?_) | (show drawK _ 30 _ _ _ _ _ _; refine draw_tree tabOk mixed [] _ dtJH1 (by kernel_rfl) (by kernel_rfl) (by kernel_rfl) (List.Sublist.refl _) ?_) | (show drawK _ 52 _ _ _ _ _ _; refine draw_tree tabOk mixed [42] _ dtJH2 (by kernel_rfl) (by kernel_rfl) (by kernel_rfl) (List.Sublist.refl _) ?_) | (show drawK _ _ _ _ _ _ _ _; refine draw_quiet tabOk mixed (by kernel_rfl) ?_) | (show Wp _ _ _ _ _ _ _; refine Wp.go tabOk rfl ?_) | (show @cmpK _ _ _; (first | refine cmpY ?_ | refine cmpN ?_ | (refine cmp_both ?_ ?_ <;> intro _))) | (show wrapK _ _ _; refine wrapA ?_) | (show leK _ _ _; refine leA ?_) | (show roomK _ _ _; refine roomA ?_) | (show ltK _ _ _; refine ltA ?_) | (show _ ∧ _; refine ⟨?_, ?_⟩) | (show keepK _ _ _ _ _; refine keepA ?_) | refine own_keep ?_ | refine ap_old ?_))
    all_goals (conv => whnf)
    have hcl : ∀ k, k < o → k * size + size ≤ n.data.xs.length := fun k hk => by
      have : (k + 1) * size ≤ o * size := Nat.mul_le_mul_right _ (by omega)
      rw [Nat.add_mul, Nat.one_mul] at this
      omega
    refine mat_end_old (fun _ _ h => h) rfl (by repeat (first | exact List.mem_cons_self | apply List.mem_cons_of_mem)) hm ?_ ?_ ?_ ⟨hno.bias.fits, hno.bias.room, hno.bias.few⟩ ?_
    · rw [hus, matRows, List.map_map]
      refine List.map_congr_left fun k _ => ?_
      unfold matRow
      rw [if_pos hk, hsz, Int.toNat_natCast]; rfl
    · unfold matBias
      apply List.ext_getElem
      · simp [hb]
      · intro k g1 g2
        rw [List.getElem_map, List.getElem_range]
        unfold biasI
        rw [if_pos hk, List.getD_eq_getElem?_getD, List.getElem?_eq_getElem g1]; rfl
    · intro u hu
      rw [hus] at hu
      obtain ⟨k, hk', rfl⟩ := List.mem_map.1 hu
      exact cutU_sane size k hd hua (hcl k (List.mem_range.1 hk'))
    · intro w' hd' u hu
      rw [hus] at hu
      obtain ⟨k, hk', rfl⟩ := List.mem_map.1 hu
      exact cutU_ok size k hd' hua (hcl k (List.mem_range.1 hk'))
end Go.Proofs.Ytdmkdogakbipbaa

/- JI -/
namespace Go.Proofs.Ytdmkdogakbipbaa
open Go.SX Go.RowKit
theorem mul_add_div {A x m : Int} (hx : 0 ≤ x ∧ x < m) : (A * m + x) / m = A ∧ (A * m + x) % m = x := by
  have hm : 0 < m := by omega
  constructor
  · rw [Int.add_comm, Int.add_mul_ediv_right _ _ (by omega), Int.ediv_eq_zero_of_lt hx.1 hx.2]; omega
  · rw [Int.add_comm, Int.add_mul_emod_self_right, Int.emod_eq_of_lt hx.1 hx.2]
theorem pos3 {c y x H W o : Int} (ho : o = (c * H + y) * W + x) (hx : 0 ≤ x ∧ x < W) (hy : 0 ≤ y ∧ y < H) : o / W / H = c ∧ o / W % H = y ∧ o % W = x := by
  subst ho
  rw [(mul_add_div hx).1, (mul_add_div hx).2, (mul_add_div hy).1, (mul_add_div hy).2]
  exact ⟨rfl, rfl, rfl⟩
def rowP (T : List Sp) (size m : Nat) : List Int := (T.take m).foldl setT (List.replicate size 0)
theorem rowP_length (T : List Sp) (size m : Nat) : (rowP T size m).length = size := by unfold rowP; rw [setsT_length, List.length_replicate]
theorem rowP_succ {T : List Sp} {size m : Nat} (h : m < T.length) : rowP T size (m + 1) = setT (rowP T size m) T[m] := by
  unfold rowP
  rw [List.take_succ_eq_append_getElem h, List.foldl_append]; rfl
theorem ints_store {r : List Int} {k : Nat} {v : Int} {K : List (List Value) → Prop} (hk : k < r.length) (h : K (ints (r.set k v))) : rowStoreK (ints r) k 0 [.int .i64 v] K := by
  refine rowStore_of _ (ints_get hk) (by show 0 + 1 ≤ 1; omega) ?_
  have e : (ints r).set k (setFrom [Value.int .i64 r[k]] 0 [.int .i64 v]) = ints (r.set k v) := by
    have e2 : setFrom [Value.int .i64 r[k]] 0 [.int .i64 v] = [Value.int .i64 v] := rfl
    rw [e2]
    simp [ints, List.map_set]
  rw [e]; exact h
theorem sets_bd : ∀ (T : List Sp) (r : List Int), (∀ x ∈ r, bd20 x) → (∀ t ∈ T, bd20 t.1) → ∀ x ∈ T.foldl setT r, bd20 x
  | [], r, h, _ => h
  | t :: T, r, h, ht => by
    rw [List.foldl_cons]
    refine sets_bd T _ (fun x hx => ?_) (fun u hu => ht u (List.mem_cons_of_mem _ hu))
    rcases List.mem_or_eq_of_mem_set hx with hx | hx
    · exact h x hx
    · rw [hx]; exact ht t List.mem_cons_self
theorem rowP_bd {T : List Sp} {size m : Nat} (hT : ∀ t ∈ T, bd20 t.1) : ∀ x ∈ rowP T size m, bd20 x :=
  sets_bd _ _ (fun x hx => by rw [(List.mem_replicate.1 hx).2]; exact ⟨by decide, by decide⟩) (fun t ht => hT t (List.mem_of_mem_take ht))
theorem ro_intv {a : Addr} {j : Nat} {S : Asn} {xs : List Int} {v : Int} {K : SV → Prop} (hx : ∀ R w, S.holds R w → RowsI w (some a) 1 (ints xs)) (hj : j < xs.length) (e : xs.getD j 0 = v) (h : K (.c (.int .i64 v))) : roK (a.add (j * 1)) S K := by
  subst e; exact ro_int hx hj h
theorem nn_bd {a b A B : Int} (ha : 0 ≤ a ∧ a ≤ A) (hb : 0 ≤ b ∧ b ≤ B) : 0 ≤ a * b ∧ a * b ≤ A * B := ⟨Int.mul_nonneg ha.1 hb.1, Int.mul_le_mul ha.2 hb.2 hb.1 (by omega)⟩
/-- rows so far -/
structure Sofar3 (n : NodeV) (tl : List Int) (us : List IntsV) (o : Nat) : Prop where
  rows : us.map IntsV.xs = (List.range o).map (matRow n tl)
  sane : ∀ u ∈ us, u.sane
theorem Sofar3.len {n : NodeV} {tl : List Int} {us : List IntsV} {o : Nat} (h : Sofar3 n tl us o) : us.length = o := by
  have := congrArg List.length h.rows
  simpa using this
theorem Sofar3.next {n : NodeV} {tl : List Int} {us : List IntsV} {o : Nat} {u : IntsV} (h : Sofar3 n tl us o) (hu : u.sane) (hx : u.xs = matRow n tl o) : Sofar3 n tl (us ++ [u]) (o + 1) := by
  refine ⟨by rw [List.map_append, h.rows, List.range_succ, List.map_append, List.map_cons, List.map_nil, List.map_cons, List.map_nil, hx], fun v hv => ?_⟩
  rcases List.mem_append.1 hv with hv | hv
  · exact h.sane v hv
  · rw [List.mem_singleton.1 hv]; exact hu
theorem mat_end_new {B : Base} {H : Heap} {S : Asn} {nx i j m m' : Nat} {w : World} {n : NodeV} {tl : List Int} {cnt : Nat} {us : List IntsV} {bs : List Int} (hb : ∀ R w', S.holds R w' → (baseA B.w0).holds R w') (hE : ∀ R w', S.holds R w' → (eachA B.w0.heap.size us).holds R w') (hw0 : B.w0 = w) (he : (i, Ent.rows (shRows us) 1 33) ∈ H) (hj : (j, Ent.rows (ints bs) 1 3) ∈ H) (hm : m = us.length) (hm' : m' = bs.length)
    (h1 : Sofar3 n tl us cnt) (h2 : bs = matBias n cnt) (h3 : ∀ x ∈ bs, i64 x) (h4 : bs.length ≤ 1000000) : finK B (.tup [.os i m, .os j m']) H S nx (MatPost w n tl cnt) := by
  subst hw0 hm hm'
  refine fin_of fun ρ w' hw => ?_
  have hn := new_of_abs hw hb he
  have hn2 := new_of_abs hw hb hj
  rw [shRows_length] at hn
  rw [ints_length] at hn2
  obtain ⟨base, cap, e, hc, hD⟩ := newSlicesM hn
  obtain ⟨u, f1, f2, f3, f4⟩ := newInts hn2 h3 h4
  refine ⟨⟨⟨base, cap, us⟩, u, true⟩, ⟨h1.rows, by rw [← h2]; exact f2, h1.sane, f3, fun h => by cases h⟩, ?_, ext_of_abs hw hb, hD, fun _ => ⟨fun v hv => past_new hw (D := intsA v) fun R w' h => hE R w' h v hv, f4⟩⟩
  show Ending.returned (.tuple #[(SV.os i us.length).rf ρ, (SV.os j bs.length).rf ρ]) = _
  rw [e, f1]; rfl
theorem pool_row {n : NodeV} {t : IntsV} (hk : n.kind = 5) {size : Nat} (hsz : entries t.xs = size) (o : Nat) {T : List Sp} (hT : T = poolT n.size (t.xs.getD 1 0) (t.xs.getD 2 0) o) {m : Nat} (hm : m = T.length) : rowP T size m = matRow n t.xs o := by
  subst hT hm
  unfold matRow termsG rowP
  rw [if_neg (by omega), if_neg (by omega), if_neg (by omega), List.take_of_length_le (Nat.le_refl _), hsz]; rfl
theorem pos_lt {c y x H W k m n : Int} (hm : m = (c * H + y) * W + x) (hn : n = k * H * W) (hx : 0 ≤ x ∧ x < W) (hy : 0 ≤ y ∧ y < H) (hc : c < k) : m < n := by
  have u1 : (c * H + y) * W + x < (c * H + y + 1) * W := by rw [Int.add_mul _ 1]; omega
  have u2 : c * H + y + 1 ≤ (c + 1) * H := by rw [Int.add_mul]; omega
  have u3 : (c * H + y + 1) * W ≤ (c + 1) * H * W := Int.mul_le_mul_of_nonneg_right u2 (by omega)
  have u4 : (c + 1) * H * W ≤ k * H * W := Int.mul_le_mul_of_nonneg_right (Int.mul_le_mul_of_nonneg_right (by omega) (by omega)) (by omega)
  omega
theorem poolT_at {T : List Sp} {z i1 i2 W H c y x i j : Int} {m p : Nat} (hT : T = poolT z i1 i2 m) (hWd : i2 / z = W) (hHd : i1 / z = H) (hmx : (m : Int) = (c * H + y) * W + x) (hx : 0 ≤ x ∧ x < W) (hy : 0 ≤ y ∧ y < H) (hp : p < T.length) (he : (p : Int) = i * z + j) (hj : 0 ≤ j ∧ j < z) : T[p] = (1, (c * i1 + y * z + i) * i2 + x * z + j) := by
  subst hT
  have hpos := pos3 hmx hx hy
  have hq := mul_add_div (A := i) (x := j) (m := z) hj
  simp only [poolT, List.getElem_map, List.getElem_range]
  unfold poolTerm
  rw [hWd, hHd, hpos.1, hpos.2.1, hpos.2.2, he, hq.1, hq.2]
theorem poolT_bd {T : List Sp} {z i1 i2 o : Int} (hT : T = poolT z i1 i2 o) : ∀ t ∈ T, bd20 t.1 := fun t ht => by
  subst hT
  obtain ⟨k, _, rfl⟩ := List.mem_map.1 ht
  exact ⟨(show (-1048576 : Int) ≤ 1 by decide), (show (1 : Int) ≤ 1048576 by decide)⟩
theorem sq_lt {p : Nat} {L z i j : Int} (hL : L = z * z) (hp : (p : Int) = i * z + j) (hi : i < z) (hj : 0 ≤ j ∧ j < z) : p < L := by
  have u1 : (i + 1) * z ≤ z * z := Int.mul_le_mul_of_nonneg_right (by omega) (by omega)
  rw [Int.add_mul, Int.one_mul] at u1
  omega
theorem ix_bd {c i1 y z i i2 x : Int} (hc : 0 ≤ c ∧ c ≤ 64) (h1 : 0 ≤ i1 ∧ i1 ≤ 64) (hy : 0 ≤ y ∧ y ≤ 64) (hz : 0 ≤ z ∧ z ≤ 64) (hi : 0 ≤ i ∧ i ≤ 64) (h2 : 0 ≤ i2 ∧ i2 ≤ 64) (hx : 0 ≤ x ∧ x ≤ 64) : (0 ≤ c * i1 ∧ c * i1 ≤ 4096) ∧ (0 ≤ y * z ∧ y * z ≤ 4096) ∧ (0 ≤ (c * i1 + y * z + i) * i2 ∧ (c * i1 + y * z + i) * i2 ≤ 576000) ∧ (0 ≤ x * z ∧ x * z ≤ 4096) := by
  have e1 := nn_bd (a := c) (b := i1) (A := 64) (B := 64) hc h1
  have e2 := nn_bd (a := y) (b := z) (A := 64) (B := 64) hy hz
  have e3 := nn_bd (a := c * i1 + y * z + i) (b := i2) (A := 9000) (B := 64) (by omega) h2
  have e4 := nn_bd (a := x) (b := z) (A := 64) (B := 64) hx hz
  omega
theorem rows_snocM (us : List IntsV) (base : Option Addr) (cap : Nat) (xs : List Int) {m k : Nat} (hm : m = us.length) (hk : k = xs.length) {i : Nat} {T : TypeId} {H : Heap} : (i, Ent.rows (shRows (us ++ [IntsV.mk base cap xs])) 1 T) ∈ (i, Ent.rows (List.take m (shRows us) ++ [[.slice base k cap]]) 1 T) :: H := by
  subst hm hk; exact rows_snoc us _
theorem ints_zeros (k : Nat) : ints (List.replicate k 0) = List.replicate k [Value.int .i64 0] := by simp [ints]
end Go.Proofs.Ytdmkdogakbipbaa

