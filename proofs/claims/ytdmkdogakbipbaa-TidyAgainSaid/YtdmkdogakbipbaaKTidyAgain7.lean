import Derived.Test.YtdmkdogakbipbaaKTidyAgain6
/- NO -/
namespace Go.Proofs.Ytdmkdogakbipbaa
abbrev dtNO1 : Go.SX.DT := (.take 0 (.take 1 (.take 2 (.take 3 (.take 4 (.take 5 (.take 6 (.take 7 (.one 8 (.one 9 (.one 10 (.one 11 (.one 12 (.take 13 (.one 14 (.done))))))))))))))))
open Go.SX Go.RowKit
theorem cloneV_pl {m : NodeV} {u1 u2 u3 : IntsV} (h1 : u1.xs = m.shape.xs) (h2 : u2.xs = m.data.xs) (h3 : u3.xs = m.bias.xs) : (cloneV m u1 u2 u3).pl = m.pl := by
  show NodeP.mk _ _ _ u1.xs _ _ _ u2.xs u3.xs = _
  rw [h1, h2, h3]; rfl
theorem cloneV_kept {l : List NodeV} {m : NodeV} {u1 u2 u3 : IntsV} (hl : KeptOk l) (hm : m.saneN) (hs : m.small) (h1 : u1.sane) (e2 : u2.xs = m.data.xs) (h2 : u2.sane) (e3 : u3.xs = m.bias.xs) (h3 : u3.sane) : KeptOk (l ++ [cloneV m u1 u2 u3]) := fun n hn => by
  rcases List.mem_append.1 hn with hn | hn
  · exact hl n hn
  · rw [List.mem_singleton.1 hn]
    exact ⟨⟨h1, h2, h3, hm.kindFits, hm.aFits, hm.bFits, hm.loFits, hm.hiFits, hm.sizeFits⟩, by show u2.xs.length ≤ 5000; rw [e2]; exact hs.data, by show u3.xs.length ≤ 5000; rw [e3]; exact hs.bias⟩
theorem lay_row {kept : List NodeV} {m : NodeV} {u1 u2 u3 : IntsV} (h1 : u1.xs = m.shape.xs) (h2 : u2.xs = m.data.xs) (h3 : u3.xs = m.bias.xs) : (kept ++ [cloneV m u1 u2 u3]).map NodeV.pl = kept.map NodeV.pl ++ [m.pl] := by
  rw [List.map_append, List.map_cons, List.map_nil, cloneV_pl h1 h2 h3]
theorem constN_sane {u x : IntsV} (hu : u.sane) (hx : x.sane) : (constN u x).saneN := ⟨hu, hx, ⟨fun y hy => by simp [constN, nilI] at hy, Nat.le_refl _, Nat.zero_le _⟩, i64_2, i64_0, i64_0, i64_0, i64_0, i64_0⟩
theorem constN_ok {u x : IntsV} {w : World} (hu : u.ok w) (hx : x.ok w) : (constN u x).ok w := ⟨hu, hx, nil_ok w, i64_2, i64_0, i64_0, i64_0, i64_0, i64_0⟩
def foldD (x : IntsV × IntsV) : Asn := (intsA x.1).and (intsA x.2)
theorem foldD_ok {u x : IntsV} {R : Nat → Prop} {w : World} {N : Nat} (hu : u.sane) (hx : x.sane) (h : ((foldD (u, x)).past N).holds R w) : (constN u x).ok w := constN_ok (intsA_ok hu ((intsA u).mono h.1 fun b hb => hb.1)) (intsA_ok hx ((intsA x).mono h.2 fun b hb => hb.1))
theorem constN_pl {u x : IntsV} {s d : List Int} (h1 : u.xs = s) (h2 : x.xs = d) : (constN u x).pl = ⟨2, 0, 0, s, 0, 0, 0, d, []⟩ := by subst h1 h2; rfl
theorem setM_nil : (fun _ => none) = setM (fun _ => false) := by funext j; unfold setM; rw [if_neg (by simp)]
theorem mapNew_set {H : Heap} {S : Asn} {nx : Nat} {K : SV → Heap → Asn → Nat → Prop} (h : ∀ r, K (.c (.map (some r))) ((nx, .ext (mapO r (setM fun _ => false))) :: H) S (nx + 1)) : mapNewK H S nx K := ⟨fun r => by have := h r; rwa [← setM_nil] at this⟩
theorem desk_call3 {P : Program} {f : FuncId} {v u x : Value} {w : World} {Q : Ending → World → Prop} {b : Nat} (e : v = .pointer (some ⟨b, 0, none⟩)) (h : Calls P f #[.pointer (some ⟨b, 0, none⟩), u, x] w Q) : Calls P f #[v, u, x] w Q := e ▸ h
def gridN (n : Nat) (p : List Nat) : List Nat := p ++ List.replicate (n - p.length) 0
theorem gridN_length {n : Nat} {p : List Nat} (h : p.length ≤ n) : (gridN n p).length = n := by unfold gridN; simp; omega
theorem gridN_stI (n : Nat) (p : List Nat) : stI (gridN n p) = gridI n (stI p) := by unfold gridN stI gridI; simp
theorem gridN_store {n i x : Nat} {p : List Nat} {K : List (List Value) → Prop} (hl : p.length = i) (hi : i < n) (h : K (ints (stI (gridN n (p ++ [x]))))) : rowStoreK (ints (stI (gridN n p))) i 0 [.int .i64 (x : Int)] K := by
  rw [gridN_stI] at h ⊢
  refine gridI_store (by unfold stI; rw [List.length_map]; exact hl) hi ?_
  have : stI (p ++ [x]) = stI p ++ [(x : Int)] := by unfold stI; simp
  rw [← this]; exact h
theorem gridN_skip {n : Nat} {p : List Nat} (h : p.length < n) : gridN n (p ++ [0]) = gridN n p := by
  unfold gridN
  obtain ⟨k, hk⟩ : ∃ k, n - p.length = k + 1 := ⟨n - p.length - 1, by omega⟩
  rw [hk, List.length_append, List.length_singleton, show n - (p.length + 1) = k by omega, List.append_assoc, List.replicate_succ]
  rfl
theorem gridN_getD {n k : Nat} {p : List Nat} (h : k < p.length) : (gridN n p).getD k 0 = p.getD k 0 := by
  unfold gridN; rw [List.getD_eq_getElem?_getD, List.getD_eq_getElem?_getD, List.getElem?_append_left h]
theorem gridN_moved {n : Nat} {p : List Nat} {x : NodeP} (h : AheadP x p.length) : movedP (gridN n p) x = movedP p x := by
  unfold movedP
  by_cases h12 : x.kind = 1 ∨ x.kind = 2
  · rw [if_pos h12, if_pos h12]
  · rw [if_neg h12, if_neg h12, gridN_getD (h.a1 (by omega) (by omega))]
    by_cases h6 : x.kind = 6
    · rw [if_pos h6, if_pos h6, gridN_getD (h.b1 h6)]
    · rw [if_neg h6, if_neg h6]
theorem gridN_start (n : Nat) : ints (stI (gridN n [])) = List.replicate n [Value.int .i64 0] := by
  unfold gridN stI ints; simp
theorem AheadP.mono {p : NodeP} {k m : Nat} (h : AheadP p k) (hm : k ≤ m) : AheadP p m := ⟨h.a0, fun h1 h2 => Nat.lt_of_lt_of_le (h.a1 h1 h2) hm, h.a2, h.b0, fun h6 => Nat.lt_of_lt_of_le (h.b1 h6) hm, h.b2, h.kind⟩
theorem moved_snoc {p : List Nat} {y : Nat} {x : NodeP} (h : AheadP x p.length) : movedP (p ++ [y]) x = movedP p x := by
  have hg : ∀ k, k < p.length → (p ++ [y]).getD k 0 = p.getD k 0 := fun k hk => by rw [List.getD_eq_getElem?_getD, List.getD_eq_getElem?_getD, List.getElem?_append_left hk]
  unfold movedP
  by_cases h12 : x.kind = 1 ∨ x.kind = 2
  · rw [if_pos h12, if_pos h12]
  · rw [if_neg h12, if_neg h12, hg _ (h.a1 (by omega) (by omega))]
    by_cases h6 : x.kind = 6
    · rw [if_pos h6, if_pos h6, hg _ (h.b1 h6)]
    · rw [if_neg h6, if_neg h6]
theorem desk_abs2 {B : Base} {ρ : Nat → SX.Loc} {nx : Nat} {H : Heap} {S : Asn} {w : World} {d i j m : Nat} {kept : List NodeV} {st : List Nat} {out : Int} {T T1 T2 : TypeId} (hw : Abs B ρ nx H S w) (hm : st.length = m) (hd : (d, Ent.box [.os i kept.length, .c (.int .i64 out), .os j m] T) ∈ H) (hi : (i, Ent.rows (nodeRows kept) 9 T1) ∈ H) (hj : (j, Ent.rows (ints (stI st)) 1 T2) ∈ H) :
    ∃ b, (SV.lp d 0 0 0).rf ρ = .pointer (some ⟨b, 0, none⟩) ∧ DeskAt w b (ρ i).base (ρ i).cap kept (ρ j).base (ρ j).cap (stI st) := by subst hm; exact desk_abs hw hd hi hj
theorem cutL_cons {need : Nat → Bool} {n : NodeP} {r : List NodeP} {i : Nat} {x : List NodeP × List Nat} : cutL need (n :: r) i x = cutL need r (i + 1) (if need i = true ∨ n.kind = 1 then (x.1 ++ [movedP x.2 n], x.2 ++ [x.1.length]) else (x.1, x.2 ++ [0])) := rfl
theorem movedV_sane {st : List Nat} {n : NodeV} (h : n.saneN) (hs : ∀ k, st.getD k 0 ≤ 1000000) : (movedV st n).saneN := by
  obtain ⟨_, _, ea, ea2, eb, eb2⟩ := moved_eq st n.pl
  have ha : i64 (movedP st n.pl).a := by
    by_cases h12 : n.pl.kind = 1 ∨ n.pl.kind = 2
    · rw [ea2 h12]; exact h.aFits
    · rw [ea (by omega) (by omega)]
      have := hs n.pl.a.toNat
      unfold i64; omega
  have hb : i64 (movedP st n.pl).b := by
    by_cases h6 : n.pl.kind = 6
    · rw [eb h6]
      have := hs n.pl.b.toNat
      unfold i64; omega
    · rw [eb2 h6]; exact h.bFits
  exact ⟨h.shape, h.data, h.bias, h.kindFits, ha, hb, h.loFits, h.hiFits, h.sizeFits⟩
theorem snoc_le {p : List Nat} {y m : Nat} (h : ∀ k, p.getD k 0 ≤ m) (hy : y ≤ m) : ∀ k, (p ++ [y]).getD k 0 ≤ m := fun k => by
  rcases Nat.lt_or_ge k p.length with hk | hk
  · rw [List.getD_eq_getElem?_getD, List.getElem?_append_left hk, ← List.getD_eq_getElem?_getD]; exact h k
  · rw [List.getD_eq_getElem?_getD, List.getElem?_append_right hk]
    cases k - p.length with
    | zero => exact hy
    | succ j => exact Nat.zero_le _
theorem gridN_le {n m : Nat} {p : List Nat} (h : ∀ k, p.getD k 0 ≤ m) : ∀ k, (gridN n p).getD k 0 ≤ m := fun k => by
  rcases Nat.lt_or_ge k p.length with hk | hk
  · rw [gridN_getD hk]; exact h k
  · unfold gridN
    rw [List.getD_eq_getElem?_getD, List.getElem?_append_right hk, List.getElem?_replicate]
    split <;> exact Nat.zero_le _
theorem kept_snoc {l : List NodeV} {n : NodeV} (hl : KeptOk l) (h1 : n.saneN) (h2 : n.small) : KeptOk (l ++ [n]) := fun m hm => by
  rcases List.mem_append.1 hm with hm | hm
  · exact hl m hm
  · rw [List.mem_singleton.1 hm]; exact ⟨h1, h2⟩
theorem gridN_here {n : Nat} {p : List Nat} {i : Nat} {T : TypeId} {H : Heap} (hp : p.length < n) (h : (i, Ent.rows (ints (stI (gridN n p))) 1 T) ∈ H) : (i, Ent.rows (ints (stI (gridN n (p ++ [0])))) 1 T) ∈ H := by rw [gridN_skip hp]; exact h
/-- nodes whose numbers stand where others' do -/
def From (kept acc : List NodeV) : Prop := ∀ m ∈ acc, ∃ k ∈ kept, m.shape = k.shape ∧ m.data = k.data ∧ m.bias = k.bias
theorem from_snoc {kept acc : List NodeV} {x : NodeV} {st : List Nat} (h : From kept acc) (hx : x ∈ kept) : From kept (acc ++ [movedV st x]) := fun m hm => by
  rcases List.mem_append.1 hm with hm | hm
  · exact h m hm
  · rw [List.mem_singleton.1 hm]; exact ⟨x, hx, rfl, rfl, rfl⟩
def TidyPost (w : World) (r : Int) (x : List NodeP × Nat) (e : Ending) (w' : World) : Prop :=
  (r ≠ 0 ∧ e = .returned (.tuple #[.agg #[.slice none 0 0, .int .i64 0], .int .i64 r]) ∧ Ext w w') ∨
  (r = 0 ∧ ∃ (l : List NodeV) (base : Option Addr) (cap : Nat), l.map NodeV.pl = x.1 ∧ KeptOk l ∧ l.length ≤ cap ∧ e = .returned (.tuple #[.agg #[.slice base l.length cap, .int .i64 x.2], .int .i64 0]) ∧ Ext w w' ∧
    ∃ F G : Nat → Prop, (∀ b, F b → w.heap.size ≤ b ∧ b < w'.heap.size) ∧ (∀ b, G b → w.heap.size ≤ b ∧ b < w'.heap.size) ∧ (∀ b, F b → ¬ G b) ∧ (∀ n ∈ l, (nodeT n).holds F w') ∧ (rowsA base 9 (nodeRows l)).holds G w')
theorem movedV_ok {w : World} {n : NodeV} {st : List Nat} {k : Nat} (h : n.ok w) (ha : AheadP (movedV st n).pl k) (hk : k ≤ 1000000) : (movedV st n).ok w := by
  have a0 := ha.a0
  have b0 := ha.b0
  have a1 := ha.a1
  have a2 := ha.a2
  have b1 := ha.b1
  have b2 := ha.b2
  refine atV_ok h ?_ ?_
  · show i64 (movedV st n).pl.a
    unfold i64
    by_cases h12 : (movedV st n).pl.kind = 1 ∨ (movedV st n).pl.kind = 2
    · have := a2 h12; omega
    · have := a1 (by omega) (by omega); omega
  · show i64 (movedV st n).pl.b
    unfold i64
    by_cases h6 : (movedV st n).pl.kind = 6
    · have := b1 h6; omega
    · have := b2 h6; omega
theorem call_fold {cx : Cx} {f : FuncId} {args : List SV} {H : Heap} {S : Asn} {nx : Nat} {K : SV → Heap → Asn → Nat → Prop} (s d : List Int) (hf : ∀ ar w, (callFunc f ar).run cx.P w = .ok (.enter f ar) w)
    (hc : ∀ ρ w', Abs cx.B ρ nx H S w' → Calls cx.P f (SV.rfs ρ args).toArray w' (FoldPost w' s d))
    (h : ∀ u x : IntsV, u.xs = s → u.sane → x.xs = d → x.sane → K (.c (constN u x).valA) H (S.and ((foldD (u, x)).past cx.B.w0.heap.size)) nx) : callK cx f args H S nx K :=
  call_past hf (fun x : IntsV × IntsV => (constN x.1 x.2).valA) foldD (fun x => x.1.xs = s ∧ x.1.sane ∧ x.2.xs = d ∧ x.2.sane) (fun ρ w' hw => (hc ρ w' hw).mono fun e w'' he => by
    obtain ⟨u, x, h1, h2, h3, h4, h5, h6, h7, h8⟩ := he
    exact ⟨(u, x), ⟨h1, h2, h3, h4⟩, h5, h6, h7, h8⟩) (fun x hx => h x.1 x.2 hx.1 hx.2.1 hx.2.2.1 hx.2.2.2)
theorem tidy_ends {B : Base} {H : Heap} {S : Asn} {nx i : Nat} {w : World} {acc kept : List NodeV} {o : Nat} {r : Int} {x : List NodeP × Nat} {T : TypeId} (hw0 : B.w0 = w) (hb : ∀ R w', S.holds R w' → (baseA w).holds R w') (hkA : ∀ R w', S.holds R w' → (keptA w.heap.size kept).holds R w') (hi : (i, Ent.rows (nodeRows acc) 9 T) ∈ H) (hfr : From kept acc) (hao : KeptOk acc) (hr : r = 0) (hx : x = (acc.map NodeV.pl, o)) :
    finK B (.tup [.agg [.os i acc.length, .c (.int .i64 o)], .c (.int .i64 0)]) H S nx (TidyPost w r x) := by
  subst hw0 hr hx
  refine fin_of fun ρ w' hw => .inr ⟨rfl, ?_⟩
  have hext := ext_of_abs hw hb
  obtain ⟨R, φ, hwR⟩ := hw
  have hbase := hb R w' hwR.asn
  have hkept := hkA R w' hwR.asn
  obtain ⟨h1, h2, h3⟩ := hwR.ent _ hi
  simp only at h2 h3
  rw [nodeRows_length] at h2
  refine ⟨acc, (ρ i).base, (ρ i).cap, rfl, hao, h2, rfl, hext, fun b => R b ∧ B.w0.heap.size ≤ b, φ i, fun b hb => ⟨hb.2, hwR.ro b hb.1⟩, fun b hb => ⟨?_, Ent.size (hwR.ent _ hi) hb⟩, fun b hb hb' => hwR.apart _ hi b hb' hb.1, fun n hn => ?_, h1, ?_⟩
  · rcases Nat.lt_or_ge b B.w0.heap.size with hl | hl
    · exact absurd (hbase b hl).1 (hwR.apart _ hi b hb)
    · exact hl
  · obtain ⟨k, hk, e1, e2, e3⟩ := hfr n hn
    have := hkept k hk
    unfold nodeT at this ⊢
    rw [e1, e2, e3]
    exact this
  · rcases h3 with ⟨g1, g2, _⟩ | ⟨b, off, c, g1, g2, g3, g4, g5⟩
    · left
      have : acc.length = 0 := by omega
      have := List.eq_nil_of_length_eq_zero this
      subst this; rfl
    · refine .inr ⟨b, off, g1, (g2 b).2 rfl, fun m r hm j v hj => ?_⟩
      have := g5 m r hm j v hj
      rw [← Nat.add_assoc]
      simpa [World.cell?, g3] using this
set_option maxRecDepth 20000 in
set_option maxHeartbeats 4000000 in
theorem tidy_any (w : World) (g : GraphV) (hg : g.ok w) : Calls Try.prog 22 #[g.val] w (TidyPost w (spansH g).1 (tidyP (g.l.map NodeV.pl) (check g).2 g.out.toNat)) := by
  refine calls_of tab tabOk Try.func22 rfl rfl rfl [] (fun _ => ⟨none, 0⟩) [.agg [.c (.slice g.base g.l.length g.cap), .c (.int .i64 g.out)]] [] (baseA w) 0 rfl rfl (by show 1 ≤ _; decide) (abs_base w) ?_
  (repeat' ((conv => whnf) <;> first | (show drawK _ 23 _ _ _ _ _ _; refine draw_tree tabOk mixed [12] _ dtIF0 (by kernel_rfl) (by kernel_rfl) (by kernel_rfl) (List.Sublist.refl _) ?_) | (show drawK _ 24 _ _ _ _ _ _; refine draw_tree tabOk mixed [14] _ dtNO1 (by kernel_rfl) (by kernel_rfl) (by kernel_rfl) (List.Sublist.refl _) ?_) | (show drawK _ _ _ _ _ _ _ _; refine draw_quiet tabOk mixed (by kernel_rfl) ?_) | (show Wp _ _ _ _ _ _ _; refine Wp.go tabOk rfl ?_) | (show @cmpK _ _ _; (first | refine cmpY ?_ | refine cmpN ?_ | (refine cmp_both ?_ ?_ <;> intro _))) | (show wrapK _ _ _; refine wrapA ?_) | (show leK _ _ _; refine leA ?_) | (show roomK _ _ _; refine roomA ?_) | (show ltK _ _ _; refine ltA ?_) | (show _ ∧ _; refine ⟨?_, ?_⟩) | (show keepK _ _ _ _ _; refine keepA ?_) | refine own_keep ?_ | refine ap_old ?_))
  refine call_spans (f := 25) (spansH g) Try.call25 (fun ρ w' hw => spans_all w' g (holds_of_abs hw fun R h => hg.later h)) (fun hne => ?_) (fun hsp qb qc => ?_)
  · (repeat' ((conv => whnf) <;> first | (show @cmpK _ _ _; refine cmp_yes hne ?_) | (show drawK _ 23 _ _ _ _ _ _; refine draw_tree tabOk mixed [12] _ dtIF0 (by kernel_rfl) (by kernel_rfl) (by kernel_rfl) (List.Sublist.refl _) ?_) | (show drawK _ 24 _ _ _ _ _ _; refine draw_tree tabOk mixed [14] _ dtNO1 (by kernel_rfl) (by kernel_rfl) (by kernel_rfl) (List.Sublist.refl _) ?_) | (show drawK _ _ _ _ _ _ _ _; refine draw_quiet tabOk mixed (by kernel_rfl) ?_) | (show Wp _ _ _ _ _ _ _; refine Wp.go tabOk rfl ?_) | (show @cmpK _ _ _; (first | refine cmpY ?_ | refine cmpN ?_ | (refine cmp_both ?_ ?_ <;> intro _))) | (show wrapK _ _ _; refine wrapA ?_) | (show leK _ _ _; refine leA ?_) | (show roomK _ _ _; refine roomA ?_) | (show ltK _ _ _; refine ltA ?_) | (show _ ∧ _; refine ⟨?_, ?_⟩) | (show keepK _ _ _ _ _; refine keepA ?_) | refine own_keep ?_ | refine ap_old ?_))
    conv => whnf
    exact fin_of fun ρ w' hw => .inl ⟨hne, rfl, ext_of_abs hw (fun _ _ h => h)⟩
  obtain ⟨hck, hsl, hsi⟩ := spansH_in hsp
  obtain ⟨hl1, hl24, hout, hcl, hin⟩ := check_in hck
  have hL := rowOk_graph hsp
  (repeat' ((conv => whnf) <;> first | (show drawK _ 23 _ _ _ _ _ _; refine draw_tree tabOk mixed [12] _ dtIF0 (by kernel_rfl) (by kernel_rfl) (by kernel_rfl) (List.Sublist.refl _) ?_) | (show drawK _ 24 _ _ _ _ _ _; refine draw_tree tabOk mixed [14] _ dtNO1 (by kernel_rfl) (by kernel_rfl) (by kernel_rfl) (List.Sublist.refl _) ?_) | (show drawK _ _ _ _ _ _ _ _; refine draw_quiet tabOk mixed (by kernel_rfl) ?_) | (show Wp _ _ _ _ _ _ _; refine Wp.go tabOk rfl ?_) | (show @cmpK _ _ _; (first | refine cmpY ?_ | refine cmpN ?_ | (refine cmp_both ?_ ?_ <;> intro _))) | (show wrapK _ _ _; refine wrapA ?_) | (show leK _ _ _; refine leA ?_) | (show roomK _ _ _; refine roomA ?_) | (show ltK _ _ _; refine ltA ?_) | (show _ ∧ _; refine ⟨?_, ?_⟩) | (show keepK _ _ _ _ _; refine keepA ?_) | refine own_keep ?_ | refine ap_old ?_))
  refine Wp.loop (σ := Nat × List NodeV × List Nat) 5 (fun ⟨i, kept, st⟩ => [(6, .lp 2 0 0 0), (1, .lp 0 0 0 0), (2, .lp 1 0 0 0), (28, .c (.slice g.base g.l.length g.cap)), (29, .c (.int .i64 g.l.length)), (30, .c (.int .i64 i))])
    (fun ⟨i, kept, st⟩ => [(4, .rows (ints (stI st)) 1 3), (3, .rows (nodeRows kept) 9 38), (2, .box [.os 3 kept.length, .c (.int .i64 0), .os 4 st.length] 81), (1, .box [.c (.slice none 0 0), .c (.int .i64 0)] 26), (0, .box [.c (.slice g.base g.l.length g.cap), .c (.int .i64 g.out)] 26)])
    (fun ⟨_, kept, _⟩ => (baseA w).and (keptA w.heap.size kept))
    (fun ⟨i, kept, st⟩ => i ≤ g.l.length ∧ KeptOk kept ∧ TidyAt (g.l.map NodeV.pl) (check g).2 (spansH g).2 i (kept.map NodeV.pl) st) (fun s => g.l.length - s.1) (0, [], []) [(3, none), (4, none)] (by decide) (fun s => ⟨rfl, rfl⟩)
    ⟨Nat.zero_le _, fun n hn => by simp at hn, tidyAt_start _ _ _⟩ ⟨rfl, ⟨rfl, rfl, rfl, rfl, rfl, rfl, trivial⟩, ⟨rfl, rfl, (by repeat (first | exact List.mem_cons_self | apply List.mem_cons_of_mem)), (by repeat (first | exact List.mem_cons_self | apply List.mem_cons_of_mem)), (by repeat (first | exact List.mem_cons_self | apply List.mem_cons_of_mem)), trivial⟩, fun R w' h => ⟨h.1, keptA_nil _ R w'⟩⟩ ?_
  rintro ⟨i, kept, st⟩ ⟨hi, hko, hT⟩
  by_cases hlt : i < g.l.length
  · obtain ⟨a, ha⟩ : ∃ a, g.base = some a := base_some (j := i) hg.rows (by rw [nodeRows_length]; omega)
    have hrow := nodeRows_get hlt
    have hnm := List.getElem_mem hlt
    have hnp : (g.l.map NodeV.pl)[i]? = some g.l[i].pl := by rw [List.getElem?_map, List.getElem?_eq_getElem hlt]; rfl
    generalize g.l[i] = n at *
    have hno := hg.each n hnm
    have hns := hg.small n hnm
    have hnah := hL.ahead hnp
    have hstl := hT.len
    have hkl := hT.few
    rw [List.length_map] at hkl
    obtain ⟨rsh, rsp, hR, hS⟩ := hT.ok
    have hnp' : (g.l.map NodeV.pl)[st.length]? = some n.pl := by rw [hstl]; exact hnp
    obtain ⟨hm, ht⟩ := moved_in hL hR hS hnp'
    have hspn := (hL.span _ _ hnp').2
    have hT' := hT.step hL hnp
    rw [← hstl] at hnah
    rw [hstl] at hm ht hspn
    have hpl : (movedV st n).pl = movedP st n.pl := movedV_pl st n
    rw [← hpl] at hm ht
    have hmah := aheadP_of hm.form
    rw [hR.lenS, List.length_map] at hmah
    have hmo : ∀ w', n.ok w' → (movedV st n).ok w' := fun w' h => movedV_ok h hmah (by omega)
    have hms : (movedV st n).small := ⟨hns.data, hns.bias⟩
    have hb1 : -1048576 ≤ (spanP (movedV st n).pl (gD (check g).2 i) rsh rsp).1 := by unfold tight at ht; omega
    have hb2 : (spanP (movedV st n).pl (gD (check g).2 i) rsh rsp).2 ≤ 1048576 := by unfold tight at ht; omega
    have hfold : foldP (gD (check g).2 i) (kept.map NodeV.pl) (movedP st n.pl) = foldP (gD (check g).2 i) (kept.map NodeV.pl) (movedV st n).pl := by rw [hpl]
    (repeat' ((conv => whnf) <;> first | (show idxK _ _ _ _ _; refine idx_of a i ha rfl hlt ?_) | (show roAggK _ _ _ _; (refine roAgg_row (fun R w' h => by rw [← ha]; exact rows_base h.1 hg.rows) _ hrow rfl ?_)) | (show drawK _ 23 _ _ _ _ _ _; refine draw_tree tabOk mixed [12] _ dtIF0 (by kernel_rfl) (by kernel_rfl) (by kernel_rfl) (List.Sublist.refl _) ?_) | (show drawK _ 24 _ _ _ _ _ _; refine draw_tree tabOk mixed [14] _ dtNO1 (by kernel_rfl) (by kernel_rfl) (by kernel_rfl) (List.Sublist.refl _) ?_) | (show drawK _ _ _ _ _ _ _ _; refine draw_quiet tabOk mixed (by kernel_rfl) ?_) | (show Wp _ _ _ _ _ _ _; refine Wp.go tabOk rfl ?_) | (show @cmpK _ _ _; (first | refine cmpY ?_ | refine cmpN ?_ | (refine cmp_both ?_ ?_ <;> intro _))) | (show wrapK _ _ _; refine wrapA ?_) | (show leK _ _ _; refine leA ?_) | (show roomK _ _ _; refine roomA ?_) | (show ltK _ _ _; refine ltA ?_) | (show _ ∧ _; refine ⟨?_, ?_⟩) | (show keepK _ _ _ _ _; refine keepA ?_) | refine own_keep ?_ | refine ap_old ?_))
    refine Wp.rounds 3 ?_
    by_cases hk : knownP (kept.map NodeV.pl) (movedV st n).pl = true
    · have hstep : stepP (gD (check g).2 i) (kept.map NodeV.pl, st) n.pl = ((layP (kept.map NodeV.pl) ⟨2, 0, 0, gD (check g).2 i, 0, 0, 0, numsP (gD (check g).2 i) (kept.map NodeV.pl) (movedV st n).pl, []⟩).1, st ++ [(layP (kept.map NodeV.pl) ⟨2, 0, 0, gD (check g).2 i, 0, 0, 0, numsP (gD (check g).2 i) (kept.map NodeV.pl) (movedV st n).pl, []⟩).2]) := by
        unfold stepP; simp only; rw [hfold, foldP, if_pos hk]
      rw [hstep] at hT'
      unfold layP at hT'
      have hKn := known_in hR hm hk
      have hcl2 := (numsP_in hR hm hKn).2
      have he64 := (entries_bd (gD (check g).2 i)).2
      have hfd : ∀ w' b nb nc sb sc, DeskAt w' b nb nc kept sb sc (stI st) → (∀ k ∈ kept, k.ok w' ∧ k.small) → n.ok w' → Calls Try.prog 50 #[.pointer (some ⟨b, 0, none⟩), (movedV st n).valA] w' (FoldPost w' (gD (check g).2 i) (numsP (gD (check g).2 i) (kept.map NodeV.pl) (movedV st n).pl)) := fun w' b nb nc sb sc g1 g2 g3 => by
        by_cases h6 : (movedV st n).kind = 6
        · exact folded_two g1 g2 hR _ (hmo w' g3) hms hm hk hb1 hb2 h6
        · exact folded_one g1 g2 hR _ (hmo w' g3) hms hm hk hb1 hb2 h6
      cases hf : findP (kept.map NodeV.pl) ⟨2, 0, 0, gD (check g).2 i, 0, 0, 0, numsP (gD (check g).2 i) (kept.map NodeV.pl) (movedV st n).pl, []⟩ with
      | some k =>
        rw [hf] at hT'
        (repeat' ((conv => whnf) <;> first | (show callK _ 49 _ _ _ _ _; (refine call_pure (f := 49) Try.call49 (movedV st n).valA (fun ρ w' hw => by obtain ⟨b, e, hd⟩ := desk_abs hw (by repeat (first | exact List.mem_cons_self | apply List.mem_cons_of_mem)) (by repeat (first | exact List.mem_cons_self | apply List.mem_cons_of_mem)) (by repeat (first | exact List.mem_cons_self | apply List.mem_cons_of_mem)); exact desk_call e (moved_any hd n hnah (by omega))) ?_)) | (show callK _ 50 _ _ _ _ _; (refine call_fold (gD (check g).2 i) (numsP (gD (check g).2 i) (kept.map NodeV.pl) (movedV st n).pl) Try.call50 (fun ρ w' hw => by obtain ⟨b, e, hd⟩ := desk_abs hw (by repeat (first | exact List.mem_cons_self | apply List.mem_cons_of_mem)) (by repeat (first | exact List.mem_cons_self | apply List.mem_cons_of_mem)) (by repeat (first | exact List.mem_cons_self | apply List.mem_cons_of_mem)); exact desk_call e (hfd w' b _ _ _ _ hd (holds_of_abs hw fun R h => kept_ok hko h.2) (holds_of_abs hw fun R h => hno.later h.1))) (fun u x r1 r2 r3 r4 => ?_))) | (show callK _ 51 _ _ _ _ _; (refine lay_found (m := constN u x) (fun R w' h => foldD_ok r2 r4 h.2) (fun R w' h y hy => (kept_ok hko h.1.2 y hy).1) (by omega) (by omega) (by rw [constN_pl r1 r3]; exact hf) (fun e8 e7 => ?_))) | (show drawK _ 23 _ _ _ _ _ _; refine draw_tree tabOk mixed [12] _ dtIF0 (by kernel_rfl) (by kernel_rfl) (by kernel_rfl) (List.Sublist.refl _) ?_) | (show drawK _ 24 _ _ _ _ _ _; refine draw_tree tabOk mixed [14] _ dtNO1 (by kernel_rfl) (by kernel_rfl) (by kernel_rfl) (List.Sublist.refl _) ?_) | (show drawK _ _ _ _ _ _ _ _; refine draw_quiet tabOk mixed (by kernel_rfl) ?_) | (show Wp _ _ _ _ _ _ _; refine Wp.go tabOk rfl ?_) | (show @cmpK _ _ _; (first | refine cmpY ?_ | refine cmpN ?_ | (refine cmp_both ?_ ?_ <;> intro _))) | (show wrapK _ _ _; refine wrapA ?_) | (show leK _ _ _; refine leA ?_) | (show roomK _ _ _; refine roomA ?_) | (show ltK _ _ _; refine ltA ?_) | (show _ ∧ _; refine ⟨?_, ?_⟩) | (show keepK _ _ _ _ _; refine keepA ?_) | refine own_keep ?_ | refine ap_old ?_))
        all_goals (conv => whnf)
        all_goals exact ⟨(i + 1, kept, st ++ [k]), [(4, some 9), (3, some 3)], ⟨hlt, hko, hT'⟩, by simp only; omega, rfl, ⟨rfl, rfl, rfl, rfl, rfl, rfl, trivial⟩, ⟨(by repeat (first | exact List.mem_cons_self | apply List.mem_cons_of_mem)), (by repeat (first | exact List.mem_cons_self | apply List.mem_cons_of_mem)), (by repeat (first | exact List.mem_cons_self | apply List.mem_cons_of_mem)), (by repeat (first | exact List.mem_cons_self | apply List.mem_cons_of_mem)), (by repeat (first | exact List.mem_cons_self | apply List.mem_cons_of_mem)), trivial⟩, fun R w' h => h.1⟩
      | none =>
        rw [hf] at hT'
        (repeat' ((conv => whnf) <;> first | (show callK _ 49 _ _ _ _ _; (refine call_pure (f := 49) Try.call49 (movedV st n).valA (fun ρ w' hw => by obtain ⟨b, e, hd⟩ := desk_abs hw (by repeat (first | exact List.mem_cons_self | apply List.mem_cons_of_mem)) (by repeat (first | exact List.mem_cons_self | apply List.mem_cons_of_mem)) (by repeat (first | exact List.mem_cons_self | apply List.mem_cons_of_mem)); exact desk_call e (moved_any hd n hnah (by omega))) ?_)) | (show callK _ 50 _ _ _ _ _; (refine call_fold (gD (check g).2 i) (numsP (gD (check g).2 i) (kept.map NodeV.pl) (movedV st n).pl) Try.call50 (fun ρ w' hw => by obtain ⟨b, e, hd⟩ := desk_abs hw (by repeat (first | exact List.mem_cons_self | apply List.mem_cons_of_mem)) (by repeat (first | exact List.mem_cons_self | apply List.mem_cons_of_mem)) (by repeat (first | exact List.mem_cons_self | apply List.mem_cons_of_mem)); exact desk_call e (hfd w' b _ _ _ _ hd (holds_of_abs hw fun R h => kept_ok hko h.2) (holds_of_abs hw fun R h => hno.later h.1))) (fun u x r1 r2 r3 r4 => ?_))) | (show callK _ 51 _ _ _ _ _; (refine lay_new (m := constN u x) (fun R w' h => foldD_ok r2 r4 h.2) (fun R w' h y hy => (kept_ok hko h.1.2 y hy).1) (by omega) (by omega) (by rw [constN_pl r1 r3]; exact hf) (fun e10 e8 e7 u1 u2 u3 q1 q2 q3 q4 q5 q6 => ?_))) | (show drawK _ 23 _ _ _ _ _ _; refine draw_tree tabOk mixed [12] _ dtIF0 (by kernel_rfl) (by kernel_rfl) (by kernel_rfl) (List.Sublist.refl _) ?_) | (show drawK _ 24 _ _ _ _ _ _; refine draw_tree tabOk mixed [14] _ dtNO1 (by kernel_rfl) (by kernel_rfl) (by kernel_rfl) (List.Sublist.refl _) ?_) | (show drawK _ _ _ _ _ _ _ _; refine draw_quiet tabOk mixed (by kernel_rfl) ?_) | (show Wp _ _ _ _ _ _ _; refine Wp.go tabOk rfl ?_) | (show @cmpK _ _ _; (first | refine cmpY ?_ | refine cmpN ?_ | (refine cmp_both ?_ ?_ <;> intro _))) | (show wrapK _ _ _; refine wrapA ?_) | (show leK _ _ _; refine leA ?_) | (show roomK _ _ _; refine roomA ?_) | (show ltK _ _ _; refine ltA ?_) | (show _ ∧ _; refine ⟨?_, ?_⟩) | (show keepK _ _ _ _ _; refine keepA ?_) | refine own_keep ?_ | refine ap_old ?_))
        all_goals (conv => whnf)
        all_goals exact ⟨(i + 1, kept ++ [cloneV (constN u x) u1 u2 u3], st ++ [kept.length]), [(4, some 11), (3, some 9)], ⟨hlt, cloneV_kept hko (constN_sane r2 r4) ⟨by show x.xs.length ≤ 5000; rw [r3, hcl2]; omega, Nat.zero_le _⟩ q2 q3 q4 q5 q6, by rw [lay_row q1 q3 q5, constN_pl r1 r3]; rw [List.length_map] at hT'; exact hT'⟩, by simp only; omega, rfl, ⟨rfl, rfl, rfl, rfl, rfl, rfl, trivial⟩, ⟨(by repeat (first | exact List.mem_cons_self | apply List.mem_cons_of_mem)), (by repeat (first | exact List.mem_cons_self | apply List.mem_cons_of_mem)), (by repeat (first | exact List.mem_cons_self | apply List.mem_cons_of_mem)), (by repeat (first | exact List.mem_cons_self | apply List.mem_cons_of_mem)), (by repeat (first | exact List.mem_cons_self | apply List.mem_cons_of_mem)), trivial⟩, fun R w' h => ⟨h.1.1.1.1.1, keptA_snoc h.1.1.1.1.2 ⟨h.1.1.2, h.1.2, h.2⟩⟩⟩
    · have hstep : stepP (gD (check g).2 i) (kept.map NodeV.pl, st) n.pl = ((layP (kept.map NodeV.pl) (movedV st n).pl).1, st ++ [(layP (kept.map NodeV.pl) (movedV st n).pl).2]) := by
        unfold stepP; simp only; rw [hfold, foldP, if_neg hk]
      rw [hstep] at hT'
      unfold layP at hT'
      cases hf : findP (kept.map NodeV.pl) (movedV st n).pl with
      | some k =>
        rw [hf] at hT'
        (repeat' ((conv => whnf) <;> first | (show callK _ 49 _ _ _ _ _; (refine call_pure (f := 49) Try.call49 (movedV st n).valA (fun ρ w' hw => by obtain ⟨b, e, hd⟩ := desk_abs hw (by repeat (first | exact List.mem_cons_self | apply List.mem_cons_of_mem)) (by repeat (first | exact List.mem_cons_self | apply List.mem_cons_of_mem)) (by repeat (first | exact List.mem_cons_self | apply List.mem_cons_of_mem)); exact desk_call e (moved_any hd n hnah (by omega))) ?_)) | (show callK _ 50 _ _ _ _ _; (refine call_pure (f := 50) Try.call50 (movedV st n).valA (fun ρ w' hw => by obtain ⟨b, e, hd⟩ := desk_abs hw (by repeat (first | exact List.mem_cons_self | apply List.mem_cons_of_mem)) (by repeat (first | exact List.mem_cons_self | apply List.mem_cons_of_mem)) (by repeat (first | exact List.mem_cons_self | apply List.mem_cons_of_mem)); exact desk_call e (folded_no hd (movedV st n) hmah (by simpa using hk))) ?_)) | (show callK _ 51 _ _ _ _ _; refine lay_found (m := movedV st n) (fun R w' h => hmo w' (hno.later h.1)) (fun R w' h x hx => (kept_ok hko h.2 x hx).1) (by omega) (by omega) hf (fun e8 e7 => ?_)) | (show drawK _ 23 _ _ _ _ _ _; refine draw_tree tabOk mixed [12] _ dtIF0 (by kernel_rfl) (by kernel_rfl) (by kernel_rfl) (List.Sublist.refl _) ?_) | (show drawK _ 24 _ _ _ _ _ _; refine draw_tree tabOk mixed [14] _ dtNO1 (by kernel_rfl) (by kernel_rfl) (by kernel_rfl) (List.Sublist.refl _) ?_) | (show drawK _ _ _ _ _ _ _ _; refine draw_quiet tabOk mixed (by kernel_rfl) ?_) | (show Wp _ _ _ _ _ _ _; refine Wp.go tabOk rfl ?_) | (show @cmpK _ _ _; (first | refine cmpY ?_ | refine cmpN ?_ | (refine cmp_both ?_ ?_ <;> intro _))) | (show wrapK _ _ _; refine wrapA ?_) | (show leK _ _ _; refine leA ?_) | (show roomK _ _ _; refine roomA ?_) | (show ltK _ _ _; refine ltA ?_) | (show _ ∧ _; refine ⟨?_, ?_⟩) | (show keepK _ _ _ _ _; refine keepA ?_) | refine own_keep ?_ | refine ap_old ?_))
        all_goals (conv => whnf)
        all_goals exact ⟨(i + 1, kept, st ++ [k]), [(4, some 9), (3, some 3)], ⟨hlt, hko, hT'⟩, by simp only; omega, rfl, ⟨rfl, rfl, rfl, rfl, rfl, rfl, trivial⟩, ⟨(by repeat (first | exact List.mem_cons_self | apply List.mem_cons_of_mem)), (by repeat (first | exact List.mem_cons_self | apply List.mem_cons_of_mem)), (by repeat (first | exact List.mem_cons_self | apply List.mem_cons_of_mem)), (by repeat (first | exact List.mem_cons_self | apply List.mem_cons_of_mem)), (by repeat (first | exact List.mem_cons_self | apply List.mem_cons_of_mem)), trivial⟩, fun R w' h => h⟩
      | none =>
        rw [hf] at hT'
        have hmsn : (movedV st n).saneN := (hmo w hno).saneN
        (repeat' ((conv => whnf) <;> first | (show callK _ 49 _ _ _ _ _; (refine call_pure (f := 49) Try.call49 (movedV st n).valA (fun ρ w' hw => by obtain ⟨b, e, hd⟩ := desk_abs hw (by repeat (first | exact List.mem_cons_self | apply List.mem_cons_of_mem)) (by repeat (first | exact List.mem_cons_self | apply List.mem_cons_of_mem)) (by repeat (first | exact List.mem_cons_self | apply List.mem_cons_of_mem)); exact desk_call e (moved_any hd n hnah (by omega))) ?_)) | (show callK _ 50 _ _ _ _ _; (refine call_pure (f := 50) Try.call50 (movedV st n).valA (fun ρ w' hw => by obtain ⟨b, e, hd⟩ := desk_abs hw (by repeat (first | exact List.mem_cons_self | apply List.mem_cons_of_mem)) (by repeat (first | exact List.mem_cons_self | apply List.mem_cons_of_mem)) (by repeat (first | exact List.mem_cons_self | apply List.mem_cons_of_mem)); exact desk_call e (folded_no hd (movedV st n) hmah (by simpa using hk))) ?_)) | (show callK _ 51 _ _ _ _ _; refine lay_new (m := movedV st n) (fun R w' h => hmo w' (hno.later h.1)) (fun R w' h x hx => (kept_ok hko h.2 x hx).1) (by omega) (by omega) hf (fun e10 e8 e7 u1 u2 u3 q1 q2 q3 q4 q5 q6 => ?_)) | (show drawK _ 23 _ _ _ _ _ _; refine draw_tree tabOk mixed [12] _ dtIF0 (by kernel_rfl) (by kernel_rfl) (by kernel_rfl) (List.Sublist.refl _) ?_) | (show drawK _ 24 _ _ _ _ _ _; refine draw_tree tabOk mixed [14] _ dtNO1 (by kernel_rfl) (by kernel_rfl) (by kernel_rfl) (List.Sublist.refl _) ?_) | (show drawK _ _ _ _ _ _ _ _; refine draw_quiet tabOk mixed (by kernel_rfl) ?_) | (show Wp _ _ _ _ _ _ _; refine Wp.go tabOk rfl ?_) | (show @cmpK _ _ _; (first | refine cmpY ?_ | refine cmpN ?_ | (refine cmp_both ?_ ?_ <;> intro _))) | (show wrapK _ _ _; refine wrapA ?_) | (show leK _ _ _; refine leA ?_) | (show roomK _ _ _; refine roomA ?_) | (show ltK _ _ _; refine ltA ?_) | (show _ ∧ _; refine ⟨?_, ?_⟩) | (show keepK _ _ _ _ _; refine keepA ?_) | refine own_keep ?_ | refine ap_old ?_))
        all_goals (conv => whnf)
        all_goals exact ⟨(i + 1, kept ++ [cloneV (movedV st n) u1 u2 u3], st ++ [kept.length]), [(4, some 11), (3, some 9)], ⟨hlt, cloneV_kept hko hmsn hms q2 q3 q4 q5 q6, by rw [lay_row q1 q3 q5]; rw [List.length_map] at hT'; exact hT'⟩, by simp only; omega, rfl, ⟨rfl, rfl, rfl, rfl, rfl, rfl, trivial⟩, ⟨(by repeat (first | exact List.mem_cons_self | apply List.mem_cons_of_mem)), (by repeat (first | exact List.mem_cons_self | apply List.mem_cons_of_mem)), (by repeat (first | exact List.mem_cons_self | apply List.mem_cons_of_mem)), (by repeat (first | exact List.mem_cons_self | apply List.mem_cons_of_mem)), (by repeat (first | exact List.mem_cons_self | apply List.mem_cons_of_mem)), trivial⟩, fun R w' h => ⟨h.1.1.1.1, keptA_snoc h.1.1.1.2 ⟨h.1.1.2, h.1.2, h.2⟩⟩⟩
  · obtain rfl : i = g.l.length := by omega
    have hdone : tidyL (g.l.map NodeV.pl) (check g).2 ([], []) = (kept.map NodeV.pl, st) := by
      have e : (g.l.map NodeV.pl).length = g.l.length := List.length_map _
      rw [← e] at hT
      exact hT.done
    have hstl := hT.len
    have hkl := hT.few
    rw [List.length_map] at hkl
    obtain ⟨rsh, rsp, hR, hS⟩ := hT.ok
    have hoL : g.out.toNat < st.length := by omega
    have hoK : st.getD g.out.toNat 0 < kept.length := by have := hS.lt _ hoL; rwa [hR.lenS, List.length_map] at this
    have hx : tidyP (g.l.map NodeV.pl) (check g).2 g.out.toNat = ((cutL (needB (kept.map NodeV.pl) (st.getD g.out.toNat 0)) (kept.map NodeV.pl) 0 ([], [])).1, (cutL (needB (kept.map NodeV.pl) (st.getD g.out.toNat 0)) (kept.map NodeV.pl) 0 ([], [])).2.getD (st.getD g.out.toNat 0) 0) := by unfold tidyP; rw [hdone]
    rw [hx]
    have hoR : (ints (stI st))[g.out.toNat]? = some [.int .i64 (st.getD g.out.toNat 0)] := stI_get hoL
    generalize st.getD g.out.toNat 0 = out at *
    (repeat' ((conv => whnf) <;> first | (show mapNewK _ _ _ _; refine mapNew_set (fun r => ?_)) | (show idxRowK _ _ _ _ _ _; (refine idxRow_of g.out.toNat (by omega) hoL (by rw [stI_length]; exact Nat.le_refl _) ?_)) | (show rowK _ _ _ _; refine row_of _ _ hoR rfl ?_) | (show callK _ 52 _ _ _ _ _; (refine call_map (by repeat (first | exact List.mem_cons_self | apply List.mem_cons_of_mem)) Try.call52 (fun _ => .tuple #[]) setM (NeedR (kept.map NodeV.pl) out (fun _ => false)) (fun ρ w' hw hm' => by obtain ⟨b, e, hd⟩ := desk_abs hw (by repeat (first | exact List.mem_cons_self | apply List.mem_cons_of_mem)) (by repeat (first | exact List.mem_cons_self | apply List.mem_cons_of_mem)) (by repeat (first | exact List.mem_cons_self | apply List.mem_cons_of_mem)); exact desk_call3 e (needed_any hR (out + 1) out (Nat.lt_succ_self _) hoK w' _ hd hm')) (fun s hs => ?_))) | (show makeK _ _ _ _; (refine make_of kept.length rfl rfl (by show 8 * _ ≤ _; omega) (by omega) ?_)) | (show drawK _ 23 _ _ _ _ _ _; refine draw_tree tabOk mixed [12] _ dtIF0 (by kernel_rfl) (by kernel_rfl) (by kernel_rfl) (List.Sublist.refl _) ?_) | (show drawK _ 24 _ _ _ _ _ _; refine draw_tree tabOk mixed [14] _ dtNO1 (by kernel_rfl) (by kernel_rfl) (by kernel_rfl) (List.Sublist.refl _) ?_) | (show drawK _ _ _ _ _ _ _ _; refine draw_quiet tabOk mixed (by kernel_rfl) ?_) | (show Wp _ _ _ _ _ _ _; refine Wp.go tabOk rfl ?_) | (show @cmpK _ _ _; (first | refine cmpY ?_ | refine cmpN ?_ | (refine cmp_both ?_ ?_ <;> intro _))) | (show wrapK _ _ _; refine wrapA ?_) | (show leK _ _ _; refine leA ?_) | (show roomK _ _ _; refine roomA ?_) | (show ltK _ _ _; refine ltA ?_) | (show _ ∧ _; refine ⟨?_, ?_⟩) | (show keepK _ _ _ _ _; refine keepA ?_) | refine own_keep ?_ | refine ap_old ?_))
    have hoK' : out < (kept.map NodeV.pl).length := by rw [List.length_map]; exact hoK
    obtain rfl := need_set hR.aheads hoK' hs
    generalize hneed : needB (kept.map NodeV.pl) out = need at *
    generalize hfin : cutL need (kept.map NodeV.pl) 0 ([], []) = fin at *
    refine Wp.loop (σ := Nat × List NodeV × List Nat) 9 (fun ⟨j, acc, p⟩ => [(13, .lp 7 0 0 0), (11, .c (.map (some r))), (12, .c (.int .i64 out)), (2, .lp 1 0 0 0), (78, .os 3 kept.length), (79, .c (.int .i64 kept.length)), (80, .c (.int .i64 j))])
      (fun ⟨j, acc, p⟩ => [(8, .rows (nodeRows acc) 9 38), (7, .box [.os 8 acc.length, .c (.int .i64 0), .os 6 kept.length] 81), (6, .rows (ints (stI (gridN kept.length p))) 1 3), (5, .ext (mapO r (setM need))), (3, .rows (nodeRows kept) 9 38), (1, .box [.c (.slice none 0 0), .c (.int .i64 0)] 26)])
      (fun _ => (baseA w).and (keptA w.heap.size kept))
      (fun ⟨j, acc, p⟩ => j ≤ kept.length ∧ p.length = j ∧ acc.length ≤ j ∧ KeptOk acc ∧ From kept acc ∧ cutL need ((kept.map NodeV.pl).drop j) j (acc.map NodeV.pl, p) = fin ∧ ∀ k, p.getD k 0 ≤ 1000000) (fun s => kept.length - s.1) (0, [], []) [(8, none)] (by decide) (fun s => ⟨rfl, rfl⟩)
      ⟨Nat.zero_le _, rfl, Nat.zero_le _, fun n hn => by simp at hn, fun n hn => by simp at hn, hfin, fun k => Nat.zero_le _⟩ ⟨rfl, ⟨rfl, rfl, rfl, rfl, rfl, rfl, rfl, trivial⟩, ⟨rfl, (by repeat (first | exact List.mem_cons_self | apply List.mem_cons_of_mem)), ?_, (by repeat (first | exact List.mem_cons_self | apply List.mem_cons_of_mem)), (by repeat (first | exact List.mem_cons_self | apply List.mem_cons_of_mem)), (by repeat (first | exact List.mem_cons_self | apply List.mem_cons_of_mem)), trivial⟩, fun R w' h => h⟩ ?_
    · show (6, Ent.rows (ints (stI (gridN kept.length []))) 1 3) ∈ _
      rw [gridN_start]
      exact (by repeat (first | exact List.mem_cons_self | apply List.mem_cons_of_mem))
    rintro ⟨j, acc, p⟩ ⟨hj, hpl, hal, hao, hfr, hcut, hple⟩
    have hgl : (ints (stI (gridN kept.length p))).length = kept.length := by rw [stI_length, gridN_length (by omega)]
    by_cases hlt : j < kept.length
    · have hrow := nodeRows_get hlt
      have hxm := List.getElem_mem hlt
      have hjr : j < (kept.map NodeV.pl).length := by rw [List.length_map]; exact hlt
      have hxr : (kept.map NodeV.pl)[j] = kept[j].pl := by simp
      have hxa := hR.ahead (List.getElem?_eq_getElem hjr)
      rw [List.drop_eq_getElem_cons hjr] at hcut
      rw [hxr] at hxa hcut
      generalize kept[j] = x at *
      have hxo := hko x hxm
      have hkx : x.pl.kind = x.kind := rfl
      rw [cutL_cons, hkx] at hcut
      have hq : (gridN kept.length (p ++ [acc.length])).length = kept.length := gridN_length (by rw [List.length_append, List.length_singleton]; omega)
      have hxq : AheadP x.pl (gridN kept.length (p ++ [acc.length])).length := by rw [hq]; exact hxa.mono (by omega)
      have hxv : (movedV (gridN kept.length (p ++ [acc.length])) x).pl = movedP p x.pl := by
        rw [movedV_pl, gridN_moved (by rw [List.length_append, List.length_singleton, hpl]; exact hxa.mono (by omega)), moved_snoc (by rw [hpl]; exact hxa)]
      by_cases hin : need j = true ∨ x.kind = 1
      · rw [if_pos hin] at hcut
        have hkeep : KeptOk (acc ++ [movedV (gridN kept.length (p ++ [acc.length])) x]) := kept_snoc hao (movedV_sane hxo.1 (gridN_le (snoc_le hple (by omega)))) ⟨hxo.2.data, hxo.2.bias⟩
        have hcut2 : cutL need ((kept.map NodeV.pl).drop (j + 1)) (j + 1) ((acc ++ [movedV (gridN kept.length (p ++ [acc.length])) x]).map NodeV.pl, p ++ [acc.length]) = fin := by
          rw [List.map_append, List.map_cons, List.map_nil, hxv]
          simp only [List.length_map] at hcut
          exact hcut
        cases hsb : need j with
        | true =>
          (repeat' ((conv => whnf) <;> first | (show lookK _ _ _ _ _ _ _ _; (refine look_set (by repeat (first | exact List.mem_cons_self | apply List.mem_cons_of_mem)) hsb ?_)) | (show idxRowK _ _ _ _ _ _; (first | refine idxRow_of j rfl hlt (Nat.le_of_eq (nodeRows_length kept).symm) ?_ | refine idxRow_of j rfl hlt (Nat.le_of_eq hgl.symm) ?_)) | (show rowAggK _ _ _ _ _; refine rowAgg_of _ _ hrow rfl rfl ?_) | (show rowStoreK _ _ _ _ _; refine gridN_store hpl hlt ?_) | (show drawK _ 24 _ _ _ _ _ _; refine draw_tree tabOk mixed [14] _ dtNO1 (by kernel_rfl) (by kernel_rfl) (by kernel_rfl) (List.Sublist.cons_cons _ (List.Sublist.cons _ (List.Sublist.refl _))) ?_) | (show callK _ 49 _ _ _ _ _; (refine call_pure (f := 49) Try.call49 (movedV (gridN kept.length (p ++ [acc.length])) x).valA (fun ρ w' hw => by obtain ⟨b, e, hd⟩ := desk_abs2 (st := gridN kept.length (p ++ [acc.length])) hw hq (by repeat (first | exact List.mem_cons_self | apply List.mem_cons_of_mem)) (by repeat (first | exact List.mem_cons_self | apply List.mem_cons_of_mem)) (by repeat (first | exact List.mem_cons_self | apply List.mem_cons_of_mem)); exact desk_call e (moved_any hd x hxq (by omega))) ?_)) | (show ownK _ ((_, .rows (List.take acc.length _ ++ _) _ _) :: _) _ _ _; refine own_eq (ys := nodeRows (acc ++ [movedV (gridN kept.length (p ++ [acc.length])) x])) (m := (acc ++ [movedV (gridN kept.length (p ++ [acc.length])) x]).length) ?_ (nodes_snoc acc (movedV (gridN kept.length (p ++ [acc.length])) x)) (by show acc.length + 1 = _; rw [List.length_append]; rfl)) | (show leK _ _ _; (refine le_of (by rw [nodeRows_length]; exact Nat.le_refl _) ?_)) | (show roomK _ _ _; (refine room_of (by show (acc.length + 1) * 120 ≤ 140737488355328; omega) ?_)) | (show keepK _ _ _ _ _; (first | refine keep_of (List.Sublist.cons _ (List.Sublist.cons _ (List.Sublist.refl _))) (fun _ _ h => h) ?_ | refine keep_of (List.Sublist.cons_cons _ (List.Sublist.cons _ (List.Sublist.refl _))) (fun _ _ h => h) ?_ | refine keep_of (List.Sublist.cons _ (List.Sublist.cons_cons _ (List.Sublist.cons _ (List.Sublist.refl _)))) (fun _ _ h => h) ?_)) | (show drawK _ 23 _ _ _ _ _ _; refine draw_tree tabOk mixed [12] _ dtIF0 (by kernel_rfl) (by kernel_rfl) (by kernel_rfl) (List.Sublist.refl _) ?_) | (show drawK _ _ _ _ _ _ _ _; refine draw_quiet tabOk mixed (by kernel_rfl) ?_) | (show Wp _ _ _ _ _ _ _; refine Wp.go tabOk rfl ?_) | (show @cmpK _ _ _; (first | refine cmpY ?_ | refine cmpN ?_ | (refine cmp_both ?_ ?_ <;> intro _))) | (show wrapK _ _ _; refine wrapA ?_) | (show leK _ _ _; refine leA ?_) | (show roomK _ _ _; refine roomA ?_) | (show ltK _ _ _; refine ltA ?_) | (show _ ∧ _; refine ⟨?_, ?_⟩) | (show keepK _ _ _ _ _; refine keepA ?_) | refine own_keep ?_ | refine ap_old ?_))
          all_goals (conv => whnf)
          all_goals exact ⟨(j + 1, acc ++ [movedV (gridN kept.length (p ++ [acc.length])) x], p ++ [acc.length]), [(8, some 11)], ⟨hlt, by rw [List.length_append, List.length_singleton, hpl], by rw [List.length_append, List.length_singleton]; omega, hkeep, from_snoc hfr hxm, hcut2, snoc_le hple (by omega)⟩, by simp only; omega, rfl, ⟨rfl, rfl, rfl, rfl, rfl, rfl, rfl, trivial⟩, ⟨(by repeat (first | exact List.mem_cons_self | apply List.mem_cons_of_mem)), (by repeat (first | exact List.mem_cons_self | apply List.mem_cons_of_mem)), (by repeat (first | exact List.mem_cons_self | apply List.mem_cons_of_mem)), (by repeat (first | exact List.mem_cons_self | apply List.mem_cons_of_mem)), (by repeat (first | exact List.mem_cons_self | apply List.mem_cons_of_mem)), (by repeat (first | exact List.mem_cons_self | apply List.mem_cons_of_mem)), trivial⟩, fun R w' h => h⟩
        | false =>
          have hk1 : x.kind = 1 := by rw [hsb] at hin; simpa using hin
          (repeat' ((conv => whnf) <;> first | (show lookK _ _ _ _ _ _ _ _; (refine look_set (by repeat (first | exact List.mem_cons_self | apply List.mem_cons_of_mem)) hsb ?_)) | (show idxRowK _ _ _ _ _ _; (first | refine idxRow_of j rfl hlt (Nat.le_of_eq (nodeRows_length kept).symm) ?_ | refine idxRow_of j rfl hlt (Nat.le_of_eq hgl.symm) ?_)) | (show rowAggK _ _ _ _ _; refine rowAgg_of _ _ hrow rfl rfl ?_) | (show rowStoreK _ _ _ _ _; refine gridN_store hpl hlt ?_) | (show drawK _ 24 _ _ _ _ _ _; refine draw_tree tabOk mixed [14] _ dtNO1 (by kernel_rfl) (by kernel_rfl) (by kernel_rfl) (List.Sublist.cons_cons _ (List.Sublist.cons _ (List.Sublist.refl _))) ?_) | (show callK _ 49 _ _ _ _ _; (refine call_pure (f := 49) Try.call49 (movedV (gridN kept.length (p ++ [acc.length])) x).valA (fun ρ w' hw => by obtain ⟨b, e, hd⟩ := desk_abs2 (st := gridN kept.length (p ++ [acc.length])) hw hq (by repeat (first | exact List.mem_cons_self | apply List.mem_cons_of_mem)) (by repeat (first | exact List.mem_cons_self | apply List.mem_cons_of_mem)) (by repeat (first | exact List.mem_cons_self | apply List.mem_cons_of_mem)); exact desk_call e (moved_any hd x hxq (by omega))) ?_)) | (show ownK _ ((_, .rows (List.take acc.length _ ++ _) _ _) :: _) _ _ _; refine own_eq (ys := nodeRows (acc ++ [movedV (gridN kept.length (p ++ [acc.length])) x])) (m := (acc ++ [movedV (gridN kept.length (p ++ [acc.length])) x]).length) ?_ (nodes_snoc acc (movedV (gridN kept.length (p ++ [acc.length])) x)) (by show acc.length + 1 = _; rw [List.length_append]; rfl)) | (show leK _ _ _; (refine le_of (by rw [nodeRows_length]; exact Nat.le_refl _) ?_)) | (show roomK _ _ _; (refine room_of (by show (acc.length + 1) * 120 ≤ 140737488355328; omega) ?_)) | (show keepK _ _ _ _ _; (first | refine keep_of (List.Sublist.cons _ (List.Sublist.cons _ (List.Sublist.refl _))) (fun _ _ h => h) ?_ | refine keep_of (List.Sublist.cons_cons _ (List.Sublist.cons _ (List.Sublist.refl _))) (fun _ _ h => h) ?_ | refine keep_of (List.Sublist.cons _ (List.Sublist.cons_cons _ (List.Sublist.cons _ (List.Sublist.refl _)))) (fun _ _ h => h) ?_)) | (show drawK _ 23 _ _ _ _ _ _; refine draw_tree tabOk mixed [12] _ dtIF0 (by kernel_rfl) (by kernel_rfl) (by kernel_rfl) (List.Sublist.refl _) ?_) | (show drawK _ _ _ _ _ _ _ _; refine draw_quiet tabOk mixed (by kernel_rfl) ?_) | (show Wp _ _ _ _ _ _ _; refine Wp.go tabOk rfl ?_) | (show @cmpK _ _ _; (first | refine cmpY ?_ | refine cmpN ?_ | (refine cmp_both ?_ ?_ <;> intro _))) | (show wrapK _ _ _; refine wrapA ?_) | (show leK _ _ _; refine leA ?_) | (show roomK _ _ _; refine roomA ?_) | (show ltK _ _ _; refine ltA ?_) | (show _ ∧ _; refine ⟨?_, ?_⟩) | (show keepK _ _ _ _ _; refine keepA ?_) | refine own_keep ?_ | refine ap_old ?_))
          all_goals (conv => whnf)
          all_goals exact ⟨(j + 1, acc ++ [movedV (gridN kept.length (p ++ [acc.length])) x], p ++ [acc.length]), [(8, some 11)], ⟨hlt, by rw [List.length_append, List.length_singleton, hpl], by rw [List.length_append, List.length_singleton]; omega, hkeep, from_snoc hfr hxm, hcut2, snoc_le hple (by omega)⟩, by simp only; omega, rfl, ⟨rfl, rfl, rfl, rfl, rfl, rfl, rfl, trivial⟩, ⟨(by repeat (first | exact List.mem_cons_self | apply List.mem_cons_of_mem)), (by repeat (first | exact List.mem_cons_self | apply List.mem_cons_of_mem)), (by repeat (first | exact List.mem_cons_self | apply List.mem_cons_of_mem)), (by repeat (first | exact List.mem_cons_self | apply List.mem_cons_of_mem)), (by repeat (first | exact List.mem_cons_self | apply List.mem_cons_of_mem)), (by repeat (first | exact List.mem_cons_self | apply List.mem_cons_of_mem)), trivial⟩, fun R w' h => h⟩
      · rw [if_neg hin] at hcut
        have hsb : need j = false := by simpa using fun h => hin (.inl h)
        have hk1 : ¬ x.kind = 1 := fun h => hin (.inr h)
        (repeat' ((conv => whnf) <;> first | (show lookK _ _ _ _ _ _ _ _; (refine look_set (by repeat (first | exact List.mem_cons_self | apply List.mem_cons_of_mem)) hsb ?_)) | (show idxRowK _ _ _ _ _ _; (first | refine idxRow_of j rfl hlt (Nat.le_of_eq (nodeRows_length kept).symm) ?_ | refine idxRow_of j rfl hlt (Nat.le_of_eq hgl.symm) ?_)) | (show rowAggK _ _ _ _ _; refine rowAgg_of _ _ hrow rfl rfl ?_) | (show rowStoreK _ _ _ _ _; refine gridN_store hpl hlt ?_) | (show drawK _ 24 _ _ _ _ _ _; refine draw_tree tabOk mixed [14] _ dtNO1 (by kernel_rfl) (by kernel_rfl) (by kernel_rfl) (List.Sublist.cons_cons _ (List.Sublist.cons _ (List.Sublist.refl _))) ?_) | (show callK _ 49 _ _ _ _ _; (refine call_pure (f := 49) Try.call49 (movedV (gridN kept.length (p ++ [acc.length])) x).valA (fun ρ w' hw => by obtain ⟨b, e, hd⟩ := desk_abs2 (st := gridN kept.length (p ++ [acc.length])) hw hq (by repeat (first | exact List.mem_cons_self | apply List.mem_cons_of_mem)) (by repeat (first | exact List.mem_cons_self | apply List.mem_cons_of_mem)) (by repeat (first | exact List.mem_cons_self | apply List.mem_cons_of_mem)); exact desk_call e (moved_any hd x hxq (by omega))) ?_)) | (show ownK _ ((_, .rows (List.take acc.length _ ++ _) _ _) :: _) _ _ _; refine own_eq (ys := nodeRows (acc ++ [movedV (gridN kept.length (p ++ [acc.length])) x])) (m := (acc ++ [movedV (gridN kept.length (p ++ [acc.length])) x]).length) ?_ (nodes_snoc acc (movedV (gridN kept.length (p ++ [acc.length])) x)) (by show acc.length + 1 = _; rw [List.length_append]; rfl)) | (show leK _ _ _; (refine le_of (by rw [nodeRows_length]; exact Nat.le_refl _) ?_)) | (show roomK _ _ _; (refine room_of (by show (acc.length + 1) * 120 ≤ 140737488355328; omega) ?_)) | (show keepK _ _ _ _ _; (first | refine keep_of (List.Sublist.cons _ (List.Sublist.cons _ (List.Sublist.refl _))) (fun _ _ h => h) ?_ | refine keep_of (List.Sublist.cons_cons _ (List.Sublist.cons _ (List.Sublist.refl _))) (fun _ _ h => h) ?_ | refine keep_of (List.Sublist.cons _ (List.Sublist.cons_cons _ (List.Sublist.cons _ (List.Sublist.refl _)))) (fun _ _ h => h) ?_)) | (show drawK _ 23 _ _ _ _ _ _; refine draw_tree tabOk mixed [12] _ dtIF0 (by kernel_rfl) (by kernel_rfl) (by kernel_rfl) (List.Sublist.refl _) ?_) | (show drawK _ _ _ _ _ _ _ _; refine draw_quiet tabOk mixed (by kernel_rfl) ?_) | (show Wp _ _ _ _ _ _ _; refine Wp.go tabOk rfl ?_) | (show @cmpK _ _ _; (first | refine cmpY ?_ | refine cmpN ?_ | (refine cmp_both ?_ ?_ <;> intro _))) | (show wrapK _ _ _; refine wrapA ?_) | (show leK _ _ _; refine leA ?_) | (show roomK _ _ _; refine roomA ?_) | (show ltK _ _ _; refine ltA ?_) | (show _ ∧ _; refine ⟨?_, ?_⟩) | (show keepK _ _ _ _ _; refine keepA ?_) | refine own_keep ?_ | refine ap_old ?_))
        all_goals (conv => whnf)
        all_goals exact ⟨(j + 1, acc, p ++ [0]), [(8, some 8)], ⟨hlt, by rw [List.length_append, List.length_singleton, hpl], by omega, hao, hfr, hcut, snoc_le hple (Nat.zero_le _)⟩, by simp only; omega, rfl, ⟨rfl, rfl, rfl, rfl, rfl, rfl, rfl, trivial⟩, ⟨(by repeat (first | exact List.mem_cons_self | apply List.mem_cons_of_mem)), (by repeat (first | exact List.mem_cons_self | apply List.mem_cons_of_mem)), gridN_here (by omega) (by repeat (first | exact List.mem_cons_self | apply List.mem_cons_of_mem)), (by repeat (first | exact List.mem_cons_self | apply List.mem_cons_of_mem)), (by repeat (first | exact List.mem_cons_self | apply List.mem_cons_of_mem)), (by repeat (first | exact List.mem_cons_self | apply List.mem_cons_of_mem)), trivial⟩, fun R w' h => h⟩
    · obtain rfl : j = kept.length := by omega
      rw [List.drop_of_length_le (by rw [List.length_map]; exact Nat.le_refl _)] at hcut
      have hcut : (acc.map NodeV.pl, p) = fin := hcut
      subst hcut
      have hgp : gridN kept.length p = p := by unfold gridN; rw [hpl, Nat.sub_self]; simp
      have hop : (ints (stI (gridN kept.length p)))[out]? = some [.int .i64 (p.getD out 0)] := by rw [hgp]; exact stI_get (by omega)
      (repeat' ((conv => whnf) <;> first | (show idxRowK _ _ _ _ _ _; refine idxRow_of out rfl hoK (Nat.le_of_eq hgl.symm) ?_) | (show rowK _ _ _ _; refine row_of _ _ hop rfl ?_) | (show drawK _ 23 _ _ _ _ _ _; refine draw_tree tabOk mixed [12] _ dtIF0 (by kernel_rfl) (by kernel_rfl) (by kernel_rfl) (List.Sublist.refl _) ?_) | (show drawK _ 24 _ _ _ _ _ _; refine draw_tree tabOk mixed [14] _ dtNO1 (by kernel_rfl) (by kernel_rfl) (by kernel_rfl) (List.Sublist.refl _) ?_) | (show drawK _ _ _ _ _ _ _ _; refine draw_quiet tabOk mixed (by kernel_rfl) ?_) | (show Wp _ _ _ _ _ _ _; refine Wp.go tabOk rfl ?_) | (show @cmpK _ _ _; (first | refine cmpY ?_ | refine cmpN ?_ | (refine cmp_both ?_ ?_ <;> intro _))) | (show wrapK _ _ _; refine wrapA ?_) | (show leK _ _ _; refine leA ?_) | (show roomK _ _ _; refine roomA ?_) | (show ltK _ _ _; refine ltA ?_) | (show _ ∧ _; refine ⟨?_, ?_⟩) | (show keepK _ _ _ _ _; refine keepA ?_) | refine own_keep ?_ | refine ap_old ?_))
      all_goals (conv => whnf)
      all_goals exact tidy_ends rfl (fun R w' h => h.1) (fun R w' h => h.2) (by repeat (first | exact List.mem_cons_self | apply List.mem_cons_of_mem)) hfr hao hsp rfl
end Go.Proofs.Ytdmkdogakbipbaa

/- NP -/
namespace Go.Proofs.Ytdmkdogakbipbaa
open Go.SX Go.RowKit
end Go.Proofs.Ytdmkdogakbipbaa

/- NQ -/
namespace Go.Proofs.Ytdmkdogakbipbaa
open Go.SX Go.RowKit
end Go.Proofs.Ytdmkdogakbipbaa

/- JE -/
namespace Go.Proofs.Ytdmkdogakbipbaa
open Go.SX Go.RowKit
def setT (r : List Int) (t : Sp) : List Int := r.set t.2.toNat t.1
end Go.Proofs.Ytdmkdogakbipbaa

/- JF -/
namespace Go.Proofs.Ytdmkdogakbipbaa
open Go.SX Go.RowKit
def matRow (n : NodeV) (tl : List Int) (o : Nat) : List Int :=
  if n.kind = 3 then (n.data.xs.drop (o * (entries tl).toNat)).take (entries tl).toNat else (termsG n tl o).foldl setT (List.replicate (entries tl).toNat 0)
def matRows (n : NodeV) (tl : List Int) (cnt : Nat) : List (List Int) := (List.range cnt).map (matRow n tl)
def matBias (n : NodeV) (cnt : Nat) : List Int := (List.range cnt).map (biasI n cnt)
end Go.Proofs.Ytdmkdogakbipbaa

/- JG -/
namespace Go.Proofs.Ytdmkdogakbipbaa
open Go.SX Go.RowKit
/-- what Matrix hands back -/
structure MatV where
  rows : ShapesV
  bias : IntsV
  own : Bool
def MatV.val (x : MatV) : Value := .tuple #[x.rows.val, x.bias.val]
structure MatIs (n : NodeV) (tl : List Int) (cnt : Nat) (x : MatV) : Prop where
  rows : x.rows.l.map IntsV.xs = matRows n tl cnt
  bias : x.bias.xs = matBias n cnt
  sane : ∀ u ∈ x.rows.l, u.sane
  biasSane : x.bias.sane
  old : x.own = false → x.bias = n.bias ∧ ∀ w, n.data.ok w → ∀ u ∈ x.rows.l, u.ok w
end Go.Proofs.Ytdmkdogakbipbaa

/- JH -/
namespace Go.Proofs.Ytdmkdogakbipbaa
open Go.SX Go.RowKit
end Go.Proofs.Ytdmkdogakbipbaa

/- JI -/
namespace Go.Proofs.Ytdmkdogakbipbaa
open Go.SX Go.RowKit
/-- rows so far -/
structure Sofar3 (n : NodeV) (tl : List Int) (us : List IntsV) (o : Nat) : Prop where
  rows : us.map IntsV.xs = (List.range o).map (matRow n tl)
  sane : ∀ u ∈ us, u.sane
theorem Sofar3.len {n : NodeV} {tl : List Int} {us : List IntsV} {o : Nat} (h : Sofar3 n tl us o) : us.length = o := by
  have := congrArg List.length h.rows
  simpa using this
theorem Sofar3.next {n : NodeV} {tl : List Int} {us : List IntsV} {o : Nat} {u : IntsV} (h : Sofar3 n tl us o) (hu : u.sane) (hx : u.xs = matRow n tl o) : Sofar3 n tl (us ++ [u]) (o + 1) := by
  refine ⟨by rw [List.map_append, h.rows, List.range_succ, List.map_append, List.map_cons, List.map_nil, List.map_cons, List.map_nil, hx], fun v hv => ?_⟩
  rcases List.mem_append.1 hv with hv | hv
  · exact h.sane v hv
  · rw [List.mem_singleton.1 hv]; exact hu
end Go.Proofs.Ytdmkdogakbipbaa

/- JJ -/
namespace Go.Proofs.Ytdmkdogakbipbaa
open Go.SX Go.RowKit
end Go.Proofs.Ytdmkdogakbipbaa

/- JK -/
namespace Go.Proofs.Ytdmkdogakbipbaa
open Go.SX Go.RowKit
structure SofarC (n : NodeV) (tl : List Int) (cnt : Nat) (us : List IntsV) (bs : List Int) (m : Nat) : Prop where
  rows : Sofar3 n tl us m
  bias : bs = (List.range m).map (biasI n cnt)
theorem SofarC.next {n : NodeV} {tl : List Int} {cnt : Nat} {us : List IntsV} {bs : List Int} {m : Nat} {u : IntsV} {b : Int} (h : SofarC n tl cnt us bs m) (hu : u.sane) (hx : u.xs = matRow n tl m) (hb : biasI n cnt m = b) : SofarC n tl cnt (us ++ [u]) (bs ++ [b]) (m + 1) :=
  ⟨h.rows.next hu hx, by rw [h.bias, ← hb, List.range_succ, List.map_append]; rfl⟩
end Go.Proofs.Ytdmkdogakbipbaa

/- JL -/
namespace Go.Proofs.Ytdmkdogakbipbaa
open Go.SX Go.RowKit
end Go.Proofs.Ytdmkdogakbipbaa

/- JM -/
namespace Go.Proofs.Ytdmkdogakbipbaa
open Go.SX Go.RowKit
end Go.Proofs.Ytdmkdogakbipbaa

/- JN -/
namespace Go.Proofs.Ytdmkdogakbipbaa
open Go.SX Go.RowKit
end Go.Proofs.Ytdmkdogakbipbaa

/- JO -/
namespace Go.Proofs.Ytdmkdogakbipbaa
open Go.SX Go.RowKit
theorem MatIs.row {n : NodeV} {tl : List Int} {cnt : Nat} {x : MatV} (h : MatIs n tl cnt x) {o : Nat} (ho : o < x.rows.l.length) : x.rows.l.length = cnt ∧ x.rows.l[o].xs = matRow n tl o ∧ x.bias.xs.length = cnt ∧ x.bias.xs.getD o 0 = biasI n cnt o := by
  have h1 : x.rows.l.length = cnt := by
    have := congrArg List.length h.rows
    simpa [matRows] using this
  have h2 : (x.rows.l.map IntsV.xs)[o]? = ((List.range cnt).map (matRow n tl))[o]? := by rw [h.rows]; rfl
  rw [List.getElem?_map, List.getElem?_eq_getElem ho, List.getElem?_map, List.getElem?_range (by omega)] at h2
  have h3 : x.bias.xs.length = cnt := by rw [h.bias]; simp [matBias]
  refine ⟨h1, by simpa using h2, h3, ?_⟩
  rw [h.bias, matBias, List.getD_eq_getElem?_getD, List.getElem?_map, List.getElem?_range (by omega)]; rfl
theorem MatIs.count {n : NodeV} {tl : List Int} {cnt : Nat} {x : MatV} (h : MatIs n tl cnt x) : x.rows.l.length = cnt := by
  have := congrArg List.length h.rows
  simpa [matRows] using this
end Go.Proofs.Ytdmkdogakbipbaa

/- JP -/
namespace Go.Proofs.Ytdmkdogakbipbaa
open Go.SX Go.RowKit
end Go.Proofs.Ytdmkdogakbipbaa

/- JQ -/
namespace Go.Proofs.Ytdmkdogakbipbaa
open Go.SX Go.RowKit
end Go.Proofs.Ytdmkdogakbipbaa

/- JV -/
namespace Go.Proofs.Ytdmkdogakbipbaa
open Go.SX Go.RowKit
end Go.Proofs.Ytdmkdogakbipbaa

/- JR -/
namespace Go.Proofs.Ytdmkdogakbipbaa
open Go.SX Go.RowKit
end Go.Proofs.Ytdmkdogakbipbaa

/- JW -/
namespace Go.Proofs.Ytdmkdogakbipbaa
open Go.SX Go.RowKit
end Go.Proofs.Ytdmkdogakbipbaa

/- JS -/
namespace Go.Proofs.Ytdmkdogakbipbaa
open Go.SX Go.RowKit
end Go.Proofs.Ytdmkdogakbipbaa

/- JX -/
namespace Go.Proofs.Ytdmkdogakbipbaa
open Go.SX Go.RowKit
abbrev Mix := IntsV × Bool
def mixA (N : Nat) (l : List Mix) : Asn where
  holds R w := ∀ p ∈ l, p.2 = false → (newA N p.1).holds R w
  stable := fun hR hw h p hp e => (newA N p.1).stable hR hw (h p hp e)
structure MixIn (src : List IntsV) (l : List Mix) : Prop where
  sane : ∀ p ∈ l, p.1.sane
  old : ∀ p ∈ l, p.2 = true → p.1 ∈ src
theorem MixIn.ok {src : List IntsV} {w w' : World} {R : Nat → Prop} {N : Nat} {l : List Mix} (h : MixIn src l) (hs : ∀ u ∈ src, u.ok w) (hb : (baseA w).holds R w') (hm : (mixA N l).holds R w') : ∀ u ∈ l.map Prod.fst, u.ok w' := fun u hu => by
  obtain ⟨p, hp, rfl⟩ := List.mem_map.1 hu
  cases e : p.2 with
  | true => exact (hs _ (h.old p hp e)).later hb
  | false => exact intsA_ok (h.sane p hp) ((intsA p.1).mono (hm p hp e) (fun b hb => hb.1))
theorem MixIn.snoc {src : List IntsV} {l : List Mix} {p : Mix} (h : MixIn src l) (hs : p.1.sane) (ho : p.2 = true → p.1 ∈ src) : MixIn src (l ++ [p]) := by
  refine ⟨fun q hq => ?_, fun q hq => ?_⟩
  · rcases List.mem_append.1 hq with hq | hq
    · exact h.sane q hq
    · rw [List.mem_singleton.1 hq]; exact hs
  · rcases List.mem_append.1 hq with hq | hq
    · exact h.old q hq
    · rw [List.mem_singleton.1 hq]; exact ho
end Go.Proofs.Ytdmkdogakbipbaa

/- NR -/
namespace Go.Proofs.Ytdmkdogakbipbaa
open Go.SX Go.RowKit
end Go.Proofs.Ytdmkdogakbipbaa

/- NS -/
namespace Go.Proofs.Ytdmkdogakbipbaa
open Go.SX Go.RowKit
section
variable {P : IntsV → Prop} {N : Nat}
end
end Go.Proofs.Ytdmkdogakbipbaa

/- NT -/
namespace Go.Proofs.Ytdmkdogakbipbaa
open Go.SX Go.RowKit
end Go.Proofs.Ytdmkdogakbipbaa

/- NU -/
namespace Go.Proofs.Ytdmkdogakbipbaa
open Go.SX Go.RowKit
end Go.Proofs.Ytdmkdogakbipbaa

/- NV -/
namespace Go.Proofs.Ytdmkdogakbipbaa
open Go.SX Go.RowKit
structure RegW (cx : Cx) (ops : Array Oper) (l : List Oper) (env : Env) (H : Heap) (S : Asn) (nx : Nat) (K : Env → Heap → Asn → Nat → Prop) : Prop where
  out : ∀ ρ a w (Q : Exit → Act → World → Prop), Sat cx.n ρ nx env a → Abs cx.B ρ nx H S w →
    (∀ ρ' a' env' H' S' nx' w', (∀ i, i < nx → ρ' i = ρ i) → nx ≤ nx' → Sat cx.n ρ' nx' env' a' → Abs cx.B ρ' nx' H' S' w' → K env' H' S' nx' → Q .normal a' w') → wpList cx.P ops Q l a w
def regKW (cx : Cx) (ops : Array Oper) : Nat → List Oper → Env → Heap → Asn → Nat → (Env → Heap → Asn → Nat → Prop) → Prop
  | 0, l, env, H, S, nx, K => RegW cx ops l env H S nx K
  | _ + 1, [], env, H, S, nx, K => K env H S nx
  | n + 1, o :: r, env, H, S, nx, K => guardK cx.n ops.toList o.guard env (fun b => match b with
    | true => opE cx o.op env H S nx (fun v H' S' nx' => putEK env o.dst v fun env' => regKW cx ops n r env' H' S' nx' K)
    | false => putEK env o.dst (.c undef) fun env' => regKW cx ops n r env' H S nx K)
section
variable {cx : Cx} (hok : ∀ p ∈ cx.tab, mkTI cx.P p.1 = some p.2)
include hok in
theorem regKW_sound {ops : Array Oper} : ∀ {n : Nat} {l : List Oper} {env : Env} {H : Heap} {S : Asn} {nx : Nat} {K : Env → Heap → Asn → Nat → Prop}, regKW cx ops n l env H S nx K → RegW cx ops l env H S nx K
  | 0, l, env, H, S, nx, K, h => h
  | n + 1, [], env, H, S, nx, K, h => ⟨fun ρ a w Q hs hw hq => hq ρ a env H S nx w (fun _ _ => rfl) (Nat.le_refl _) hs hw h⟩
  | n + 1, o :: r, env, H, S, nx, K, h => by
    refine ⟨fun ρ a w Q hs hw hq => ?_⟩
    unfold regKW at h
    have h := guardK_spec hs h
    unfold wpList
    cases hwt : Region.wanted o (yielded ops a.tmps) with
    | true =>
      rw [hwt] at h
      dsimp only at h
      rw [if_pos rfl]
      refine .inl (opE_sound hok h hs hw ?_)
      intro v ρ' H' S' nx' w' h1 h2 h3 h4 h5
      rw [putEK_eq] at h5
      refine (regKW_sound h5).out _ _ _ _ (hs.put h1 h2 h3) h4 ?_
      intro ρ'' a'' env'' H'' S'' nx'' w'' g1 g2 g4 g5 g6
      exact hq ρ'' a'' env'' H'' S'' nx'' w'' (fun i hi => (g1 i (Nat.lt_of_lt_of_le hi h2)).trans (h1 i hi)) (Nat.le_trans h2 g2) g4 g5 g6
    | false =>
      rw [hwt] at h
      dsimp only at h
      rw [if_neg (by simp)]
      have hp := hs.put (ρ' := ρ) (nx' := nx) (d := o.dst) (v := .c undef) (fun _ _ => rfl) (Nat.le_refl _) (SV.lt_c _)
      rw [putEK_eq] at h
      refine (regKW_sound h).out _ _ _ _ hp hw ?_
      intro ρ'' a'' env'' H'' S'' nx'' w'' g1 g2 g4 g5 g6
      exact hq ρ'' a'' env'' H'' S'' nx'' w'' g1 g2 g4 g5 g6
include hok in
theorem RegW.go {ops : Array Oper} {l : List Oper} {env : Env} {H : Heap} {S : Asn} {nx : Nat} {K : Env → Heap → Asn → Nat → Prop} (n : Nat) (h : regKW cx ops n l env H S nx K) : RegW cx ops l env H S nx K := regKW_sound hok h
end
def dataO (us : List IntsV) (ex : Bool) : Own where
  holds _ F w := (∀ x, F x → ∃ u ∈ us, u.xs ≠ [] ∧ ∃ off, u.base = some ⟨x, off, none⟩) ∧
    ∀ u ∈ us, u.xs = [] ∨ ∃ b off c, u.base = some ⟨b, off, none⟩ ∧ F b ∧ w.heap[b]? = some (.cells c 3 (0, 0)) ∧ off + u.xs.length ≤ c.size ∧ ∀ i, i < u.xs.length → ∃ v : Int, c[off + i]? = some (.int .i64 v) ∧ (ex = true → u.xs[i]? = some v)
  stable := by
    rintro l F w w' hw ⟨h1, h2⟩
    refine ⟨h1, fun u hu => ?_⟩
    rcases h2 u hu with h | ⟨b, off, c, g1, g2, g3, g4⟩
    · exact .inl h
    · exact .inr ⟨b, off, c, g1, g2, (hw b g2).trans g3, g4⟩
  lt := by
    rintro l F w x ⟨h1, h2⟩ hx
    obtain ⟨u, hu, hne, off, hb⟩ := h1 x hx
    rcases h2 u hu with h | ⟨b, off', c, g1, g2, g3, g4⟩
    · exact absurd h hne
    · rw [hb] at g1
      simp only [Option.some.injEq, Addr.mk.injEq, and_true] at g1
      obtain ⟨rfl, rfl⟩ := g1
      exact (Array.getElem?_eq_some_iff.1 g3).1
theorem data_rows {us : List IntsV} {F : Nat → Prop} {w : World} {l : SX.Loc} (h : (dataO us true).holds l F w) {u : IntsV} (hu : u ∈ us) : RowsI w u.base 1 (ints u.xs) := by
  rcases h.2 u hu with h | ⟨b, off, c, g1, g2, g3, g4, g5⟩
  · left; rw [h]; rfl
  · refine .inr ⟨_, g1, fun i r hi j v hj => ?_⟩
    have hil : i < u.xs.length := by have := (List.getElem?_eq_some_iff.1 hi).1; rwa [ints_length] at this
    rw [ints_get hil] at hi
    simp only [Option.some.injEq] at hi
    subst hi
    cases j with
    | zero =>
      simp only [List.getElem?_cons_zero, Option.some.injEq] at hj
      subst hj
      obtain ⟨v, h1, h2⟩ := g5 i hil
      have e := h2 rfl
      rw [List.getElem?_eq_getElem hil, Option.some.injEq] at e
      subst e
      rw [add_none]
      simp [World.cell?, g3, h1]
    | succ j => simp at hj
end Go.Proofs.Ytdmkdogakbipbaa

/- NW -/
namespace Go.Proofs.Ytdmkdogakbipbaa
open Go.SX Go.RowKit
def partsL (l : List NodeV) : List IntsV := l.flatMap fun n => [n.shape, n.data, n.bias]
theorem parts_in {l : List NodeV} {n : NodeV} (h : n ∈ l) : n.shape ∈ partsL l ∧ n.data ∈ partsL l ∧ n.bias ∈ partsL l := by
  unfold partsL
  simp only [List.mem_flatMap]
  exact ⟨⟨n, h, by simp⟩, ⟨n, h, by simp⟩, ⟨n, h, by simp⟩⟩
theorem parts_data {l : List NodeV} {F : Nat → Prop} {w : World} {lo : SX.Loc} (hl : ∀ n ∈ l, (nodeT n).holds F w) : (dataO (partsL l) true).holds lo (fun x => ∃ u ∈ partsL l, u.xs ≠ [] ∧ ∃ off, u.base = some ⟨x, off, none⟩) w := by
  refine ⟨fun x hx => hx, fun u hu => ?_⟩
  unfold partsL at hu
  simp only [List.mem_flatMap, List.mem_cons, List.not_mem_nil, or_false] at hu
  obtain ⟨n, hn, hu'⟩ := hu
  have hT : (intsT u).holds F w := by
    have h := hl n hn
    rcases hu' with rfl | rfl | rfl
    · exact h.1
    · exact h.2.1
    · exact h.2.2
  have hm : u ∈ partsL l := by
    rcases hu' with rfl | rfl | rfl
    · exact (parts_in hn).1
    · exact (parts_in hn).2.1
    · exact (parts_in hn).2.2
  by_cases h0 : u.xs = []
  · exact .inl h0
  rcases hT with h | ⟨b, off, c, h1, h2, h3, h4, h5⟩
  · exact .inl h
  · refine .inr ⟨b, off, c, h1, ⟨u, hm, h0, off, h1⟩, h3, h4, fun i hi => ⟨u.xs[i], h5 i _ (List.getElem?_eq_getElem hi), fun _ => List.getElem?_eq_getElem hi⟩⟩
theorem parts_F {l : List NodeV} {F : Nat → Prop} {w : World} (hl : ∀ n ∈ l, (nodeT n).holds F w) {x : Nat} (h : ∃ u ∈ partsL l, u.xs ≠ [] ∧ ∃ off, u.base = some ⟨x, off, none⟩) : F x := by
  obtain ⟨u, hu, h0, off, hb⟩ := h
  unfold partsL at hu
  simp only [List.mem_flatMap, List.mem_cons, List.not_mem_nil, or_false] at hu
  obtain ⟨n, hn, hu'⟩ := hu
  have hT : (intsT u).holds F w := by
    have h := hl n hn
    rcases hu' with rfl | rfl | rfl
    · exact h.1
    · exact h.2.1
    · exact h.2.2
  rcases hT with h | ⟨b, off', c, h1, h2, _⟩
  · exact absurd h h0
  · rw [hb] at h1
    simp only [Option.some.injEq, Addr.mk.injEq, and_true] at h1
    obtain ⟨rfl, rfl⟩ := h1
    exact h2
/-- tidied: its numbers one's own -/
theorem call_tidyW {cx : Cx} {f : FuncId} {args : List SV} {H : Heap} {S : Asn} {nx : Nat} {K : SV → Heap → Asn → Nat → Prop} (r : Int) (x : List NodeP × Nat) (hf : ∀ ar w, (callFunc f ar).run cx.P w = .ok (.enter f ar) w)
    (hc : ∀ ρ w', Abs cx.B ρ nx H S w' → Calls cx.P f (SV.rfs ρ args).toArray w' (TidyPost w' r x))
    (h0 : r ≠ 0 → K (.c (.tuple #[.agg #[.slice none 0 0, .int .i64 0], .int .i64 r])) H S nx)
    (h1 : r = 0 → ∀ (l : List NodeV) (base : Option Addr) (cap : Nat), l.map NodeV.pl = x.1 → KeptOk l → K (.c (.tuple #[.agg #[.slice base l.length cap, .int .i64 x.2], .int .i64 0])) ((nx, .ext (dataO (partsL l) true)) :: H) (S.and ((rowsA base 9 (nodeRows l)).past cx.B.w0.heap.size)) (nx + 1)) : callK cx f args H S nx K := by
  rw [callK_def]
  refine ⟨hf, fun ρ w hw => (hc ρ w hw).mono ?_⟩
  rintro e w' (⟨hr, rfl, he⟩ | ⟨hr, l, base, cap, hx, hko, hcap, rfl, he, F, G, hF, hG, hFG, hn, hrow⟩)
  · exact ⟨.c (.tuple #[.agg #[.slice none 0 0, .int .i64 0], .int .i64 r]), ρ, H, S, nx, rfl, fun _ _ => rfl, Nat.le_refl _, SV.lt_c _, hw.ext he, h0 hr⟩
  · obtain ⟨R, φ, hwR⟩ := hw
    have hwR' := hwR.step (Step.of_ext he) (fun _ _ h => h) (fun _ _ _ _ h => h)
    have hG2 : AbsR cx.B (fun b => R b ∨ G b) φ ρ nx H (S.and ((rowsA base 9 (nodeRows l)).past cx.B.w0.heap.size)) w' := by
      refine ⟨hwR'.os, hwR'.tape, hwR'.output, hwR'.size, hwR'.pin, fun b hb => hb.elim (hwR'.ro b) (fun h => (hG b h).2), ⟨S.stable (fun _ h => .inl h) (fun _ _ => rfl) hwR'.asn, ?_⟩, hwR'.key, hwR'.ent, fun p hp b hb hb' => ?_, hwR'.sep⟩
      · exact (rowsA base 9 (nodeRows l)).stable (fun b hb => ⟨.inr hb, Nat.le_trans hwR.size (hG b hb).1⟩) (fun _ _ => rfl) hrow
      · rcases hb' with hb' | hb'
        · exact hwR'.apart p hp b hb hb'
        · have := Ent.size (hwR.ent p hp) hb
          have := (hG b hb').1
          omega
    refine ⟨.c (.tuple #[.agg #[.slice base l.length cap, .int .i64 x.2], .int .i64 0]), upd ρ nx ⟨none, 0⟩, _, _, nx + 1, rfl, fun i hi => upd_lt hi, Nat.le_succ _, SV.lt_c _, ?_, h1 hr l base cap hx hko⟩
    refine ⟨_, _, hG2.add (e := .ext (dataO (partsL l) true)) (l := ⟨none, 0⟩) (F := fun x => ∃ u ∈ partsL l, u.xs ≠ [] ∧ ∃ off, u.base = some ⟨x, off, none⟩) (fun y hy => by simp [Ent.hass] at hy) (parts_data hn) (fun y hy hR => ?_) (fun p hp y hy hy' => ?_)⟩
    · have hFy := parts_F hn hy
      rcases hR with hR | hR
      · have := hwR.ro y hR
        have := (hF y hFy).1
        omega
      · exact hFG y hFy hR
    · have hFy := parts_F hn hy'
      have := Ent.size (hwR.ent p hp) hy
      have := (hF y hFy).1
      omega
theorem spansH_pl {g h : GraphV} (hl : g.l.map NodeV.pl = h.l.map NodeV.pl) (ho : g.out = h.out) : spansH g = spansH h := by
  unfold spansH
  rw [check_pl hl ho, spansQ_pl hl]
theorem tidied_fit {B : Base} {ρ : Nat → SX.Loc} {nx i : Nat} {H : Heap} {S : Asn} {w : World} {l : List NodeV} {base : Option Addr} {cap : Nat} {out : Int} (hw : Abs B ρ nx H S w) (hi : (i, Ent.ext (dataO (partsL l) true)) ∈ H) (hr : ∀ R w', S.holds R w' → RowsI w' base 9 (nodeRows l)) (hko : KeptOk l) (hl : l.length ≤ 1000000) : (GraphV.mk base cap l out).fit w := by
  obtain ⟨R, φ, hwR⟩ := hw
  have hd : (dataO (partsL l) true).holds (ρ i) (φ i) w := hwR.ent _ hi
  refine ⟨hr R w hwR.asn, fun n hn => ?_, hl⟩
  have hs := (hko n hn).1
  have p := parts_in hn
  exact ⟨⟨data_rows hd p.1, hs.shape.fits, hs.shape.room, hs.shape.few⟩, ⟨data_rows hd p.2.1, hs.data.fits, hs.data.room, hs.data.few⟩, ⟨data_rows hd p.2.2, hs.bias.fits, hs.bias.room, hs.bias.few⟩, hs.kindFits, hs.aFits, hs.bFits, hs.loFits, hs.hiFits, hs.sizeFits⟩
end Go.Proofs.Ytdmkdogakbipbaa

/- NX -/
namespace Go.Proofs.Ytdmkdogakbipbaa
open Go.SX Go.RowKit
def scaleN (y : IntsV) : NodeV := ⟨7, 0, 0, nilI, 0, 0, 0, y, nilI⟩
def gT (nb : Option Addr) (nc : Nat) (u v y : IntsV) : GraphV := ⟨nb, nc, [constN u v, scaleN y], 1⟩
def gTP : GraphV := gT none 0 ⟨none, 0, [1]⟩ ⟨none, 0, [2]⟩ ⟨none, 0, [3]⟩
theorem gTP_spans : (spansH gTP).1 = 0 := by kernel_rfl
theorem gTP_tidy : tidyP (gTP.l.map NodeV.pl) (check gTP).2 1 = ([⟨2, 0, 0, [1], 0, 0, 0, [6], []⟩], 0) := by kernel_rfl
theorem gT_all {nb : Option Addr} {nc : Nat} {u v y : IntsV} (hu : u.xs = [1]) (hv : v.xs = [2]) (hy : y.xs = [3]) : (spansH (gT nb nc u v y)).1 = 0 ∧ tidyP ((gT nb nc u v y).l.map NodeV.pl) (check (gT nb nc u v y)).2 1 = ([⟨2, 0, 0, [1], 0, 0, 0, [6], []⟩], 0) := by
  have hl : (gT nb nc u v y).l.map NodeV.pl = gTP.l.map NodeV.pl := by
    show [NodeP.mk 2 0 0 u.xs 0 0 0 v.xs [], NodeP.mk 7 0 0 [] 0 0 0 y.xs []] = _
    rw [hu, hv, hy]; rfl
  rw [spansH_pl hl rfl, hl, check_pl hl rfl]
  exact ⟨gTP_spans, gTP_tidy⟩
theorem gT_ok {w : World} {nb : Option Addr} {nc : Nat} {u v y : IntsV} (hr : RowsI w nb 9 (nodeRows [constN u v, scaleN y])) (hu : u.ok w) (hv : v.ok w) (hy : y.ok w) (h2 : v.xs.length ≤ 5000) (h3 : y.xs.length ≤ 5000) : (gT nb nc u v y).ok w := by
  refine ⟨hr, fun n hn => ?_, fun n hn => ?_, (show 2 ≤ 1000000 by decide), i64_1⟩
  · rcases List.mem_cons.1 hn with rfl | hn
    · exact constN_ok hu hv
    · rw [List.mem_singleton.1 hn]
      exact ⟨nil_ok w, hy, nil_ok w, (show i64 7 from ⟨by decide, by decide⟩), i64_0, i64_0, i64_0, i64_0, i64_0⟩
  · rcases List.mem_cons.1 hn with rfl | hn
    · exact ⟨h2, Nat.zero_le _⟩
    · rw [List.mem_singleton.1 hn]; exact ⟨h3, Nat.zero_le _⟩
set_option maxRecDepth 20000 in
set_option maxHeartbeats 1000000 in
theorem fixed18_any (w : World) : Calls Try.prog 19 #[] w fun e w' => e = .returned (.bool true) ∧ Ext w w' := by
  refine calls_of tab tabOk Try.func19 rfl rfl rfl [] (fun _ => ⟨none, 0⟩) [] [] (baseA w) 0 rfl rfl (by show 0 ≤ _; decide) (abs_base w) ?_
  (repeat' ((conv => whnf) <;> first | (show Wp _ _ _ _ _ _ _; refine Wp.go tabOk rfl ?_) | (show @cmpK _ _ _; (first | refine cmpY ?_ | refine cmpN ?_ | (refine cmp_both ?_ ?_ <;> intro _))) | (show wrapK _ _ _; refine wrapA ?_) | (show leK _ _ _; refine leA ?_) | (show roomK _ _ _; refine roomA ?_) | (show ltK _ _ _; refine ltA ?_) | (show _ ∧ _; refine ⟨?_, ?_⟩) | (show keepK _ _ _ _ _; refine keepA ?_) | refine ap_old ?_))
  refine freeze_intsI (w0 := w) [1] (fun R w' h => h) rfl rfl (few_i64 rfl) (by decide) (fun u hu hus => ?_)
  (repeat' ((conv => whnf) <;> first | (show Wp _ _ _ _ _ _ _; refine Wp.go tabOk rfl ?_) | (show @cmpK _ _ _; (first | refine cmpY ?_ | refine cmpN ?_ | (refine cmp_both ?_ ?_ <;> intro _))) | (show wrapK _ _ _; refine wrapA ?_) | (show leK _ _ _; refine leA ?_) | (show roomK _ _ _; refine roomA ?_) | (show ltK _ _ _; refine ltA ?_) | (show _ ∧ _; refine ⟨?_, ?_⟩) | (show keepK _ _ _ _ _; refine keepA ?_) | refine ap_old ?_))
  refine freeze_intsI (w0 := w) [2] (fun R w' h => h.1) rfl rfl (few_i64 rfl) (by decide) (fun v hv hvs => ?_)
  (repeat' ((conv => whnf) <;> first | (show Wp _ _ _ _ _ _ _; refine Wp.go tabOk rfl ?_) | (show @cmpK _ _ _; (first | refine cmpY ?_ | refine cmpN ?_ | (refine cmp_both ?_ ?_ <;> intro _))) | (show wrapK _ _ _; refine wrapA ?_) | (show leK _ _ _; refine leA ?_) | (show roomK _ _ _; refine roomA ?_) | (show ltK _ _ _; refine ltA ?_) | (show _ ∧ _; refine ⟨?_, ?_⟩) | (show keepK _ _ _ _ _; refine keepA ?_) | refine ap_old ?_))
  refine freeze_intsI (w0 := w) [3] (fun R w' h => h.1.1) rfl rfl (few_i64 rfl) (by decide) (fun y hy hys => ?_)
  (repeat' ((conv => whnf) <;> first | (show Wp _ _ _ _ _ _ _; refine Wp.go tabOk rfl ?_) | (show @cmpK _ _ _; (first | refine cmpY ?_ | refine cmpN ?_ | (refine cmp_both ?_ ?_ <;> intro _))) | (show wrapK _ _ _; refine wrapA ?_) | (show leK _ _ _; refine leA ?_) | (show roomK _ _ _; refine roomA ?_) | (show ltK _ _ _; refine ltA ?_) | (show _ ∧ _; refine ⟨?_, ?_⟩) | (show keepK _ _ _ _ _; refine keepA ?_) | refine ap_old ?_))
  refine freeze_nodesI (w0 := w) [constN u v, scaleN y] (fun R w' h => h.1.1.1) rfl rfl (fun nb nc => ?_)
  obtain ⟨hS, hR⟩ := gT_all (nb := nb) (nc := nc) hu hv hy
  (repeat' ((conv => whnf) <;> first | (show Wp _ _ _ _ _ _ _; refine Wp.go tabOk rfl ?_) | (show @cmpK _ _ _; (first | refine cmpY ?_ | refine cmpN ?_ | (refine cmp_both ?_ ?_ <;> intro _))) | (show wrapK _ _ _; refine wrapA ?_) | (show leK _ _ _; refine leA ?_) | (show roomK _ _ _; refine roomA ?_) | (show ltK _ _ _; refine ltA ?_) | (show _ ∧ _; refine ⟨?_, ?_⟩) | (show keepK _ _ _ _ _; refine keepA ?_) | refine ap_old ?_))
  refine call_tidyW 0 _ Try.call22 (fun ρ w' hw => by have := tidy_any w' (gT nb nc u v y) (holds_of_abs hw fun R h => gT_ok (rowsA_in h.2) (intsA_ok hus h.1.1.1.2) (intsA_ok hvs h.1.1.2) (intsA_ok hys h.1.2) (by rw [hv]; decide) (by rw [hy]; decide)); rw [hS] at this; erw [hR] at this; exact this) (fun h => absurd rfl h) (fun _ l hb hc hl hko => ?_)
  obtain ⟨z, rfl⟩ : ∃ z, l = [z] := by
    have h1 : l.length = 1 := by simpa using congrArg List.length hl
    match l, h1 with
    | [z], _ => exact ⟨z, rfl⟩
  have hz : z.pl = ⟨2, 0, 0, [1], 0, 0, 0, [6], []⟩ := by simpa using hl
  have hzk : z.kind = 2 := congrArg NodeP.kind hz
  have hzd : z.data.xs = [6] := congrArg NodeP.data hz
  refine Wp.know (p := ∃ a, hb = some a) (fun ρ w' hw => holds_of_abs hw fun R h => base_some (j := 0) (rowsA_in h.2) (show 0 < 1 by decide)) ?_
  rintro ⟨ha, rfl⟩
  (repeat' ((conv => whnf) <;> first | (show @cmpK _ _ _; (first | refine cmp_yes rfl ?_ | refine cmp_yes hzk ?_)) | (show idxK _ _ _ _ _; refine idx_of ha 0 rfl rfl (show 0 < 1 by decide) ?_) | (show roK _ _ _; (first | refine ro_row (j := 0) (f := 0) (fun R w' h => rowsA_in h.2) z.cells (.int .i64 z.kind) rfl rfl ?_ | refine ro_row0 (j := 0) (fun R w' h => rowsA_in h.2) z.cells (.int .i64 z.kind) rfl rfl ?_ | refine ro_row (j := 0) (f := 7) (fun R w' h => rowsA_in h.2) z.cells z.data.val rfl rfl ?_)) | (show Wp _ _ _ _ _ _ _; refine Wp.go tabOk rfl ?_) | (show @cmpK _ _ _; (first | refine cmpY ?_ | refine cmpN ?_ | (refine cmp_both ?_ ?_ <;> intro _))) | (show wrapK _ _ _; refine wrapA ?_) | (show leK _ _ _; refine leA ?_) | (show roomK _ _ _; refine roomA ?_) | (show ltK _ _ _; refine ltA ?_) | (show _ ∧ _; refine ⟨?_, ?_⟩) | (show keepK _ _ _ _ _; refine keepA ?_) | refine ap_old ?_))
  refine freeze_intsI (w0 := w) [6] (fun R w' h => h.1.1.1.1.1) rfl rfl (few_i64 rfl) (by decide) (fun q hq hqs => ?_)
  (repeat' ((conv => whnf) <;> first | (show @cmpK _ _ _; (first | refine cmp_yes rfl ?_ | refine cmp_yes hzk ?_)) | (show callK _ 26 _ _ _ _ _; (refine call_pure (f := 26) Try.call26 (.bool true) (fun ρ w' hw => by have := same_any w' z.data q ((tidied_fit (cap := 0) (out := 0) hw (by repeat (first | exact List.mem_cons_self | apply List.mem_cons_of_mem)) (fun R w' h => rowsA_in h.1.2) hko (show 1 ≤ 1000000 by decide)).each z List.mem_cons_self).data (holds_of_abs hw fun R h => intsA_ok hqs h.2); rw [decide_eq_true (hzd.trans hq.symm)] at this; exact this) ?_)) | (show Wp _ _ _ _ _ _ _; refine Wp.go tabOk rfl ?_) | (show @cmpK _ _ _; (first | refine cmpY ?_ | refine cmpN ?_ | (refine cmp_both ?_ ?_ <;> intro _))) | (show wrapK _ _ _; refine wrapA ?_) | (show leK _ _ _; refine leA ?_) | (show roomK _ _ _; refine roomA ?_) | (show ltK _ _ _; refine ltA ?_) | (show _ ∧ _; refine ⟨?_, ?_⟩) | (show keepK _ _ _ _ _; refine keepA ?_) | refine own_keep ?_ | refine ap_old ?_))
  conv => whnf
  exact ends_bool (fun R w' h => h.1.1.1.1.1.1) rfl rfl
end Go.Proofs.Ytdmkdogakbipbaa

/- NY -/
namespace Go.Proofs.Ytdmkdogakbipbaa
open Go.SX Go.RowKit
end Go.Proofs.Ytdmkdogakbipbaa

/- OA -/
namespace Go.Proofs.Ytdmkdogakbipbaa
open Go.SX Go.RowKit
structure Neat (row : List NodeP) : Prop where
  known : ∀ (k : Nat) p, row[k]? = some p → knownP row p = false
  once : ∀ (j k : Nat) p, j < k → row[j]? = some p → row[k]? = some p → p.kind = 1
theorem known_congr {row row' : List NodeP} {p : NodeP} (hA : p.kind ≠ 1 → p.kind ≠ 2 → (row.getD p.a.toNat nilP).kind = (row'.getD p.a.toNat nilP).kind) (hB : p.kind = 6 → (row.getD p.b.toNat nilP).kind = (row'.getD p.b.toNat nilP).kind) : knownP row p = knownP row' p := by
  unfold knownP constAt
  by_cases h12 : p.kind = 1 ∨ p.kind = 2
  · rw [decide_eq_true h12]; rfl
  · rw [hA (by omega) (by omega)]
    by_cases h6 : p.kind = 6
    · rw [hB h6]
    · rw [decide_eq_true (show p.kind ≠ 6 from h6), Bool.true_or, Bool.true_or]
theorem getD_app {row : List NodeP} {m : NodeP} {k : Nat} (h : k < row.length) : (row ++ [m]).getD k nilP = row.getD k nilP := by
  rw [List.getD_eq_getElem?_getD, List.getD_eq_getElem?_getD, List.getElem?_append_left h]
theorem known_app {row : List NodeP} {m p : NodeP} (h : AheadP p row.length) : knownP (row ++ [m]) p = knownP row p :=
  known_congr (fun h1 h2 => by rw [getD_app (h.a1 h1 h2)]) (fun h6 => by rw [getD_app (h.b1 h6)])
theorem AheadP.up {p : NodeP} {k m : Nat} (h : AheadP p k) (hm : k ≤ m) : AheadP p m := ⟨h.a0, fun h1 h2 => Nat.lt_of_lt_of_le (h.a1 h1 h2) hm, h.a2, h.b0, fun h6 => Nat.lt_of_lt_of_le (h.b1 h6) hm, h.b2, h.kind⟩
theorem idxP_none {n : NodeP} : ∀ {row : List NodeP} {k : Nat}, idxP n row k = none → ∀ j : Nat, row[j]? ≠ some n
  | [], _, _, j => by simp
  | x :: r, k, h, j => by
    unfold idxP at h
    split at h
    · cases h
    · rename_i hs
      cases j with
      | zero =>
        simp only [List.getElem?_cons_zero, ne_eq, Option.some.injEq]
        exact fun e => hs (sameP_iff.2 e)
      | succ j => rw [List.getElem?_cons_succ]; exact idxP_none h j
theorem neat_nil : Neat [] := ⟨fun k p h => by simp at h, fun j k p _ h => by simp at h⟩
theorem Neat.snoc {row : List NodeP} {m : NodeP} (h : Neat row) (ha : ∀ (k : Nat) p, row[k]? = some p → AheadP p k) (hm : AheadP m row.length) (hk : knownP row m = false) (hf : findP row m = none) : Neat (row ++ [m]) := by
  refine ⟨fun k p hp => ?_, fun j k p hjk hj hk2 => ?_⟩
  · rcases Nat.lt_or_ge k row.length with hlt | hge
    · rw [List.getElem?_append_left hlt] at hp
      rw [known_app ((ha k p hp).up (Nat.le_of_lt hlt))]
      exact h.known k p hp
    · rw [List.getElem?_append_right hge] at hp
      have : m = p := by
        cases hq : k - row.length with
        | zero => rw [hq] at hp; simpa using hp
        | succ q => rw [hq] at hp; simp at hp
      subst this
      rw [known_app hm]; exact hk
  · rcases Nat.lt_or_ge k row.length with hlt | hge
    · rw [List.getElem?_append_left hlt] at hk2
      rw [List.getElem?_append_left (by omega)] at hj
      exact h.once j k p hjk hj hk2
    · rw [List.getElem?_append_right hge] at hk2
      have hkq : k = row.length := by
        have := (List.getElem?_eq_some_iff.1 hk2).1
        simp at this; omega
      subst hkq
      have : m = p := by simpa using hk2
      subst this
      rw [List.getElem?_append_left hjk] at hj
      unfold findP at hf
      split at hf
      · assumption
      · exact absurd hj (idxP_none hf j)
theorem fold_known {s : List Int} {row : List NodeP} {n : NodeP} : knownP row (foldP s row n) = false := by
  unfold foldP
  by_cases h : knownP row n = true
  · rw [if_pos h]; rfl
  · rw [if_neg h]; simpa using h
theorem tidy_neat {l : List NodeP} {sh : List (List Int)} {sp : List Sp} (hL : RowOk l sh sp) : ∀ i, i ≤ l.length → ∃ row st, TidyAt l sh sp i row st ∧ Neat row
  | 0, _ => ⟨[], [], tidyAt_start l sh sp, neat_nil⟩
  | i + 1, hi => by
    obtain ⟨row, st, hT, hN⟩ := tidy_neat hL i (by omega)
    have hn : l[i]? = some l[i] := List.getElem?_eq_getElem (by omega)
    refine ⟨_, _, hT.step hL hn, ?_⟩
    obtain ⟨rsh, rsp, hR, hS⟩ := hT.ok
    have hlen := hT.len
    have hn' : l[st.length]? = some l[i] := by rw [hlen]; exact hn
    obtain ⟨hm, _⟩ := fold_in hL hR hS hn'
    rw [hlen] at hm
    unfold stepP layP
    simp only
    cases hf : findP row (foldP (gD sh i) row (movedP st l[i])) with
    | some k => exact hN
    | none =>
      have hah := aheadP_of hm.form
      rw [hR.lenS] at hah
      exact hN.snoc (fun k p hp => hR.ahead hp) hah fold_known hf
def idL (n : Nat) : List Nat := List.range n
theorem idL_getD {n k : Nat} (h : k < n) : (idL n).getD k 0 = k := by
  unfold idL
  rw [List.getD_eq_getElem?_getD, List.getElem?_range h]; rfl
theorem moved_id {p : NodeP} {n : Nat} (h : AheadP p n) : movedP (idL n) p = p := by
  have a0 := h.a0
  have b0 := h.b0
  unfold movedP
  by_cases h12 : p.kind = 1 ∨ p.kind = 2
  · rw [if_pos h12]
  · rw [if_neg h12, idL_getD (h.a1 (by omega) (by omega))]
    have ea : ((p.a.toNat : Nat) : Int) = p.a := by omega
    by_cases h6 : p.kind = 6
    · rw [if_pos h6, idL_getD (h.b1 h6), ea]
      have eb : ((p.b.toNat : Nat) : Int) = p.b := by omega
      rw [eb]
    · rw [if_neg h6, ea]
theorem idL_succ (n : Nat) : idL (n + 1) = idL n ++ [n] := by unfold idL; exact List.range_succ
theorem neat_step {row : List NodeP} {rsh : List (List Int)} {rsp : List Sp} (hR : RowOk row rsh rsp) (hN : Neat row) {i : Nat} {p : NodeP} (hp : row[i]? = some p) (s : List Int) : stepP s (row.take i, idL i) p = (row.take (i + 1), idL (i + 1)) := by
  have hah := hR.ahead hp
  have hil := (List.getElem?_eq_some_iff.1 hp).1
  have hgt : ∀ k, k < i → (row.take i).getD k nilP = row.getD k nilP := fun k hk => by
    rw [List.getD_eq_getElem?_getD, List.getD_eq_getElem?_getD, List.getElem?_take_of_lt hk]
  have hkn : knownP (row.take i) p = false := by
    rw [known_congr (row' := row) (fun h1 h2 => by rw [hgt _ (hah.a1 h1 h2)]) (fun h6 => by rw [hgt _ (hah.b1 h6)])]
    exact hN.known i p hp
  have hfold : foldP s (row.take i) (movedP (idL i) p) = p := by
    rw [moved_id hah]
    unfold foldP
    rw [if_neg (by rw [hkn]; decide)]
  have hfind : findP (row.take i) p = none := by
    cases hf : findP (row.take i) p with
    | none => rfl
    | some k =>
      obtain ⟨h1, h2⟩ := findP_some hf
      have hk := (List.getElem?_eq_some_iff.1 h2).1
      rw [List.length_take] at hk
      have hki : k < i := by omega
      rw [List.getElem?_take_of_lt hki] at h2
      exact absurd (hN.once k i p hki h2 hp) h1
  unfold stepP layP
  simp only
  rw [hfold, hfind]
  simp only
  rw [List.length_take, Nat.min_eq_left (by omega), idL_succ, List.take_add_one, hp]
  rfl
theorem neat_tidyL {row : List NodeP} {rsh : List (List Int)} {rsp : List Sp} (hR : RowOk row rsh rsp) (hN : Neat row) : ∀ i, i ≤ row.length → tidyL (row.drop (row.length - i)) (rsh.drop (row.length - i)) (row.take (row.length - i), idL (row.length - i)) = (row, idL row.length)
  | 0, _ => by
    rw [Nat.sub_zero, List.drop_length, List.take_length]; rfl
  | i + 1, hi => by
    have hlt : row.length - (i + 1) < row.length := by omega
    have hl2 : row.length - (i + 1) < rsh.length := by rw [hR.lenS]; exact hlt
    rw [List.drop_eq_getElem_cons hlt, List.drop_eq_getElem_cons hl2]
    show tidyL _ _ (stepP _ _ _) = _
    rw [neat_step hR hN (List.getElem?_eq_getElem hlt)]
    have e : row.length - (i + 1) + 1 = row.length - i := by omega
    rw [e]
    exact neat_tidyL hR hN i (by omega)
theorem neat_all {row : List NodeP} {rsh : List (List Int)} {rsp : List Sp} (hR : RowOk row rsh rsp) (hN : Neat row) : tidyL row rsh ([], []) = (row, idL row.length) := by
  have := neat_tidyL hR hN row.length (Nat.le_refl _)
  rw [Nat.sub_self] at this
  exact this
/-- all needed or inputs: nothing is cut -/
theorem cut_all {row : List NodeP} {need : Nat → Bool} (ha : ∀ (k : Nat) p, row[k]? = some p → AheadP p k) (hn : ∀ (k : Nat) p, row[k]? = some p → need k = true ∨ p.kind = 1) : ∀ i, i ≤ row.length → cutL need (row.drop (row.length - i)) (row.length - i) (row.take (row.length - i), idL (row.length - i)) = (row, idL row.length)
  | 0, _ => by
    rw [Nat.sub_zero, List.drop_length, List.take_length]; rfl
  | i + 1, hi => by
    have hlt : row.length - (i + 1) < row.length := by omega
    have hp := List.getElem?_eq_getElem hlt
    rw [List.drop_eq_getElem_cons hlt]
    unfold cutL
    rw [if_pos (hn _ _ hp)]
    simp only
    rw [moved_id (ha _ _ hp), List.length_take, Nat.min_eq_left (by omega), ← idL_succ]
    have e : row.length - (i + 1) + 1 = row.length - i := by omega
    have e2 : row.take (row.length - (i + 1)) ++ [row[row.length - (i + 1)]] = row.take (row.length - i) := by
      rw [← e, List.take_add_one, hp]; rfl
    rw [e2, e]
    exact cut_all ha hn i (by omega)
theorem cut_whole {row : List NodeP} {need : Nat → Bool} (ha : ∀ (k : Nat) p, row[k]? = some p → AheadP p k) (hn : ∀ (k : Nat) p, row[k]? = some p → need k = true ∨ p.kind = 1) : cutL need row 0 ([], []) = (row, idL row.length) := by
  have := cut_all ha hn row.length (Nat.le_refl _)
  rw [Nat.sub_self] at this
  exact this
/-- a neat row of which all is needed but inputs is its own tidied graph -/
theorem tidyP_self {row : List NodeP} {rsh : List (List Int)} {rsp : List Sp} {out : Nat} (hR : RowOk row rsh rsp) (hN : Neat row) (ho : out < row.length) (hn : ∀ (k : Nat) p, row[k]? = some p → needB row out k = true ∨ p.kind = 1) : tidyP row rsh out = (row, out) := by
  unfold tidyP
  rw [neat_all hR hN]
  simp only
  rw [idL_getD ho, cut_whole (fun k p hp => hR.ahead hp) hn]
  simp only
  rw [idL_getD ho]
end Go.Proofs.Ytdmkdogakbipbaa

/- OB -/
namespace Go.Proofs.Ytdmkdogakbipbaa
open Go.SX Go.RowKit
section
variable {l : List NodeP} {sh : List (List Int)} {sp : List Sp} {row : List NodeP} {rsh : List (List Int)} {rsp : List Sp} {st : List Nat} {n : NodeP} {i : Nat}
theorem moved_on (hL : RowOk l sh sp) (hR : RowOk row rsh rsp) (hn : l[i]? = some n)
    (hSA : n.kind ≠ 1 → n.kind ≠ 2 → st.getD n.a.toNat 0 < rsh.length ∧ gD rsh (st.getD n.a.toNat 0) = gD sh n.a.toNat ∧ tight (gS rsp (st.getD n.a.toNat 0)) (gS sp n.a.toNat))
    (hSB : n.kind = 6 → st.getD n.b.toNat 0 < rsh.length ∧ gD rsh (st.getD n.b.toNat 0) = gD sh n.b.toNat ∧ tight (gS rsp (st.getD n.b.toNat 0)) (gS sp n.b.toNat)) :
    NodeIn (movedP st n).toV rsh (gD sh i) ∧ tight (spanP (movedP st n) (gD sh i) rsh rsp) (gS sp i) := by
  obtain ⟨e0, ek, ea, ea2, eb, eb2⟩ := moved_eq st n
  have hni := hL.node _ _ hn
  have hah := hL.ahead hn
  have hti := (hL.lenK hn).2
  have hf := hni.form
  rw [hti] at hf
  have kk : n.toV.kind = n.kind := rfl
  have hA : n.kind ≠ 1 → n.kind ≠ 2 → (movedP st n).a.toNat = st.getD n.a.toNat 0 := fun h1 h2 => by rw [ea h1 h2]; omega
  have hB : n.kind = 6 → (movedP st n).b.toNat = st.getD n.b.toNat 0 := fun h => by rw [eb h]; omega
  refine ⟨⟨?_, ?_, ?_⟩, ?_⟩
  · rw [e0]
    refine form_move hf (fun h1 h2 => ?_) (fun h => ?_) (fun h => ?_) (fun h => ?_)
    · have := (hSA h1 h2).1
      rw [ea h1 h2]; omega
    · exact ea2 h
    · have := (hSB h).1
      rw [eb h]; omega
    · exact eb2 h
  · rw [e0, shape_move (sh := sh.take i) (fun h1 h2 => ?_) (fun h => ?_)]
    · exact hni.shape
    · show gD rsh (movedP st n).a.toNat = gD (sh.take i) n.a.toNat
      rw [hA h1 h2, (hSA h1 h2).2.1, gD_take (hah.a1 h1 h2)]
    · show gD rsh (movedP st n).b.toNat = gD (sh.take i) n.b.toNat
      rw [hB h, (hSB h).2.1, gD_take (hah.b1 h)]
  · rw [e0, near_move]; exact hni.near
  · obtain ⟨q1, q2, q3⟩ := hL.span _ _ hn
    rw [q1, spanP_take hah]
    unfold spanP
    rw [e0, ends_move]
    by_cases h12 : n.kind = 1 ∨ n.kind = 2
    · rw [ends_free (n := n.toV) h12 _ (entries (gD sh i)).toNat _ (gD sh n.a.toNat) _ _ (gS (sp.take i) n.a.toNat) (gS (sp.take i) n.b.toNat)]
      exact tight_refl _
    · have ha1 := hah.a1 (by omega) (by omega)
      have hp := hL.place hn
      rw [gD_take ha1] at hp
      have sA := hSA (by omega) (by omega)
      rw [hA (by omega) (by omega), sA.2.1, gS_take ha1]
      have lo : ∀ j, j < rsh.length → (gS rsp j).1 ≤ (gS rsp j).2 := fun j hj => by
        rw [hR.lenS] at hj
        have hk' := List.getElem?_eq_getElem hj
        rw [(hR.span _ _ hk').1]
        unfold spanP
        by_cases g12 : (row[j]).kind = 1 ∨ (row[j]).kind = 2
        · rw [ends_free (n := (row[j]).toV) g12 _ _ _ _ _ _ (0, 0) (0, 0)]
          exact spanE_le (hR.place hk') (0, 0) (0, 0)
        · have := (hR.ahead hk').a1 (by omega) (by omega)
          have hp2 := hR.place hk'
          rw [gD_take this] at hp2
          exact spanE_le hp2 _ _
      refine ends_tight hp (fun h1 h2 => ⟨sA.2.2, lo _ sA.1⟩) (fun h6 => ?_)
      have h6' : n.kind = 6 := h6
      have hb1 := hah.b1 h6'
      have sB := hSB h6'
      rw [hB h6', gS_take hb1]
      exact ⟨sB.2.2, lo _ sB.1⟩
end
abbrev KeepP (row : List NodeP) (need : Nat → Bool) (k : Nat) : Prop := need k = true ∨ (row.getD k nilP).kind = 1
structure CutAt (row : List NodeP) (rsh : List (List Int)) (rsp : List Sp) (need : Nat → Bool) (i : Nat) (r : List NodeP) (p : List Nat) : Prop where
  rest : cutL need (row.drop i) i (r, p) = cutL need row 0 ([], [])
  len : p.length = i
  few : r.length ≤ i
  at_ : ∀ k, k < i → KeepP row need k → r[p.getD k 0]? = some (movedP p (row.getD k nilP))
  inv : ∀ j, j < r.length → ∃ k, k < i ∧ KeepP row need k ∧ p.getD k 0 = j
  mono : ∀ j k, j < k → k < i → KeepP row need j → KeepP row need k → p.getD j 0 < p.getD k 0
  ok : ∃ rsh' rsp', RowOk r rsh' rsp' ∧ ∀ k, k < i → KeepP row need k → gD rsh' (p.getD k 0) = gD rsh k ∧ tight (gS rsp' (p.getD k 0)) (gS rsp k)
theorem getD_old {p : List Nat} {y k : Nat} (h : k < p.length) : (p ++ [y]).getD k 0 = p.getD k 0 := by
  rw [List.getD_eq_getElem?_getD, List.getD_eq_getElem?_getD, List.getElem?_append_left h]
theorem getD_new {p : List Nat} {y k : Nat} (h : k = p.length) : (p ++ [y]).getD k 0 = y := by
  subst h
  rw [List.getD_eq_getElem?_getD, List.getElem?_append_right (Nat.le_refl _), Nat.sub_self]; rfl
section
variable {row : List NodeP} {rsh : List (List Int)} {rsp : List Sp} {need : Nat → Bool}
theorem takes_a {n : NodeP} (h1 : n.kind ≠ 1) (h2 : n.kind ≠ 2) : n.a ∈ takesP n := by
  unfold takesP
  rw [if_neg (by omega)]
  split <;> simp
theorem takes_b {n : NodeP} (h6 : n.kind = 6) : n.b ∈ takesP n := by
  unfold takesP
  rw [if_neg (by omega), if_pos h6]; simp
theorem CutAt.steps (hR : RowOk row rsh rsp) (hcl : ∀ k, k < row.length → need k = true → ∀ t ∈ takesP (row.getD k nilP), need t.toNat = true) {i : Nat} {r : List NodeP} {p : List Nat} (h : CutAt row rsh rsp need i r p) (hi : i < row.length) : (KeepP row need i → CutAt row rsh rsp need (i + 1) (r ++ [movedP p (row.getD i nilP)]) (p ++ [r.length])) ∧ (¬ KeepP row need i → CutAt row rsh rsp need (i + 1) r (p ++ [0])) := by
  obtain ⟨h1, rfl, h3, h4, h5, h6, rsh', rsp', hR', h7⟩ := h
  have hp := getD_some hi
  have hah : ∀ k, k < row.length → AheadP (row.getD k nilP) k := fun k hk => hR.ahead (getD_some hk)
  have hrest := h1
  have hdr : row.drop p.length = row.getD p.length nilP :: row.drop (p.length + 1) := by
    rw [List.drop_eq_getElem_cons hi, List.getD_eq_getElem?_getD, List.getElem?_eq_getElem hi]; rfl
  rw [hdr, cutL_cons] at hrest
  have hms : ∀ k y, k < p.length → movedP (p ++ [y]) (row.getD k nilP) = movedP p (row.getD k nilP) := fun k y hk => moved_snoc ((hah k (by omega)).up (Nat.le_of_lt hk))
  refine ⟨fun hk => ?_, fun hk => ?_⟩
  · rw [if_pos hk] at hrest
    simp only at hrest
    have hlt : ∀ k, k < p.length → KeepP row need k → p.getD k 0 < r.length := fun k hk hq => (List.getElem?_eq_some_iff.1 (h4 k hk hq)).1
    have hkt : (row.getD p.length nilP).kind ≠ 1 → ∀ t ∈ takesP (row.getD p.length nilP), KeepP row need t.toNat := fun hne t ht => .inl (hcl _ hi (hk.resolve_right hne) t ht)
    have hai := hah _ hi
    have hl2 := hR'.lenS
    obtain ⟨hm, ht⟩ := moved_on (st := p) hR hR' hp
      (fun g1 g2 => by
        have ha := hai.a1 g1 g2
        have hq := hkt g1 _ (takes_a g1 g2)
        exact ⟨by rw [hl2]; exact hlt _ ha hq, (h7 _ ha hq).1, (h7 _ ha hq).2⟩)
      (fun g6 => by
        have hb := hai.b1 g6
        have hq := hkt (by omega) _ (takes_b g6)
        exact ⟨by rw [hl2]; exact hlt _ hb hq, (h7 _ hb hq).1, (h7 _ hb hq).2⟩)
    have hspn := (hR.span _ _ hp).2
    have hR2 := hR'.snoc hm (by unfold tight at ht; omega) (by unfold tight at ht; omega)
    have hl3 := hR'.lenP
    refine ⟨hrest, by simp, by simp; omega, fun k hk1 hk2 => ?_, fun j hj => ?_, fun j k hjk hk1 hj2 hk2 => ?_, _, _, hR2, fun k hk1 hk2 => ?_⟩
    · rcases Nat.lt_or_ge k p.length with hlk | hge
      · rw [getD_old hlk, hms k _ hlk, List.getElem?_append_left (hlt k hlk hk2)]
        exact h4 k hlk hk2
      · obtain rfl : k = p.length := by omega
        rw [getD_new rfl, List.getElem?_append_right (Nat.le_refl _), Nat.sub_self, moved_snoc hai]; rfl
    · rw [List.length_append, List.length_singleton] at hj
      rcases Nat.lt_or_ge j r.length with hlj | hge
      · obtain ⟨k, q1, q2, q3⟩ := h5 j hlj
        exact ⟨k, by omega, q2, by rw [getD_old q1]; exact q3⟩
      · exact ⟨p.length, by omega, hk, by rw [getD_new rfl]; omega⟩
    · rcases Nat.lt_or_ge k p.length with hlk | hge
      · rw [getD_old hlk, getD_old (by omega)]
        exact h6 j k hjk hlk hj2 hk2
      · obtain rfl : k = p.length := by omega
        rw [getD_new rfl, getD_old hjk]
        exact hlt j hjk hj2
    · rcases Nat.lt_or_ge k p.length with hlk | hge
      · have hlr := hlt k hlk hk2
        rw [getD_old hlk, gD_left (by omega), gS_left (by omega)]
        exact h7 k hlk hk2
      · obtain rfl : k = p.length := by omega
        rw [getD_new rfl, gD_last (by omega), gS_last (by omega)]
        exact ⟨rfl, ht⟩
  · rw [if_neg hk] at hrest
    simp only at hrest
    have hne : ∀ k, k < p.length + 1 → KeepP row need k → k < p.length := fun k h1 h2 => by
      rcases Nat.lt_or_ge k p.length with h | h
      · exact h
      · obtain rfl : k = p.length := by omega
        exact absurd h2 hk
    refine ⟨hrest, by simp, by omega, fun k hk1 hk2 => ?_, fun j hj => ?_, fun j k hjk hk1 hj2 hk2 => ?_, rsh', rsp', hR', fun k hk1 hk2 => ?_⟩
    · have hlk := hne k hk1 hk2
      rw [getD_old hlk, hms k _ hlk]
      exact h4 k hlk hk2
    · obtain ⟨k, q1, q2, q3⟩ := h5 j hj
      exact ⟨k, by omega, q2, by rw [getD_old q1]; exact q3⟩
    · have hlk := hne k hk1 hk2
      rw [getD_old hlk, getD_old (by omega)]
      exact h6 j k hjk hlk hj2 hk2
    · have hlk := hne k hk1 hk2
      rw [getD_old hlk]
      exact h7 k hlk hk2
theorem CutAt.step (hR : RowOk row rsh rsp) (hcl : ∀ k, k < row.length → need k = true → ∀ t ∈ takesP (row.getD k nilP), need t.toNat = true) {i : Nat} {r : List NodeP} {p : List Nat} (h : CutAt row rsh rsp need i r p) (hi : i < row.length) : ∃ r' p', CutAt row rsh rsp need (i + 1) r' p' := by
  by_cases hk : KeepP row need i
  · exact ⟨_, _, (h.steps hR hcl hi).1 hk⟩
  · exact ⟨_, _, (h.steps hR hcl hi).2 hk⟩
theorem cut_to (hR : RowOk row rsh rsp) (hcl : ∀ k, k < row.length → need k = true → ∀ t ∈ takesP (row.getD k nilP), need t.toNat = true) : ∀ i, i ≤ row.length → ∃ r p, CutAt row rsh rsp need i r p
  | 0, _ => ⟨[], [], rfl, rfl, Nat.le_refl _, fun k hk => absurd hk (Nat.not_lt_zero _), fun j hj => absurd hj (Nat.not_lt_zero _), fun j k _ hk => absurd hk (Nat.not_lt_zero _), [], [], RowOk.nil, fun k hk => absurd hk (Nat.not_lt_zero _)⟩
  | i + 1, hi => by
    obtain ⟨r, p, h⟩ := cut_to hR hcl i (by omega)
    exact h.step hR hcl (by omega)
theorem cut_at (hR : RowOk row rsh rsp) (hcl : ∀ k, k < row.length → need k = true → ∀ t ∈ takesP (row.getD k nilP), need t.toNat = true) : CutAt row rsh rsp need row.length (cutL need row 0 ([], [])).1 (cutL need row 0 ([], [])).2 := by
  obtain ⟨r, p, h⟩ := cut_to hR hcl row.length (Nat.le_refl _)
  have e := h.rest
  rw [List.drop_length] at e
  have e : (r, p) = cutL need row 0 ([], []) := e
  rw [← e]; exact h
end
end Go.Proofs.Ytdmkdogakbipbaa

/- OC -/
namespace Go.Proofs.Ytdmkdogakbipbaa
open Go.SX Go.RowKit
section
variable {row : List NodeP} {rsh : List (List Int)} {rsp : List Sp} {need : Nat → Bool} {r : List NodeP} {p : List Nat}
theorem CutAt.get (h : CutAt row rsh rsp need row.length r p) {k : Nat} (hk : k < row.length) (hq : KeepP row need k) : p.getD k 0 < r.length ∧ r.getD (p.getD k 0) nilP = movedP p (row.getD k nilP) := by
  have := h.at_ k hk hq
  refine ⟨(List.getElem?_eq_some_iff.1 this).1, ?_⟩
  rw [List.getD_eq_getElem?_getD, this]; rfl
theorem CutAt.back (h : CutAt row rsh rsp need row.length r p) {j : Nat} {m : NodeP} (hm : r[j]? = some m) : ∃ k, k < row.length ∧ KeepP row need k ∧ p.getD k 0 = j ∧ m = movedP p (row.getD k nilP) := by
  obtain ⟨k, h1, h2, h3⟩ := h.inv j (List.getElem?_eq_some_iff.1 hm).1
  have := h.at_ k h1 h2
  rw [h3, hm] at this
  exact ⟨k, h1, h2, h3, by simpa using this⟩
theorem CutAt.inj (h : CutAt row rsh rsp need row.length r p) {j k : Nat} (hj : j < row.length) (hk : k < row.length) (hqj : KeepP row need j) (hqk : KeepP row need k) (e : p.getD j 0 = p.getD k 0) : j = k := by
  rcases Nat.lt_trichotomy j k with hlt | he | hgt
  · have := h.mono j k hlt hk hqj hqk; omega
  · exact he
  · have := h.mono k j hgt hj hqk hqj; omega
theorem keep_takes (hcl : ∀ k, k < row.length → need k = true → ∀ t ∈ takesP (row.getD k nilP), need t.toNat = true) {k : Nat} (hk : k < row.length) (hq : KeepP row need k) (h1 : (row.getD k nilP).kind ≠ 1) {t : Int} (ht : t ∈ takesP (row.getD k nilP)) : KeepP row need t.toNat := .inl (hcl k hk (hq.resolve_right h1) t ht)
theorem cut_neat (hR : RowOk row rsh rsp) (hN : Neat row) (hcl : ∀ k, k < row.length → need k = true → ∀ t ∈ takesP (row.getD k nilP), need t.toNat = true) (h : CutAt row rsh rsp need row.length r p) : Neat r := by
  have hah : ∀ k, k < row.length → AheadP (row.getD k nilP) k := fun k hk => hR.ahead (getD_some hk)
  refine ⟨fun j m hm => ?_, fun j1 j2 m hj h1 h2 => ?_⟩
  · obtain ⟨k, hk, hq, hpk, rfl⟩ := h.back hm
    have hn := hN.known k _ (getD_some hk)
    have hai := hah k hk
    have hkt := fun t ht h1 => keep_takes (t := t) hcl hk hq h1 ht
    generalize row.getD k nilP = q at *
    obtain ⟨_, ek, ea, _, eb, _⟩ := moved_eq p q
    unfold knownP constAt at hn ⊢
    rw [ek]
    by_cases h12 : q.kind = 1 ∨ q.kind = 2
    · rw [decide_eq_true h12]; rfl
    · have key : ∀ t, t.toNat < k → t ∈ takesP q → (r.getD (p.getD t.toNat 0) nilP).kind = (row.getD t.toNat nilP).kind := fun t h1 h2 => by
        rw [(h.get (by omega) (hkt t h2 (by omega))).2]
        exact (moved_eq p _).2.1
      have eA : (r.getD (movedP p q).a.toNat nilP).kind = (row.getD q.a.toNat nilP).kind := by
        rw [ea (by omega) (by omega), Int.toNat_natCast]
        exact key q.a (hai.a1 (by omega) (by omega)) (takes_a (by omega) (by omega))
      rw [eA]
      by_cases h6 : q.kind = 6
      · have eB : (r.getD (movedP p q).b.toNat nilP).kind = (row.getD q.b.toNat nilP).kind := by
          rw [eb h6, Int.toNat_natCast]
          exact key q.b (hai.b1 h6) (takes_b h6)
        rw [eB]; exact hn
      · rw [decide_eq_true (show q.kind ≠ 6 from h6), Bool.true_or] at hn ⊢
        exact hn
  · obtain ⟨k1, hk1, hq1, hp1, e1⟩ := h.back h1
    obtain ⟨k2, hk2, hq2, hp2, e2⟩ := h.back h2
    have hne : k1 ≠ k2 := fun e => by subst e; omega
    have hsame : row.getD k1 nilP = row.getD k2 nilP := by
      have hai1 := hah k1 hk1
      have hai2 := hah k2 hk2
      have hkt1 := fun t ht h1 => keep_takes (t := t) hcl hk1 hq1 h1 ht
      have hkt2 := fun t ht h1 => keep_takes (t := t) hcl hk2 hq2 h1 ht
      have e : movedP p (row.getD k1 nilP) = movedP p (row.getD k2 nilP) := by rw [← e1, e2]
      generalize row.getD k1 nilP = q1 at *
      generalize row.getD k2 nilP = q2 at *
      have hkk : q1.kind = q2.kind := by rw [← (moved_eq p q1).2.1, ← (moved_eq p q2).2.1, e]
      have a1 := hai1.a0
      have a2 := hai2.a0
      have b1 := hai1.b0
      have b2 := hai2.b0
      have hinj : ∀ t1 t2 : Int, 0 ≤ t1 → 0 ≤ t2 → t1.toNat < k1 → t2.toNat < k2 → t1 ∈ takesP q1 → t2 ∈ takesP q2 → q1.kind ≠ 1 → p.getD t1.toNat 0 = p.getD t2.toNat 0 → t1 = t2 := fun t1 t2 g1 g2 g3 g4 g5 g6 g7 g8 => by
        have := h.inj (by omega) (by omega) (hkt1 t1 g5 g7) (hkt2 t2 g6 (by omega)) g8
        omega
      have ee := e
      unfold movedP at ee
      by_cases h12 : q1.kind = 1 ∨ q1.kind = 2
      · rw [if_pos h12, if_pos (show q2.kind = 1 ∨ q2.kind = 2 by omega)] at ee; exact ee
      · rw [if_neg h12, if_neg (show ¬ (q2.kind = 1 ∨ q2.kind = 2) by omega)] at ee
        by_cases h6 : q1.kind = 6
        · rw [if_pos h6, if_pos (show q2.kind = 6 by omega)] at ee
          simp only [NodeP.mk.injEq] at ee
          obtain ⟨c1, c2, c3, c4, c5, c6, c7, c8, c9⟩ := ee
          have ga := hinj q1.a q2.a a1 a2 (hai1.a1 (by omega) (by omega)) (hai2.a1 (by omega) (by omega)) (takes_a (by omega) (by omega)) (takes_a (by omega) (by omega)) (by omega) (by omega)
          have gb := hinj q1.b q2.b b1 b2 (hai1.b1 h6) (hai2.b1 (by omega)) (takes_b h6) (takes_b (by omega)) (by omega) (by omega)
          cases q1; cases q2; simp only at *; subst_vars; rfl
        · rw [if_neg h6, if_neg (show ¬ q2.kind = 6 by omega)] at ee
          simp only [NodeP.mk.injEq] at ee
          obtain ⟨c1, c2, c3, c4, c5, c6, c7, c8, c9⟩ := ee
          have ga := hinj q1.a q2.a a1 a2 (hai1.a1 (by omega) (by omega)) (hai2.a1 (by omega) (by omega)) (takes_a (by omega) (by omega)) (takes_a (by omega) (by omega)) (by omega) (by omega)
          cases q1; cases q2; simp only at *; subst_vars; rfl
    have g1 := getD_some hk1
    have g2 := getD_some hk2
    rw [← hsame] at g2
    have hkind : (row.getD k1 nilP).kind = 1 := by
      rcases Nat.lt_or_gt_of_ne hne with hlt | hgt
      · exact hN.once k1 k2 _ hlt g1 g2
      · exact hN.once k2 k1 _ hgt g2 g1
    rw [e1, (moved_eq p _).2.1]; exact hkind
theorem takes_moved {q : NodeP} {t : Int} (ht : t ∈ takesP q) : ((p.getD t.toNat 0 : Nat) : Int) ∈ takesP (movedP p q) := by
  unfold takesP at ht
  split at ht
  · simp at ht
  · rename_i h12
    split at ht
    · rename_i h6
      have e : movedP p q = { q with a := p.getD q.a.toNat 0, b := p.getD q.b.toNat 0 } := by unfold movedP; rw [if_neg h12, if_pos h6]
      rw [e]
      unfold takesP
      rw [if_neg h12, if_pos h6]
      simp only [List.mem_cons, List.not_mem_nil, or_false] at ht ⊢
      rcases ht with rfl | rfl
      · exact .inl rfl
      · exact .inr rfl
    · rename_i h6
      have e : movedP p q = { q with a := p.getD q.a.toNat 0 } := by unfold movedP; rw [if_neg h12, if_neg h6]
      rw [e]
      unfold takesP
      rw [if_neg h12, if_neg h6]
      simp only [List.mem_singleton] at ht ⊢
      rw [ht]
end
theorem need_closed {row : List NodeP} {rsh : List (List Int)} {rsp : List Sp} {out : Nat} (hR : RowOk row rsh rsp) (ho : out < row.length) : ∀ k, k < row.length → needB row out k = true → ∀ t ∈ takesP (row.getD k nilP), needB row out t.toNat = true := fun k _ hk t ht =>
  (need_reach hR.aheads ho _).2 (.step ((need_reach hR.aheads ho k).1 hk) ht)
theorem reach_lt {row : List NodeP} {rsh : List (List Int)} {rsp : List Sp} {out k : Nat} (hR : RowOk row rsh rsp) (ho : out < row.length) (h : Reach row out k) : k < row.length := by
  induction h with
  | refl => exact ho
  | step _ ht ih =>
    have := takes_lt (hR.ahead (getD_some ih)) _ ht
    omega
/-- the tidied graph is a graph, and tidied it is itself -/
theorem tidyP_again {l : List NodeP} {sh : List (List Int)} {sp : List Sp} (hL : RowOk l sh sp) {out : Nat} (ho : out < l.length) : ∃ rsh rsp, RowOk (tidyP l sh out).1 rsh rsp ∧ (tidyP l sh out).2 < (tidyP l sh out).1.length ∧ (tidyP l sh out).1.length ≤ l.length ∧ tidyP (tidyP l sh out).1 rsh (tidyP l sh out).2 = tidyP l sh out := by
  obtain ⟨row, st, hT, hN⟩ := tidy_neat hL l.length (Nat.le_refl _)
  have hd := hT.done
  have hfew := hT.few
  have hlen := hT.len
  obtain ⟨rsh, rsp, hR, hS⟩ := hT.ok
  have hout : st.getD out 0 < row.length := by have := hS.lt out (by omega); rwa [hR.lenS] at this
  have hcl := need_closed hR hout
  have hC := cut_at (rsh := rsh) (rsp := rsp) hR hcl
  have hno : KeepP row (needB row (st.getD out 0)) (st.getD out 0) := .inl ((need_reach hR.aheads hout _).2 (.refl _))
  have e : tidyP l sh out = ((cutL (needB row (st.getD out 0)) row 0 ([], [])).1, (cutL (needB row (st.getD out 0)) row 0 ([], [])).2.getD (st.getD out 0) 0) := by unfold tidyP; rw [hd]
  rw [e]
  simp only
  generalize hx : cutL (needB row (st.getD out 0)) row 0 ([], []) = x at *
  obtain ⟨r, p⟩ := x
  simp only at hC ⊢
  generalize st.getD out 0 = o at *
  have hNr := cut_neat hR hN hcl hC
  obtain ⟨rsh', rsp', hR', h7⟩ := hC.ok
  obtain ⟨hpo, _⟩ := hC.get hout hno
  refine ⟨rsh', rsp', hR', hpo, Nat.le_trans hC.few hfew, tidyP_self hR' hNr hpo fun j m hm => ?_⟩
  obtain ⟨k, hk, hq, hpk, hmk⟩ := hC.back hm
  rcases hq with hq | hq
  · left
    rw [need_reach hR'.aheads hpo, ← hpk]
    have hr := (need_reach hR.aheads hout k).1 hq
    clear hq hpk hk hmk hm
    induction hr with
    | refl => exact .refl _
    | step hrj ht ih =>
      rename_i j' t'
      have hj := reach_lt hR hout hrj
      have hkj : KeepP row (needB row o) j' := .inl ((need_reach hR.aheads hout _).2 hrj)
      have hg := (hC.get hj hkj).2
      have := Reach.step ih (t := ((p.getD t'.toNat 0 : Nat) : Int)) (by rw [hg]; exact takes_moved ht)
      rw [Int.toNat_natCast] at this
      exact this
  · right
    rw [hmk, (moved_eq p _).2.1]; exact hq
end Go.Proofs.Ytdmkdogakbipbaa

/- OD -/
namespace Go.Proofs.Ytdmkdogakbipbaa
open Go.SX Go.RowKit
theorem tidied_ok {B : Base} {ρ : Nat → SX.Loc} {nx i : Nat} {H : Heap} {S : Asn} {w : World} {l : List NodeV} {base : Option Addr} {cap : Nat} {out : Int} (hw : Abs B ρ nx H S w) (hi : (i, Ent.ext (dataO (partsL l) true)) ∈ H) (hr : ∀ R w', S.holds R w' → RowsI w' base 9 (nodeRows l)) (hko : KeptOk l) (hl : l.length ≤ 1000000) (ho : i64 out) : (GraphV.mk base cap l out).ok w := by
  have h := tidied_fit (cap := cap) (out := out) hw hi hr hko hl
  exact ⟨h.rows, h.each, fun n hn => (hko n hn).2, hl, ho⟩
set_option maxRecDepth 20000 in
set_option maxHeartbeats 4000000 in
theorem lawTidyAgain_any (w : World) (g : GraphV) (hg : g.raw w) : Calls Try.prog 6 #[g.val] w fun e w' => e = .returned (.bool true) ∧ Ext w w' := by
  cases hf : fewB g with
  | false =>
    refine calls_of tab tabOk Try.func6 rfl rfl rfl [] (fun _ => ⟨none, 0⟩) [.agg [.c (.slice g.base g.l.length g.cap), .c (.int .i64 g.out)]] [] (baseA w) 0 rfl rfl (by show 1 ≤ _; decide) (abs_base w) ?_
    (repeat' ((conv => whnf) <;> first | (show callK _ 19 _ _ _ _ _; refine call_pure (f := 19) Try.call19 (.bool true) (fun ρ w' hw => fixed18_any w') ?_) | (show callK _ 20 _ _ _ _ _; (refine call_pure (f := 20) Try.call20 (.bool false) (fun ρ w' hw => by have := few_any w' g (holds_of_abs hw fun R h => hg.later h); rw [hf] at this; exact this) ?_)) | (show Wp _ _ _ _ _ _ _; refine Wp.go tabOk rfl ?_) | (show @cmpK _ _ _; (first | refine cmpY ?_ | refine cmpN ?_ | (refine cmp_both ?_ ?_ <;> intro _))) | (show wrapK _ _ _; refine wrapA ?_) | (show leK _ _ _; refine leA ?_) | (show roomK _ _ _; refine roomA ?_) | (show ltK _ _ _; refine ltA ?_) | (show _ ∧ _; refine ⟨?_, ?_⟩) | (show keepK _ _ _ _ _; refine keepA ?_) | refine own_keep ?_ | refine ap_old ?_))
    all_goals (conv => whnf)
    all_goals exact ends_bool (fun R w' h => h) rfl rfl
  | true =>
    have hgo := raw_ok hg hf
    refine calls_of tab tabOk Try.func6 rfl rfl rfl [] (fun _ => ⟨none, 0⟩) [.agg [.c (.slice g.base g.l.length g.cap), .c (.int .i64 g.out)]] [] (baseA w) 0 rfl rfl (by show 1 ≤ _; decide) (abs_base w) ?_
    (repeat' ((conv => whnf) <;> first | (show callK _ 19 _ _ _ _ _; refine call_pure (f := 19) Try.call19 (.bool true) (fun ρ w' hw => fixed18_any w') ?_) | (show callK _ 20 _ _ _ _ _; (refine call_pure (f := 20) Try.call20 (.bool true) (fun ρ w' hw => by have := few_any w' g (holds_of_abs hw fun R h => hg.later h); rw [hf] at this; exact this) ?_)) | (show Wp _ _ _ _ _ _ _; refine Wp.go tabOk rfl ?_) | (show @cmpK _ _ _; (first | refine cmpY ?_ | refine cmpN ?_ | (refine cmp_both ?_ ?_ <;> intro _))) | (show wrapK _ _ _; refine wrapA ?_) | (show leK _ _ _; refine leA ?_) | (show roomK _ _ _; refine roomA ?_) | (show ltK _ _ _; refine ltA ?_) | (show _ ∧ _; refine ⟨?_, ?_⟩) | (show keepK _ _ _ _ _; refine keepA ?_) | refine own_keep ?_ | refine ap_old ?_))
    by_cases hsp : (spansH g).1 = 0
    · obtain ⟨hck, _, _⟩ := spansH_in hsp
      obtain ⟨hl1, hl24, hout, hcl, hin⟩ := check_in hck
      obtain ⟨rsh, rsp, hR, hX2, hX3, hX⟩ := tidyP_again (rowOk_graph hsp) (out := g.out.toNat) (by rw [List.length_map]; omega)
      rw [List.length_map] at hX3
      refine call_tidyW (spansH g).1 _ Try.call22 (fun ρ w' hw => tidy_any w' g (holds_of_abs hw fun R h => hgo.later h)) (fun h => absurd hsp h) (fun _ l base cap hl hko => ?_)
      generalize tidyP (g.l.map NodeV.pl) (check g).2 g.out.toNat = X at *
      have hlen : l.length = X.1.length := by rw [← hl, List.length_map]
      have hh1 : check (GraphV.mk base cap l X.2) = (0, rsh) := hR.check (by omega) hl (by show (0 : Int) ≤ (X.2 : Int); omega) (by show (X.2 : Int) < _; omega)
      have hh2 : spansH (GraphV.mk base cap l X.2) = (0, rsp) := hR.spans (by omega) hl (by show (0 : Int) ≤ (X.2 : Int); omega) (by show (X.2 : Int) < _; omega)
      have htd : ∀ w', (GraphV.mk base cap l X.2).ok w' → Calls Try.prog 22 #[(GraphV.mk base cap l X.2).val] w' (TidyPost w' 0 X) := fun w' h => by
        have := tidy_any w' (GraphV.mk base cap l X.2) h
        rw [hh2, hh1, hl] at this
        rw [show (GraphV.mk base cap l (X.2 : Int)).out.toNat = X.2 from Int.toNat_natCast X.2, hX] at this
        exact this
      (repeat' ((conv => whnf) <;> first | (show @cmpK _ _ _; refine cmp_no (fun h => h rfl) ?_) | (show Wp _ _ _ _ _ _ _; refine Wp.go tabOk rfl ?_) | (show @cmpK _ _ _; (first | refine cmpY ?_ | refine cmpN ?_ | (refine cmp_both ?_ ?_ <;> intro _))) | (show wrapK _ _ _; refine wrapA ?_) | (show leK _ _ _; refine leA ?_) | (show roomK _ _ _; refine roomA ?_) | (show ltK _ _ _; refine ltA ?_) | (show _ ∧ _; refine ⟨?_, ?_⟩) | (show keepK _ _ _ _ _; refine keepA ?_) | refine own_keep ?_ | refine ap_old ?_))
      have hle : l.length ≤ g.l.length := by omega
      refine call_tidyW 0 X Try.call22 (fun ρ w' hw => htd w' (tidied_ok hw (by repeat (first | exact List.mem_cons_self | apply List.mem_cons_of_mem)) (fun R w' h => rowsA_in h.2) hko (by omega) (by unfold i64; omega))) (fun h => absurd rfl h) (fun _ l2 base2 cap2 hl2 hko2 => ?_)
      have hlen2 : l2.length = X.1.length := by rw [← hl2, List.length_map]
      (repeat' ((conv => whnf) <;> first | (show @cmpK _ _ _; (first | refine cmp_yes rfl ?_ | refine cmp_yes (show ((l.length : Nat) : Int) ≤ ((g.l.length : Nat) : Int) by omega) ?_)) | (show callK _ 24 _ _ _ _ _; (refine call_pure (f := 24) Try.call24 (.bool true) (fun ρ w' hw => sameGraph_eq w' ⟨base, cap, l, X.2⟩ ⟨base2, cap2, l2, X.2⟩ (tidied_fit hw (by repeat (first | exact List.mem_cons_self | apply List.mem_cons_of_mem)) (fun R w' h => rowsA_in h.1.2) hko (by omega)) (tidied_fit hw (by repeat (first | exact List.mem_cons_self | apply List.mem_cons_of_mem)) (fun R w' h => rowsA_in h.2) hko2 (by omega)) (hl.trans hl2.symm) rfl) ?_)) | (show Wp _ _ _ _ _ _ _; refine Wp.go tabOk rfl ?_) | (show @cmpK _ _ _; (first | refine cmpY ?_ | refine cmpN ?_ | (refine cmp_both ?_ ?_ <;> intro _))) | (show wrapK _ _ _; refine wrapA ?_) | (show leK _ _ _; refine leA ?_) | (show roomK _ _ _; refine roomA ?_) | (show ltK _ _ _; refine ltA ?_) | (show _ ∧ _; refine ⟨?_, ?_⟩) | (show keepK _ _ _ _ _; refine keepA ?_) | refine own_keep ?_ | refine ap_old ?_))
      all_goals (conv => whnf)
      all_goals exact ends_bool (fun R w' h => h.1.1) rfl rfl
    · refine call_tidyW (spansH g).1 _ Try.call22 (fun ρ w' hw => tidy_any w' g (holds_of_abs hw fun R h => hgo.later h)) (fun _ => ?_) (fun h => absurd h hsp)
      (repeat' ((conv => whnf) <;> first | (show @cmpK _ _ _; (first | refine cmp_yes hsp ?_ | refine cmp_yes rfl ?_)) | (show Wp _ _ _ _ _ _ _; refine Wp.go tabOk rfl ?_) | (show @cmpK _ _ _; (first | refine cmpY ?_ | refine cmpN ?_ | (refine cmp_both ?_ ?_ <;> intro _))) | (show wrapK _ _ _; refine wrapA ?_) | (show leK _ _ _; refine leA ?_) | (show roomK _ _ _; refine roomA ?_) | (show ltK _ _ _; refine ltA ?_) | (show _ ∧ _; refine ⟨?_, ?_⟩) | (show keepK _ _ _ _ _; refine keepA ?_) | refine own_keep ?_ | refine ap_old ?_))
      all_goals (conv => whnf)
      all_goals exact ends_bool (fun R w' h => h) rfl rfl
end Go.Proofs.Ytdmkdogakbipbaa

/- GT -/
namespace Go.Proofs.Ytdmkdogakbipbaa
open Go.SX Go.ChangeShapes Go.WideShapes Go.ChangeAt Go.RowKit
/-- a field's cells: a number, or numbers -/
def FieldQ (w : World) (f : Field) (cs : List Value) : Prop :=
  (f.type = 3 → ∃ i, (Lit.int .i64 i).wf = true ∧ cs = [.int .i64 i]) ∧ (f.type = 33 → ∃ u : IntsV, cs = [u.val] ∧ u.raw w)
theorem list9 {cs : List Value} (h : cs.length = 9) : ∃ a b c d e f g i j, cs = [a, b, c, d, e, f, g, i, j] := by
  match cs, h with
  | [a, b, c, d, e, f, g, i, j], _ => exact ⟨a, b, c, d, e, f, g, i, j, rfl⟩
theorem list2 {cs : List Value} (h : cs.length = 2) : ∃ a b, cs = [a, b] := by
  match cs, h with
  | [a, b], _ => exact ⟨a, b, rfl⟩
theorem c_int : Try.prog.cellsOf 3 = 1 := by kernel_rfl
theorem c_ints : Try.prog.cellsOf 33 = 1 := by kernel_rfl
theorem opens_node (w : World) : Opens Try.prog w 38 fun cs => ∃ n : NodeV, cs = n.cells ∧ n.raw w := by
  have h := opens_struct (P := Try.prog) (w := w) (k := 9) (Q := FieldQ w) Try.underlying38 (by kernel_rfl) (by
    intro f hf
    have hi : ∀ t, t = 3 → Opens Try.prog w t fun cs => (t = 3 → ∃ i, (Lit.int .i64 i).wf = true ∧ cs = [.int .i64 i]) ∧ (t = 33 → ∃ u : IntsV, cs = [u.val] ∧ u.raw w) := by
      rintro t rfl
      exact Opens.mono (opens_int Try.underlying3) fun cs hc => ⟨fun _ => hc, fun h => (by cases h)⟩
    have hs : ∀ t, t = 33 → Opens Try.prog w t fun cs => (t = 3 → ∃ i, (Lit.int .i64 i).wf = true ∧ cs = [.int .i64 i]) ∧ (t = 33 → ∃ u : IntsV, cs = [u.val] ∧ u.raw w) := by
      rintro t rfl
      exact Opens.mono (opens_intsV w) fun cs hc => ⟨fun h => (by cases h), fun _ => hc⟩
    simp only [List.mem_toArray, List.mem_cons, List.not_mem_nil, or_false] at hf
    rcases hf with rfl | rfl | rfl | rfl | rfl | rfl | rfl | rfl | rfl
    all_goals first | (refine Opens.mono (Q' := FieldQ w _) (hi _ rfl) ?_; intro cs h; exact h) | (refine Opens.mono (Q' := FieldQ w _) (hs _ rfl) ?_; intro cs h; exact h))
  refine Opens.mono h ?_
  rintro cs ⟨hl, hf⟩
  obtain ⟨a, b, c, d, e, f, g, i, j, rfl⟩ := list9 hl
  simp only [List.mem_toArray, List.mem_cons, List.not_mem_nil, or_false, forall_eq_or_imp, forall_eq, FieldQ, c_int, c_ints, List.drop_zero, List.drop_succ_cons, List.take_succ_cons, List.take_zero, forall_const, true_and, and_true, reduceCtorEq, Nat.reduceEqDiff, false_implies] at hf
  obtain ⟨⟨x1, w1, e1⟩, ⟨x2, w2, e2⟩, ⟨x3, w3, e3⟩, ⟨x4, e4, w4⟩, ⟨x5, w5, e5⟩, ⟨x6, w6, e6⟩, ⟨x7, w7, e7⟩, ⟨x8, e8, w8⟩, ⟨x9, e9, w9⟩⟩ := hf
  simp only [List.cons.injEq, and_true] at e1 e2 e3 e4 e5 e6 e7 e8 e9
  subst e1 e2 e3 e4 e5 e6 e7 e8 e9
  exact ⟨⟨x1, x2, x3, x4, x5, x6, x7, x8, x9⟩, rfl, w4, w8, w9, wf_i64' w1, wf_i64' w2, wf_i64' w3, wf_i64' w5, wf_i64' w6, wf_i64' w7⟩

theorem opens_graph (w : World) : Opens Try.prog w 26 fun cs => ∃ g : GraphV, cs = [.slice g.base g.l.length g.cap, .int .i64 g.out] ∧ g.raw w := by
  have hns := opens_slice (P := Try.prog) (w := w) (k := 9) Try.underlying24 (by kernel_rfl) (opens_node w)
  have h := opens_struct (P := Try.prog) (w := w) (k := 2) (Q := fun f cs => (f.type = 3 → ∃ i, (Lit.int .i64 i).wf = true ∧ cs = [.int .i64 i]) ∧ (f.type = 24 → SliceQ w 9 (fun cs => ∃ n : NodeV, cs = n.cells ∧ n.raw w) cs)) Try.underlying26 (by kernel_rfl) (by
    intro f hf
    simp only [List.mem_toArray, List.mem_cons, List.not_mem_nil, or_false] at hf
    rcases hf with rfl | rfl
    · exact Opens.mono hns fun cs hc => ⟨fun h => (by cases h), fun _ => hc⟩
    · exact Opens.mono (opens_int Try.underlying3) fun cs hc => ⟨fun _ => hc, fun h => (by cases h)⟩)
  refine Opens.mono h ?_
  rintro cs ⟨hl, hf⟩
  obtain ⟨a, b, rfl⟩ := list2 hl
  have c_nodes : Try.prog.cellsOf 24 = 1 := by kernel_rfl
  simp only [List.mem_toArray, List.mem_cons, List.not_mem_nil, or_false, forall_eq_or_imp, forall_eq, c_int, c_nodes, List.drop_zero, List.drop_succ_cons, List.take_succ_cons, List.take_zero, forall_const, true_and, and_true, reduceCtorEq, Nat.reduceEqDiff, false_implies] at hf
  obtain ⟨⟨base, cap, xs, e1, hr, hx, _⟩, x2, w2, e2⟩ := hf
  obtain ⟨l, rfl, hall⟩ := list_map_of (f := NodeV.cells) (p := fun n => n.raw w) fun r hr => by obtain ⟨n, hn, hn'⟩ := (hx r hr).2; exact ⟨n, hn', hn⟩
  simp only [List.cons.injEq, and_true] at e1 e2
  subst e1 e2
  exact ⟨⟨base, cap, l, x2⟩, by simp, hr, hall, wf_i64' w2⟩
end Go.Proofs.Ytdmkdogakbipbaa

