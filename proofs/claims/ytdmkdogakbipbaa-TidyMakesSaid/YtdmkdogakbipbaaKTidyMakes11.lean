import Derived.Test.YtdmkdogakbipbaaKTidyMakes10
/- NT -/
namespace Go.Proofs.Ytdmkdogakbipbaa
abbrev dtNT1 : Go.SX.DT := (.take 0 (.take 1 (.take 2 (.take 3 (.take 5 (.take 6 (.one 4 (.one 7 (.take 8 (.one 9 (.done)))))))))))
open Go.SX Go.RowKit
theorem i64_nat {k : Nat} (h : k ≤ 1000000) : i64 (k : Int) := by unfold i64; omega
theorem fnd_keep {X : NodeV} {x : NodeP} {row : List NodeP} {j : Nat} {f : Int} (hx : row[j]? = some x) (hf : f = fndP X.pl row j) (h : 0 ≤ f ∨ X.kind = 1 ∨ sameP x X.pl = false) : f = fndP X.pl row (j + 1) := by
  have hl := fnd_le X.pl row j
  rw [fnd_step hx, ← hf]
  rw [← hf] at hl
  by_cases h0 : 0 ≤ f
  · rw [if_pos h0]
  · rw [if_neg h0]
    by_cases h1 : X.pl.kind = 1
    · rw [if_pos h1]; omega
    · have h2 := (h.resolve_left h0).resolve_left h1
      rw [if_neg h1, if_neg (by rw [h2]; decide)]; omega
theorem fnd_here {X : NodeV} {x : NodeP} {row : List NodeP} {j : Nat} {f : Int} (hx : row[j]? = some x) (hf : f = fndP X.pl row j) (h0 : f < 0) (h1 : X.kind ≠ 1) (h2 : sameP x X.pl = true) : (j : Int) = fndP X.pl row (j + 1) := by
  rw [fnd_step hx, ← hf, if_neg (by omega), if_neg (show ¬ X.pl.kind = 1 from h1), if_pos h2]
theorem call_cut18 {cx : Cx} {f : FuncId} {args : List SV} {H : Heap} {S : Asn} {nx : Nat} {K : SV → Heap → Asn → Nat → Prop} {row : List NodeV} {x : List NodeP × List Nat} {out : Nat} (hf : ∀ ar w, (callFunc f ar).run cx.P w = .ok (.enter f ar) w)
    (hc : ∀ ρ w', Abs cx.B ρ nx H S w' → Calls cx.P f (SV.rfs ρ args).toArray w' (CutPost w' row x out))
    (h : ∀ (l : List NodeV) base cap, l.map NodeV.pl = x.1 → From row l → (∀ n ∈ l, n.saneN) → l.length ≤ row.length → K (.c (.agg #[.slice base l.length cap, .int .i64 (x.2.getD out 0 : Nat)])) H (S.and ((rowsA base 9 (nodeRows l)).past cx.B.w0.heap.size)) nx) : callK cx f args H S nx K :=
  call_past hf (fun y : List NodeV × Option Addr × Nat => .agg #[.slice y.2.1 y.1.length y.2.2, .int .i64 (x.2.getD out 0 : Nat)]) (fun y => rowsA y.2.1 9 (nodeRows y.1)) (fun y => y.1.map NodeV.pl = x.1 ∧ From row y.1 ∧ (∀ n ∈ y.1, n.saneN) ∧ y.1.length ≤ row.length) (fun ρ w' hw => (hc ρ w' hw).mono fun e w'' he => by
    obtain ⟨l, base, cap, h1, h2, h3, h4, h5, h6, h7⟩ := he
    exact ⟨(l, base, cap), ⟨h1, h2, h3, h4⟩, h5, h6, h7⟩) (fun y hy => h y.1 y.2.1 y.2.2 hy.1 hy.2.1 hy.2.2.1 hy.2.2.2)
theorem ref18_end {B : Base} {H : Heap} {S : Asn} {nx : Nat} {w : World} {g : GraphV} {l row : List NodeV} {base : Option Addr} {cap o : Nat} {r : Int} {x : List NodeP × Nat} (hw0 : B.w0 = w) (hb : ∀ R w', S.holds R w' → (baseA w).holds R w') (hrw : ∀ R w', S.holds R w' → (rowA (srcG g) w.heap.size row).holds R w') (hD : ∀ R w', S.holds R w' → ((rowsA base 9 (nodeRows l)).past w.heap.size).holds R w') (hfr : From row l) (hs : ∀ n ∈ l, n.saneN) (h24 : l.length ≤ 24) (hr : r = 0) (hx : x = (l.map NodeV.pl, o)) :
    finK B (.tup [.agg [.c (.slice base l.length cap), .c (.int .i64 o)], .c (.int .i64 0)]) H S nx (Ref18Post g w r x) := by
  subst hw0 hr hx
  refine fin_of fun ρ w' hw => .inr ⟨rfl, l, base, cap, rfl, hs, h24, rfl, ext_of_abs hw hb, past_new hw hD, fun n hn => ?_⟩
  obtain ⟨R, φ, hwR⟩ := hw
  have hk := hrw R w' hwR.asn
  obtain ⟨k, hkm, e1, e2, e3⟩ := hfr n hn
  have hm := (mineA (srcG g) B.w0.heap.size k).stable (R' := fun b => b < w'.heap.size) (w' := w') (fun b hb => hwR.ro b hb) (fun _ _ => rfl) (hk k hkm)
  unfold mineA at hm ⊢
  rw [e1, e2, e3]
  exact hm
set_option maxRecDepth 20000 in
set_option maxHeartbeats 16000000 in
theorem refTidy_any (w : World) (g : GraphV) (hg : g.ok w) : Calls Try.prog 23 #[g.val] w (Ref18Post g w (spansH g).1 (tidyP (g.l.map NodeV.pl) (check g).2 g.out.toNat)) := by
  refine calls_of tab tabOk Try.func23 rfl rfl rfl [] (fun _ => ⟨none, 0⟩) [.agg [.c (.slice g.base g.l.length g.cap), .c (.int .i64 g.out)]] [] (baseA w) 0 rfl rfl (by show 1 ≤ _; decide) (abs_base w) ?_
  (repeat' ((conv => whnf) <;> first | (show drawK _ 28 _ _ _ _ _ _; refine draw_tree tabOk mixed [9] _ dtIF2 (by kernel_rfl) (by kernel_rfl) (by kernel_rfl) (List.Sublist.refl _) ?_) | (show Wp _ _ _ _ _ _ _; refine Wp.go tabOk rfl ?_) | (show @cmpK _ _ _; (first | refine cmpY ?_ | refine cmpN ?_ | (refine cmp_both ?_ ?_ <;> intro _))) | (show wrapK _ _ _; refine wrapA ?_) | (show leK _ _ _; refine leA ?_) | (show roomK _ _ _; refine roomA ?_) | (show ltK _ _ _; refine ltA ?_) | (show _ ∧ _; refine ⟨?_, ?_⟩) | (show keepK _ _ _ _ _; refine keepA ?_) | refine own_keep ?_ | refine ap_old ?_))
  refine call_spans (f := 53) (spansH g) Try.call53 (fun ρ w' hw => refSpans_any w' g (holds_of_abs hw fun R h => hg.later h)) (fun hne => ?_) (fun hsp qb qc => ?_)
  · (repeat' ((conv => whnf) <;> first | (show @cmpK _ _ _; refine cmp_yes hne ?_) | (show drawK _ 28 _ _ _ _ _ _; refine draw_tree tabOk mixed [9] _ dtIF2 (by kernel_rfl) (by kernel_rfl) (by kernel_rfl) (List.Sublist.refl _) ?_) | (show Wp _ _ _ _ _ _ _; refine Wp.go tabOk rfl ?_) | (show @cmpK _ _ _; (first | refine cmpY ?_ | refine cmpN ?_ | (refine cmp_both ?_ ?_ <;> intro _))) | (show wrapK _ _ _; refine wrapA ?_) | (show leK _ _ _; refine leA ?_) | (show roomK _ _ _; refine roomA ?_) | (show ltK _ _ _; refine ltA ?_) | (show _ ∧ _; refine ⟨?_, ?_⟩) | (show keepK _ _ _ _ _; refine keepA ?_) | refine own_keep ?_ | refine ap_old ?_))
    conv => whnf
    exact fin_of fun ρ w' hw => .inl ⟨hne, rfl, ext_of_abs hw (fun _ _ h => h)⟩
  obtain ⟨hck, hsl, hsi⟩ := spansH_in hsp
  obtain ⟨hl1, hl24, hout, hcl, hin⟩ := check_in hck
  have hL := rowOk_graph hsp
  have hP := srcG_ok hg.each
  (repeat' ((conv => whnf) <;> first | (show drawK _ 28 _ _ _ _ _ _; refine draw_tree tabOk mixed [9] _ dtIF2 (by kernel_rfl) (by kernel_rfl) (by kernel_rfl) (List.Sublist.refl _) ?_) | (show Wp _ _ _ _ _ _ _; refine Wp.go tabOk rfl ?_) | (show @cmpK _ _ _; (first | refine cmpY ?_ | refine cmpN ?_ | (refine cmp_both ?_ ?_ <;> intro _))) | (show wrapK _ _ _; refine wrapA ?_) | (show leK _ _ _; refine leA ?_) | (show roomK _ _ _; refine roomA ?_) | (show ltK _ _ _; refine ltA ?_) | (show _ ∧ _; refine ⟨?_, ?_⟩) | (show keepK _ _ _ _ _; refine keepA ?_) | refine own_keep ?_ | refine ap_old ?_))
  refine call_check (f := 38) (check g) Try.call38 (fun ρ w' hw => refCheck_any w' g (holds_of_abs hw fun R h => hg.later h.1)) (fun hne => absurd hck hne) (fun _ sv hm hsv => ?_)
  have hsvl : sv.l.length = g.l.length := by rw [← hcl, ← hm]; simp
  (repeat' ((conv => whnf) <;> first | (show drawK _ 28 _ _ _ _ _ _; refine draw_tree tabOk mixed [9] _ dtIF2 (by kernel_rfl) (by kernel_rfl) (by kernel_rfl) (List.Sublist.refl _) ?_) | (show Wp _ _ _ _ _ _ _; refine Wp.go tabOk rfl ?_) | (show @cmpK _ _ _; (first | refine cmpY ?_ | refine cmpN ?_ | (refine cmp_both ?_ ?_ <;> intro _))) | (show wrapK _ _ _; refine wrapA ?_) | (show leK _ _ _; refine leA ?_) | (show roomK _ _ _; refine roomA ?_) | (show ltK _ _ _; refine ltA ?_) | (show _ ∧ _; refine ⟨?_, ?_⟩) | (show keepK _ _ _ _ _; refine keepA ?_) | refine own_keep ?_ | refine ap_old ?_))
  refine Wp.loop (σ := Nat × List NodeV × List IntsV × List Nat) 5 (fun ⟨i, row, shs, st⟩ => [(1, .lp 0 0 0 0), (2, .lp 1 0 0 0), (6, .c sv.val), (8, .os 2 row.length), (9, .os 3 shs.length), (10, .os 4 st.length), (37, .c (.slice g.base g.l.length g.cap)), (38, .c (.int .i64 g.l.length)), (39, .c (.int .i64 i))])
    (fun ⟨i, row, shs, st⟩ => [(4, .rows (ints (stI st)) 1 3), (3, .rows (shRows shs) 1 33), (2, .rows (nodeRows row) 9 38), (1, .box [.c (.slice none 0 0), .c (.int .i64 0)] 26), (0, .box [.c (.slice g.base g.l.length g.cap), .c (.int .i64 g.out)] 26)])
    (fun ⟨_, row, _, _⟩ => ((baseA w).and ((shapesD sv).past w.heap.size)).and (rowA (srcG g) w.heap.size row))
    (fun ⟨i, row, shs, st⟩ => i ≤ g.l.length ∧ (∀ x ∈ row, x.saneN) ∧ (∀ u ∈ shs, u ∈ sv.l) ∧ TidyAt (g.l.map NodeV.pl) (check g).2 (spansH g).2 i (row.map NodeV.pl) st ∧ checkR ((row.map NodeV.pl).map NodeP.toV) [] = (0, shs.map IntsV.xs)) (fun s => g.l.length - s.1) (0, [], [], []) [(2, none), (3, none), (4, none)] (by decide) (fun s => ⟨rfl, rfl⟩)
    ⟨Nat.zero_le _, fun n hn => by simp at hn, fun n hn => by simp at hn, tidyAt_start _ _ _, rfl⟩ ⟨rfl, ⟨rfl, rfl, rfl, rfl, rfl, rfl, rfl, rfl, rfl, trivial⟩, ⟨rfl, rfl, rfl, (by repeat (first | exact List.mem_cons_self | apply List.mem_cons_of_mem)), (by repeat (first | exact List.mem_cons_self | apply List.mem_cons_of_mem)), trivial⟩, fun R w' h => ⟨⟨h.1.1, h.2⟩, rowA_nil _ _ R w'⟩⟩ ?_
  rintro ⟨i, row, shs, st⟩ ⟨hi, hsn, hshs, hT, hcr⟩
  by_cases hlt : i < g.l.length
  · obtain ⟨a, ha⟩ : ∃ a, g.base = some a := base_some (j := i) hg.rows (by rw [nodeRows_length]; omega)
    have hrow := nodeRows_get hlt
    have hnm := List.getElem_mem hlt
    have hnp : (g.l.map NodeV.pl)[i]? = some g.l[i].pl := by rw [List.getElem?_map, List.getElem?_eq_getElem hlt]; rfl
    generalize g.l[i] = n at *
    have hno := hg.each n hnm
    have hPn := src_of hnm
    have hnah := hL.ahead hnp
    have hstl := hT.len
    have hkl := hT.few
    rw [List.length_map] at hkl
    obtain ⟨rsh, rsp, hR, hS⟩ := hT.ok
    obtain rfl : rsh = shs.map IntsV.xs := by have := hR.checkR; rw [hcr, Prod.mk.injEq] at this; exact this.2.symm
    have hnp' : (g.l.map NodeV.pl)[st.length]? = some n.pl := by rw [hstl]; exact hnp
    obtain ⟨hmv, htv⟩ := moved_in hL hR hS hnp'
    have hspn := (hL.span _ _ hnp').2
    have hT' := hT.step hL hnp
    rw [hstl] at hmv htv hspn
    have hslen : shs.length = row.length := by have := hR.lenS; simpa using this
    have hula : i < sv.l.length := by omega
    have hrowU := shRows_get hula
    have hum := List.getElem_mem hula
    have hus : sv.l[i].xs = gD (check g).2 i := by
      unfold gD
      rw [← hm, List.getD_eq_getElem?_getD, List.getElem?_map, List.getElem?_eq_getElem hula]; rfl
    generalize sv.l[i] = u at *
    have haa : n.kind ≠ 1 → n.kind ≠ 2 → n.a.toNat < st.length := fun h1 h2 => by rw [hstl]; exact hnah.a1 h1 h2
    have hbb : n.kind = 6 → n.b.toNat < st.length := fun h6 => by rw [hstl]; exact hnah.b1 h6
    have hst : ∀ j, j < st.length → st.getD j 0 < row.length := fun j hj => by have := hS.lt j hj; rwa [List.length_map, hslen] at this
    have ha0 : 0 ≤ n.a := hnah.a0
    have hb0 : 0 ≤ n.b := hnah.b0
    refine Wp.know (p := ∃ a, sv.base = some a) (fun ρ w' hw => holds_of_abs hw fun R h => base_some (j := i) (rowsA_in h.1.2.1) (by rw [shRows_length]; omega)) ?_
    rintro ⟨sa, hsa⟩
    by_cases h12 : n.kind = 1 ∨ n.kind = 2
    · have ht : takesP n.pl = [] := by unfold takesP; rw [if_pos (show n.pl.kind = 1 ∨ n.pl.kind = 2 from h12)]
      have hMp : n.pl = movedP st n.pl := by unfold movedP; rw [if_pos (show n.pl.kind = 1 ∨ n.pl.kind = 2 from h12)]
      have hMs : n.saneN := hno.saneN
      have hkM : knownP (row.map NodeV.pl) n.pl = false := by
        unfold knownP
        rw [decide_eq_true (show n.pl.kind = 1 ∨ n.pl.kind = 2 from h12)]; rfl
      have h6 : ¬ n.kind = 6 := by omega
      (repeat' ((conv => whnf) <;> first | (show idxK _ _ _ _ _; refine idx_of a i ha rfl hlt ?_) | (show roAggK _ _ _ _; (refine roAgg_row (fun R w' h => by rw [← ha]; exact rows_base h.1.1 hg.rows) _ hrow rfl ?_)) | (show callK _ 54 _ _ _ _ _; refine call_takesL n 0 rfl ht Try.call54 (fun ρ w' hw => takes_any w' n hno.aFits hno.bFits) (fun u1 hu1 hul1 hus1 => ?_)) | (show drawK _ 28 _ _ _ _ _ _; refine draw_tree tabOk mixed [9] _ dtIF2 (by kernel_rfl) (by kernel_rfl) (by kernel_rfl) (List.Sublist.refl _) ?_) | (show Wp _ _ _ _ _ _ _; refine Wp.go tabOk rfl ?_) | (show @cmpK _ _ _; (first | refine cmpY ?_ | refine cmpN ?_ | (refine cmp_both ?_ ?_ <;> intro _))) | (show wrapK _ _ _; refine wrapA ?_) | (show leK _ _ _; refine leA ?_) | (show roomK _ _ _; refine roomA ?_) | (show ltK _ _ _; refine ltA ?_) | (show _ ∧ _; refine ⟨?_, ?_⟩) | (show keepK _ _ _ _ _; refine keepA ?_) | refine own_keep ?_ | refine ap_old ?_))
      refine Wp.rounds 1 ?_
      (repeat' ((conv => whnf) <;> first | (show callK _ 54 _ _ _ _ _; refine call_takesL n 0 rfl ht Try.call54 (fun ρ w' hw => takes_any w' n hno.aFits hno.bFits) (fun u1 hu1 hul1 hus1 => ?_)) | (show drawK _ 28 _ _ _ _ _ _; refine draw_tree tabOk mixed [9] _ dtIF2 (by kernel_rfl) (by kernel_rfl) (by kernel_rfl) (List.Sublist.refl _) ?_) | (show Wp _ _ _ _ _ _ _; refine Wp.go tabOk rfl ?_) | (show @cmpK _ _ _; (first | refine cmpY ?_ | refine cmpN ?_ | (refine cmp_both ?_ ?_ <;> intro _))) | (show wrapK _ _ _; refine wrapA ?_) | (show leK _ _ _; refine leA ?_) | (show roomK _ _ _; refine roomA ?_) | (show ltK _ _ _; refine ltA ?_) | (show _ ∧ _; refine ⟨?_, ?_⟩) | (show keepK _ _ _ _ _; refine keepA ?_) | refine own_keep ?_ | refine ap_old ?_))
      have hXs := hMs
      have hXp : foldP (gD (check g).2 i) (row.map NodeV.pl) (movedP st n.pl) = n.pl := by rw [← hMp, foldP, if_neg (by rw [hkM]; decide)]
      have hstep := step_lay hL hT hnp hcr hXp hus
      refine Wp.loop (σ := Nat × Int) 7 (fun ⟨j, f⟩ => [(1, .lp 0 0 0 0), (2, .lp 1 0 0 0), (6, .c sv.val), (8, .os 2 row.length), (9, .os 3 shs.length), (10, .os 4 st.length), (11, .c (.int .i64 i)), (12, .lp 5 0 0 0), (37, .c (.slice g.base g.l.length g.cap)), (38, .c (.int .i64 g.l.length)), (39, .c (.int .i64 i)), (19, .c (.int .i64 f)), (113, .os 2 row.length), (114, .c (.int .i64 row.length)), (115, .c (.int .i64 j))]) (fun _ => [(5, .box (cs n.cells) 38), (4, .rows (ints (stI st)) 1 3), (3, .rows (shRows shs) 1 33), (2, .rows (nodeRows row) 9 38), (1, .box [.c (.slice none 0 0), .c (.int .i64 0)] 26), (0, .box [.c (.slice g.base g.l.length g.cap), .c (.int .i64 g.out)] 26)]) (fun _ => (((baseA w).and ((shapesD sv).past w.heap.size)).and (rowA (srcG g) w.heap.size row)).and (mineA (srcG g) w.heap.size n))
        (fun ⟨j, f⟩ => j ≤ row.length ∧ f = fndP n.pl (row.map NodeV.pl) j) (fun s => row.length - s.1) (0, -1) [] (by decide) (fun s => ⟨rfl, rfl⟩) ⟨Nat.zero_le _, (fnd_zero _ _).symm⟩ ⟨rfl, ⟨rfl, rfl, rfl, rfl, rfl, rfl, rfl, rfl, rfl, rfl, rfl, rfl, rfl, rfl, rfl, trivial⟩, ⟨(by repeat (first | exact List.mem_cons_self | apply List.mem_cons_of_mem)), (by repeat (first | exact List.mem_cons_self | apply List.mem_cons_of_mem)), (by repeat (first | exact List.mem_cons_self | apply List.mem_cons_of_mem)), (by repeat (first | exact List.mem_cons_self | apply List.mem_cons_of_mem)), (by repeat (first | exact List.mem_cons_self | apply List.mem_cons_of_mem)), (by repeat (first | exact List.mem_cons_self | apply List.mem_cons_of_mem)), trivial⟩, fun R w' h => ⟨h.1.1.1, mine_old hPn rfl rfl rfl R w'⟩⟩ ?_
      rintro ⟨j, f⟩ ⟨hj, hf⟩
      by_cases hjl : j < row.length
      · have hrowJ := nodeRows_get hjl
        have hxm := List.getElem_mem hjl
        have hxp : (row.map NodeV.pl)[j]? = some row[j].pl := by rw [List.getElem?_map, List.getElem?_eq_getElem hjl]; rfl
        generalize row[j] = y at *
        (repeat' ((conv => whnf) <;> first | (show idxRowK _ _ _ _ _ _; refine idxRow_of j rfl hjl (Nat.le_of_eq (nodeRows_length row).symm) ?_) | (show rowAggK _ _ _ _ _; refine rowAgg_of _ _ hrowJ rfl rfl ?_) | (show ltK _ _ _; (refine lt_of (by first | omega | (rw [nodeRows_length]; omega) | (rw [shRows_length, gridK_length (by omega)]; omega)) ?_)) | (show callK _ 56 _ _ _ _ _; ((refine call_bool (f := 56) Try.call56 (sameP y.pl n.pl) (fun ρ w' hw => sameNode_any w' y n (holds_of_abs hw fun R h => row_ok hP hsn h.1.1.1 h.1.2 y hxm) (holds_of_abs hw fun R h => mine_ok hP hXs h.1.1.1 h.2)) ?_ ?_ <;> intro hsm))) | (show drawK _ 28 _ _ _ _ _ _; refine draw_tree tabOk mixed [9] _ dtIF2 (by kernel_rfl) (by kernel_rfl) (by kernel_rfl) (List.Sublist.refl _) ?_) | (show Wp _ _ _ _ _ _ _; refine Wp.go tabOk rfl ?_) | (show @cmpK _ _ _; (first | refine cmpY ?_ | refine cmpN ?_ | (refine cmp_both ?_ ?_ <;> intro _))) | (show wrapK _ _ _; refine wrapA ?_) | (show leK _ _ _; refine leA ?_) | (show roomK _ _ _; refine roomA ?_) | (show ltK _ _ _; refine ltA ?_) | (show _ ∧ _; refine ⟨?_, ?_⟩) | (show keepK _ _ _ _ _; refine keepA ?_) | refine own_keep ?_ | refine ap_old ?_))
        all_goals (conv => whnf)
        all_goals first | exact ⟨(j + 1, f), [], ⟨hjl, fnd_keep hxp hf (by first | (left; omega) | (right; left; omega) | (right; right; assumption))⟩, by simp only; omega, rfl, ⟨rfl, rfl, rfl, rfl, rfl, rfl, rfl, rfl, rfl, rfl, rfl, rfl, rfl, rfl, rfl, trivial⟩, ⟨(by repeat (first | exact List.mem_cons_self | apply List.mem_cons_of_mem)), (by repeat (first | exact List.mem_cons_self | apply List.mem_cons_of_mem)), (by repeat (first | exact List.mem_cons_self | apply List.mem_cons_of_mem)), (by repeat (first | exact List.mem_cons_self | apply List.mem_cons_of_mem)), (by repeat (first | exact List.mem_cons_self | apply List.mem_cons_of_mem)), (by repeat (first | exact List.mem_cons_self | apply List.mem_cons_of_mem)), trivial⟩, fun R w' h => h⟩ | exact ⟨(j + 1, (j : Int)), [], ⟨hjl, fnd_here hxp hf (by omega) (by omega) (by assumption)⟩, by simp only; omega, rfl, ⟨rfl, rfl, rfl, rfl, rfl, rfl, rfl, rfl, rfl, rfl, rfl, rfl, rfl, rfl, rfl, trivial⟩, ⟨(by repeat (first | exact List.mem_cons_self | apply List.mem_cons_of_mem)), (by repeat (first | exact List.mem_cons_self | apply List.mem_cons_of_mem)), (by repeat (first | exact List.mem_cons_self | apply List.mem_cons_of_mem)), (by repeat (first | exact List.mem_cons_self | apply List.mem_cons_of_mem)), (by repeat (first | exact List.mem_cons_self | apply List.mem_cons_of_mem)), (by repeat (first | exact List.mem_cons_self | apply List.mem_cons_of_mem)), trivial⟩, fun R w' h => h⟩
      · obtain rfl : j = row.length := by omega
        rw [fnd_end (by rw [List.length_map])] at hf
        obtain ⟨q, hq⟩ : ∃ q, (match findP (row.map NodeV.pl) n.pl with | some k => k | none => row.length) = q := ⟨_, rfl⟩
        cases hfd : findP (row.map NodeV.pl) n.pl
        all_goals (rw [hfd] at hf hq; dsimp only at hf hq; have hq := hq.symm; subst hf hq)
        all_goals
          (repeat' ((conv => whnf) <;> first | (show idxK _ _ _ _ _; refine idx_of sa i hsa rfl hula ?_) | (show roK _ _ _; (refine ro_row0 (fun R w' h => by rw [← hsa]; exact rowsA_in h.1.1.2.1) _ _ hrowU rfl ?_)) | (show leK _ _ _; (first | refine le_of (by rw [nodeRows_length]; exact Nat.le_refl _) ?_ | refine le_of (by rw [shRows_length]; exact Nat.le_refl _) ?_ | refine le_of (by rw [stI_length]; exact Nat.le_refl _) ?_)) | (show roomK _ _ _; (first | refine room_of (by show (row.length + 1) * 120 ≤ 140737488355328; omega) ?_ | refine room_of (by show (shs.length + 1) * 24 ≤ 140737488355328; omega) ?_ | refine room_of (by show (st.length + 1) * 8 ≤ 140737488355328; omega) ?_)) | (show ownK _ ((_, .rows (List.take row.length _ ++ _) _ _) :: _) _ _ _; refine own_eq (ys := nodeRows (row ++ [n])) (m := (row ++ [n]).length) ?_ (nodes_snoc row n) (by show row.length + 1 = _; rw [List.length_append]; rfl)) | (show ownK _ ((_, .rows (List.take shs.length _ ++ _) _ _) :: _) _ _ _; refine own_eq (ys := shRows (shs ++ [u])) (m := (shs ++ [u]).length) ?_ (shapes_snoc shs u) (by show shs.length + 1 = _; rw [List.length_append]; rfl)) | (show ownK _ ((_, .rows (List.take st.length _ ++ _) _ _) :: _) _ _ _; first | refine own_eq (ys := ints (stI (st ++ [row.length]))) (m := (st ++ [row.length]).length) ?_ (stI_snoc st row.length) (by show st.length + 1 = _; rw [List.length_append]; rfl) | refine own_eq (ys := ints (stI (st ++ [q]))) (m := (st ++ [q]).length) ?_ (stI_snoc st q) (by show st.length + 1 = _; rw [List.length_append]; rfl)) | (show drawK _ 28 _ _ _ _ _ _; refine draw_tree tabOk mixed [9] _ dtIF2 (by kernel_rfl) (by kernel_rfl) (by kernel_rfl) (List.Sublist.refl _) ?_) | (show Wp _ _ _ _ _ _ _; refine Wp.go tabOk rfl ?_) | (show @cmpK _ _ _; (first | refine cmpY ?_ | refine cmpN ?_ | (refine cmp_both ?_ ?_ <;> intro _))) | (show wrapK _ _ _; refine wrapA ?_) | (show leK _ _ _; refine leA ?_) | (show roomK _ _ _; refine roomA ?_) | (show ltK _ _ _; refine ltA ?_) | (show _ ∧ _; refine ⟨?_, ?_⟩) | (show keepK _ _ _ _ _; refine keepA ?_) | refine own_keep ?_ | refine ap_old ?_))
        all_goals (conv => whnf)
        all_goals first | exact ⟨(i + 1, row, shs, st ++ [q]), [(4, some 8)], ⟨hlt, hsn, hshs, hstep.1 q hfd, hcr⟩, by simp only; omega, rfl, ⟨rfl, rfl, rfl, rfl, rfl, rfl, rfl, rfl, rfl, trivial⟩, ⟨(by repeat (first | exact List.mem_cons_self | apply List.mem_cons_of_mem)), (by repeat (first | exact List.mem_cons_self | apply List.mem_cons_of_mem)), (by repeat (first | exact List.mem_cons_self | apply List.mem_cons_of_mem)), (by repeat (first | exact List.mem_cons_self | apply List.mem_cons_of_mem)), (by repeat (first | exact List.mem_cons_self | apply List.mem_cons_of_mem)), trivial⟩, fun R w' h => h.1⟩ | exact ⟨(i + 1, row ++ [n], shs ++ [u], st ++ [row.length]), [(2, some 8), (3, some 10), (4, some 12)], ⟨hlt, sane_snoc hsn hXs, in_snoc hshs hum, (hstep.2 hfd).1, (hstep.2 hfd).2⟩, by simp only; omega, rfl, ⟨rfl, rfl, rfl, rfl, rfl, rfl, rfl, rfl, rfl, trivial⟩, ⟨(by repeat (first | exact List.mem_cons_self | apply List.mem_cons_of_mem)), (by repeat (first | exact List.mem_cons_self | apply List.mem_cons_of_mem)), (by repeat (first | exact List.mem_cons_self | apply List.mem_cons_of_mem)), (by repeat (first | exact List.mem_cons_self | apply List.mem_cons_of_mem)), (by repeat (first | exact List.mem_cons_self | apply List.mem_cons_of_mem)), trivial⟩, fun R w' h => ⟨h.1.1, rowA_snoc h.1.2 h.2⟩⟩
    · have haL := haa (by omega) (by omega)
      have hkaL := hst _ haL
      have hrowA := nodeRows_get hkaL
      have hstA := stI_get haL
      have hkAp : ((row.map NodeV.pl).getD (st.getD n.a.toNat 0) nilP).kind = row[st.getD n.a.toNat 0].kind := by rw [keptD hkaL]; rfl
      by_cases h6 : n.kind = 6
      · have ht : takesP n.pl = [n.a, n.b] := by unfold takesP; rw [if_neg (show ¬ (n.pl.kind = 1 ∨ n.pl.kind = 2) from h12), if_pos (show n.pl.kind = 6 from h6)]; rfl
        have hbL := hbb h6
        have hkbL := hst _ hbL
        have hrowB := nodeRows_get hkbL
        have hstB := stI_get hbL
        have hkBp : ((row.map NodeV.pl).getD (st.getD n.b.toNat 0) nilP).kind = row[st.getD n.b.toNat 0].kind := by rw [keptD hkbL]; rfl
        have hMp : (atV n (st.getD n.a.toNat 0) (st.getD n.b.toNat 0)).pl = movedP st n.pl := by unfold movedP; rw [if_neg (show ¬ (n.pl.kind = 1 ∨ n.pl.kind = 2) from h12), if_pos (show n.pl.kind = 6 from h6)]; rfl
        have hmM : NodeIn (atV n (st.getD n.a.toNat 0) (st.getD n.b.toNat 0)).pl.toV (shs.map IntsV.xs) (gD (check g).2 i) := by rw [hMp]; exact hmv
        have hMs : (atV n (st.getD n.a.toNat 0) (st.getD n.b.toNat 0)).saneN := ⟨hno.shape.sane, hno.data.sane, hno.bias.sane, hno.kindFits, i64_nat (by omega), i64_nat (by omega), hno.loFits, hno.hiFits, hno.sizeFits⟩
        by_cases hkA : row[st.getD n.a.toNat 0].kind = 2
        · by_cases hkB : row[st.getD n.b.toNat 0].kind = 2
          · have hkM : knownP (row.map NodeV.pl) (atV n (st.getD n.a.toNat 0) (st.getD n.b.toNat 0)).pl = true := by
              unfold knownP constAt
              show (!decide (n.kind = 1 ∨ n.kind = 2) && decide (((row.map NodeV.pl).getD (st.getD n.a.toNat 0) nilP).kind = 2) && (_ || decide (((row.map NodeV.pl).getD (st.getD n.b.toNat 0) nilP).kind = 2))) = true
              rw [hkAp, hkBp, decide_eq_false h12, decide_eq_true hkA, decide_eq_true hkB, Bool.or_true]; rfl
            (repeat' ((conv => whnf) <;> first | (show idxK _ _ _ _ _; refine idx_of a i ha rfl hlt ?_) | (show roAggK _ _ _ _; (refine roAgg_row (fun R w' h => by rw [← ha]; exact rows_base h.1.1 hg.rows) _ hrow rfl ?_)) | (show callK _ 54 _ _ _ _ _; refine call_takesL n 2 rfl ht Try.call54 (fun ρ w' hw => takes_any w' n hno.aFits hno.bFits) (fun u1 hu1 hul1 hus1 => ?_)) | (show drawK _ 28 _ _ _ _ _ _; refine draw_tree tabOk mixed [9] _ dtIF2 (by kernel_rfl) (by kernel_rfl) (by kernel_rfl) (List.Sublist.refl _) ?_) | (show Wp _ _ _ _ _ _ _; refine Wp.go tabOk rfl ?_) | (show @cmpK _ _ _; (first | refine cmpY ?_ | refine cmpN ?_ | (refine cmp_both ?_ ?_ <;> intro _))) | (show wrapK _ _ _; refine wrapA ?_) | (show leK _ _ _; refine leA ?_) | (show roomK _ _ _; refine roomA ?_) | (show ltK _ _ _; refine ltA ?_) | (show _ ∧ _; refine ⟨?_, ?_⟩) | (show keepK _ _ _ _ _; refine keepA ?_) | refine own_keep ?_ | refine ap_old ?_))
            refine Wp.know (p := ∃ a, u1.base = some a) (fun ρ w' hw => holds_of_abs hw fun R h => base_some (j := 0) (rowsA_in ((intsA u1).mono h.2 (fun b hb => hb.1))) (by rw [ints_length, hul1]; omega)) ?_
            rintro ⟨ua, hua⟩
            have hu0 : (ints u1.xs)[0]? = some [.int .i64 n.a] := by rw [hu1]; rfl
            have hu1b : (ints u1.xs)[1]? = some [.int .i64 n.b] := by rw [hu1]; rfl
            refine Wp.rounds 4 ?_
            (repeat' ((conv => whnf) <;> first | (show ltK _ _ _; (refine lt_of (by first | omega | (rw [nodeRows_length]; omega)) ?_)) | (show idxK _ _ _ _ _; (first | refine idx_of ua 0 hua rfl (by omega) ?_ | refine idx_of ua 1 hua rfl (by omega) ?_)) | (show roK _ _ _; (first | refine ro_row0 (fun R w' h => by rw [← hua]; exact rowsA_in ((intsA u1).mono h.2 (fun b hb => hb.1))) _ _ hu0 rfl ?_ | refine ro_row0 (fun R w' h => by rw [← hua]; exact rowsA_in ((intsA u1).mono h.2 (fun b hb => hb.1))) _ _ hu1b rfl ?_)) | (show idxRowK _ _ _ _ _ _; (first | refine idxRow_of n.a.toNat (by omega) haL (Nat.le_of_eq (stI_length st).symm) ?_ | refine idxRow_of (st.getD n.a.toNat 0) rfl hkaL (Nat.le_of_eq (nodeRows_length row).symm) ?_ | refine idxRow_of n.b.toNat (by omega) hbL (Nat.le_of_eq (stI_length st).symm) ?_ | refine idxRow_of (st.getD n.b.toNat 0) rfl hkbL (Nat.le_of_eq (nodeRows_length row).symm) ?_)) | (show rowK _ _ _ _; (first | refine row_of _ _ hstA rfl ?_ | refine row_of _ _ hrowA rfl ?_ | refine row_of _ _ hstB rfl ?_ | refine row_of _ _ hrowB rfl ?_)) | (show callK _ 54 _ _ _ _ _; refine call_takesL n 2 rfl ht Try.call54 (fun ρ w' hw => takes_any w' n hno.aFits hno.bFits) (fun u1 hu1 hul1 hus1 => ?_)) | (show makeK _ _ _ _; (refine make_of row.length rfl rfl (by show 24 * row.length ≤ _; omega) (by omega) ?_)) | (show ownK _ ((_, .rows (List.replicate _ [.slice none 0 0]) _ _) :: _) _ _ _; refine own_eq (ys := shRows (gridK row.length [])) (m := row.length) ?_ (by simp [gridK, shRows, nilI, IntsV.val]) rfl) | (show drawK _ 28 _ _ _ _ _ _; refine draw_tree tabOk mixed [9] _ dtIF2 (by kernel_rfl) (by kernel_rfl) (by kernel_rfl) (List.Sublist.refl _) ?_) | (show Wp _ _ _ _ _ _ _; refine Wp.go tabOk rfl ?_) | (show @cmpK _ _ _; (first | refine cmpY ?_ | refine cmpN ?_ | (refine cmp_both ?_ ?_ <;> intro _))) | (show wrapK _ _ _; refine wrapA ?_) | (show leK _ _ _; refine leA ?_) | (show roomK _ _ _; refine roomA ?_) | (show ltK _ _ _; refine ltA ?_) | (show _ ∧ _; refine ⟨?_, ?_⟩) | (show keepK _ _ _ _ _; refine keepA ?_) | refine own_keep ?_ | refine ap_old ?_))
            refine Wp.loop (σ := Nat) 7 (fun j => [(1, .lp 0 0 0 0), (2, .lp 1 0 0 0), (6, .c sv.val), (8, .os 2 row.length), (9, .os 3 shs.length), (10, .os 4 st.length), (11, .c (.int .i64 i)), (12, .lp 5 0 0 0), (37, .c (.slice g.base g.l.length g.cap)), (38, .c (.int .i64 g.l.length)), (39, .c (.int .i64 i)), (16, .os 6 row.length), (91, .os 2 row.length), (92, .c (.int .i64 row.length)), (93, .c (.int .i64 j))]) (fun j => [(6, .rows (shRows (gridK row.length ((row.map NodeV.data).take j))) 1 33), (5, .box (cs (atV n (st.getD n.a.toNat 0) (st.getD n.b.toNat 0)).cells) 38), (4, .rows (ints (stI st)) 1 3), (3, .rows (shRows shs) 1 33), (2, .rows (nodeRows row) 9 38), (1, .box [.c (.slice none 0 0), .c (.int .i64 0)] 26), (0, .box [.c (.slice g.base g.l.length g.cap), .c (.int .i64 g.out)] 26)]) (fun _ => ((baseA w).and ((shapesD sv).past w.heap.size)).and (rowA (srcG g) w.heap.size row))
              (fun j => j ≤ row.length) (fun j => row.length - j) 0 [] (by decide) (fun s => ⟨rfl, rfl⟩) (Nat.zero_le _) ⟨rfl, ⟨rfl, rfl, rfl, rfl, rfl, rfl, rfl, rfl, rfl, rfl, rfl, rfl, rfl, rfl, rfl, trivial⟩, ⟨(by repeat (first | exact List.mem_cons_self | apply List.mem_cons_of_mem)), (by repeat (first | exact List.mem_cons_self | apply List.mem_cons_of_mem)), (by repeat (first | exact List.mem_cons_self | apply List.mem_cons_of_mem)), (by repeat (first | exact List.mem_cons_self | apply List.mem_cons_of_mem)), (by repeat (first | exact List.mem_cons_self | apply List.mem_cons_of_mem)), (by repeat (first | exact List.mem_cons_self | apply List.mem_cons_of_mem)), (by repeat (first | exact List.mem_cons_self | apply List.mem_cons_of_mem)), trivial⟩, fun R w' h => h.1.1.1⟩ ?_
            rintro j hj
            by_cases hjl : j < row.length
            · have hrowJ := nodeRows_get hjl
              have hdj : (row.map NodeV.data).take (j + 1) = (row.map NodeV.data).take j ++ [row[j].data] := by
                rw [List.take_add_one, List.getElem?_map, List.getElem?_eq_getElem hjl]; rfl
              have hdl : ((row.map NodeV.data).take j).length = j := by rw [List.length_take, List.length_map]; omega
              generalize row[j] = y at *
              (repeat' ((conv => whnf) <;> first | (show ltK _ _ _; (refine lt_of (by first | omega | (rw [nodeRows_length]; omega) | (rw [shRows_length, gridK_length (by omega)]; omega)) ?_)) | (show idxRowK _ _ _ _ _ _; (first | refine idxRow_of j rfl hjl (Nat.le_of_eq (nodeRows_length row).symm) ?_ | refine idxRow_of j rfl hjl (by rw [shRows_length, gridK_length (by omega)]; exact Nat.le_refl _) ?_)) | (show rowAggK _ _ _ _ _; refine rowAgg_of _ _ hrowJ rfl rfl ?_) | (show rowStoreK _ _ _ _ _; refine gridK_store hdl hjl ?_) | (show drawK _ 28 _ _ _ _ _ _; refine draw_tree tabOk mixed [9] _ dtIF2 (by kernel_rfl) (by kernel_rfl) (by kernel_rfl) (List.Sublist.refl _) ?_) | (show Wp _ _ _ _ _ _ _; refine Wp.go tabOk rfl ?_) | (show @cmpK _ _ _; (first | refine cmpY ?_ | refine cmpN ?_ | (refine cmp_both ?_ ?_ <;> intro _))) | (show wrapK _ _ _; refine wrapA ?_) | (show leK _ _ _; refine leA ?_) | (show roomK _ _ _; refine roomA ?_) | (show ltK _ _ _; refine ltA ?_) | (show _ ∧ _; refine ⟨?_, ?_⟩) | (show keepK _ _ _ _ _; refine keepA ?_) | refine own_keep ?_ | refine ap_old ?_))
              all_goals (conv => whnf)
              all_goals exact ⟨j + 1, [], hjl, by omega, rfl, ⟨rfl, rfl, rfl, rfl, rfl, rfl, rfl, rfl, rfl, rfl, rfl, rfl, rfl, rfl, rfl, trivial⟩, ⟨by rw [hdj]; exact (by repeat (first | exact List.mem_cons_self | apply List.mem_cons_of_mem)), (by repeat (first | exact List.mem_cons_self | apply List.mem_cons_of_mem)), (by repeat (first | exact List.mem_cons_self | apply List.mem_cons_of_mem)), (by repeat (first | exact List.mem_cons_self | apply List.mem_cons_of_mem)), (by repeat (first | exact List.mem_cons_self | apply List.mem_cons_of_mem)), (by repeat (first | exact List.mem_cons_self | apply List.mem_cons_of_mem)), (by repeat (first | exact List.mem_cons_self | apply List.mem_cons_of_mem)), trivial⟩, fun R w' h => h⟩
            obtain rfl : j = row.length := by omega
            have hgk : gridK row.length ((row.map NodeV.data).take row.length) = row.map NodeV.data := by
              rw [List.take_of_length_le (by rw [List.length_map]; exact Nat.le_refl _)]
              unfold gridK
              rw [List.length_map, Nat.sub_self]; simp
            (repeat' ((conv => whnf) <;> first | (show drawK _ 28 _ _ _ _ _ _; refine draw_tree tabOk mixed [] [] dtNT1 (by kernel_rfl) (by kernel_rfl) (by kernel_rfl) (List.nil_sublist _) ?_) | (show keepK _ _ _ _ _; (first | refine keep_of (List.nil_sublist _) (fun _ _ h => h) ?_ | refine keep_of (List.nil_sublist _) (fun _ _ h => h.1) ?_)) | (show idxK _ _ _ _ _; refine idx_of sa i hsa rfl hula ?_) | (show roK _ _ _; (refine ro_row0 (fun R w' h => by rw [← hsa]; exact rowsA_in h.1.2.1) _ _ hrowU rfl ?_)) | (show callK _ 55 _ _ _ _ _; (refine call_past Try.call55 (fun x : IntsV × Bool => x.1.val) oldA (fun x => x.1.xs = numsP (gD (check g).2 i) (row.map NodeV.pl) (atV n (st.getD n.a.toNat 0) (st.getD n.b.toNat 0)).pl ∧ x.1.sane ∧ (x.2 = true → x.1 = (atV n (st.getD n.a.toNat 0) (st.getD n.b.toNat 0)).data)) (fun ρ w' hw => values_known hR hmM hkM ⟨(ρ 3).base, (ρ 3).cap, shs⟩ rfl ⟨rows_of_abs hw (by repeat (first | exact List.mem_cons_self | apply List.mem_cons_of_mem)), fun z hz => holds_of_abs hw fun R h => (shapes_okI hsv (by omega) h.1.2).each z (hshs z hz), by show shs.length ≤ 24; omega⟩ (holds_of_abs hw fun R h => mine_ok (N := 0) hP hMs h.1.1 (mine_old hPn rfl rfl rfl R w')) (holds_of_abs hw fun R h => row_ok hP hsn h.1.1 h.2) (ρ 6).base (ρ 6).cap (by have := rows_of_abs hw (i := 6) (by repeat (first | exact List.mem_cons_self | apply List.mem_cons_of_mem)); rw [hgk] at this; exact this)) (fun x hx => ?_))) | (show Wp _ _ _ _ _ _ _; refine Wp.go tabOk rfl ?_) | (show @cmpK _ _ _; (first | refine cmpY ?_ | refine cmpN ?_ | (refine cmp_both ?_ ?_ <;> intro _))) | (show wrapK _ _ _; refine wrapA ?_) | (show leK _ _ _; refine leA ?_) | (show roomK _ _ _; refine roomA ?_) | (show ltK _ _ _; refine ltA ?_) | (show _ ∧ _; refine ⟨?_, ?_⟩) | (show keepK _ _ _ _ _; refine keepA ?_) | refine own_keep ?_ | refine ap_old ?_))
            have hXs : (constN u x.1).saneN := constN_sane (hsv u hum) hx.2.1
            have hXp : foldP (gD (check g).2 i) (row.map NodeV.pl) (movedP st n.pl) = (constN u x.1).pl := by rw [← hMp, foldP, if_pos hkM, constN_pl hus hx.1]
            have hstep := step_lay hL hT hnp hcr hXp hus
            refine Wp.loop (σ := Nat × Int) 7 (fun ⟨j, f⟩ => [(1, .lp 0 0 0 0), (2, .lp 1 0 0 0), (6, .c sv.val), (8, .os 2 row.length), (9, .os 3 shs.length), (10, .os 4 st.length), (11, .c (.int .i64 i)), (12, .lp 5 0 0 0), (37, .c (.slice g.base g.l.length g.cap)), (38, .c (.int .i64 g.l.length)), (39, .c (.int .i64 i)), (19, .c (.int .i64 f)), (113, .os 2 row.length), (114, .c (.int .i64 row.length)), (115, .c (.int .i64 j))]) (fun _ => [(5, .box (cs (constN u x.1).cells) 38), (4, .rows (ints (stI st)) 1 3), (3, .rows (shRows shs) 1 33), (2, .rows (nodeRows row) 9 38), (1, .box [.c (.slice none 0 0), .c (.int .i64 0)] 26), (0, .box [.c (.slice g.base g.l.length g.cap), .c (.int .i64 g.out)] 26)]) (fun _ => (((baseA w).and ((shapesD sv).past w.heap.size)).and (rowA (srcG g) w.heap.size row)).and (mineA (srcG g) w.heap.size (constN u x.1)))
              (fun ⟨j, f⟩ => j ≤ row.length ∧ f = fndP (constN u x.1).pl (row.map NodeV.pl) j) (fun s => row.length - s.1) (0, -1) [] (by decide) (fun s => ⟨rfl, rfl⟩) ⟨Nat.zero_le _, (fnd_zero _ _).symm⟩ ⟨rfl, ⟨rfl, rfl, rfl, rfl, rfl, rfl, rfl, rfl, rfl, rfl, rfl, rfl, rfl, rfl, rfl, trivial⟩, ⟨(by repeat (first | exact List.mem_cons_self | apply List.mem_cons_of_mem)), (by repeat (first | exact List.mem_cons_self | apply List.mem_cons_of_mem)), (by repeat (first | exact List.mem_cons_self | apply List.mem_cons_of_mem)), (by repeat (first | exact List.mem_cons_self | apply List.mem_cons_of_mem)), (by repeat (first | exact List.mem_cons_self | apply List.mem_cons_of_mem)), (by repeat (first | exact List.mem_cons_self | apply List.mem_cons_of_mem)), trivial⟩, fun R w' h => ⟨h.1, mine_const hPn.2.1 (.inl rfl) hum hx.2.2 h.1.1.2 h.2⟩⟩ ?_
            rintro ⟨j, f⟩ ⟨hj, hf⟩
            by_cases hjl : j < row.length
            · have hrowJ := nodeRows_get hjl
              have hxm := List.getElem_mem hjl
              have hxp : (row.map NodeV.pl)[j]? = some row[j].pl := by rw [List.getElem?_map, List.getElem?_eq_getElem hjl]; rfl
              generalize row[j] = y at *
              have h1 : ¬ (constN u x.1).kind = 1 := fun h => absurd (show (2 : Int) = 1 from h) (by decide)
              (repeat' ((conv => whnf) <;> first | (show idxRowK _ _ _ _ _ _; refine idxRow_of j rfl hjl (Nat.le_of_eq (nodeRows_length row).symm) ?_) | (show rowAggK _ _ _ _ _; refine rowAgg_of _ _ hrowJ rfl rfl ?_) | (show ltK _ _ _; (refine lt_of (by first | omega | (rw [nodeRows_length]; omega) | (rw [shRows_length, gridK_length (by omega)]; omega)) ?_)) | (show callK _ 56 _ _ _ _ _; ((refine call_bool (f := 56) Try.call56 (sameP y.pl (constN u x.1).pl) (fun ρ w' hw => sameNode_any w' y (constN u x.1) (holds_of_abs hw fun R h => row_ok hP hsn h.1.1.1 h.1.2 y hxm) (holds_of_abs hw fun R h => mine_ok hP hXs h.1.1.1 h.2)) ?_ ?_ <;> intro hsm))) | (show drawK _ 28 _ _ _ _ _ _; refine draw_tree tabOk mixed [9] _ dtIF2 (by kernel_rfl) (by kernel_rfl) (by kernel_rfl) (List.Sublist.refl _) ?_) | (show Wp _ _ _ _ _ _ _; refine Wp.go tabOk rfl ?_) | (show @cmpK _ _ _; (first | refine cmpY ?_ | refine cmpN ?_ | (refine cmp_both ?_ ?_ <;> intro _))) | (show wrapK _ _ _; refine wrapA ?_) | (show leK _ _ _; refine leA ?_) | (show roomK _ _ _; refine roomA ?_) | (show ltK _ _ _; refine ltA ?_) | (show _ ∧ _; refine ⟨?_, ?_⟩) | (show keepK _ _ _ _ _; refine keepA ?_) | refine own_keep ?_ | refine ap_old ?_))
              all_goals (conv => whnf)
              all_goals first | exact ⟨(j + 1, f), [], ⟨hjl, fnd_keep hxp hf (by first | (left; omega) | (right; left; omega) | (right; right; assumption))⟩, by simp only; omega, rfl, ⟨rfl, rfl, rfl, rfl, rfl, rfl, rfl, rfl, rfl, rfl, rfl, rfl, rfl, rfl, rfl, trivial⟩, ⟨(by repeat (first | exact List.mem_cons_self | apply List.mem_cons_of_mem)), (by repeat (first | exact List.mem_cons_self | apply List.mem_cons_of_mem)), (by repeat (first | exact List.mem_cons_self | apply List.mem_cons_of_mem)), (by repeat (first | exact List.mem_cons_self | apply List.mem_cons_of_mem)), (by repeat (first | exact List.mem_cons_self | apply List.mem_cons_of_mem)), (by repeat (first | exact List.mem_cons_self | apply List.mem_cons_of_mem)), trivial⟩, fun R w' h => h⟩ | exact ⟨(j + 1, (j : Int)), [], ⟨hjl, fnd_here hxp hf (by omega) (by omega) (by assumption)⟩, by simp only; omega, rfl, ⟨rfl, rfl, rfl, rfl, rfl, rfl, rfl, rfl, rfl, rfl, rfl, rfl, rfl, rfl, rfl, trivial⟩, ⟨(by repeat (first | exact List.mem_cons_self | apply List.mem_cons_of_mem)), (by repeat (first | exact List.mem_cons_self | apply List.mem_cons_of_mem)), (by repeat (first | exact List.mem_cons_self | apply List.mem_cons_of_mem)), (by repeat (first | exact List.mem_cons_self | apply List.mem_cons_of_mem)), (by repeat (first | exact List.mem_cons_self | apply List.mem_cons_of_mem)), (by repeat (first | exact List.mem_cons_self | apply List.mem_cons_of_mem)), trivial⟩, fun R w' h => h⟩
            · obtain rfl : j = row.length := by omega
              rw [fnd_end (by rw [List.length_map])] at hf
              obtain ⟨q, hq⟩ : ∃ q, (match findP (row.map NodeV.pl) (constN u x.1).pl with | some k => k | none => row.length) = q := ⟨_, rfl⟩
              cases hfd : findP (row.map NodeV.pl) (constN u x.1).pl
              all_goals (rw [hfd] at hf hq; dsimp only at hf hq; have hq := hq.symm; subst hf hq)
              all_goals
                (repeat' ((conv => whnf) <;> first | (show idxK _ _ _ _ _; refine idx_of sa i hsa rfl hula ?_) | (show roK _ _ _; (refine ro_row0 (fun R w' h => by rw [← hsa]; exact rowsA_in h.1.1.2.1) _ _ hrowU rfl ?_)) | (show leK _ _ _; (first | refine le_of (by rw [nodeRows_length]; exact Nat.le_refl _) ?_ | refine le_of (by rw [shRows_length]; exact Nat.le_refl _) ?_ | refine le_of (by rw [stI_length]; exact Nat.le_refl _) ?_)) | (show roomK _ _ _; (first | refine room_of (by show (row.length + 1) * 120 ≤ 140737488355328; omega) ?_ | refine room_of (by show (shs.length + 1) * 24 ≤ 140737488355328; omega) ?_ | refine room_of (by show (st.length + 1) * 8 ≤ 140737488355328; omega) ?_)) | (show ownK _ ((_, .rows (List.take row.length _ ++ _) _ _) :: _) _ _ _; refine own_eq (ys := nodeRows (row ++ [(constN u x.1)])) (m := (row ++ [(constN u x.1)]).length) ?_ (nodes_snoc row (constN u x.1)) (by show row.length + 1 = _; rw [List.length_append]; rfl)) | (show ownK _ ((_, .rows (List.take shs.length _ ++ _) _ _) :: _) _ _ _; refine own_eq (ys := shRows (shs ++ [u])) (m := (shs ++ [u]).length) ?_ (shapes_snoc shs u) (by show shs.length + 1 = _; rw [List.length_append]; rfl)) | (show ownK _ ((_, .rows (List.take st.length _ ++ _) _ _) :: _) _ _ _; first | refine own_eq (ys := ints (stI (st ++ [row.length]))) (m := (st ++ [row.length]).length) ?_ (stI_snoc st row.length) (by show st.length + 1 = _; rw [List.length_append]; rfl) | refine own_eq (ys := ints (stI (st ++ [q]))) (m := (st ++ [q]).length) ?_ (stI_snoc st q) (by show st.length + 1 = _; rw [List.length_append]; rfl)) | (show drawK _ 28 _ _ _ _ _ _; refine draw_tree tabOk mixed [9] _ dtIF2 (by kernel_rfl) (by kernel_rfl) (by kernel_rfl) (List.Sublist.refl _) ?_) | (show Wp _ _ _ _ _ _ _; refine Wp.go tabOk rfl ?_) | (show @cmpK _ _ _; (first | refine cmpY ?_ | refine cmpN ?_ | (refine cmp_both ?_ ?_ <;> intro _))) | (show wrapK _ _ _; refine wrapA ?_) | (show leK _ _ _; refine leA ?_) | (show roomK _ _ _; refine roomA ?_) | (show ltK _ _ _; refine ltA ?_) | (show _ ∧ _; refine ⟨?_, ?_⟩) | (show keepK _ _ _ _ _; refine keepA ?_) | refine own_keep ?_ | refine ap_old ?_))
              all_goals (conv => whnf)
              all_goals first | exact ⟨(i + 1, row, shs, st ++ [q]), [(4, some 8)], ⟨hlt, hsn, hshs, hstep.1 q hfd, hcr⟩, by simp only; omega, rfl, ⟨rfl, rfl, rfl, rfl, rfl, rfl, rfl, rfl, rfl, trivial⟩, ⟨(by repeat (first | exact List.mem_cons_self | apply List.mem_cons_of_mem)), (by repeat (first | exact List.mem_cons_self | apply List.mem_cons_of_mem)), (by repeat (first | exact List.mem_cons_self | apply List.mem_cons_of_mem)), (by repeat (first | exact List.mem_cons_self | apply List.mem_cons_of_mem)), (by repeat (first | exact List.mem_cons_self | apply List.mem_cons_of_mem)), trivial⟩, fun R w' h => h.1⟩ | exact ⟨(i + 1, row ++ [(constN u x.1)], shs ++ [u], st ++ [row.length]), [(2, some 8), (3, some 10), (4, some 12)], ⟨hlt, sane_snoc hsn hXs, in_snoc hshs hum, (hstep.2 hfd).1, (hstep.2 hfd).2⟩, by simp only; omega, rfl, ⟨rfl, rfl, rfl, rfl, rfl, rfl, rfl, rfl, rfl, trivial⟩, ⟨(by repeat (first | exact List.mem_cons_self | apply List.mem_cons_of_mem)), (by repeat (first | exact List.mem_cons_self | apply List.mem_cons_of_mem)), (by repeat (first | exact List.mem_cons_self | apply List.mem_cons_of_mem)), (by repeat (first | exact List.mem_cons_self | apply List.mem_cons_of_mem)), (by repeat (first | exact List.mem_cons_self | apply List.mem_cons_of_mem)), trivial⟩, fun R w' h => ⟨h.1.1, rowA_snoc h.1.2 h.2⟩⟩
          · have hkM : knownP (row.map NodeV.pl) (atV n (st.getD n.a.toNat 0) (st.getD n.b.toNat 0)).pl = false := by
              unfold knownP constAt
              show (!decide (n.kind = 1 ∨ n.kind = 2) && decide (((row.map NodeV.pl).getD (st.getD n.a.toNat 0) nilP).kind = 2) && (decide (n.kind ≠ 6) || decide (((row.map NodeV.pl).getD (st.getD n.b.toNat 0) nilP).kind = 2))) = false
              rw [hkBp, decide_eq_false hkB, decide_eq_false (show ¬ (n.kind ≠ 6) from fun h => h h6), Bool.or_false, Bool.and_false]
            (repeat' ((conv => whnf) <;> first | (show idxK _ _ _ _ _; refine idx_of a i ha rfl hlt ?_) | (show roAggK _ _ _ _; (refine roAgg_row (fun R w' h => by rw [← ha]; exact rows_base h.1.1 hg.rows) _ hrow rfl ?_)) | (show callK _ 54 _ _ _ _ _; refine call_takesL n 2 rfl ht Try.call54 (fun ρ w' hw => takes_any w' n hno.aFits hno.bFits) (fun u1 hu1 hul1 hus1 => ?_)) | (show drawK _ 28 _ _ _ _ _ _; refine draw_tree tabOk mixed [9] _ dtIF2 (by kernel_rfl) (by kernel_rfl) (by kernel_rfl) (List.Sublist.refl _) ?_) | (show Wp _ _ _ _ _ _ _; refine Wp.go tabOk rfl ?_) | (show @cmpK _ _ _; (first | refine cmpY ?_ | refine cmpN ?_ | (refine cmp_both ?_ ?_ <;> intro _))) | (show wrapK _ _ _; refine wrapA ?_) | (show leK _ _ _; refine leA ?_) | (show roomK _ _ _; refine roomA ?_) | (show ltK _ _ _; refine ltA ?_) | (show _ ∧ _; refine ⟨?_, ?_⟩) | (show keepK _ _ _ _ _; refine keepA ?_) | refine own_keep ?_ | refine ap_old ?_))
            refine Wp.know (p := ∃ a, u1.base = some a) (fun ρ w' hw => holds_of_abs hw fun R h => base_some (j := 0) (rowsA_in ((intsA u1).mono h.2 (fun b hb => hb.1))) (by rw [ints_length, hul1]; omega)) ?_
            rintro ⟨ua, hua⟩
            have hu0 : (ints u1.xs)[0]? = some [.int .i64 n.a] := by rw [hu1]; rfl
            have hu1b : (ints u1.xs)[1]? = some [.int .i64 n.b] := by rw [hu1]; rfl
            refine Wp.rounds 4 ?_
            (repeat' ((conv => whnf) <;> first | (show ltK _ _ _; (refine lt_of (by first | omega | (rw [nodeRows_length]; omega)) ?_)) | (show idxK _ _ _ _ _; (first | refine idx_of ua 0 hua rfl (by omega) ?_ | refine idx_of ua 1 hua rfl (by omega) ?_)) | (show roK _ _ _; (first | refine ro_row0 (fun R w' h => by rw [← hua]; exact rowsA_in ((intsA u1).mono h.2 (fun b hb => hb.1))) _ _ hu0 rfl ?_ | refine ro_row0 (fun R w' h => by rw [← hua]; exact rowsA_in ((intsA u1).mono h.2 (fun b hb => hb.1))) _ _ hu1b rfl ?_)) | (show idxRowK _ _ _ _ _ _; (first | refine idxRow_of n.a.toNat (by omega) haL (Nat.le_of_eq (stI_length st).symm) ?_ | refine idxRow_of (st.getD n.a.toNat 0) rfl hkaL (Nat.le_of_eq (nodeRows_length row).symm) ?_ | refine idxRow_of n.b.toNat (by omega) hbL (Nat.le_of_eq (stI_length st).symm) ?_ | refine idxRow_of (st.getD n.b.toNat 0) rfl hkbL (Nat.le_of_eq (nodeRows_length row).symm) ?_)) | (show rowK _ _ _ _; (first | refine row_of _ _ hstA rfl ?_ | refine row_of _ _ hrowA rfl ?_ | refine row_of _ _ hstB rfl ?_ | refine row_of _ _ hrowB rfl ?_)) | (show callK _ 54 _ _ _ _ _; refine call_takesL n 2 rfl ht Try.call54 (fun ρ w' hw => takes_any w' n hno.aFits hno.bFits) (fun u1 hu1 hul1 hus1 => ?_)) | (show makeK _ _ _ _; (refine make_of row.length rfl rfl (by show 24 * row.length ≤ _; omega) (by omega) ?_)) | (show ownK _ ((_, .rows (List.replicate _ [.slice none 0 0]) _ _) :: _) _ _ _; refine own_eq (ys := shRows (gridK row.length [])) (m := row.length) ?_ (by simp [gridK, shRows, nilI, IntsV.val]) rfl) | (show drawK _ 28 _ _ _ _ _ _; refine draw_tree tabOk mixed [9] _ dtIF2 (by kernel_rfl) (by kernel_rfl) (by kernel_rfl) (List.Sublist.refl _) ?_) | (show Wp _ _ _ _ _ _ _; refine Wp.go tabOk rfl ?_) | (show @cmpK _ _ _; (first | refine cmpY ?_ | refine cmpN ?_ | (refine cmp_both ?_ ?_ <;> intro _))) | (show wrapK _ _ _; refine wrapA ?_) | (show leK _ _ _; refine leA ?_) | (show roomK _ _ _; refine roomA ?_) | (show ltK _ _ _; refine ltA ?_) | (show _ ∧ _; refine ⟨?_, ?_⟩) | (show keepK _ _ _ _ _; refine keepA ?_) | refine own_keep ?_ | refine ap_old ?_))
            have hXs := hMs
            have hXp : foldP (gD (check g).2 i) (row.map NodeV.pl) (movedP st n.pl) = (atV n (st.getD n.a.toNat 0) (st.getD n.b.toNat 0)).pl := by rw [← hMp, foldP, if_neg (by rw [hkM]; decide)]
            have hstep := step_lay hL hT hnp hcr hXp hus
            refine Wp.loop (σ := Nat × Int) 7 (fun ⟨j, f⟩ => [(1, .lp 0 0 0 0), (2, .lp 1 0 0 0), (6, .c sv.val), (8, .os 2 row.length), (9, .os 3 shs.length), (10, .os 4 st.length), (11, .c (.int .i64 i)), (12, .lp 5 0 0 0), (37, .c (.slice g.base g.l.length g.cap)), (38, .c (.int .i64 g.l.length)), (39, .c (.int .i64 i)), (19, .c (.int .i64 f)), (113, .os 2 row.length), (114, .c (.int .i64 row.length)), (115, .c (.int .i64 j))]) (fun _ => [(5, .box (cs (atV n (st.getD n.a.toNat 0) (st.getD n.b.toNat 0)).cells) 38), (4, .rows (ints (stI st)) 1 3), (3, .rows (shRows shs) 1 33), (2, .rows (nodeRows row) 9 38), (1, .box [.c (.slice none 0 0), .c (.int .i64 0)] 26), (0, .box [.c (.slice g.base g.l.length g.cap), .c (.int .i64 g.out)] 26)]) (fun _ => (((baseA w).and ((shapesD sv).past w.heap.size)).and (rowA (srcG g) w.heap.size row)).and (mineA (srcG g) w.heap.size (atV n (st.getD n.a.toNat 0) (st.getD n.b.toNat 0))))
              (fun ⟨j, f⟩ => j ≤ row.length ∧ f = fndP (atV n (st.getD n.a.toNat 0) (st.getD n.b.toNat 0)).pl (row.map NodeV.pl) j) (fun s => row.length - s.1) (0, -1) [] (by decide) (fun s => ⟨rfl, rfl⟩) ⟨Nat.zero_le _, (fnd_zero _ _).symm⟩ ⟨rfl, ⟨rfl, rfl, rfl, rfl, rfl, rfl, rfl, rfl, rfl, rfl, rfl, rfl, rfl, rfl, rfl, trivial⟩, ⟨(by repeat (first | exact List.mem_cons_self | apply List.mem_cons_of_mem)), (by repeat (first | exact List.mem_cons_self | apply List.mem_cons_of_mem)), (by repeat (first | exact List.mem_cons_self | apply List.mem_cons_of_mem)), (by repeat (first | exact List.mem_cons_self | apply List.mem_cons_of_mem)), (by repeat (first | exact List.mem_cons_self | apply List.mem_cons_of_mem)), (by repeat (first | exact List.mem_cons_self | apply List.mem_cons_of_mem)), trivial⟩, fun R w' h => ⟨h.1.1.1, mine_old hPn rfl rfl rfl R w'⟩⟩ ?_
            rintro ⟨j, f⟩ ⟨hj, hf⟩
            by_cases hjl : j < row.length
            · have hrowJ := nodeRows_get hjl
              have hxm := List.getElem_mem hjl
              have hxp : (row.map NodeV.pl)[j]? = some row[j].pl := by rw [List.getElem?_map, List.getElem?_eq_getElem hjl]; rfl
              generalize row[j] = y at *
              (repeat' ((conv => whnf) <;> first | (show idxRowK _ _ _ _ _ _; refine idxRow_of j rfl hjl (Nat.le_of_eq (nodeRows_length row).symm) ?_) | (show rowAggK _ _ _ _ _; refine rowAgg_of _ _ hrowJ rfl rfl ?_) | (show ltK _ _ _; (refine lt_of (by first | omega | (rw [nodeRows_length]; omega) | (rw [shRows_length, gridK_length (by omega)]; omega)) ?_)) | (show callK _ 56 _ _ _ _ _; ((refine call_bool (f := 56) Try.call56 (sameP y.pl (atV n (st.getD n.a.toNat 0) (st.getD n.b.toNat 0)).pl) (fun ρ w' hw => sameNode_any w' y (atV n (st.getD n.a.toNat 0) (st.getD n.b.toNat 0)) (holds_of_abs hw fun R h => row_ok hP hsn h.1.1.1 h.1.2 y hxm) (holds_of_abs hw fun R h => mine_ok hP hXs h.1.1.1 h.2)) ?_ ?_ <;> intro hsm))) | (show drawK _ 28 _ _ _ _ _ _; refine draw_tree tabOk mixed [9] _ dtIF2 (by kernel_rfl) (by kernel_rfl) (by kernel_rfl) (List.Sublist.refl _) ?_) | (show Wp _ _ _ _ _ _ _; refine Wp.go tabOk rfl ?_) | (show @cmpK _ _ _; (first | refine cmpY ?_ | refine cmpN ?_ | (refine cmp_both ?_ ?_ <;> intro _))) | (show wrapK _ _ _; refine wrapA ?_) | (show leK _ _ _; refine leA ?_) | (show roomK _ _ _; refine roomA ?_) | (show ltK _ _ _; refine ltA ?_) | (show _ ∧ _; refine ⟨?_, ?_⟩) | (show keepK _ _ _ _ _; refine keepA ?_) | refine own_keep ?_ | refine ap_old ?_))
              all_goals (conv => whnf)
              all_goals first | exact ⟨(j + 1, f), [], ⟨hjl, fnd_keep hxp hf (by first | (left; omega) | (right; left; omega) | (right; right; assumption))⟩, by simp only; omega, rfl, ⟨rfl, rfl, rfl, rfl, rfl, rfl, rfl, rfl, rfl, rfl, rfl, rfl, rfl, rfl, rfl, trivial⟩, ⟨(by repeat (first | exact List.mem_cons_self | apply List.mem_cons_of_mem)), (by repeat (first | exact List.mem_cons_self | apply List.mem_cons_of_mem)), (by repeat (first | exact List.mem_cons_self | apply List.mem_cons_of_mem)), (by repeat (first | exact List.mem_cons_self | apply List.mem_cons_of_mem)), (by repeat (first | exact List.mem_cons_self | apply List.mem_cons_of_mem)), (by repeat (first | exact List.mem_cons_self | apply List.mem_cons_of_mem)), trivial⟩, fun R w' h => h⟩ | exact ⟨(j + 1, (j : Int)), [], ⟨hjl, fnd_here hxp hf (by omega) (by omega) (by assumption)⟩, by simp only; omega, rfl, ⟨rfl, rfl, rfl, rfl, rfl, rfl, rfl, rfl, rfl, rfl, rfl, rfl, rfl, rfl, rfl, trivial⟩, ⟨(by repeat (first | exact List.mem_cons_self | apply List.mem_cons_of_mem)), (by repeat (first | exact List.mem_cons_self | apply List.mem_cons_of_mem)), (by repeat (first | exact List.mem_cons_self | apply List.mem_cons_of_mem)), (by repeat (first | exact List.mem_cons_self | apply List.mem_cons_of_mem)), (by repeat (first | exact List.mem_cons_self | apply List.mem_cons_of_mem)), (by repeat (first | exact List.mem_cons_self | apply List.mem_cons_of_mem)), trivial⟩, fun R w' h => h⟩
            · obtain rfl : j = row.length := by omega
              rw [fnd_end (by rw [List.length_map])] at hf
              obtain ⟨q, hq⟩ : ∃ q, (match findP (row.map NodeV.pl) (atV n (st.getD n.a.toNat 0) (st.getD n.b.toNat 0)).pl with | some k => k | none => row.length) = q := ⟨_, rfl⟩
              cases hfd : findP (row.map NodeV.pl) (atV n (st.getD n.a.toNat 0) (st.getD n.b.toNat 0)).pl
              all_goals (rw [hfd] at hf hq; dsimp only at hf hq; have hq := hq.symm; subst hf hq)
              all_goals
                (repeat' ((conv => whnf) <;> first | (show idxK _ _ _ _ _; refine idx_of sa i hsa rfl hula ?_) | (show roK _ _ _; (refine ro_row0 (fun R w' h => by rw [← hsa]; exact rowsA_in h.1.1.2.1) _ _ hrowU rfl ?_)) | (show leK _ _ _; (first | refine le_of (by rw [nodeRows_length]; exact Nat.le_refl _) ?_ | refine le_of (by rw [shRows_length]; exact Nat.le_refl _) ?_ | refine le_of (by rw [stI_length]; exact Nat.le_refl _) ?_)) | (show roomK _ _ _; (first | refine room_of (by show (row.length + 1) * 120 ≤ 140737488355328; omega) ?_ | refine room_of (by show (shs.length + 1) * 24 ≤ 140737488355328; omega) ?_ | refine room_of (by show (st.length + 1) * 8 ≤ 140737488355328; omega) ?_)) | (show ownK _ ((_, .rows (List.take row.length _ ++ _) _ _) :: _) _ _ _; refine own_eq (ys := nodeRows (row ++ [(atV n (st.getD n.a.toNat 0) (st.getD n.b.toNat 0))])) (m := (row ++ [(atV n (st.getD n.a.toNat 0) (st.getD n.b.toNat 0))]).length) ?_ (nodes_snoc row (atV n (st.getD n.a.toNat 0) (st.getD n.b.toNat 0))) (by show row.length + 1 = _; rw [List.length_append]; rfl)) | (show ownK _ ((_, .rows (List.take shs.length _ ++ _) _ _) :: _) _ _ _; refine own_eq (ys := shRows (shs ++ [u])) (m := (shs ++ [u]).length) ?_ (shapes_snoc shs u) (by show shs.length + 1 = _; rw [List.length_append]; rfl)) | (show ownK _ ((_, .rows (List.take st.length _ ++ _) _ _) :: _) _ _ _; first | refine own_eq (ys := ints (stI (st ++ [row.length]))) (m := (st ++ [row.length]).length) ?_ (stI_snoc st row.length) (by show st.length + 1 = _; rw [List.length_append]; rfl) | refine own_eq (ys := ints (stI (st ++ [q]))) (m := (st ++ [q]).length) ?_ (stI_snoc st q) (by show st.length + 1 = _; rw [List.length_append]; rfl)) | (show drawK _ 28 _ _ _ _ _ _; refine draw_tree tabOk mixed [9] _ dtIF2 (by kernel_rfl) (by kernel_rfl) (by kernel_rfl) (List.Sublist.refl _) ?_) | (show Wp _ _ _ _ _ _ _; refine Wp.go tabOk rfl ?_) | (show @cmpK _ _ _; (first | refine cmpY ?_ | refine cmpN ?_ | (refine cmp_both ?_ ?_ <;> intro _))) | (show wrapK _ _ _; refine wrapA ?_) | (show leK _ _ _; refine leA ?_) | (show roomK _ _ _; refine roomA ?_) | (show ltK _ _ _; refine ltA ?_) | (show _ ∧ _; refine ⟨?_, ?_⟩) | (show keepK _ _ _ _ _; refine keepA ?_) | refine own_keep ?_ | refine ap_old ?_))
              all_goals (conv => whnf)
              all_goals first | exact ⟨(i + 1, row, shs, st ++ [q]), [(4, some 8)], ⟨hlt, hsn, hshs, hstep.1 q hfd, hcr⟩, by simp only; omega, rfl, ⟨rfl, rfl, rfl, rfl, rfl, rfl, rfl, rfl, rfl, trivial⟩, ⟨(by repeat (first | exact List.mem_cons_self | apply List.mem_cons_of_mem)), (by repeat (first | exact List.mem_cons_self | apply List.mem_cons_of_mem)), (by repeat (first | exact List.mem_cons_self | apply List.mem_cons_of_mem)), (by repeat (first | exact List.mem_cons_self | apply List.mem_cons_of_mem)), (by repeat (first | exact List.mem_cons_self | apply List.mem_cons_of_mem)), trivial⟩, fun R w' h => h.1⟩ | exact ⟨(i + 1, row ++ [(atV n (st.getD n.a.toNat 0) (st.getD n.b.toNat 0))], shs ++ [u], st ++ [row.length]), [(2, some 8), (3, some 10), (4, some 12)], ⟨hlt, sane_snoc hsn hXs, in_snoc hshs hum, (hstep.2 hfd).1, (hstep.2 hfd).2⟩, by simp only; omega, rfl, ⟨rfl, rfl, rfl, rfl, rfl, rfl, rfl, rfl, rfl, trivial⟩, ⟨(by repeat (first | exact List.mem_cons_self | apply List.mem_cons_of_mem)), (by repeat (first | exact List.mem_cons_self | apply List.mem_cons_of_mem)), (by repeat (first | exact List.mem_cons_self | apply List.mem_cons_of_mem)), (by repeat (first | exact List.mem_cons_self | apply List.mem_cons_of_mem)), (by repeat (first | exact List.mem_cons_self | apply List.mem_cons_of_mem)), trivial⟩, fun R w' h => ⟨h.1.1, rowA_snoc h.1.2 h.2⟩⟩
        · have hkM : knownP (row.map NodeV.pl) (atV n (st.getD n.a.toNat 0) (st.getD n.b.toNat 0)).pl = false := by
            unfold knownP constAt
            show (!decide (n.kind = 1 ∨ n.kind = 2) && decide (((row.map NodeV.pl).getD (st.getD n.a.toNat 0) nilP).kind = 2) && _) = false
            rw [hkAp, decide_eq_false hkA, Bool.and_false, Bool.false_and]
          (repeat' ((conv => whnf) <;> first | (show idxK _ _ _ _ _; refine idx_of a i ha rfl hlt ?_) | (show roAggK _ _ _ _; (refine roAgg_row (fun R w' h => by rw [← ha]; exact rows_base h.1.1 hg.rows) _ hrow rfl ?_)) | (show callK _ 54 _ _ _ _ _; refine call_takesL n 2 rfl ht Try.call54 (fun ρ w' hw => takes_any w' n hno.aFits hno.bFits) (fun u1 hu1 hul1 hus1 => ?_)) | (show drawK _ 28 _ _ _ _ _ _; refine draw_tree tabOk mixed [9] _ dtIF2 (by kernel_rfl) (by kernel_rfl) (by kernel_rfl) (List.Sublist.refl _) ?_) | (show Wp _ _ _ _ _ _ _; refine Wp.go tabOk rfl ?_) | (show @cmpK _ _ _; (first | refine cmpY ?_ | refine cmpN ?_ | (refine cmp_both ?_ ?_ <;> intro _))) | (show wrapK _ _ _; refine wrapA ?_) | (show leK _ _ _; refine leA ?_) | (show roomK _ _ _; refine roomA ?_) | (show ltK _ _ _; refine ltA ?_) | (show _ ∧ _; refine ⟨?_, ?_⟩) | (show keepK _ _ _ _ _; refine keepA ?_) | refine own_keep ?_ | refine ap_old ?_))
          refine Wp.know (p := ∃ a, u1.base = some a) (fun ρ w' hw => holds_of_abs hw fun R h => base_some (j := 0) (rowsA_in ((intsA u1).mono h.2 (fun b hb => hb.1))) (by rw [ints_length, hul1]; omega)) ?_
          rintro ⟨ua, hua⟩
          have hu0 : (ints u1.xs)[0]? = some [.int .i64 n.a] := by rw [hu1]; rfl
          have hu1b : (ints u1.xs)[1]? = some [.int .i64 n.b] := by rw [hu1]; rfl
          refine Wp.rounds 4 ?_
          (repeat' ((conv => whnf) <;> first | (show ltK _ _ _; (refine lt_of (by first | omega | (rw [nodeRows_length]; omega)) ?_)) | (show idxK _ _ _ _ _; (first | refine idx_of ua 0 hua rfl (by omega) ?_ | refine idx_of ua 1 hua rfl (by omega) ?_)) | (show roK _ _ _; (first | refine ro_row0 (fun R w' h => by rw [← hua]; exact rowsA_in ((intsA u1).mono h.2 (fun b hb => hb.1))) _ _ hu0 rfl ?_ | refine ro_row0 (fun R w' h => by rw [← hua]; exact rowsA_in ((intsA u1).mono h.2 (fun b hb => hb.1))) _ _ hu1b rfl ?_)) | (show idxRowK _ _ _ _ _ _; (first | refine idxRow_of n.a.toNat (by omega) haL (Nat.le_of_eq (stI_length st).symm) ?_ | refine idxRow_of (st.getD n.a.toNat 0) rfl hkaL (Nat.le_of_eq (nodeRows_length row).symm) ?_ | refine idxRow_of n.b.toNat (by omega) hbL (Nat.le_of_eq (stI_length st).symm) ?_ | refine idxRow_of (st.getD n.b.toNat 0) rfl hkbL (Nat.le_of_eq (nodeRows_length row).symm) ?_)) | (show rowK _ _ _ _; (first | refine row_of _ _ hstA rfl ?_ | refine row_of _ _ hrowA rfl ?_ | refine row_of _ _ hstB rfl ?_ | refine row_of _ _ hrowB rfl ?_)) | (show callK _ 54 _ _ _ _ _; refine call_takesL n 2 rfl ht Try.call54 (fun ρ w' hw => takes_any w' n hno.aFits hno.bFits) (fun u1 hu1 hul1 hus1 => ?_)) | (show makeK _ _ _ _; (refine make_of row.length rfl rfl (by show 24 * row.length ≤ _; omega) (by omega) ?_)) | (show ownK _ ((_, .rows (List.replicate _ [.slice none 0 0]) _ _) :: _) _ _ _; refine own_eq (ys := shRows (gridK row.length [])) (m := row.length) ?_ (by simp [gridK, shRows, nilI, IntsV.val]) rfl) | (show drawK _ 28 _ _ _ _ _ _; refine draw_tree tabOk mixed [9] _ dtIF2 (by kernel_rfl) (by kernel_rfl) (by kernel_rfl) (List.Sublist.refl _) ?_) | (show Wp _ _ _ _ _ _ _; refine Wp.go tabOk rfl ?_) | (show @cmpK _ _ _; (first | refine cmpY ?_ | refine cmpN ?_ | (refine cmp_both ?_ ?_ <;> intro _))) | (show wrapK _ _ _; refine wrapA ?_) | (show leK _ _ _; refine leA ?_) | (show roomK _ _ _; refine roomA ?_) | (show ltK _ _ _; refine ltA ?_) | (show _ ∧ _; refine ⟨?_, ?_⟩) | (show keepK _ _ _ _ _; refine keepA ?_) | refine own_keep ?_ | refine ap_old ?_))
          have hXs := hMs
          have hXp : foldP (gD (check g).2 i) (row.map NodeV.pl) (movedP st n.pl) = (atV n (st.getD n.a.toNat 0) (st.getD n.b.toNat 0)).pl := by rw [← hMp, foldP, if_neg (by rw [hkM]; decide)]
          have hstep := step_lay hL hT hnp hcr hXp hus
          refine Wp.loop (σ := Nat × Int) 7 (fun ⟨j, f⟩ => [(1, .lp 0 0 0 0), (2, .lp 1 0 0 0), (6, .c sv.val), (8, .os 2 row.length), (9, .os 3 shs.length), (10, .os 4 st.length), (11, .c (.int .i64 i)), (12, .lp 5 0 0 0), (37, .c (.slice g.base g.l.length g.cap)), (38, .c (.int .i64 g.l.length)), (39, .c (.int .i64 i)), (19, .c (.int .i64 f)), (113, .os 2 row.length), (114, .c (.int .i64 row.length)), (115, .c (.int .i64 j))]) (fun _ => [(5, .box (cs (atV n (st.getD n.a.toNat 0) (st.getD n.b.toNat 0)).cells) 38), (4, .rows (ints (stI st)) 1 3), (3, .rows (shRows shs) 1 33), (2, .rows (nodeRows row) 9 38), (1, .box [.c (.slice none 0 0), .c (.int .i64 0)] 26), (0, .box [.c (.slice g.base g.l.length g.cap), .c (.int .i64 g.out)] 26)]) (fun _ => (((baseA w).and ((shapesD sv).past w.heap.size)).and (rowA (srcG g) w.heap.size row)).and (mineA (srcG g) w.heap.size (atV n (st.getD n.a.toNat 0) (st.getD n.b.toNat 0))))
            (fun ⟨j, f⟩ => j ≤ row.length ∧ f = fndP (atV n (st.getD n.a.toNat 0) (st.getD n.b.toNat 0)).pl (row.map NodeV.pl) j) (fun s => row.length - s.1) (0, -1) [] (by decide) (fun s => ⟨rfl, rfl⟩) ⟨Nat.zero_le _, (fnd_zero _ _).symm⟩ ⟨rfl, ⟨rfl, rfl, rfl, rfl, rfl, rfl, rfl, rfl, rfl, rfl, rfl, rfl, rfl, rfl, rfl, trivial⟩, ⟨(by repeat (first | exact List.mem_cons_self | apply List.mem_cons_of_mem)), (by repeat (first | exact List.mem_cons_self | apply List.mem_cons_of_mem)), (by repeat (first | exact List.mem_cons_self | apply List.mem_cons_of_mem)), (by repeat (first | exact List.mem_cons_self | apply List.mem_cons_of_mem)), (by repeat (first | exact List.mem_cons_self | apply List.mem_cons_of_mem)), (by repeat (first | exact List.mem_cons_self | apply List.mem_cons_of_mem)), trivial⟩, fun R w' h => ⟨h.1.1.1, mine_old hPn rfl rfl rfl R w'⟩⟩ ?_
          rintro ⟨j, f⟩ ⟨hj, hf⟩
          by_cases hjl : j < row.length
          · have hrowJ := nodeRows_get hjl
            have hxm := List.getElem_mem hjl
            have hxp : (row.map NodeV.pl)[j]? = some row[j].pl := by rw [List.getElem?_map, List.getElem?_eq_getElem hjl]; rfl
            generalize row[j] = y at *
            (repeat' ((conv => whnf) <;> first | (show idxRowK _ _ _ _ _ _; refine idxRow_of j rfl hjl (Nat.le_of_eq (nodeRows_length row).symm) ?_) | (show rowAggK _ _ _ _ _; refine rowAgg_of _ _ hrowJ rfl rfl ?_) | (show ltK _ _ _; (refine lt_of (by first | omega | (rw [nodeRows_length]; omega) | (rw [shRows_length, gridK_length (by omega)]; omega)) ?_)) | (show callK _ 56 _ _ _ _ _; ((refine call_bool (f := 56) Try.call56 (sameP y.pl (atV n (st.getD n.a.toNat 0) (st.getD n.b.toNat 0)).pl) (fun ρ w' hw => sameNode_any w' y (atV n (st.getD n.a.toNat 0) (st.getD n.b.toNat 0)) (holds_of_abs hw fun R h => row_ok hP hsn h.1.1.1 h.1.2 y hxm) (holds_of_abs hw fun R h => mine_ok hP hXs h.1.1.1 h.2)) ?_ ?_ <;> intro hsm))) | (show drawK _ 28 _ _ _ _ _ _; refine draw_tree tabOk mixed [9] _ dtIF2 (by kernel_rfl) (by kernel_rfl) (by kernel_rfl) (List.Sublist.refl _) ?_) | (show Wp _ _ _ _ _ _ _; refine Wp.go tabOk rfl ?_) | (show @cmpK _ _ _; (first | refine cmpY ?_ | refine cmpN ?_ | (refine cmp_both ?_ ?_ <;> intro _))) | (show wrapK _ _ _; refine wrapA ?_) | (show leK _ _ _; refine leA ?_) | (show roomK _ _ _; refine roomA ?_) | (show ltK _ _ _; refine ltA ?_) | (show _ ∧ _; refine ⟨?_, ?_⟩) | (show keepK _ _ _ _ _; refine keepA ?_) | refine own_keep ?_ | refine ap_old ?_))
            all_goals (conv => whnf)
            all_goals first | exact ⟨(j + 1, f), [], ⟨hjl, fnd_keep hxp hf (by first | (left; omega) | (right; left; omega) | (right; right; assumption))⟩, by simp only; omega, rfl, ⟨rfl, rfl, rfl, rfl, rfl, rfl, rfl, rfl, rfl, rfl, rfl, rfl, rfl, rfl, rfl, trivial⟩, ⟨(by repeat (first | exact List.mem_cons_self | apply List.mem_cons_of_mem)), (by repeat (first | exact List.mem_cons_self | apply List.mem_cons_of_mem)), (by repeat (first | exact List.mem_cons_self | apply List.mem_cons_of_mem)), (by repeat (first | exact List.mem_cons_self | apply List.mem_cons_of_mem)), (by repeat (first | exact List.mem_cons_self | apply List.mem_cons_of_mem)), (by repeat (first | exact List.mem_cons_self | apply List.mem_cons_of_mem)), trivial⟩, fun R w' h => h⟩ | exact ⟨(j + 1, (j : Int)), [], ⟨hjl, fnd_here hxp hf (by omega) (by omega) (by assumption)⟩, by simp only; omega, rfl, ⟨rfl, rfl, rfl, rfl, rfl, rfl, rfl, rfl, rfl, rfl, rfl, rfl, rfl, rfl, rfl, trivial⟩, ⟨(by repeat (first | exact List.mem_cons_self | apply List.mem_cons_of_mem)), (by repeat (first | exact List.mem_cons_self | apply List.mem_cons_of_mem)), (by repeat (first | exact List.mem_cons_self | apply List.mem_cons_of_mem)), (by repeat (first | exact List.mem_cons_self | apply List.mem_cons_of_mem)), (by repeat (first | exact List.mem_cons_self | apply List.mem_cons_of_mem)), (by repeat (first | exact List.mem_cons_self | apply List.mem_cons_of_mem)), trivial⟩, fun R w' h => h⟩
          · obtain rfl : j = row.length := by omega
            rw [fnd_end (by rw [List.length_map])] at hf
            obtain ⟨q, hq⟩ : ∃ q, (match findP (row.map NodeV.pl) (atV n (st.getD n.a.toNat 0) (st.getD n.b.toNat 0)).pl with | some k => k | none => row.length) = q := ⟨_, rfl⟩
            cases hfd : findP (row.map NodeV.pl) (atV n (st.getD n.a.toNat 0) (st.getD n.b.toNat 0)).pl
            all_goals (rw [hfd] at hf hq; dsimp only at hf hq; have hq := hq.symm; subst hf hq)
            all_goals
              (repeat' ((conv => whnf) <;> first | (show idxK _ _ _ _ _; refine idx_of sa i hsa rfl hula ?_) | (show roK _ _ _; (refine ro_row0 (fun R w' h => by rw [← hsa]; exact rowsA_in h.1.1.2.1) _ _ hrowU rfl ?_)) | (show leK _ _ _; (first | refine le_of (by rw [nodeRows_length]; exact Nat.le_refl _) ?_ | refine le_of (by rw [shRows_length]; exact Nat.le_refl _) ?_ | refine le_of (by rw [stI_length]; exact Nat.le_refl _) ?_)) | (show roomK _ _ _; (first | refine room_of (by show (row.length + 1) * 120 ≤ 140737488355328; omega) ?_ | refine room_of (by show (shs.length + 1) * 24 ≤ 140737488355328; omega) ?_ | refine room_of (by show (st.length + 1) * 8 ≤ 140737488355328; omega) ?_)) | (show ownK _ ((_, .rows (List.take row.length _ ++ _) _ _) :: _) _ _ _; refine own_eq (ys := nodeRows (row ++ [(atV n (st.getD n.a.toNat 0) (st.getD n.b.toNat 0))])) (m := (row ++ [(atV n (st.getD n.a.toNat 0) (st.getD n.b.toNat 0))]).length) ?_ (nodes_snoc row (atV n (st.getD n.a.toNat 0) (st.getD n.b.toNat 0))) (by show row.length + 1 = _; rw [List.length_append]; rfl)) | (show ownK _ ((_, .rows (List.take shs.length _ ++ _) _ _) :: _) _ _ _; refine own_eq (ys := shRows (shs ++ [u])) (m := (shs ++ [u]).length) ?_ (shapes_snoc shs u) (by show shs.length + 1 = _; rw [List.length_append]; rfl)) | (show ownK _ ((_, .rows (List.take st.length _ ++ _) _ _) :: _) _ _ _; first | refine own_eq (ys := ints (stI (st ++ [row.length]))) (m := (st ++ [row.length]).length) ?_ (stI_snoc st row.length) (by show st.length + 1 = _; rw [List.length_append]; rfl) | refine own_eq (ys := ints (stI (st ++ [q]))) (m := (st ++ [q]).length) ?_ (stI_snoc st q) (by show st.length + 1 = _; rw [List.length_append]; rfl)) | (show drawK _ 28 _ _ _ _ _ _; refine draw_tree tabOk mixed [9] _ dtIF2 (by kernel_rfl) (by kernel_rfl) (by kernel_rfl) (List.Sublist.refl _) ?_) | (show Wp _ _ _ _ _ _ _; refine Wp.go tabOk rfl ?_) | (show @cmpK _ _ _; (first | refine cmpY ?_ | refine cmpN ?_ | (refine cmp_both ?_ ?_ <;> intro _))) | (show wrapK _ _ _; refine wrapA ?_) | (show leK _ _ _; refine leA ?_) | (show roomK _ _ _; refine roomA ?_) | (show ltK _ _ _; refine ltA ?_) | (show _ ∧ _; refine ⟨?_, ?_⟩) | (show keepK _ _ _ _ _; refine keepA ?_) | refine own_keep ?_ | refine ap_old ?_))
            all_goals (conv => whnf)
            all_goals first | exact ⟨(i + 1, row, shs, st ++ [q]), [(4, some 8)], ⟨hlt, hsn, hshs, hstep.1 q hfd, hcr⟩, by simp only; omega, rfl, ⟨rfl, rfl, rfl, rfl, rfl, rfl, rfl, rfl, rfl, trivial⟩, ⟨(by repeat (first | exact List.mem_cons_self | apply List.mem_cons_of_mem)), (by repeat (first | exact List.mem_cons_self | apply List.mem_cons_of_mem)), (by repeat (first | exact List.mem_cons_self | apply List.mem_cons_of_mem)), (by repeat (first | exact List.mem_cons_self | apply List.mem_cons_of_mem)), (by repeat (first | exact List.mem_cons_self | apply List.mem_cons_of_mem)), trivial⟩, fun R w' h => h.1⟩ | exact ⟨(i + 1, row ++ [(atV n (st.getD n.a.toNat 0) (st.getD n.b.toNat 0))], shs ++ [u], st ++ [row.length]), [(2, some 8), (3, some 10), (4, some 12)], ⟨hlt, sane_snoc hsn hXs, in_snoc hshs hum, (hstep.2 hfd).1, (hstep.2 hfd).2⟩, by simp only; omega, rfl, ⟨rfl, rfl, rfl, rfl, rfl, rfl, rfl, rfl, rfl, trivial⟩, ⟨(by repeat (first | exact List.mem_cons_self | apply List.mem_cons_of_mem)), (by repeat (first | exact List.mem_cons_self | apply List.mem_cons_of_mem)), (by repeat (first | exact List.mem_cons_self | apply List.mem_cons_of_mem)), (by repeat (first | exact List.mem_cons_self | apply List.mem_cons_of_mem)), (by repeat (first | exact List.mem_cons_self | apply List.mem_cons_of_mem)), trivial⟩, fun R w' h => ⟨h.1.1, rowA_snoc h.1.2 h.2⟩⟩
      · have ht : takesP n.pl = [n.a] := by unfold takesP; rw [if_neg (show ¬ (n.pl.kind = 1 ∨ n.pl.kind = 2) from h12), if_neg (show ¬ n.pl.kind = 6 from h6)]; rfl
        have hMp : (atV n (st.getD n.a.toNat 0) n.b).pl = movedP st n.pl := by unfold movedP; rw [if_neg (show ¬ (n.pl.kind = 1 ∨ n.pl.kind = 2) from h12), if_neg (show ¬ n.pl.kind = 6 from h6)]; rfl
        have hmM : NodeIn (atV n (st.getD n.a.toNat 0) n.b).pl.toV (shs.map IntsV.xs) (gD (check g).2 i) := by rw [hMp]; exact hmv
        have hMs : (atV n (st.getD n.a.toNat 0) n.b).saneN := ⟨hno.shape.sane, hno.data.sane, hno.bias.sane, hno.kindFits, i64_nat (by omega), hno.bFits, hno.loFits, hno.hiFits, hno.sizeFits⟩
        by_cases hkA : row[st.getD n.a.toNat 0].kind = 2
        · have hkM : knownP (row.map NodeV.pl) (atV n (st.getD n.a.toNat 0) n.b).pl = true := by
            unfold knownP constAt
            show (!decide (n.kind = 1 ∨ n.kind = 2) && decide (((row.map NodeV.pl).getD (st.getD n.a.toNat 0) nilP).kind = 2) && (decide (n.kind ≠ 6) || _)) = true
            rw [hkAp, decide_eq_false h12, decide_eq_true hkA, decide_eq_true h6]; rfl
          (repeat' ((conv => whnf) <;> first | (show idxK _ _ _ _ _; refine idx_of a i ha rfl hlt ?_) | (show roAggK _ _ _ _; (refine roAgg_row (fun R w' h => by rw [← ha]; exact rows_base h.1.1 hg.rows) _ hrow rfl ?_)) | (show callK _ 54 _ _ _ _ _; refine call_takesL n 1 rfl ht Try.call54 (fun ρ w' hw => takes_any w' n hno.aFits hno.bFits) (fun u1 hu1 hul1 hus1 => ?_)) | (show drawK _ 28 _ _ _ _ _ _; refine draw_tree tabOk mixed [9] _ dtIF2 (by kernel_rfl) (by kernel_rfl) (by kernel_rfl) (List.Sublist.refl _) ?_) | (show Wp _ _ _ _ _ _ _; refine Wp.go tabOk rfl ?_) | (show @cmpK _ _ _; (first | refine cmpY ?_ | refine cmpN ?_ | (refine cmp_both ?_ ?_ <;> intro _))) | (show wrapK _ _ _; refine wrapA ?_) | (show leK _ _ _; refine leA ?_) | (show roomK _ _ _; refine roomA ?_) | (show ltK _ _ _; refine ltA ?_) | (show _ ∧ _; refine ⟨?_, ?_⟩) | (show keepK _ _ _ _ _; refine keepA ?_) | refine own_keep ?_ | refine ap_old ?_))
          refine Wp.know (p := ∃ a, u1.base = some a) (fun ρ w' hw => holds_of_abs hw fun R h => base_some (j := 0) (rowsA_in ((intsA u1).mono h.2 (fun b hb => hb.1))) (by rw [ints_length, hul1]; omega)) ?_
          rintro ⟨ua, hua⟩
          have hu0 : (ints u1.xs)[0]? = some [.int .i64 n.a] := by rw [hu1]; rfl
          refine Wp.rounds 4 ?_
          (repeat' ((conv => whnf) <;> first | (show ltK _ _ _; (refine lt_of (by first | omega | (rw [nodeRows_length]; omega)) ?_)) | (show idxK _ _ _ _ _; refine idx_of ua 0 hua rfl (by omega) ?_) | (show roK _ _ _; (refine ro_row0 (fun R w' h => by rw [← hua]; exact rowsA_in ((intsA u1).mono h.2 (fun b hb => hb.1))) _ _ hu0 rfl ?_)) | (show idxRowK _ _ _ _ _ _; (first | refine idxRow_of n.a.toNat (by omega) haL (Nat.le_of_eq (stI_length st).symm) ?_ | refine idxRow_of (st.getD n.a.toNat 0) rfl hkaL (Nat.le_of_eq (nodeRows_length row).symm) ?_)) | (show rowK _ _ _ _; (first | refine row_of _ _ hstA rfl ?_ | refine row_of _ _ hrowA rfl ?_)) | (show callK _ 54 _ _ _ _ _; refine call_takesL n 1 rfl ht Try.call54 (fun ρ w' hw => takes_any w' n hno.aFits hno.bFits) (fun u1 hu1 hul1 hus1 => ?_)) | (show makeK _ _ _ _; (refine make_of row.length rfl rfl (by show 24 * row.length ≤ _; omega) (by omega) ?_)) | (show ownK _ ((_, .rows (List.replicate _ [.slice none 0 0]) _ _) :: _) _ _ _; refine own_eq (ys := shRows (gridK row.length [])) (m := row.length) ?_ (by simp [gridK, shRows, nilI, IntsV.val]) rfl) | (show drawK _ 28 _ _ _ _ _ _; refine draw_tree tabOk mixed [9] _ dtIF2 (by kernel_rfl) (by kernel_rfl) (by kernel_rfl) (List.Sublist.refl _) ?_) | (show Wp _ _ _ _ _ _ _; refine Wp.go tabOk rfl ?_) | (show @cmpK _ _ _; (first | refine cmpY ?_ | refine cmpN ?_ | (refine cmp_both ?_ ?_ <;> intro _))) | (show wrapK _ _ _; refine wrapA ?_) | (show leK _ _ _; refine leA ?_) | (show roomK _ _ _; refine roomA ?_) | (show ltK _ _ _; refine ltA ?_) | (show _ ∧ _; refine ⟨?_, ?_⟩) | (show keepK _ _ _ _ _; refine keepA ?_) | refine own_keep ?_ | refine ap_old ?_))
          refine Wp.loop (σ := Nat) 7 (fun j => [(1, .lp 0 0 0 0), (2, .lp 1 0 0 0), (6, .c sv.val), (8, .os 2 row.length), (9, .os 3 shs.length), (10, .os 4 st.length), (11, .c (.int .i64 i)), (12, .lp 5 0 0 0), (37, .c (.slice g.base g.l.length g.cap)), (38, .c (.int .i64 g.l.length)), (39, .c (.int .i64 i)), (16, .os 6 row.length), (91, .os 2 row.length), (92, .c (.int .i64 row.length)), (93, .c (.int .i64 j))]) (fun j => [(6, .rows (shRows (gridK row.length ((row.map NodeV.data).take j))) 1 33), (5, .box (cs (atV n (st.getD n.a.toNat 0) n.b).cells) 38), (4, .rows (ints (stI st)) 1 3), (3, .rows (shRows shs) 1 33), (2, .rows (nodeRows row) 9 38), (1, .box [.c (.slice none 0 0), .c (.int .i64 0)] 26), (0, .box [.c (.slice g.base g.l.length g.cap), .c (.int .i64 g.out)] 26)]) (fun _ => ((baseA w).and ((shapesD sv).past w.heap.size)).and (rowA (srcG g) w.heap.size row))
            (fun j => j ≤ row.length) (fun j => row.length - j) 0 [] (by decide) (fun s => ⟨rfl, rfl⟩) (Nat.zero_le _) ⟨rfl, ⟨rfl, rfl, rfl, rfl, rfl, rfl, rfl, rfl, rfl, rfl, rfl, rfl, rfl, rfl, rfl, trivial⟩, ⟨(by repeat (first | exact List.mem_cons_self | apply List.mem_cons_of_mem)), (by repeat (first | exact List.mem_cons_self | apply List.mem_cons_of_mem)), (by repeat (first | exact List.mem_cons_self | apply List.mem_cons_of_mem)), (by repeat (first | exact List.mem_cons_self | apply List.mem_cons_of_mem)), (by repeat (first | exact List.mem_cons_self | apply List.mem_cons_of_mem)), (by repeat (first | exact List.mem_cons_self | apply List.mem_cons_of_mem)), (by repeat (first | exact List.mem_cons_self | apply List.mem_cons_of_mem)), trivial⟩, fun R w' h => h.1.1.1⟩ ?_
          rintro j hj
          by_cases hjl : j < row.length
          · have hrowJ := nodeRows_get hjl
            have hdj : (row.map NodeV.data).take (j + 1) = (row.map NodeV.data).take j ++ [row[j].data] := by
              rw [List.take_add_one, List.getElem?_map, List.getElem?_eq_getElem hjl]; rfl
            have hdl : ((row.map NodeV.data).take j).length = j := by rw [List.length_take, List.length_map]; omega
            generalize row[j] = y at *
            (repeat' ((conv => whnf) <;> first | (show ltK _ _ _; (refine lt_of (by first | omega | (rw [nodeRows_length]; omega) | (rw [shRows_length, gridK_length (by omega)]; omega)) ?_)) | (show idxRowK _ _ _ _ _ _; (first | refine idxRow_of j rfl hjl (Nat.le_of_eq (nodeRows_length row).symm) ?_ | refine idxRow_of j rfl hjl (by rw [shRows_length, gridK_length (by omega)]; exact Nat.le_refl _) ?_)) | (show rowAggK _ _ _ _ _; refine rowAgg_of _ _ hrowJ rfl rfl ?_) | (show rowStoreK _ _ _ _ _; refine gridK_store hdl hjl ?_) | (show drawK _ 28 _ _ _ _ _ _; refine draw_tree tabOk mixed [9] _ dtIF2 (by kernel_rfl) (by kernel_rfl) (by kernel_rfl) (List.Sublist.refl _) ?_) | (show Wp _ _ _ _ _ _ _; refine Wp.go tabOk rfl ?_) | (show @cmpK _ _ _; (first | refine cmpY ?_ | refine cmpN ?_ | (refine cmp_both ?_ ?_ <;> intro _))) | (show wrapK _ _ _; refine wrapA ?_) | (show leK _ _ _; refine leA ?_) | (show roomK _ _ _; refine roomA ?_) | (show ltK _ _ _; refine ltA ?_) | (show _ ∧ _; refine ⟨?_, ?_⟩) | (show keepK _ _ _ _ _; refine keepA ?_) | refine own_keep ?_ | refine ap_old ?_))
            all_goals (conv => whnf)
            all_goals exact ⟨j + 1, [], hjl, by omega, rfl, ⟨rfl, rfl, rfl, rfl, rfl, rfl, rfl, rfl, rfl, rfl, rfl, rfl, rfl, rfl, rfl, trivial⟩, ⟨by rw [hdj]; exact (by repeat (first | exact List.mem_cons_self | apply List.mem_cons_of_mem)), (by repeat (first | exact List.mem_cons_self | apply List.mem_cons_of_mem)), (by repeat (first | exact List.mem_cons_self | apply List.mem_cons_of_mem)), (by repeat (first | exact List.mem_cons_self | apply List.mem_cons_of_mem)), (by repeat (first | exact List.mem_cons_self | apply List.mem_cons_of_mem)), (by repeat (first | exact List.mem_cons_self | apply List.mem_cons_of_mem)), (by repeat (first | exact List.mem_cons_self | apply List.mem_cons_of_mem)), trivial⟩, fun R w' h => h⟩
          obtain rfl : j = row.length := by omega
          have hgk : gridK row.length ((row.map NodeV.data).take row.length) = row.map NodeV.data := by
            rw [List.take_of_length_le (by rw [List.length_map]; exact Nat.le_refl _)]
            unfold gridK
            rw [List.length_map, Nat.sub_self]; simp
          (repeat' ((conv => whnf) <;> first | (show drawK _ 28 _ _ _ _ _ _; refine draw_tree tabOk mixed [] [] dtNT1 (by kernel_rfl) (by kernel_rfl) (by kernel_rfl) (List.nil_sublist _) ?_) | (show keepK _ _ _ _ _; (first | refine keep_of (List.nil_sublist _) (fun _ _ h => h) ?_ | refine keep_of (List.nil_sublist _) (fun _ _ h => h.1) ?_)) | (show idxK _ _ _ _ _; refine idx_of sa i hsa rfl hula ?_) | (show roK _ _ _; (refine ro_row0 (fun R w' h => by rw [← hsa]; exact rowsA_in h.1.2.1) _ _ hrowU rfl ?_)) | (show callK _ 55 _ _ _ _ _; (refine call_past Try.call55 (fun x : IntsV × Bool => x.1.val) oldA (fun x => x.1.xs = numsP (gD (check g).2 i) (row.map NodeV.pl) (atV n (st.getD n.a.toNat 0) n.b).pl ∧ x.1.sane ∧ (x.2 = true → x.1 = (atV n (st.getD n.a.toNat 0) n.b).data)) (fun ρ w' hw => values_known hR hmM hkM ⟨(ρ 3).base, (ρ 3).cap, shs⟩ rfl ⟨rows_of_abs hw (by repeat (first | exact List.mem_cons_self | apply List.mem_cons_of_mem)), fun z hz => holds_of_abs hw fun R h => (shapes_okI hsv (by omega) h.1.2).each z (hshs z hz), by show shs.length ≤ 24; omega⟩ (holds_of_abs hw fun R h => mine_ok (N := 0) hP hMs h.1.1 (mine_old hPn rfl rfl rfl R w')) (holds_of_abs hw fun R h => row_ok hP hsn h.1.1 h.2) (ρ 6).base (ρ 6).cap (by have := rows_of_abs hw (i := 6) (by repeat (first | exact List.mem_cons_self | apply List.mem_cons_of_mem)); rw [hgk] at this; exact this)) (fun x hx => ?_))) | (show Wp _ _ _ _ _ _ _; refine Wp.go tabOk rfl ?_) | (show @cmpK _ _ _; (first | refine cmpY ?_ | refine cmpN ?_ | (refine cmp_both ?_ ?_ <;> intro _))) | (show wrapK _ _ _; refine wrapA ?_) | (show leK _ _ _; refine leA ?_) | (show roomK _ _ _; refine roomA ?_) | (show ltK _ _ _; refine ltA ?_) | (show _ ∧ _; refine ⟨?_, ?_⟩) | (show keepK _ _ _ _ _; refine keepA ?_) | refine own_keep ?_ | refine ap_old ?_))
          have hXs : (constN u x.1).saneN := constN_sane (hsv u hum) hx.2.1
          have hXp : foldP (gD (check g).2 i) (row.map NodeV.pl) (movedP st n.pl) = (constN u x.1).pl := by rw [← hMp, foldP, if_pos hkM, constN_pl hus hx.1]
          have hstep := step_lay hL hT hnp hcr hXp hus
          refine Wp.loop (σ := Nat × Int) 7 (fun ⟨j, f⟩ => [(1, .lp 0 0 0 0), (2, .lp 1 0 0 0), (6, .c sv.val), (8, .os 2 row.length), (9, .os 3 shs.length), (10, .os 4 st.length), (11, .c (.int .i64 i)), (12, .lp 5 0 0 0), (37, .c (.slice g.base g.l.length g.cap)), (38, .c (.int .i64 g.l.length)), (39, .c (.int .i64 i)), (19, .c (.int .i64 f)), (113, .os 2 row.length), (114, .c (.int .i64 row.length)), (115, .c (.int .i64 j))]) (fun _ => [(5, .box (cs (constN u x.1).cells) 38), (4, .rows (ints (stI st)) 1 3), (3, .rows (shRows shs) 1 33), (2, .rows (nodeRows row) 9 38), (1, .box [.c (.slice none 0 0), .c (.int .i64 0)] 26), (0, .box [.c (.slice g.base g.l.length g.cap), .c (.int .i64 g.out)] 26)]) (fun _ => (((baseA w).and ((shapesD sv).past w.heap.size)).and (rowA (srcG g) w.heap.size row)).and (mineA (srcG g) w.heap.size (constN u x.1)))
            (fun ⟨j, f⟩ => j ≤ row.length ∧ f = fndP (constN u x.1).pl (row.map NodeV.pl) j) (fun s => row.length - s.1) (0, -1) [] (by decide) (fun s => ⟨rfl, rfl⟩) ⟨Nat.zero_le _, (fnd_zero _ _).symm⟩ ⟨rfl, ⟨rfl, rfl, rfl, rfl, rfl, rfl, rfl, rfl, rfl, rfl, rfl, rfl, rfl, rfl, rfl, trivial⟩, ⟨(by repeat (first | exact List.mem_cons_self | apply List.mem_cons_of_mem)), (by repeat (first | exact List.mem_cons_self | apply List.mem_cons_of_mem)), (by repeat (first | exact List.mem_cons_self | apply List.mem_cons_of_mem)), (by repeat (first | exact List.mem_cons_self | apply List.mem_cons_of_mem)), (by repeat (first | exact List.mem_cons_self | apply List.mem_cons_of_mem)), (by repeat (first | exact List.mem_cons_self | apply List.mem_cons_of_mem)), trivial⟩, fun R w' h => ⟨h.1, mine_const hPn.2.1 (.inl rfl) hum hx.2.2 h.1.1.2 h.2⟩⟩ ?_
          rintro ⟨j, f⟩ ⟨hj, hf⟩
          by_cases hjl : j < row.length
          · have hrowJ := nodeRows_get hjl
            have hxm := List.getElem_mem hjl
            have hxp : (row.map NodeV.pl)[j]? = some row[j].pl := by rw [List.getElem?_map, List.getElem?_eq_getElem hjl]; rfl
            generalize row[j] = y at *
            have h1 : ¬ (constN u x.1).kind = 1 := fun h => absurd (show (2 : Int) = 1 from h) (by decide)
            (repeat' ((conv => whnf) <;> first | (show idxRowK _ _ _ _ _ _; refine idxRow_of j rfl hjl (Nat.le_of_eq (nodeRows_length row).symm) ?_) | (show rowAggK _ _ _ _ _; refine rowAgg_of _ _ hrowJ rfl rfl ?_) | (show ltK _ _ _; (refine lt_of (by first | omega | (rw [nodeRows_length]; omega) | (rw [shRows_length, gridK_length (by omega)]; omega)) ?_)) | (show callK _ 56 _ _ _ _ _; ((refine call_bool (f := 56) Try.call56 (sameP y.pl (constN u x.1).pl) (fun ρ w' hw => sameNode_any w' y (constN u x.1) (holds_of_abs hw fun R h => row_ok hP hsn h.1.1.1 h.1.2 y hxm) (holds_of_abs hw fun R h => mine_ok hP hXs h.1.1.1 h.2)) ?_ ?_ <;> intro hsm))) | (show drawK _ 28 _ _ _ _ _ _; refine draw_tree tabOk mixed [9] _ dtIF2 (by kernel_rfl) (by kernel_rfl) (by kernel_rfl) (List.Sublist.refl _) ?_) | (show Wp _ _ _ _ _ _ _; refine Wp.go tabOk rfl ?_) | (show @cmpK _ _ _; (first | refine cmpY ?_ | refine cmpN ?_ | (refine cmp_both ?_ ?_ <;> intro _))) | (show wrapK _ _ _; refine wrapA ?_) | (show leK _ _ _; refine leA ?_) | (show roomK _ _ _; refine roomA ?_) | (show ltK _ _ _; refine ltA ?_) | (show _ ∧ _; refine ⟨?_, ?_⟩) | (show keepK _ _ _ _ _; refine keepA ?_) | refine own_keep ?_ | refine ap_old ?_))
            all_goals (conv => whnf)
            all_goals first | exact ⟨(j + 1, f), [], ⟨hjl, fnd_keep hxp hf (by first | (left; omega) | (right; left; omega) | (right; right; assumption))⟩, by simp only; omega, rfl, ⟨rfl, rfl, rfl, rfl, rfl, rfl, rfl, rfl, rfl, rfl, rfl, rfl, rfl, rfl, rfl, trivial⟩, ⟨(by repeat (first | exact List.mem_cons_self | apply List.mem_cons_of_mem)), (by repeat (first | exact List.mem_cons_self | apply List.mem_cons_of_mem)), (by repeat (first | exact List.mem_cons_self | apply List.mem_cons_of_mem)), (by repeat (first | exact List.mem_cons_self | apply List.mem_cons_of_mem)), (by repeat (first | exact List.mem_cons_self | apply List.mem_cons_of_mem)), (by repeat (first | exact List.mem_cons_self | apply List.mem_cons_of_mem)), trivial⟩, fun R w' h => h⟩ | exact ⟨(j + 1, (j : Int)), [], ⟨hjl, fnd_here hxp hf (by omega) (by omega) (by assumption)⟩, by simp only; omega, rfl, ⟨rfl, rfl, rfl, rfl, rfl, rfl, rfl, rfl, rfl, rfl, rfl, rfl, rfl, rfl, rfl, trivial⟩, ⟨(by repeat (first | exact List.mem_cons_self | apply List.mem_cons_of_mem)), (by repeat (first | exact List.mem_cons_self | apply List.mem_cons_of_mem)), (by repeat (first | exact List.mem_cons_self | apply List.mem_cons_of_mem)), (by repeat (first | exact List.mem_cons_self | apply List.mem_cons_of_mem)), (by repeat (first | exact List.mem_cons_self | apply List.mem_cons_of_mem)), (by repeat (first | exact List.mem_cons_self | apply List.mem_cons_of_mem)), trivial⟩, fun R w' h => h⟩
          · obtain rfl : j = row.length := by omega
            rw [fnd_end (by rw [List.length_map])] at hf
            obtain ⟨q, hq⟩ : ∃ q, (match findP (row.map NodeV.pl) (constN u x.1).pl with | some k => k | none => row.length) = q := ⟨_, rfl⟩
            cases hfd : findP (row.map NodeV.pl) (constN u x.1).pl
            all_goals (rw [hfd] at hf hq; dsimp only at hf hq; have hq := hq.symm; subst hf hq)
            all_goals
              (repeat' ((conv => whnf) <;> first | (show idxK _ _ _ _ _; refine idx_of sa i hsa rfl hula ?_) | (show roK _ _ _; (refine ro_row0 (fun R w' h => by rw [← hsa]; exact rowsA_in h.1.1.2.1) _ _ hrowU rfl ?_)) | (show leK _ _ _; (first | refine le_of (by rw [nodeRows_length]; exact Nat.le_refl _) ?_ | refine le_of (by rw [shRows_length]; exact Nat.le_refl _) ?_ | refine le_of (by rw [stI_length]; exact Nat.le_refl _) ?_)) | (show roomK _ _ _; (first | refine room_of (by show (row.length + 1) * 120 ≤ 140737488355328; omega) ?_ | refine room_of (by show (shs.length + 1) * 24 ≤ 140737488355328; omega) ?_ | refine room_of (by show (st.length + 1) * 8 ≤ 140737488355328; omega) ?_)) | (show ownK _ ((_, .rows (List.take row.length _ ++ _) _ _) :: _) _ _ _; refine own_eq (ys := nodeRows (row ++ [(constN u x.1)])) (m := (row ++ [(constN u x.1)]).length) ?_ (nodes_snoc row (constN u x.1)) (by show row.length + 1 = _; rw [List.length_append]; rfl)) | (show ownK _ ((_, .rows (List.take shs.length _ ++ _) _ _) :: _) _ _ _; refine own_eq (ys := shRows (shs ++ [u])) (m := (shs ++ [u]).length) ?_ (shapes_snoc shs u) (by show shs.length + 1 = _; rw [List.length_append]; rfl)) | (show ownK _ ((_, .rows (List.take st.length _ ++ _) _ _) :: _) _ _ _; first | refine own_eq (ys := ints (stI (st ++ [row.length]))) (m := (st ++ [row.length]).length) ?_ (stI_snoc st row.length) (by show st.length + 1 = _; rw [List.length_append]; rfl) | refine own_eq (ys := ints (stI (st ++ [q]))) (m := (st ++ [q]).length) ?_ (stI_snoc st q) (by show st.length + 1 = _; rw [List.length_append]; rfl)) | (show drawK _ 28 _ _ _ _ _ _; refine draw_tree tabOk mixed [9] _ dtIF2 (by kernel_rfl) (by kernel_rfl) (by kernel_rfl) (List.Sublist.refl _) ?_) | (show Wp _ _ _ _ _ _ _; refine Wp.go tabOk rfl ?_) | (show @cmpK _ _ _; (first | refine cmpY ?_ | refine cmpN ?_ | (refine cmp_both ?_ ?_ <;> intro _))) | (show wrapK _ _ _; refine wrapA ?_) | (show leK _ _ _; refine leA ?_) | (show roomK _ _ _; refine roomA ?_) | (show ltK _ _ _; refine ltA ?_) | (show _ ∧ _; refine ⟨?_, ?_⟩) | (show keepK _ _ _ _ _; refine keepA ?_) | refine own_keep ?_ | refine ap_old ?_))
            all_goals (conv => whnf)
            all_goals first | exact ⟨(i + 1, row, shs, st ++ [q]), [(4, some 8)], ⟨hlt, hsn, hshs, hstep.1 q hfd, hcr⟩, by simp only; omega, rfl, ⟨rfl, rfl, rfl, rfl, rfl, rfl, rfl, rfl, rfl, trivial⟩, ⟨(by repeat (first | exact List.mem_cons_self | apply List.mem_cons_of_mem)), (by repeat (first | exact List.mem_cons_self | apply List.mem_cons_of_mem)), (by repeat (first | exact List.mem_cons_self | apply List.mem_cons_of_mem)), (by repeat (first | exact List.mem_cons_self | apply List.mem_cons_of_mem)), (by repeat (first | exact List.mem_cons_self | apply List.mem_cons_of_mem)), trivial⟩, fun R w' h => h.1⟩ | exact ⟨(i + 1, row ++ [(constN u x.1)], shs ++ [u], st ++ [row.length]), [(2, some 8), (3, some 10), (4, some 12)], ⟨hlt, sane_snoc hsn hXs, in_snoc hshs hum, (hstep.2 hfd).1, (hstep.2 hfd).2⟩, by simp only; omega, rfl, ⟨rfl, rfl, rfl, rfl, rfl, rfl, rfl, rfl, rfl, trivial⟩, ⟨(by repeat (first | exact List.mem_cons_self | apply List.mem_cons_of_mem)), (by repeat (first | exact List.mem_cons_self | apply List.mem_cons_of_mem)), (by repeat (first | exact List.mem_cons_self | apply List.mem_cons_of_mem)), (by repeat (first | exact List.mem_cons_self | apply List.mem_cons_of_mem)), (by repeat (first | exact List.mem_cons_self | apply List.mem_cons_of_mem)), trivial⟩, fun R w' h => ⟨h.1.1, rowA_snoc h.1.2 h.2⟩⟩
        · have hkM : knownP (row.map NodeV.pl) (atV n (st.getD n.a.toNat 0) n.b).pl = false := by
            unfold knownP constAt
            show (!decide (n.kind = 1 ∨ n.kind = 2) && decide (((row.map NodeV.pl).getD (st.getD n.a.toNat 0) nilP).kind = 2) && _) = false
            rw [hkAp, decide_eq_false hkA, Bool.and_false, Bool.false_and]
          (repeat' ((conv => whnf) <;> first | (show idxK _ _ _ _ _; refine idx_of a i ha rfl hlt ?_) | (show roAggK _ _ _ _; (refine roAgg_row (fun R w' h => by rw [← ha]; exact rows_base h.1.1 hg.rows) _ hrow rfl ?_)) | (show callK _ 54 _ _ _ _ _; refine call_takesL n 1 rfl ht Try.call54 (fun ρ w' hw => takes_any w' n hno.aFits hno.bFits) (fun u1 hu1 hul1 hus1 => ?_)) | (show drawK _ 28 _ _ _ _ _ _; refine draw_tree tabOk mixed [9] _ dtIF2 (by kernel_rfl) (by kernel_rfl) (by kernel_rfl) (List.Sublist.refl _) ?_) | (show Wp _ _ _ _ _ _ _; refine Wp.go tabOk rfl ?_) | (show @cmpK _ _ _; (first | refine cmpY ?_ | refine cmpN ?_ | (refine cmp_both ?_ ?_ <;> intro _))) | (show wrapK _ _ _; refine wrapA ?_) | (show leK _ _ _; refine leA ?_) | (show roomK _ _ _; refine roomA ?_) | (show ltK _ _ _; refine ltA ?_) | (show _ ∧ _; refine ⟨?_, ?_⟩) | (show keepK _ _ _ _ _; refine keepA ?_) | refine own_keep ?_ | refine ap_old ?_))
          refine Wp.know (p := ∃ a, u1.base = some a) (fun ρ w' hw => holds_of_abs hw fun R h => base_some (j := 0) (rowsA_in ((intsA u1).mono h.2 (fun b hb => hb.1))) (by rw [ints_length, hul1]; omega)) ?_
          rintro ⟨ua, hua⟩
          have hu0 : (ints u1.xs)[0]? = some [.int .i64 n.a] := by rw [hu1]; rfl
          refine Wp.rounds 4 ?_
          (repeat' ((conv => whnf) <;> first | (show ltK _ _ _; (refine lt_of (by first | omega | (rw [nodeRows_length]; omega)) ?_)) | (show idxK _ _ _ _ _; refine idx_of ua 0 hua rfl (by omega) ?_) | (show roK _ _ _; (refine ro_row0 (fun R w' h => by rw [← hua]; exact rowsA_in ((intsA u1).mono h.2 (fun b hb => hb.1))) _ _ hu0 rfl ?_)) | (show idxRowK _ _ _ _ _ _; (first | refine idxRow_of n.a.toNat (by omega) haL (Nat.le_of_eq (stI_length st).symm) ?_ | refine idxRow_of (st.getD n.a.toNat 0) rfl hkaL (Nat.le_of_eq (nodeRows_length row).symm) ?_)) | (show rowK _ _ _ _; (first | refine row_of _ _ hstA rfl ?_ | refine row_of _ _ hrowA rfl ?_)) | (show callK _ 54 _ _ _ _ _; refine call_takesL n 1 rfl ht Try.call54 (fun ρ w' hw => takes_any w' n hno.aFits hno.bFits) (fun u1 hu1 hul1 hus1 => ?_)) | (show makeK _ _ _ _; (refine make_of row.length rfl rfl (by show 24 * row.length ≤ _; omega) (by omega) ?_)) | (show ownK _ ((_, .rows (List.replicate _ [.slice none 0 0]) _ _) :: _) _ _ _; refine own_eq (ys := shRows (gridK row.length [])) (m := row.length) ?_ (by simp [gridK, shRows, nilI, IntsV.val]) rfl) | (show drawK _ 28 _ _ _ _ _ _; refine draw_tree tabOk mixed [9] _ dtIF2 (by kernel_rfl) (by kernel_rfl) (by kernel_rfl) (List.Sublist.refl _) ?_) | (show Wp _ _ _ _ _ _ _; refine Wp.go tabOk rfl ?_) | (show @cmpK _ _ _; (first | refine cmpY ?_ | refine cmpN ?_ | (refine cmp_both ?_ ?_ <;> intro _))) | (show wrapK _ _ _; refine wrapA ?_) | (show leK _ _ _; refine leA ?_) | (show roomK _ _ _; refine roomA ?_) | (show ltK _ _ _; refine ltA ?_) | (show _ ∧ _; refine ⟨?_, ?_⟩) | (show keepK _ _ _ _ _; refine keepA ?_) | refine own_keep ?_ | refine ap_old ?_))
          have hXs := hMs
          have hXp : foldP (gD (check g).2 i) (row.map NodeV.pl) (movedP st n.pl) = (atV n (st.getD n.a.toNat 0) n.b).pl := by rw [← hMp, foldP, if_neg (by rw [hkM]; decide)]
          have hstep := step_lay hL hT hnp hcr hXp hus
          refine Wp.loop (σ := Nat × Int) 7 (fun ⟨j, f⟩ => [(1, .lp 0 0 0 0), (2, .lp 1 0 0 0), (6, .c sv.val), (8, .os 2 row.length), (9, .os 3 shs.length), (10, .os 4 st.length), (11, .c (.int .i64 i)), (12, .lp 5 0 0 0), (37, .c (.slice g.base g.l.length g.cap)), (38, .c (.int .i64 g.l.length)), (39, .c (.int .i64 i)), (19, .c (.int .i64 f)), (113, .os 2 row.length), (114, .c (.int .i64 row.length)), (115, .c (.int .i64 j))]) (fun _ => [(5, .box (cs (atV n (st.getD n.a.toNat 0) n.b).cells) 38), (4, .rows (ints (stI st)) 1 3), (3, .rows (shRows shs) 1 33), (2, .rows (nodeRows row) 9 38), (1, .box [.c (.slice none 0 0), .c (.int .i64 0)] 26), (0, .box [.c (.slice g.base g.l.length g.cap), .c (.int .i64 g.out)] 26)]) (fun _ => (((baseA w).and ((shapesD sv).past w.heap.size)).and (rowA (srcG g) w.heap.size row)).and (mineA (srcG g) w.heap.size (atV n (st.getD n.a.toNat 0) n.b)))
            (fun ⟨j, f⟩ => j ≤ row.length ∧ f = fndP (atV n (st.getD n.a.toNat 0) n.b).pl (row.map NodeV.pl) j) (fun s => row.length - s.1) (0, -1) [] (by decide) (fun s => ⟨rfl, rfl⟩) ⟨Nat.zero_le _, (fnd_zero _ _).symm⟩ ⟨rfl, ⟨rfl, rfl, rfl, rfl, rfl, rfl, rfl, rfl, rfl, rfl, rfl, rfl, rfl, rfl, rfl, trivial⟩, ⟨(by repeat (first | exact List.mem_cons_self | apply List.mem_cons_of_mem)), (by repeat (first | exact List.mem_cons_self | apply List.mem_cons_of_mem)), (by repeat (first | exact List.mem_cons_self | apply List.mem_cons_of_mem)), (by repeat (first | exact List.mem_cons_self | apply List.mem_cons_of_mem)), (by repeat (first | exact List.mem_cons_self | apply List.mem_cons_of_mem)), (by repeat (first | exact List.mem_cons_self | apply List.mem_cons_of_mem)), trivial⟩, fun R w' h => ⟨h.1.1.1, mine_old hPn rfl rfl rfl R w'⟩⟩ ?_
          rintro ⟨j, f⟩ ⟨hj, hf⟩
          by_cases hjl : j < row.length
          · have hrowJ := nodeRows_get hjl
            have hxm := List.getElem_mem hjl
            have hxp : (row.map NodeV.pl)[j]? = some row[j].pl := by rw [List.getElem?_map, List.getElem?_eq_getElem hjl]; rfl
            generalize row[j] = y at *
            (repeat' ((conv => whnf) <;> first | (show idxRowK _ _ _ _ _ _; refine idxRow_of j rfl hjl (Nat.le_of_eq (nodeRows_length row).symm) ?_) | (show rowAggK _ _ _ _ _; refine rowAgg_of _ _ hrowJ rfl rfl ?_) | (show ltK _ _ _; (refine lt_of (by first | omega | (rw [nodeRows_length]; omega) | (rw [shRows_length, gridK_length (by omega)]; omega)) ?_)) | (show callK _ 56 _ _ _ _ _; ((refine call_bool (f := 56) Try.call56 (sameP y.pl (atV n (st.getD n.a.toNat 0) n.b).pl) (fun ρ w' hw => sameNode_any w' y (atV n (st.getD n.a.toNat 0) n.b) (holds_of_abs hw fun R h => row_ok hP hsn h.1.1.1 h.1.2 y hxm) (holds_of_abs hw fun R h => mine_ok hP hXs h.1.1.1 h.2)) ?_ ?_ <;> intro hsm))) | (show drawK _ 28 _ _ _ _ _ _; refine draw_tree tabOk mixed [9] _ dtIF2 (by kernel_rfl) (by kernel_rfl) (by kernel_rfl) (List.Sublist.refl _) ?_) | (show Wp _ _ _ _ _ _ _; refine Wp.go tabOk rfl ?_) | (show @cmpK _ _ _; (first | refine cmpY ?_ | refine cmpN ?_ | (refine cmp_both ?_ ?_ <;> intro _))) | (show wrapK _ _ _; refine wrapA ?_) | (show leK _ _ _; refine leA ?_) | (show roomK _ _ _; refine roomA ?_) | (show ltK _ _ _; refine ltA ?_) | (show _ ∧ _; refine ⟨?_, ?_⟩) | (show keepK _ _ _ _ _; refine keepA ?_) | refine own_keep ?_ | refine ap_old ?_))
            all_goals (conv => whnf)
            all_goals first | exact ⟨(j + 1, f), [], ⟨hjl, fnd_keep hxp hf (by first | (left; omega) | (right; left; omega) | (right; right; assumption))⟩, by simp only; omega, rfl, ⟨rfl, rfl, rfl, rfl, rfl, rfl, rfl, rfl, rfl, rfl, rfl, rfl, rfl, rfl, rfl, trivial⟩, ⟨(by repeat (first | exact List.mem_cons_self | apply List.mem_cons_of_mem)), (by repeat (first | exact List.mem_cons_self | apply List.mem_cons_of_mem)), (by repeat (first | exact List.mem_cons_self | apply List.mem_cons_of_mem)), (by repeat (first | exact List.mem_cons_self | apply List.mem_cons_of_mem)), (by repeat (first | exact List.mem_cons_self | apply List.mem_cons_of_mem)), (by repeat (first | exact List.mem_cons_self | apply List.mem_cons_of_mem)), trivial⟩, fun R w' h => h⟩ | exact ⟨(j + 1, (j : Int)), [], ⟨hjl, fnd_here hxp hf (by omega) (by omega) (by assumption)⟩, by simp only; omega, rfl, ⟨rfl, rfl, rfl, rfl, rfl, rfl, rfl, rfl, rfl, rfl, rfl, rfl, rfl, rfl, rfl, trivial⟩, ⟨(by repeat (first | exact List.mem_cons_self | apply List.mem_cons_of_mem)), (by repeat (first | exact List.mem_cons_self | apply List.mem_cons_of_mem)), (by repeat (first | exact List.mem_cons_self | apply List.mem_cons_of_mem)), (by repeat (first | exact List.mem_cons_self | apply List.mem_cons_of_mem)), (by repeat (first | exact List.mem_cons_self | apply List.mem_cons_of_mem)), (by repeat (first | exact List.mem_cons_self | apply List.mem_cons_of_mem)), trivial⟩, fun R w' h => h⟩
          · obtain rfl : j = row.length := by omega
            rw [fnd_end (by rw [List.length_map])] at hf
            obtain ⟨q, hq⟩ : ∃ q, (match findP (row.map NodeV.pl) (atV n (st.getD n.a.toNat 0) n.b).pl with | some k => k | none => row.length) = q := ⟨_, rfl⟩
            cases hfd : findP (row.map NodeV.pl) (atV n (st.getD n.a.toNat 0) n.b).pl
            all_goals (rw [hfd] at hf hq; dsimp only at hf hq; have hq := hq.symm; subst hf hq)
            all_goals
              (repeat' ((conv => whnf) <;> first | (show idxK _ _ _ _ _; refine idx_of sa i hsa rfl hula ?_) | (show roK _ _ _; (refine ro_row0 (fun R w' h => by rw [← hsa]; exact rowsA_in h.1.1.2.1) _ _ hrowU rfl ?_)) | (show leK _ _ _; (first | refine le_of (by rw [nodeRows_length]; exact Nat.le_refl _) ?_ | refine le_of (by rw [shRows_length]; exact Nat.le_refl _) ?_ | refine le_of (by rw [stI_length]; exact Nat.le_refl _) ?_)) | (show roomK _ _ _; (first | refine room_of (by show (row.length + 1) * 120 ≤ 140737488355328; omega) ?_ | refine room_of (by show (shs.length + 1) * 24 ≤ 140737488355328; omega) ?_ | refine room_of (by show (st.length + 1) * 8 ≤ 140737488355328; omega) ?_)) | (show ownK _ ((_, .rows (List.take row.length _ ++ _) _ _) :: _) _ _ _; refine own_eq (ys := nodeRows (row ++ [(atV n (st.getD n.a.toNat 0) n.b)])) (m := (row ++ [(atV n (st.getD n.a.toNat 0) n.b)]).length) ?_ (nodes_snoc row (atV n (st.getD n.a.toNat 0) n.b)) (by show row.length + 1 = _; rw [List.length_append]; rfl)) | (show ownK _ ((_, .rows (List.take shs.length _ ++ _) _ _) :: _) _ _ _; refine own_eq (ys := shRows (shs ++ [u])) (m := (shs ++ [u]).length) ?_ (shapes_snoc shs u) (by show shs.length + 1 = _; rw [List.length_append]; rfl)) | (show ownK _ ((_, .rows (List.take st.length _ ++ _) _ _) :: _) _ _ _; first | refine own_eq (ys := ints (stI (st ++ [row.length]))) (m := (st ++ [row.length]).length) ?_ (stI_snoc st row.length) (by show st.length + 1 = _; rw [List.length_append]; rfl) | refine own_eq (ys := ints (stI (st ++ [q]))) (m := (st ++ [q]).length) ?_ (stI_snoc st q) (by show st.length + 1 = _; rw [List.length_append]; rfl)) | (show drawK _ 28 _ _ _ _ _ _; refine draw_tree tabOk mixed [9] _ dtIF2 (by kernel_rfl) (by kernel_rfl) (by kernel_rfl) (List.Sublist.refl _) ?_) | (show Wp _ _ _ _ _ _ _; refine Wp.go tabOk rfl ?_) | (show @cmpK _ _ _; (first | refine cmpY ?_ | refine cmpN ?_ | (refine cmp_both ?_ ?_ <;> intro _))) | (show wrapK _ _ _; refine wrapA ?_) | (show leK _ _ _; refine leA ?_) | (show roomK _ _ _; refine roomA ?_) | (show ltK _ _ _; refine ltA ?_) | (show _ ∧ _; refine ⟨?_, ?_⟩) | (show keepK _ _ _ _ _; refine keepA ?_) | refine own_keep ?_ | refine ap_old ?_))
            all_goals (conv => whnf)
            all_goals first | exact ⟨(i + 1, row, shs, st ++ [q]), [(4, some 8)], ⟨hlt, hsn, hshs, hstep.1 q hfd, hcr⟩, by simp only; omega, rfl, ⟨rfl, rfl, rfl, rfl, rfl, rfl, rfl, rfl, rfl, trivial⟩, ⟨(by repeat (first | exact List.mem_cons_self | apply List.mem_cons_of_mem)), (by repeat (first | exact List.mem_cons_self | apply List.mem_cons_of_mem)), (by repeat (first | exact List.mem_cons_self | apply List.mem_cons_of_mem)), (by repeat (first | exact List.mem_cons_self | apply List.mem_cons_of_mem)), (by repeat (first | exact List.mem_cons_self | apply List.mem_cons_of_mem)), trivial⟩, fun R w' h => h.1⟩ | exact ⟨(i + 1, row ++ [(atV n (st.getD n.a.toNat 0) n.b)], shs ++ [u], st ++ [row.length]), [(2, some 8), (3, some 10), (4, some 12)], ⟨hlt, sane_snoc hsn hXs, in_snoc hshs hum, (hstep.2 hfd).1, (hstep.2 hfd).2⟩, by simp only; omega, rfl, ⟨rfl, rfl, rfl, rfl, rfl, rfl, rfl, rfl, rfl, trivial⟩, ⟨(by repeat (first | exact List.mem_cons_self | apply List.mem_cons_of_mem)), (by repeat (first | exact List.mem_cons_self | apply List.mem_cons_of_mem)), (by repeat (first | exact List.mem_cons_self | apply List.mem_cons_of_mem)), (by repeat (first | exact List.mem_cons_self | apply List.mem_cons_of_mem)), (by repeat (first | exact List.mem_cons_self | apply List.mem_cons_of_mem)), trivial⟩, fun R w' h => ⟨h.1.1, rowA_snoc h.1.2 h.2⟩⟩
  · obtain rfl : i = g.l.length := by omega
    have hdone : tidyL (g.l.map NodeV.pl) (check g).2 ([], []) = (row.map NodeV.pl, st) := by
      have e : (g.l.map NodeV.pl).length = g.l.length := List.length_map _
      rw [← e] at hT
      exact hT.done
    have hstl := hT.len
    have hkl := hT.few
    rw [List.length_map] at hkl
    obtain ⟨rsh, rsp, hR, hS⟩ := hT.ok
    have hoL : g.out.toNat < st.length := by omega
    have hoK : st.getD g.out.toNat 0 < row.length := by have := hS.lt _ hoL; rwa [hR.lenS, List.length_map] at this
    have hx : tidyP (g.l.map NodeV.pl) (check g).2 g.out.toNat = ((cutL (needB (row.map NodeV.pl) (st.getD g.out.toNat 0)) (row.map NodeV.pl) 0 ([], [])).1, (cutL (needB (row.map NodeV.pl) (st.getD g.out.toNat 0)) (row.map NodeV.pl) 0 ([], [])).2.getD (st.getD g.out.toNat 0) 0) := by unfold tidyP; rw [hdone]
    have hoR : (ints (stI st))[g.out.toNat]? = some [.int .i64 (st.getD g.out.toNat 0)] := stI_get hoL
    generalize st.getD g.out.toNat 0 = out at *
    generalize hfin : cutL (needB (row.map NodeV.pl) out) (row.map NodeV.pl) 0 ([], []) = fin at *
    (repeat' ((conv => whnf) <;> first | (show idxRowK _ _ _ _ _ _; refine idxRow_of g.out.toNat (by omega) hoL (Nat.le_of_eq (stI_length st).symm) ?_) | (show rowK _ _ _ _; refine row_of _ _ hoR rfl ?_) | (show callK _ 57 _ _ _ _ _; (refine call_cut18 (row := row) (x := fin) (out := out) Try.call57 (fun ρ w' hw => by have := cut_any w' (ρ 2).base (ρ 2).cap row (rows_of_abs hw (by repeat (first | exact List.mem_cons_self | apply List.mem_cons_of_mem))) hsn hR (by omega) out hoK; rw [hfin] at this; exact this) (fun l base cap q1 q2 q3 q4 => ?_))) | (show drawK _ 28 _ _ _ _ _ _; refine draw_tree tabOk mixed [9] _ dtIF2 (by kernel_rfl) (by kernel_rfl) (by kernel_rfl) (List.Sublist.refl _) ?_) | (show Wp _ _ _ _ _ _ _; refine Wp.go tabOk rfl ?_) | (show @cmpK _ _ _; (first | refine cmpY ?_ | refine cmpN ?_ | (refine cmp_both ?_ ?_ <;> intro _))) | (show wrapK _ _ _; refine wrapA ?_) | (show leK _ _ _; refine leA ?_) | (show roomK _ _ _; refine roomA ?_) | (show ltK _ _ _; refine ltA ?_) | (show _ ∧ _; refine ⟨?_, ?_⟩) | (show keepK _ _ _ _ _; refine keepA ?_) | refine own_keep ?_ | refine ap_old ?_))
    all_goals (conv => whnf)
    all_goals exact ref18_end rfl (fun R w' h => h.1.1.1) (fun R w' h => h.1.2) (fun R w' h => h.2) q2 q3 (by omega) hsp (by rw [hx, ← q1])
end Go.Proofs.Ytdmkdogakbipbaa

/- NU -/
namespace Go.Proofs.Ytdmkdogakbipbaa
abbrev dtNU0 : Go.SX.DT := (.take 1 (.take 2 (.take 5 (.take 6 (.take 9 (.take 10 (.alt 0 (.alt 3 (.take 12 (.alt 4 (.alt 7 (.one 8 (.one 11 (.one 13 (.one 14 (.one 15 (.one 16 (.one 17 (.done)))))))) (.one 8 (.one 7 (.one 11 (.one 13 (.one 14 (.one 15 (.one 16 (.one 17 (.done)))))))))) (.one 8 (.one 4 (.one 7 (.one 11 (.one 13 (.one 14 (.one 15 (.one 16 (.one 17 (.done)))))))))))) (.alt 4 (.alt 3 (.take 12 (.alt 7 (.one 8 (.one 11 (.one 13 (.one 14 (.one 15 (.one 16 (.one 17 (.done)))))))) (.one 8 (.one 7 (.one 11 (.one 13 (.one 14 (.one 15 (.one 16 (.one 17 (.done))))))))))) (.one 8 (.one 3 (.take 12 (.one 7 (.one 11 (.one 13 (.one 14 (.one 15 (.one 16 (.one 17 (.done)))))))))))) (.one 8 (.alt 3 (.take 12 (.one 4 (.one 7 (.one 11 (.one 13 (.one 14 (.one 15 (.one 16 (.one 17 (.done)))))))))) (.one 4 (.one 3 (.take 12 (.one 7 (.one 11 (.one 13 (.one 14 (.one 15 (.one 16 (.one 17 (.done))))))))))))))) (.alt 4 (.alt 0 (.alt 3 (.take 12 (.alt 7 (.one 8 (.one 11 (.one 13 (.one 14 (.one 15 (.one 16 (.one 17 (.done)))))))) (.one 8 (.one 7 (.one 11 (.one 13 (.one 14 (.one 15 (.one 16 (.one 17 (.done))))))))))) (.one 8 (.one 3 (.take 12 (.one 7 (.one 11 (.one 13 (.one 14 (.one 15 (.one 16 (.one 17 (.done)))))))))))) (.one 8 (.one 0 (.one 3 (.take 12 (.one 7 (.one 11 (.one 13 (.one 14 (.one 15 (.one 16 (.one 17 (.done))))))))))))) (.one 8 (.alt 0 (.alt 3 (.take 12 (.one 4 (.one 7 (.one 11 (.one 13 (.one 14 (.one 15 (.one 16 (.one 17 (.done)))))))))) (.one 4 (.one 3 (.take 12 (.one 7 (.one 11 (.one 13 (.one 14 (.one 15 (.one 16 (.one 17 (.done)))))))))))) (.one 4 (.one 0 (.one 3 (.take 12 (.one 7 (.one 11 (.one 13 (.one 14 (.one 15 (.one 16 (.one 17 (.done))))))))))))))))))))))
open Go.SX Go.RowKit
def freshA (l : List NodeV) : Asn where
  holds R w := ∀ n ∈ l, (intsA n.shape).holds R w ∧ (intsA n.data).holds R w ∧ (intsA n.bias).holds R w
  stable := fun hR hw h n hn => ⟨(intsA n.shape).stable hR hw (h n hn).1, (intsA n.data).stable hR hw (h n hn).2.1, (intsA n.bias).stable hR hw (h n hn).2.2⟩
theorem fresh_nil {N : Nat} {R : Nat → Prop} {w : World} : ((freshA []).past N).holds R w := fun n hn => by simp at hn
theorem fresh_snoc {N : Nat} {R : Nat → Prop} {w : World} {l : List NodeV} {n : NodeV} {u1 u2 u3 : IntsV} (h : ((freshA l).past N).holds R w) (h1 : ((intsA u1).past N).holds R w) (h2 : ((intsA u2).past N).holds R w) (h3 : ((intsA u3).past N).holds R w) : ((freshA (l ++ [cloneV n u1 u2 u3])).past N).holds R w := fun m hm => by
  rcases List.mem_append.1 hm with hm | hm
  · exact h m hm
  · rw [List.mem_singleton.1 hm]; exact ⟨h1, h2, h3⟩
theorem fresh_ok {R : Nat → Prop} {w : World} {l : List NodeV} (hs : ∀ n ∈ l, n.saneN) (h : (freshA l).holds R w) : ∀ n ∈ l, n.ok w := fun n hn =>
  ⟨intsA_ok (hs n hn).shape (h n hn).1, intsA_ok (hs n hn).data (h n hn).2.1, intsA_ok (hs n hn).bias (h n hn).2.2, (hs n hn).kindFits, (hs n hn).aFits, (hs n hn).bFits, (hs n hn).loFits, (hs n hn).hiFits, (hs n hn).sizeFits⟩
theorem src_val {u : IntsV} {H : Heap} {S : Asn} {K : List (List Value) → Prop} (hS : ∀ R w, S.holds R w → RowsI w u.base 1 (ints u.xs)) (h0 : u.base = none → u.xs = []) (h : K (ints u.xs)) : srcK 1 (.c u.val) H S K := by
  obtain ⟨b, c, xs⟩ := u
  cases b with
  | none =>
    obtain rfl : xs = [] := h0 rfl
    exact h
  | some a => exact roRows_in (ints_length xs) hS ints_row h
theorem src_os {size j m : Nat} {H : Heap} {S : Asn} {K : List (List Value) → Prop} (h : findK j (fun e => match e with | .rows ys k _ => bif Nat.beq k size then leK m ys.length (K (ys.take m)) else False | _ => False) H) : srcK size (.os j m) H S K := h
theorem nil_none {u : IntsV} {w : World} (h : u.ok w) (e : u.base = none) : u.xs = [] := by
  rcases Nat.eq_zero_or_pos u.xs.length with h0 | h0
  · exact List.eq_nil_of_length_eq_zero h0
  · obtain ⟨a, ha⟩ := base_some (j := 0) h.rows (by rw [ints_length]; exact h0)
    rw [e] at ha; cases ha
attribute [local irreducible] srcK
theorem freeze_ints {i m : Nat} {xs : List Int} {T : TypeId} {H : Heap} {S : Asn} {nx : Nat} {K : SV → Heap → Asn → Nat → Prop} (N : Nat) (hN : ∀ R w, S.holds R w → ∀ b, b < N → R b) (hm : m = xs.length) (hf : ∀ x ∈ xs, i64 x) (hl : xs.length ≤ 1000000) (h : ∀ u : IntsV, u.xs = xs → u.sane → K (.c u.val) H (S.and ((intsA u).past N)) nx) : ownK (.os i m) ((i, .rows ([] ++ ints xs) 1 T) :: H) S nx K := by
  subst hm
  refine own_freeze N hN (fun l hl2 => ?_)
  exact h ⟨l.base, l.cap, xs⟩ rfl ⟨hf, by simpa [ints_length] using hl2, hl⟩
def CopiedPost (w : World) (g : GraphV) (e : Ending) (w' : World) : Prop :=
  ∃ (l : List NodeV) (base : Option Addr) (cap : Nat), l.map NodeV.pl = g.l.map NodeV.pl ∧ (∀ n ∈ l, n.saneN) ∧ e = .returned (.agg #[.slice base l.length cap, .int .i64 g.out]) ∧ Ext w w' ∧ ((rowsA base 9 (nodeRows l)).and (freshA l)).holds (fun b => w.heap.size ≤ b ∧ b < w'.heap.size) w'
theorem copied_ends {B : Base} {H : Heap} {S : Asn} {nx i : Nat} {w : World} {g : GraphV} {l : List NodeV} {T : TypeId} (hw0 : B.w0 = w) (hb : ∀ R w', S.holds R w' → (baseA w).holds R w') (hf : ∀ R w', S.holds R w' → ((freshA l).past w.heap.size).holds R w') (hi : (i, Ent.rows (nodeRows l) 9 T) ∈ H) (hs : ∀ n ∈ l, n.saneN) (hl : l.map NodeV.pl = g.l.map NodeV.pl) :
    finK B (.agg [.os i l.length, .c (.int .i64 g.out)]) H S nx (CopiedPost w g) := by
  subst hw0
  refine fin_of fun ρ w' hw => ?_
  have hn := new_of_abs hw hb hi
  rw [nodeRows_length] at hn
  obtain ⟨base, cap, e1, hD⟩ := newRows_data hn
  rw [nodeRows_length] at e1
  refine ⟨l, base, cap, hl, hs, ?_, ext_of_abs hw hb, hD, past_new hw hf⟩
  show Ending.returned (.agg #[(SV.os i l.length).rf ρ, .int .i64 _]) = _
  rw [e1]
set_option maxRecDepth 20000 in
set_option maxHeartbeats 8000000 in
theorem copied_any (w : World) (g : GraphV) (hg : g.ok w) (h24 : g.l.length ≤ 1000) : Calls Try.prog 21 #[g.val] w (CopiedPost w g) := by
  refine calls_of tab tabOk Try.func21 rfl rfl rfl [] (fun _ => ⟨none, 0⟩) [.agg [.c (.slice g.base g.l.length g.cap), .c (.int .i64 g.out)]] [] (baseA w) 0 rfl rfl (by show 1 ≤ _; decide) (abs_base w) ?_
  (repeat' ((conv => whnf) <;> first | (show drawK _ 5 _ _ _ _ _ _; refine draw_tree tabOk mixed [13, 15, 17] _ dtNU0 (by kernel_rfl) (by kernel_rfl) (by kernel_rfl) (List.Sublist.refl _) ?_) | (show Wp _ _ _ _ _ _ _; refine Wp.go tabOk rfl ?_) | (show @cmpK _ _ _; (first | refine cmpY ?_ | refine cmpN ?_ | (refine cmp_both ?_ ?_ <;> intro _))) | (show wrapK _ _ _; refine wrapA ?_) | (show leK _ _ _; refine leA ?_) | (show roomK _ _ _; refine roomA ?_) | (show ltK _ _ _; refine ltA ?_) | (show _ ∧ _; refine ⟨?_, ?_⟩) | (show keepK _ _ _ _ _; refine keepA ?_) | refine own_keep ?_ | refine ap_old ?_))
  refine Wp.loop (σ := Nat × List NodeV) 4 (fun ⟨j, acc⟩ => [(1, .lp 0 0 0 0), (2, .lp 1 0 0 0), (3, .lp 2 0 0 0), (10, .c (.slice g.base g.l.length g.cap)), (11, .c (.int .i64 g.l.length)), (12, .c (.int .i64 j))])
    (fun ⟨j, acc⟩ => [(3, .rows (nodeRows acc) 9 38), (2, .box [.os 3 acc.length, .c (.int .i64 g.out)] 26), (1, .box [.c (.slice none 0 0), .c (.int .i64 0)] 26), (0, .box [.c (.slice g.base g.l.length g.cap), .c (.int .i64 g.out)] 26)])
    (fun ⟨_, acc⟩ => (baseA w).and ((freshA acc).past w.heap.size)) (fun ⟨j, acc⟩ => j ≤ g.l.length ∧ acc.length = j ∧ (∀ n ∈ acc, n.saneN) ∧ acc.map NodeV.pl = (g.l.take j).map NodeV.pl) (fun s => g.l.length - s.1) (0, []) [(3, none)] (by decide) (fun s => ⟨rfl, rfl⟩)
    ⟨Nat.zero_le _, rfl, fun n hn => by simp at hn, rfl⟩ ⟨rfl, ⟨rfl, rfl, rfl, rfl, rfl, rfl, trivial⟩, ⟨rfl, (by repeat (first | exact List.mem_cons_self | apply List.mem_cons_of_mem)), (by repeat (first | exact List.mem_cons_self | apply List.mem_cons_of_mem)), (by repeat (first | exact List.mem_cons_self | apply List.mem_cons_of_mem)), trivial⟩, fun R w' h => ⟨h, fresh_nil⟩⟩ ?_
  rintro ⟨j, acc⟩ ⟨hj, hal, hsn, hpl⟩
  by_cases hlt : j < g.l.length
  · obtain ⟨a, ha⟩ : ∃ a, g.base = some a := base_some (j := j) hg.rows (by rw [nodeRows_length]; omega)
    have hrow := nodeRows_get hlt
    have hnm := List.getElem_mem hlt
    have htk : (g.l.take (j + 1)).map NodeV.pl = (g.l.take j).map NodeV.pl ++ [g.l[j].pl] := by
      rw [List.take_add_one, List.getElem?_eq_getElem hlt, List.map_append]; rfl
    generalize g.l[j] = n at *
    have hno := hg.each n hnm
    (repeat' ((conv => whnf) <;> first | (show idxK _ _ _ _ _; refine idx_of a j ha rfl hlt ?_) | (show roAggK _ _ _ _; (refine roAgg_row (fun R w' h => by rw [← ha]; exact rows_base h.1 hg.rows) _ hrow rfl ?_)) | (show drawK _ 5 _ _ _ _ _ _; refine draw_tree tabOk mixed [13, 14, 15, 16, 17] _ dtNU0 (by kernel_rfl) (by kernel_rfl) (by kernel_rfl) (List.Sublist.refl _) ?_) | (show keepK _ _ _ _ _; (refine keep_of (by repeat (first | exact List.Sublist.refl _ | apply List.Sublist.cons)) (fun _ _ h => by first | exact h | exact h.1 | exact h.1.1 | exact h.1.1.1) ?_)) | (show srcK _ (.c n.shape.val) _ _ _; refine src_val (fun R w' h => rows_base (by first | exact h.1 | exact h.1.1 | exact h.1.1.1) hno.shape.rows) (nil_none hno.shape) ?_) | (show srcK _ (.c n.data.val) _ _ _; refine src_val (fun R w' h => rows_base (by first | exact h.1 | exact h.1.1 | exact h.1.1.1) hno.data.rows) (nil_none hno.data) ?_) | (show srcK _ (.c n.bias.val) _ _ _; refine src_val (fun R w' h => rows_base (by first | exact h.1 | exact h.1.1 | exact h.1.1.1) hno.bias.rows) (nil_none hno.bias) ?_) | (show srcK _ (.os _ _) _ _ _; refine src_os ?_) | (show ownK _ ((_, Ent.rows (_ ++ ints n.shape.xs) _ _) :: _) _ _ _; refine freeze_ints (xs := n.shape.xs) w.heap.size (fun R w' h b hb => by first | exact (h.1 b hb).1 | exact (h.1.1 b hb).1 | exact (h.1.1.1 b hb).1) (by rw [ints_length, Nat.zero_add]) hno.shape.fits hno.shape.few (fun u1 hu1 hs1 => ?_)) | (show ownK _ ((_, Ent.rows (_ ++ ints n.data.xs) _ _) :: _) _ _ _; refine freeze_ints (xs := n.data.xs) w.heap.size (fun R w' h b hb => by first | exact (h.1 b hb).1 | exact (h.1.1 b hb).1 | exact (h.1.1.1 b hb).1) (by rw [ints_length, Nat.zero_add]) hno.data.fits hno.data.few (fun u2 hu2 hs2 => ?_)) | (show ownK _ ((_, Ent.rows (_ ++ ints n.bias.xs) _ _) :: _) _ _ _; refine freeze_ints (xs := n.bias.xs) w.heap.size (fun R w' h b hb => by first | exact (h.1 b hb).1 | exact (h.1.1 b hb).1 | exact (h.1.1.1 b hb).1) (by rw [ints_length, Nat.zero_add]) hno.bias.fits hno.bias.few (fun u3 hu3 hs3 => ?_)) | (show leK _ _ _; (first | refine le_of (Nat.zero_le _) ?_ | refine le_of (by rw [nodeRows_length]; exact Nat.le_refl _) ?_)) | (show roomK _ _ _; (first | refine room_of (by show (0 + (ints n.shape.xs).length) * 8 ≤ 140737488355328; rw [ints_length]; have := hno.shape.few; omega) ?_ | refine room_of (by show (0 + (ints n.data.xs).length) * 8 ≤ 140737488355328; rw [ints_length]; have := hno.data.few; omega) ?_ | refine room_of (by show (0 + (ints n.bias.xs).length) * 8 ≤ 140737488355328; rw [ints_length]; have := hno.bias.few; omega) ?_ | refine room_of (by show (acc.length + 1) * 120 ≤ 140737488355328; omega) ?_)) | (show ownK _ ((_, .rows (List.take acc.length _ ++ _) _ _) :: _) _ _ _; refine own_eq (ys := nodeRows (acc ++ [cloneV n u1 u2 u3])) (m := (acc ++ [cloneV n u1 u2 u3]).length) ?_ (nodes_snoc acc (cloneV n u1 u2 u3)) (by show acc.length + 1 = _; rw [List.length_append]; rfl)) | (show Wp _ _ _ _ _ _ _; refine Wp.go tabOk rfl ?_) | (show @cmpK _ _ _; (first | refine cmpY ?_ | refine cmpN ?_ | (refine cmp_both ?_ ?_ <;> intro _))) | (show wrapK _ _ _; refine wrapA ?_) | (show leK _ _ _; refine leA ?_) | (show roomK _ _ _; refine roomA ?_) | (show ltK _ _ _; refine ltA ?_) | (show _ ∧ _; refine ⟨?_, ?_⟩) | (show keepK _ _ _ _ _; refine keepA ?_) | refine own_keep ?_ | refine ap_old ?_))
    all_goals (conv => whnf)
    all_goals exact ⟨(j + 1, acc ++ [cloneV n u1 u2 u3]), [(3, some 12)], ⟨hlt, by rw [List.length_append, List.length_singleton, hal], sane_snoc hsn ⟨hs1, hs2, hs3, hno.kindFits, hno.aFits, hno.bFits, hno.loFits, hno.hiFits, hno.sizeFits⟩, by rw [lay_row hu1 hu2 hu3, hpl, htk]⟩, by simp only; omega, rfl, ⟨rfl, rfl, rfl, rfl, rfl, rfl, trivial⟩, ⟨(by repeat (first | exact List.mem_cons_self | apply List.mem_cons_of_mem)), (by repeat (first | exact List.mem_cons_self | apply List.mem_cons_of_mem)), (by repeat (first | exact List.mem_cons_self | apply List.mem_cons_of_mem)), (by repeat (first | exact List.mem_cons_self | apply List.mem_cons_of_mem)), trivial⟩, fun R w' h => ⟨h.1.1.1.1, fresh_snoc h.1.1.1.2 h.1.1.2 h.1.2 h.2⟩⟩
  · obtain rfl : j = g.l.length := by omega
    rw [List.take_of_length_le (Nat.le_refl _)] at hpl
    (repeat' ((conv => whnf) <;> first | (show drawK _ 5 _ _ _ _ _ _; refine draw_tree tabOk mixed [13, 15, 17] _ dtNU0 (by kernel_rfl) (by kernel_rfl) (by kernel_rfl) (List.Sublist.refl _) ?_) | (show Wp _ _ _ _ _ _ _; refine Wp.go tabOk rfl ?_) | (show @cmpK _ _ _; (first | refine cmpY ?_ | refine cmpN ?_ | (refine cmp_both ?_ ?_ <;> intro _))) | (show wrapK _ _ _; refine wrapA ?_) | (show leK _ _ _; refine leA ?_) | (show roomK _ _ _; refine roomA ?_) | (show ltK _ _ _; refine ltA ?_) | (show _ ∧ _; refine ⟨?_, ?_⟩) | (show keepK _ _ _ _ _; refine keepA ?_) | refine own_keep ?_ | refine ap_old ?_))
    all_goals (conv => whnf)
    all_goals exact copied_ends rfl (fun R w' h => h.1) (fun R w' h => h.2) (by repeat (first | exact List.mem_cons_self | apply List.mem_cons_of_mem)) hsn hpl
end Go.Proofs.Ytdmkdogakbipbaa

/- NV -/
namespace Go.Proofs.Ytdmkdogakbipbaa
open Go.SX Go.RowKit
structure RegW (cx : Cx) (ops : Array Oper) (l : List Oper) (env : Env) (H : Heap) (S : Asn) (nx : Nat) (K : Env → Heap → Asn → Nat → Prop) : Prop where
  out : ∀ ρ a w (Q : Exit → Act → World → Prop), Sat cx.n ρ nx env a → Abs cx.B ρ nx H S w →
    (∀ ρ' a' env' H' S' nx' w', (∀ i, i < nx → ρ' i = ρ i) → nx ≤ nx' → Sat cx.n ρ' nx' env' a' → Abs cx.B ρ' nx' H' S' w' → K env' H' S' nx' → Q .normal a' w') → wpList cx.P ops Q l a w
def regKW (cx : Cx) (ops : Array Oper) : Nat → List Oper → Env → Heap → Asn → Nat → (Env → Heap → Asn → Nat → Prop) → Prop
  | 0, l, env, H, S, nx, K => RegW cx ops l env H S nx K
  | _ + 1, [], env, H, S, nx, K => K env H S nx
  | n + 1, o :: r, env, H, S, nx, K => guardK cx.n ops.toList o.guard env (fun b => match b with
    | true => opE cx o.op env H S nx (fun v H' S' nx' => putEK env o.dst v fun env' => regKW cx ops n r env' H' S' nx' K)
    | false => putEK env o.dst (.c undef) fun env' => regKW cx ops n r env' H S nx K)
section
variable {cx : Cx} (hok : ∀ p ∈ cx.tab, mkTI cx.P p.1 = some p.2)
include hok in
theorem regKW_sound {ops : Array Oper} : ∀ {n : Nat} {l : List Oper} {env : Env} {H : Heap} {S : Asn} {nx : Nat} {K : Env → Heap → Asn → Nat → Prop}, regKW cx ops n l env H S nx K → RegW cx ops l env H S nx K
  | 0, l, env, H, S, nx, K, h => h
  | n + 1, [], env, H, S, nx, K, h => ⟨fun ρ a w Q hs hw hq => hq ρ a env H S nx w (fun _ _ => rfl) (Nat.le_refl _) hs hw h⟩
  | n + 1, o :: r, env, H, S, nx, K, h => by
    refine ⟨fun ρ a w Q hs hw hq => ?_⟩
    unfold regKW at h
    have h := guardK_spec hs h
    unfold wpList
    cases hwt : Region.wanted o (yielded ops a.tmps) with
    | true =>
      rw [hwt] at h
      dsimp only at h
      rw [if_pos rfl]
      refine .inl (opE_sound hok h hs hw ?_)
      intro v ρ' H' S' nx' w' h1 h2 h3 h4 h5
      rw [putEK_eq] at h5
      refine (regKW_sound h5).out _ _ _ _ (hs.put h1 h2 h3) h4 ?_
      intro ρ'' a'' env'' H'' S'' nx'' w'' g1 g2 g4 g5 g6
      exact hq ρ'' a'' env'' H'' S'' nx'' w'' (fun i hi => (g1 i (Nat.lt_of_lt_of_le hi h2)).trans (h1 i hi)) (Nat.le_trans h2 g2) g4 g5 g6
    | false =>
      rw [hwt] at h
      dsimp only at h
      rw [if_neg (by simp)]
      have hp := hs.put (ρ' := ρ) (nx' := nx) (d := o.dst) (v := .c undef) (fun _ _ => rfl) (Nat.le_refl _) (SV.lt_c _)
      rw [putEK_eq] at h
      refine (regKW_sound h).out _ _ _ _ hp hw ?_
      intro ρ'' a'' env'' H'' S'' nx'' w'' g1 g2 g4 g5 g6
      exact hq ρ'' a'' env'' H'' S'' nx'' w'' g1 g2 g4 g5 g6
include hok in
theorem Wp.reg {id : Nat} {ops : Array Oper} {env : Env} {H : Heap} {S : Asn} {nx : Nat} {K : Exit → Env → Heap → Asn → Nat → Prop} (n : Nat) (h : regKW cx ops n ops.toList env H S nx (fun env' H' S' nx' => K .normal env' H' S' nx')) : Wp cx (.region id ops false) env H S nx K := by
  rw [Wp_def]
  intro ρ a w hs hw
  refine wp_region_list ((regKW_sound hok h).out ρ a w _ hs hw ?_)
  intro ρ' a' env' H' S' nx' w' g1 g2 g4 g5 g6
  exact ⟨ρ', env', H', S', nx', g1, g2, g4, g5, g6⟩
include hok in
theorem RegW.go {ops : Array Oper} {l : List Oper} {env : Env} {H : Heap} {S : Asn} {nx : Nat} {K : Env → Heap → Asn → Nat → Prop} (n : Nat) (h : regKW cx ops n l env H S nx K) : RegW cx ops l env H S nx K := regKW_sound hok h
include hok in
theorem RegW.peek {ops : Array Oper} {o : Oper} {r : List Oper} {env : Env} {H : Heap} {S : Asn} {nx : Nat} {K : Env → Heap → Asn → Nat → Prop} (S2 : Value → Asn) (p : Value → Prop) (hg : o.guard = none)
    (hT : ∀ ρ w, Abs cx.B ρ nx H S w → ∃ v, p v ∧ Abs cx.B ρ nx [] (S2 v) w) (hq : ∀ v, p v → opQ cx o.op env [] (S2 v) (fun x => x = .c v))
    (h : ∀ v, p v → putEK env o.dst (.c v) fun env' => RegW cx ops r env' H S nx K) : RegW cx ops (o :: r) env H S nx K := by
  refine ⟨fun ρ a w Q hs hw hqq => ?_⟩
  unfold wpList
  have hwt : Region.wanted o (yielded ops a.tmps) = true := by unfold Region.wanted; rw [hg]
  rw [hwt, if_pos rfl]
  obtain ⟨v, hp, hw2⟩ := hT ρ w hw
  obtain ⟨x, h1, rfl, h3⟩ := opQ_sound hok hs hw2 (hq v hp)
  refine .inl ?_
  unfold Oper.wp
  rw [h3 w hw2, Oper.upon_value]
  have h5 := h v hp
  rw [putEK_eq] at h5
  exact h5.out _ _ _ _ (hs.put (fun _ _ => rfl) (Nat.le_refl _) (SV.lt_c _)) hw hqq
end
def dataO (us : List IntsV) (ex : Bool) : Own where
  holds _ F w := (∀ x, F x → ∃ u ∈ us, u.xs ≠ [] ∧ ∃ off, u.base = some ⟨x, off, none⟩) ∧
    ∀ u ∈ us, u.xs = [] ∨ ∃ b off c, u.base = some ⟨b, off, none⟩ ∧ F b ∧ w.heap[b]? = some (.cells c 3 (0, 0)) ∧ off + u.xs.length ≤ c.size ∧ ∀ i, i < u.xs.length → ∃ v : Int, c[off + i]? = some (.int .i64 v) ∧ (ex = true → u.xs[i]? = some v)
  stable := by
    rintro l F w w' hw ⟨h1, h2⟩
    refine ⟨h1, fun u hu => ?_⟩
    rcases h2 u hu with h | ⟨b, off, c, g1, g2, g3, g4⟩
    · exact .inl h
    · exact .inr ⟨b, off, c, g1, g2, (hw b g2).trans g3, g4⟩
  lt := by
    rintro l F w x ⟨h1, h2⟩ hx
    obtain ⟨u, hu, hne, off, hb⟩ := h1 x hx
    rcases h2 u hu with h | ⟨b, off', c, g1, g2, g3, g4⟩
    · exact absurd h hne
    · rw [hb] at g1
      simp only [Option.some.injEq, Addr.mk.injEq, and_true] at g1
      obtain ⟨rfl, rfl⟩ := g1
      exact (Array.getElem?_eq_some_iff.1 g3).1
theorem data_any {us : List IntsV} {F : Nat → Prop} {w : World} {l : SX.Loc} (h : (dataO us true).holds l F w) : (dataO us false).holds l F w := by
  refine ⟨h.1, fun u hu => ?_⟩
  rcases h.2 u hu with h | ⟨b, off, c, g1, g2, g3, g4, g5⟩
  · exact .inl h
  · exact .inr ⟨b, off, c, g1, g2, g3, g4, fun i hi => by obtain ⟨v, hv, _⟩ := g5 i hi; exact ⟨v, hv, fun e => by cases e⟩⟩
theorem data_rows {us : List IntsV} {F : Nat → Prop} {w : World} {l : SX.Loc} (h : (dataO us true).holds l F w) {u : IntsV} (hu : u ∈ us) : RowsI w u.base 1 (ints u.xs) := by
  rcases h.2 u hu with h | ⟨b, off, c, g1, g2, g3, g4, g5⟩
  · left; rw [h]; rfl
  · refine .inr ⟨_, g1, fun i r hi j v hj => ?_⟩
    have hil : i < u.xs.length := by have := (List.getElem?_eq_some_iff.1 hi).1; rwa [ints_length] at this
    rw [ints_get hil] at hi
    simp only [Option.some.injEq] at hi
    subst hi
    cases j with
    | zero =>
      simp only [List.getElem?_cons_zero, Option.some.injEq] at hj
      subst hj
      obtain ⟨v, h1, h2⟩ := g5 i hil
      have e := h2 rfl
      rw [List.getElem?_eq_getElem hil, Option.some.injEq] at e
      subst e
      rw [add_none]
      simp [World.cell?, g3, h1]
    | succ j => simp at hj
theorem data_write {us : List IntsV} {F : Nat → Prop} {w : World} {l : SX.Loc} (h : (dataO us false).holds l F w) {u : IntsV} (hu : u ∈ us) {j : Nat} (hj : j < u.xs.length) {b off : Nat} (hb : u.base = some ⟨b, off, none⟩) (v : Int) :
    ∃ c, w.heap[b]? = some (.cells c 3 (0, 0)) ∧ off + j < c.size ∧ F b ∧ (dataO us false).holds l F (w.setRow b (setFrom c.toList (off + j) [.int .i64 v]).toArray) := by
  rcases h.2 u hu with h0 | ⟨b', off', c, g1, g2, g3, g4, g5⟩
  · rw [h0] at hj; simp at hj
  rw [hb] at g1
  simp only [Option.some.injEq, Addr.mk.injEq, and_true] at g1
  obtain ⟨rfl, rfl⟩ := g1
  refine ⟨c, g3, by omega, g2, h.1, fun z hz => ?_⟩
  have hrow := setRow_heap w b c (setFrom c.toList (off + j) [.int .i64 v]).toArray 3 (0, 0) g3
  rcases h.2 z hz with h0 | ⟨b', off', c', q1, q2, q3, q4, q5⟩
  · exact .inl h0
  · refine .inr ?_
    by_cases hbb : b' = b
    · subst hbb
      rw [g3] at q3
      obtain rfl : c = c' := by simpa using q3
      have e : setFrom c.toList (off + j) [.int .i64 v] = c.toList.set (off + j) (.int .i64 v) := by simp [setFrom]
      refine ⟨b', off', _, q1, q2, hrow, by simpa [setFrom_length] using q4, fun i hi => ?_⟩
      obtain ⟨x, hx, _⟩ := q5 i hi
      rw [e]
      by_cases hij : off' + i = off + j
      · rw [hij]
        refine ⟨v, ?_, fun e => by cases e⟩
        simp only [List.getElem?_toArray]
        rw [List.getElem?_set_self (by simpa using (by omega : off + j < c.size))]
      · refine ⟨x, ?_, fun e => by cases e⟩
        simp only [List.getElem?_toArray]
        rw [List.getElem?_set_ne (by omega)]
        simpa using hx
    · refine ⟨b', off', c', q1, q2, ((step_setRow w b _).block b' (Array.getElem?_eq_some_iff.1 q3).1 hbb).trans q3, q4, fun i hi => ?_⟩
      obtain ⟨x, hx, _⟩ := q5 i hi
      exact ⟨x, hx, fun e => by cases e⟩
theorem wr_data {B : Base} {H : Heap} {K : Heap → Prop} {g : Nat} {us : List IntsV} {u : IntsV} {j b off : Nat} {v : Int} {a : Addr} (hg : (g, Ent.ext (dataO us false)) ∈ H) (hu : u ∈ us) (hj : j < u.xs.length) (hb : u.base = some ⟨b, off, none⟩) (ha : a = ⟨b, off + j, none⟩)
    (hK : K (setH g (.ext (dataO us false)) H)) : wrK B a [.int .i64 v] H K := by
  subst ha
  refine ⟨_, fun ρ nx S w hw => ?_, hK⟩
  have hA := hw
  obtain ⟨R, φ, hw⟩ := hw
  have hent : (dataO us false).holds (ρ g) (φ g) w := hw.ent _ hg
  obtain ⟨c, hc, hlt, hF, _⟩ := data_write hent hu hj hb v
  refine ⟨b, off + j, c, _, rfl, hc, by show off + j + 1 ≤ c.size; omega, hA.store hg (fun y hy => by simp [Ent.hass] at hy) fun F hF => ?_⟩
  obtain ⟨c', hc', hlt', hFb, hnew⟩ := data_write (show (dataO us false).holds (ρ g) F w from hF) hu hj hb v
  rw [hc] at hc'
  obtain rfl : c = c' := by simpa using hc'
  exact ⟨⟨rfl, rfl, rfl, by simp [World.setRow], fun x hx hne => (step_setRow w b _).block x hx (fun e => hne (by rw [e]; exact hFb))⟩, hnew⟩
def cellA (a : Addr) (v : Value) : Asn where
  holds R w := R a.block ∧ w.cell? a = some v
  stable := fun hR hw h => ⟨hR _ h.1, by rw [cell_same (hw _ h.1)]; exact h.2⟩
theorem peek_data {B : Base} {ρ : Nat → SX.Loc} {nx : Nat} {H : Heap} {S : Asn} {w : World} {g : Nat} {us : List IntsV} {ex : Bool} (hw : Abs B ρ nx H S w) (hg : (g, Ent.ext (dataO us ex)) ∈ H) {u : IntsV} (hu : u ∈ us) {j b off : Nat} (hj : j < u.xs.length) (hb : u.base = some ⟨b, off, none⟩) :
    ∃ v, (∃ x : Int, v = .int .i64 x) ∧ Abs B ρ nx [] (cellA ⟨b, off + j, none⟩ v) w := by
  obtain ⟨R, φ, hwR⟩ := hw
  have hent : (dataO us ex).holds (ρ g) (φ g) w := hwR.ent _ hg
  rcases hent.2 u hu with h0 | ⟨b', off', c, g1, g2, g3, g4, g5⟩
  · rw [h0] at hj; simp at hj
  rw [hb] at g1
  simp only [Option.some.injEq, Addr.mk.injEq, and_true] at g1
  obtain ⟨rfl, rfl⟩ := g1
  obtain ⟨v, hv, _⟩ := g5 j hj
  refine ⟨.int .i64 v, ⟨v, rfl⟩, fun x => x = b, fun _ _ => False, hwR.os, hwR.tape, hwR.output, hwR.size, hwR.pin, fun x hx => ?_, ⟨rfl, ?_⟩, ?_, ?_, ?_, ?_⟩
  · subst hx; exact lt_size_of_some g3
  · simp [World.cell?, g3, hv]
  · intro p hp; simp at hp
  · intro p hp; simp at hp
  · intro p hp; simp at hp
  · exact List.Pairwise.nil
end Go.Proofs.Ytdmkdogakbipbaa

/- NW -/
namespace Go.Proofs.Ytdmkdogakbipbaa
open Go.SX Go.RowKit
def partsL (l : List NodeV) : List IntsV := l.flatMap fun n => [n.shape, n.data, n.bias]
theorem parts_in {l : List NodeV} {n : NodeV} (h : n ∈ l) : n.shape ∈ partsL l ∧ n.data ∈ partsL l ∧ n.bias ∈ partsL l := by
  unfold partsL
  simp only [List.mem_flatMap]
  exact ⟨⟨n, h, by simp⟩, ⟨n, h, by simp⟩, ⟨n, h, by simp⟩⟩
theorem parts_data {l : List NodeV} {F : Nat → Prop} {w : World} {lo : SX.Loc} (hl : ∀ n ∈ l, (nodeT n).holds F w) : (dataO (partsL l) true).holds lo (fun x => ∃ u ∈ partsL l, u.xs ≠ [] ∧ ∃ off, u.base = some ⟨x, off, none⟩) w := by
  refine ⟨fun x hx => hx, fun u hu => ?_⟩
  unfold partsL at hu
  simp only [List.mem_flatMap, List.mem_cons, List.not_mem_nil, or_false] at hu
  obtain ⟨n, hn, hu'⟩ := hu
  have hT : (intsT u).holds F w := by
    have h := hl n hn
    rcases hu' with rfl | rfl | rfl
    · exact h.1
    · exact h.2.1
    · exact h.2.2
  have hm : u ∈ partsL l := by
    rcases hu' with rfl | rfl | rfl
    · exact (parts_in hn).1
    · exact (parts_in hn).2.1
    · exact (parts_in hn).2.2
  by_cases h0 : u.xs = []
  · exact .inl h0
  rcases hT with h | ⟨b, off, c, h1, h2, h3, h4, h5⟩
  · exact .inl h
  · refine .inr ⟨b, off, c, h1, ⟨u, hm, h0, off, h1⟩, h3, h4, fun i hi => ⟨u.xs[i], h5 i _ (List.getElem?_eq_getElem hi), fun _ => List.getElem?_eq_getElem hi⟩⟩
theorem parts_F {l : List NodeV} {F : Nat → Prop} {w : World} (hl : ∀ n ∈ l, (nodeT n).holds F w) {x : Nat} (h : ∃ u ∈ partsL l, u.xs ≠ [] ∧ ∃ off, u.base = some ⟨x, off, none⟩) : F x := by
  obtain ⟨u, hu, h0, off, hb⟩ := h
  unfold partsL at hu
  simp only [List.mem_flatMap, List.mem_cons, List.not_mem_nil, or_false] at hu
  obtain ⟨n, hn, hu'⟩ := hu
  have hT : (intsT u).holds F w := by
    have h := hl n hn
    rcases hu' with rfl | rfl | rfl
    · exact h.1
    · exact h.2.1
    · exact h.2.2
  rcases hT with h | ⟨b, off', c, h1, h2, _⟩
  · exact absurd h h0
  · rw [hb] at h1
    simp only [Option.some.injEq, Addr.mk.injEq, and_true] at h1
    obtain ⟨rfl, rfl⟩ := h1
    exact h2
/-- tidied: its numbers one's own -/
theorem call_tidyW {cx : Cx} {f : FuncId} {args : List SV} {H : Heap} {S : Asn} {nx : Nat} {K : SV → Heap → Asn → Nat → Prop} (r : Int) (x : List NodeP × Nat) (hf : ∀ ar w, (callFunc f ar).run cx.P w = .ok (.enter f ar) w)
    (hc : ∀ ρ w', Abs cx.B ρ nx H S w' → Calls cx.P f (SV.rfs ρ args).toArray w' (TidyPost w' r x))
    (h0 : r ≠ 0 → K (.c (.tuple #[.agg #[.slice none 0 0, .int .i64 0], .int .i64 r])) H S nx)
    (h1 : r = 0 → ∀ (l : List NodeV) (base : Option Addr) (cap : Nat), l.map NodeV.pl = x.1 → KeptOk l → K (.c (.tuple #[.agg #[.slice base l.length cap, .int .i64 x.2], .int .i64 0])) ((nx, .ext (dataO (partsL l) true)) :: H) (S.and ((rowsA base 9 (nodeRows l)).past cx.B.w0.heap.size)) (nx + 1)) : callK cx f args H S nx K := by
  rw [callK_def]
  refine ⟨hf, fun ρ w hw => (hc ρ w hw).mono ?_⟩
  rintro e w' (⟨hr, rfl, he⟩ | ⟨hr, l, base, cap, hx, hko, hcap, rfl, he, F, G, hF, hG, hFG, hn, hrow⟩)
  · exact ⟨.c (.tuple #[.agg #[.slice none 0 0, .int .i64 0], .int .i64 r]), ρ, H, S, nx, rfl, fun _ _ => rfl, Nat.le_refl _, SV.lt_c _, hw.ext he, h0 hr⟩
  · obtain ⟨R, φ, hwR⟩ := hw
    have hwR' := hwR.step (Step.of_ext he) (fun _ _ h => h) (fun _ _ _ _ h => h)
    have hG2 : AbsR cx.B (fun b => R b ∨ G b) φ ρ nx H (S.and ((rowsA base 9 (nodeRows l)).past cx.B.w0.heap.size)) w' := by
      refine ⟨hwR'.os, hwR'.tape, hwR'.output, hwR'.size, hwR'.pin, fun b hb => hb.elim (hwR'.ro b) (fun h => (hG b h).2), ⟨S.stable (fun _ h => .inl h) (fun _ _ => rfl) hwR'.asn, ?_⟩, hwR'.key, hwR'.ent, fun p hp b hb hb' => ?_, hwR'.sep⟩
      · exact (rowsA base 9 (nodeRows l)).stable (fun b hb => ⟨.inr hb, Nat.le_trans hwR.size (hG b hb).1⟩) (fun _ _ => rfl) hrow
      · rcases hb' with hb' | hb'
        · exact hwR'.apart p hp b hb hb'
        · have := Ent.size (hwR.ent p hp) hb
          have := (hG b hb').1
          omega
    refine ⟨.c (.tuple #[.agg #[.slice base l.length cap, .int .i64 x.2], .int .i64 0]), upd ρ nx ⟨none, 0⟩, _, _, nx + 1, rfl, fun i hi => upd_lt hi, Nat.le_succ _, SV.lt_c _, ?_, h1 hr l base cap hx hko⟩
    refine ⟨_, _, hG2.add (e := .ext (dataO (partsL l) true)) (l := ⟨none, 0⟩) (F := fun x => ∃ u ∈ partsL l, u.xs ≠ [] ∧ ∃ off, u.base = some ⟨x, off, none⟩) (fun y hy => by simp [Ent.hass] at hy) (parts_data hn) (fun y hy hR => ?_) (fun p hp y hy hy' => ?_)⟩
    · have hFy := parts_F hn hy
      rcases hR with hR | hR
      · have := hwR.ro y hR
        have := (hF y hFy).1
        omega
      · exact hFG y hFy hR
    · have hFy := parts_F hn hy'
      have := Ent.size (hwR.ent p hp) hy
      have := (hF y hFy).1
      omega
theorem call_ref18 {cx : Cx} {f : FuncId} {args : List SV} {H : Heap} {S : Asn} {nx : Nat} {K : SV → Heap → Asn → Nat → Prop} {g : GraphV} (r : Int) (x : List NodeP × Nat) (hf : ∀ ar w, (callFunc f ar).run cx.P w = .ok (.enter f ar) w)
    (hc : ∀ ρ w', Abs cx.B ρ nx H S w' → Calls cx.P f (SV.rfs ρ args).toArray w' (Ref18Post g w' r x))
    (h0 : r ≠ 0 → K (.c (.tuple #[.agg #[.slice none 0 0, .int .i64 0], .int .i64 r])) H S nx)
    (h1 : r = 0 → ∀ (l : List NodeV) (base : Option Addr) (cap : Nat), l.map NodeV.pl = x.1 → (∀ n ∈ l, n.saneN) → l.length ≤ 24 → K (.c (.tuple #[.agg #[.slice base l.length cap, .int .i64 x.2], .int .i64 0])) H (S.and (((rowsA base 9 (nodeRows l)).and (rowA (srcG g) 0 l)).past cx.B.w0.heap.size)) nx) : callK cx f args H S nx K := by
  rw [callK_def]
  refine ⟨hf, fun ρ w hw => (hc ρ w hw).mono ?_⟩
  rintro e w' (⟨hr, rfl, he⟩ | ⟨hr, l, base, cap, hx, hs, hl, rfl, he, hrow, hpart⟩)
  · exact ⟨.c (.tuple #[.agg #[.slice none 0 0, .int .i64 0], .int .i64 r]), ρ, H, S, nx, rfl, fun _ _ => rfl, Nat.le_refl _, SV.lt_c _, hw.ext he, h0 hr⟩
  · refine ⟨.c (.tuple #[.agg #[.slice base l.length cap, .int .i64 x.2], .int .i64 0]), ρ, H, _, nx, rfl, fun _ _ => rfl, Nat.le_refl _, SV.lt_c _, hw.grow (D := (rowsA base 9 (nodeRows l)).and (rowA (srcG g) 0 l)) he ⟨hrow, fun n hn => ?_⟩, h1 hr l base cap hx hs hl⟩
    have h := hpart n hn
    have key : ∀ u, (partA (srcG g) w.heap.size u).holds (fun b => b < w'.heap.size) w' → (partA (srcG g) 0 u).holds (fun b => w.heap.size ≤ b ∧ b < w'.heap.size) w' := fun u hu => hu.imp id fun hu => (intsA u).stable (fun b hb => ⟨⟨hb.2, hb.1⟩, Nat.zero_le _⟩) (fun _ _ => rfl) hu
    exact ⟨key _ h.1, key _ h.2.1, key _ h.2.2⟩
theorem call_copied {cx : Cx} {f : FuncId} {args : List SV} {H : Heap} {S : Asn} {nx : Nat} {K : SV → Heap → Asn → Nat → Prop} (g : GraphV) (hf : ∀ ar w, (callFunc f ar).run cx.P w = .ok (.enter f ar) w)
    (hc : ∀ ρ w', Abs cx.B ρ nx H S w' → Calls cx.P f (SV.rfs ρ args).toArray w' (CopiedPost w' g))
    (h : ∀ c : GraphV, c.l.map NodeV.pl = g.l.map NodeV.pl → (∀ n ∈ c.l, n.saneN) → c.out = g.out → K (.c (.agg #[.slice c.base c.l.length c.cap, .int .i64 c.out])) H (S.and (((rowsA c.base 9 (nodeRows c.l)).and (freshA c.l)).past cx.B.w0.heap.size)) nx) : callK cx f args H S nx K :=
  call_past hf (fun c : GraphV => .agg #[.slice c.base c.l.length c.cap, .int .i64 c.out]) (fun c => (rowsA c.base 9 (nodeRows c.l)).and (freshA c.l)) (fun c => c.l.map NodeV.pl = g.l.map NodeV.pl ∧ (∀ n ∈ c.l, n.saneN) ∧ c.out = g.out) (fun ρ w' hw => (hc ρ w' hw).mono fun e w'' he => by
    obtain ⟨l, base, cap, h1, h2, h3, h4, h5⟩ := he
    exact ⟨⟨base, cap, l, g.out⟩, ⟨h1, h2, rfl⟩, h3, h4, h5⟩) (fun c hc => h c hc.1 hc.2.1 hc.2.2)
/-- a call after which one's own numbers may be any -/
theorem call_turn {cx : Cx} {f : FuncId} {args : List SV} {H : Heap} {S : Asn} {nx : Nat} {K : SV → Heap → Asn → Nat → Prop} {g : Nat} {us : List IntsV} (v : Value) (hg : (g, Ent.ext (dataO us true)) ∈ H) (hf : ∀ ar w, (callFunc f ar).run cx.P w = .ok (.enter f ar) w)
    (hc : ∀ ρ w', Abs cx.B ρ nx H S w' → Calls cx.P f (SV.rfs ρ args).toArray w' (fun e w'' => e = .returned v ∧ Ext w' w''))
    (h : K (.c v) (setH g (.ext (dataO us false)) H) S nx) : callK cx f args H S nx K := by
  rw [callK_def]
  refine ⟨hf, fun ρ w hw => (hc ρ w hw).mono ?_⟩
  rintro e w' ⟨rfl, he⟩
  exact ⟨.c v, ρ, _, S, nx, rfl, fun _ _ => rfl, Nat.le_refl _, SV.lt_c _, (hw.ext he).store (e' := .ext (dataO us false)) hg (fun y hy => by simp [Ent.hass] at hy) (fun F hF => ⟨⟨rfl, rfl, rfl, Nat.le_refl _, fun _ _ _ => rfl⟩, data_any hF⟩), h⟩
theorem spansH_pl {g h : GraphV} (hl : g.l.map NodeV.pl = h.l.map NodeV.pl) (ho : g.out = h.out) : spansH g = spansH h := by
  unfold spansH
  rw [check_pl hl ho, spansQ_pl hl]
theorem copied_ok {w : World} {R : Nat → Prop} {N : Nat} {g c : GraphV} (hg : g.ok w) {w' : World} (h1 : c.l.map NodeV.pl = g.l.map NodeV.pl) (h2 : ∀ n ∈ c.l, n.saneN) (h3 : c.out = g.out) (h : (((rowsA c.base 9 (nodeRows c.l)).and (freshA c.l)).past N).holds R w') : c.ok w' := by
  have hlen : c.l.length = g.l.length := by simpa using congrArg List.length h1
  refine ⟨rowsA_in h.1, fresh_ok h2 h.2, fun n hn => ?_, by rw [hlen]; exact hg.few, by rw [h3]; exact hg.outFits⟩
  have : n.pl ∈ g.l.map NodeV.pl := by rw [← h1]; exact List.mem_map.2 ⟨n, hn, rfl⟩
  obtain ⟨m, hm, e⟩ := List.mem_map.1 this
  have hsm := hg.small m hm
  have e1 : m.data.xs = n.data.xs := congrArg NodeP.data e
  have e2 : m.bias.xs = n.bias.xs := congrArg NodeP.bias e
  exact ⟨by rw [← e1]; exact hsm.data, by rw [← e2]; exact hsm.bias⟩
theorem tidied_fit {B : Base} {ρ : Nat → SX.Loc} {nx i : Nat} {H : Heap} {S : Asn} {w : World} {l : List NodeV} {base : Option Addr} {cap : Nat} {out : Int} (hw : Abs B ρ nx H S w) (hi : (i, Ent.ext (dataO (partsL l) true)) ∈ H) (hr : ∀ R w', S.holds R w' → RowsI w' base 9 (nodeRows l)) (hko : KeptOk l) (hl : l.length ≤ 1000000) : (GraphV.mk base cap l out).fit w := by
  obtain ⟨R, φ, hwR⟩ := hw
  have hd : (dataO (partsL l) true).holds (ρ i) (φ i) w := hwR.ent _ hi
  refine ⟨hr R w hwR.asn, fun n hn => ?_, hl⟩
  have hs := (hko n hn).1
  have p := parts_in hn
  exact ⟨⟨data_rows hd p.1, hs.shape.fits, hs.shape.room, hs.shape.few⟩, ⟨data_rows hd p.2.1, hs.data.fits, hs.data.room, hs.data.few⟩, ⟨data_rows hd p.2.2, hs.bias.fits, hs.bias.room, hs.bias.few⟩, hs.kindFits, hs.aFits, hs.bFits, hs.loFits, hs.hiFits, hs.sizeFits⟩
end Go.Proofs.Ytdmkdogakbipbaa

