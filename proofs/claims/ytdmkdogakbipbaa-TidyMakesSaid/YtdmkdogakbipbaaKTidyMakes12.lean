import Derived.Test.YtdmkdogakbipbaaKTidyMakes11
/- NX -/
namespace Go.Proofs.Ytdmkdogakbipbaa
open Go.SX Go.RowKit
def scaleN (y : IntsV) : NodeV := ⟨7, 0, 0, nilI, 0, 0, 0, y, nilI⟩
def gT (nb : Option Addr) (nc : Nat) (u v y : IntsV) : GraphV := ⟨nb, nc, [constN u v, scaleN y], 1⟩
def gTP : GraphV := gT none 0 ⟨none, 0, [1]⟩ ⟨none, 0, [2]⟩ ⟨none, 0, [3]⟩
theorem gTP_spans : (spansH gTP).1 = 0 := by kernel_rfl
theorem gTP_tidy : tidyP (gTP.l.map NodeV.pl) (check gTP).2 1 = ([⟨2, 0, 0, [1], 0, 0, 0, [6], []⟩], 0) := by kernel_rfl
theorem gT_all {nb : Option Addr} {nc : Nat} {u v y : IntsV} (hu : u.xs = [1]) (hv : v.xs = [2]) (hy : y.xs = [3]) : (spansH (gT nb nc u v y)).1 = 0 ∧ tidyP ((gT nb nc u v y).l.map NodeV.pl) (check (gT nb nc u v y)).2 1 = ([⟨2, 0, 0, [1], 0, 0, 0, [6], []⟩], 0) := by
  have hl : (gT nb nc u v y).l.map NodeV.pl = gTP.l.map NodeV.pl := by
    show [NodeP.mk 2 0 0 u.xs 0 0 0 v.xs [], NodeP.mk 7 0 0 [] 0 0 0 y.xs []] = _
    rw [hu, hv, hy]; rfl
  rw [spansH_pl hl rfl, hl, check_pl hl rfl]
  exact ⟨gTP_spans, gTP_tidy⟩
theorem gT_ok {w : World} {nb : Option Addr} {nc : Nat} {u v y : IntsV} (hr : RowsI w nb 9 (nodeRows [constN u v, scaleN y])) (hu : u.ok w) (hv : v.ok w) (hy : y.ok w) (h2 : v.xs.length ≤ 5000) (h3 : y.xs.length ≤ 5000) : (gT nb nc u v y).ok w := by
  refine ⟨hr, fun n hn => ?_, fun n hn => ?_, (show 2 ≤ 1000000 by decide), i64_1⟩
  · rcases List.mem_cons.1 hn with rfl | hn
    · exact constN_ok hu hv
    · rw [List.mem_singleton.1 hn]
      exact ⟨nil_ok w, hy, nil_ok w, (show i64 7 from ⟨by decide, by decide⟩), i64_0, i64_0, i64_0, i64_0, i64_0⟩
  · rcases List.mem_cons.1 hn with rfl | hn
    · exact ⟨h2, Nat.zero_le _⟩
    · rw [List.mem_singleton.1 hn]; exact ⟨h3, Nat.zero_le _⟩
set_option maxRecDepth 20000 in
set_option maxHeartbeats 1000000 in
theorem fixed18_any (w : World) : Calls Try.prog 19 #[] w fun e w' => e = .returned (.bool true) ∧ Ext w w' := by
  refine calls_of tab tabOk Try.func19 rfl rfl rfl [] (fun _ => ⟨none, 0⟩) [] [] (baseA w) 0 rfl rfl (by show 0 ≤ _; decide) (abs_base w) ?_
  (repeat' ((conv => whnf) <;> first | (show Wp _ _ _ _ _ _ _; refine Wp.go tabOk rfl ?_) | (show @cmpK _ _ _; (first | refine cmpY ?_ | refine cmpN ?_ | (refine cmp_both ?_ ?_ <;> intro _))) | (show wrapK _ _ _; refine wrapA ?_) | (show leK _ _ _; refine leA ?_) | (show roomK _ _ _; refine roomA ?_) | (show ltK _ _ _; refine ltA ?_) | (show _ ∧ _; refine ⟨?_, ?_⟩) | (show keepK _ _ _ _ _; refine keepA ?_) | refine ap_old ?_))
  refine freeze_intsI (w0 := w) [1] (fun R w' h => h) rfl rfl (few_i64 rfl) (by decide) (fun u hu hus => ?_)
  (repeat' ((conv => whnf) <;> first | (show Wp _ _ _ _ _ _ _; refine Wp.go tabOk rfl ?_) | (show @cmpK _ _ _; (first | refine cmpY ?_ | refine cmpN ?_ | (refine cmp_both ?_ ?_ <;> intro _))) | (show wrapK _ _ _; refine wrapA ?_) | (show leK _ _ _; refine leA ?_) | (show roomK _ _ _; refine roomA ?_) | (show ltK _ _ _; refine ltA ?_) | (show _ ∧ _; refine ⟨?_, ?_⟩) | (show keepK _ _ _ _ _; refine keepA ?_) | refine ap_old ?_))
  refine freeze_intsI (w0 := w) [2] (fun R w' h => h.1) rfl rfl (few_i64 rfl) (by decide) (fun v hv hvs => ?_)
  (repeat' ((conv => whnf) <;> first | (show Wp _ _ _ _ _ _ _; refine Wp.go tabOk rfl ?_) | (show @cmpK _ _ _; (first | refine cmpY ?_ | refine cmpN ?_ | (refine cmp_both ?_ ?_ <;> intro _))) | (show wrapK _ _ _; refine wrapA ?_) | (show leK _ _ _; refine leA ?_) | (show roomK _ _ _; refine roomA ?_) | (show ltK _ _ _; refine ltA ?_) | (show _ ∧ _; refine ⟨?_, ?_⟩) | (show keepK _ _ _ _ _; refine keepA ?_) | refine ap_old ?_))
  refine freeze_intsI (w0 := w) [3] (fun R w' h => h.1.1) rfl rfl (few_i64 rfl) (by decide) (fun y hy hys => ?_)
  (repeat' ((conv => whnf) <;> first | (show Wp _ _ _ _ _ _ _; refine Wp.go tabOk rfl ?_) | (show @cmpK _ _ _; (first | refine cmpY ?_ | refine cmpN ?_ | (refine cmp_both ?_ ?_ <;> intro _))) | (show wrapK _ _ _; refine wrapA ?_) | (show leK _ _ _; refine leA ?_) | (show roomK _ _ _; refine roomA ?_) | (show ltK _ _ _; refine ltA ?_) | (show _ ∧ _; refine ⟨?_, ?_⟩) | (show keepK _ _ _ _ _; refine keepA ?_) | refine ap_old ?_))
  refine freeze_nodesI (w0 := w) [constN u v, scaleN y] (fun R w' h => h.1.1.1) rfl rfl (fun nb nc => ?_)
  obtain ⟨hS, hR⟩ := gT_all (nb := nb) (nc := nc) hu hv hy
  (repeat' ((conv => whnf) <;> first | (show Wp _ _ _ _ _ _ _; refine Wp.go tabOk rfl ?_) | (show @cmpK _ _ _; (first | refine cmpY ?_ | refine cmpN ?_ | (refine cmp_both ?_ ?_ <;> intro _))) | (show wrapK _ _ _; refine wrapA ?_) | (show leK _ _ _; refine leA ?_) | (show roomK _ _ _; refine roomA ?_) | (show ltK _ _ _; refine ltA ?_) | (show _ ∧ _; refine ⟨?_, ?_⟩) | (show keepK _ _ _ _ _; refine keepA ?_) | refine ap_old ?_))
  refine call_tidyW 0 _ Try.call22 (fun ρ w' hw => by have := tidy_any w' (gT nb nc u v y) (holds_of_abs hw fun R h => gT_ok (rowsA_in h.2) (intsA_ok hus h.1.1.1.2) (intsA_ok hvs h.1.1.2) (intsA_ok hys h.1.2) (by rw [hv]; decide) (by rw [hy]; decide)); rw [hS] at this; erw [hR] at this; exact this) (fun h => absurd rfl h) (fun _ l hb hc hl hko => ?_)
  obtain ⟨z, rfl⟩ : ∃ z, l = [z] := by
    have h1 : l.length = 1 := by simpa using congrArg List.length hl
    match l, h1 with
    | [z], _ => exact ⟨z, rfl⟩
  have hz : z.pl = ⟨2, 0, 0, [1], 0, 0, 0, [6], []⟩ := by simpa using hl
  have hzk : z.kind = 2 := congrArg NodeP.kind hz
  have hzd : z.data.xs = [6] := congrArg NodeP.data hz
  refine Wp.know (p := ∃ a, hb = some a) (fun ρ w' hw => holds_of_abs hw fun R h => base_some (j := 0) (rowsA_in h.2) (show 0 < 1 by decide)) ?_
  rintro ⟨ha, rfl⟩
  (repeat' ((conv => whnf) <;> first | (show @cmpK _ _ _; (first | refine cmp_yes rfl ?_ | refine cmp_yes hzk ?_)) | (show idxK _ _ _ _ _; refine idx_of ha 0 rfl rfl (show 0 < 1 by decide) ?_) | (show roK _ _ _; (first | refine ro_row (j := 0) (f := 0) (fun R w' h => rowsA_in h.2) z.cells (.int .i64 z.kind) rfl rfl ?_ | refine ro_row0 (j := 0) (fun R w' h => rowsA_in h.2) z.cells (.int .i64 z.kind) rfl rfl ?_ | refine ro_row (j := 0) (f := 7) (fun R w' h => rowsA_in h.2) z.cells z.data.val rfl rfl ?_)) | (show Wp _ _ _ _ _ _ _; refine Wp.go tabOk rfl ?_) | (show @cmpK _ _ _; (first | refine cmpY ?_ | refine cmpN ?_ | (refine cmp_both ?_ ?_ <;> intro _))) | (show wrapK _ _ _; refine wrapA ?_) | (show leK _ _ _; refine leA ?_) | (show roomK _ _ _; refine roomA ?_) | (show ltK _ _ _; refine ltA ?_) | (show _ ∧ _; refine ⟨?_, ?_⟩) | (show keepK _ _ _ _ _; refine keepA ?_) | refine ap_old ?_))
  refine freeze_intsI (w0 := w) [6] (fun R w' h => h.1.1.1.1.1) rfl rfl (few_i64 rfl) (by decide) (fun q hq hqs => ?_)
  (repeat' ((conv => whnf) <;> first | (show @cmpK _ _ _; (first | refine cmp_yes rfl ?_ | refine cmp_yes hzk ?_)) | (show callK _ 26 _ _ _ _ _; (refine call_pure (f := 26) Try.call26 (.bool true) (fun ρ w' hw => by have := same_any w' z.data q ((tidied_fit (cap := 0) (out := 0) hw (by repeat (first | exact List.mem_cons_self | apply List.mem_cons_of_mem)) (fun R w' h => rowsA_in h.1.2) hko (show 1 ≤ 1000000 by decide)).each z List.mem_cons_self).data (holds_of_abs hw fun R h => intsA_ok hqs h.2); rw [decide_eq_true (hzd.trans hq.symm)] at this; exact this) ?_)) | (show Wp _ _ _ _ _ _ _; refine Wp.go tabOk rfl ?_) | (show @cmpK _ _ _; (first | refine cmpY ?_ | refine cmpN ?_ | (refine cmp_both ?_ ?_ <;> intro _))) | (show wrapK _ _ _; refine wrapA ?_) | (show leK _ _ _; refine leA ?_) | (show roomK _ _ _; refine roomA ?_) | (show ltK _ _ _; refine ltA ?_) | (show _ ∧ _; refine ⟨?_, ?_⟩) | (show keepK _ _ _ _ _; refine keepA ?_) | refine own_keep ?_ | refine ap_old ?_))
  conv => whnf
  exact ends_bool (fun R w' h => h.1.1.1.1.1.1) rfl rfl
end Go.Proofs.Ytdmkdogakbipbaa

/- NY -/
namespace Go.Proofs.Ytdmkdogakbipbaa
open Go.SX Go.RowKit
theorem ok_fit {w : World} {g : GraphV} (h : g.ok w) : g.fit w := ⟨h.rows, h.each, h.few⟩
theorem ref18_fit {w w' : World} {R : Nat → Prop} {N : Nat} {g : GraphV} (hg : g.ok w) {l : List NodeV} {base : Option Addr} {cap : Nat} {out : Int} (hs : ∀ n ∈ l, n.saneN) (hl : l.length ≤ 24) (hb : (baseA w).holds R w') (h : (((rowsA base 9 (nodeRows l)).and (rowA (srcG g) 0 l)).past N).holds R w') : (GraphV.mk base cap l out).fit w' :=
  ⟨rowsA_in h.1, row_ok (N := 0) (srcG_ok hg.each) hs hb ((rowA (srcG g) 0 l).stable (fun b hb => hb.1) (fun _ _ => rfl) h.2), by show l.length ≤ 1000000; omega⟩
theorem data_base {B : Base} {ρ : Nat → SX.Loc} {nx : Nat} {H : Heap} {S : Asn} {w : World} {g : Nat} {us : List IntsV} {ex : Bool} (hw : Abs B ρ nx H S w) (hg : (g, Ent.ext (dataO us ex)) ∈ H) {u : IntsV} (hu : u ∈ us) {j : Nat} (hj : j < u.xs.length) : ∃ b off, u.base = some ⟨b, off, none⟩ := by
  obtain ⟨R, φ, hwR⟩ := hw
  have hent : (dataO us ex).holds (ρ g) (φ g) w := hwR.ent _ hg
  rcases hent.2 u hu with h0 | ⟨b', off', c, g1, _⟩
  · rw [h0] at hj; simp at hj
  · exact ⟨b', off', g1⟩
set_option maxRecDepth 20000 in
set_option maxHeartbeats 4000000 in
theorem lawTidyMakes_any (w : World) (g : GraphV) (hg : g.raw w) : Calls Try.prog 4 #[g.val] w fun e w' => e = .returned (.bool true) ∧ Ext w w' := by
  cases hf : fewB g with
  | false =>
    refine calls_of tab tabOk Try.func4 rfl rfl rfl [] (fun _ => ⟨none, 0⟩) [.agg [.c (.slice g.base g.l.length g.cap), .c (.int .i64 g.out)]] [] (baseA w) 0 rfl rfl (by show 1 ≤ _; decide) (abs_base w) ?_
    (repeat' ((conv => whnf) <;> first | (show callK _ 19 _ _ _ _ _; refine call_pure (f := 19) Try.call19 (.bool true) (fun ρ w' hw => fixed18_any w') ?_) | (show callK _ 20 _ _ _ _ _; (refine call_pure (f := 20) Try.call20 (.bool false) (fun ρ w' hw => by have := few_any w' g (holds_of_abs hw fun R h => hg.later h); rw [hf] at this; exact this) ?_)) | (show Wp _ _ _ _ _ _ _; refine Wp.go tabOk rfl ?_) | (show @cmpK _ _ _; (first | refine cmpY ?_ | refine cmpN ?_ | (refine cmp_both ?_ ?_ <;> intro _))) | (show wrapK _ _ _; refine wrapA ?_) | (show leK _ _ _; refine leA ?_) | (show roomK _ _ _; refine roomA ?_) | (show ltK _ _ _; refine ltA ?_) | (show _ ∧ _; refine ⟨?_, ?_⟩) | (show keepK _ _ _ _ _; refine keepA ?_) | refine own_keep ?_ | refine ap_old ?_))
    all_goals (conv => whnf)
    all_goals exact ends_bool (fun R w' h => h) rfl rfl
  | true =>
    have hgo := raw_ok hg hf
    have h40 : g.l.length ≤ 40 := by unfold fewB at hf; simp only [Bool.and_eq_true, decide_eq_true_eq] at hf; exact hf.1
    refine calls_of tab tabOk Try.func4 rfl rfl rfl [] (fun _ => ⟨none, 0⟩) [.agg [.c (.slice g.base g.l.length g.cap), .c (.int .i64 g.out)]] [] (baseA w) 0 rfl rfl (by show 1 ≤ _; decide) (abs_base w) ?_
    (repeat' ((conv => whnf) <;> first | (show callK _ 19 _ _ _ _ _; refine call_pure (f := 19) Try.call19 (.bool true) (fun ρ w' hw => fixed18_any w') ?_) | (show callK _ 20 _ _ _ _ _; (refine call_pure (f := 20) Try.call20 (.bool true) (fun ρ w' hw => by have := few_any w' g (holds_of_abs hw fun R h => hg.later h); rw [hf] at this; exact this) ?_)) | (show callK _ 21 _ _ _ _ _; refine call_copied g Try.call21 (fun ρ w' hw => copied_any w' g (holds_of_abs hw fun R h => hgo.later h) (by omega)) (fun c hc1 hc2 hc3 => ?_)) | (show Wp _ _ _ _ _ _ _; refine Wp.go tabOk rfl ?_) | (show @cmpK _ _ _; (first | refine cmpY ?_ | refine cmpN ?_ | (refine cmp_both ?_ ?_ <;> intro _))) | (show wrapK _ _ _; refine wrapA ?_) | (show leK _ _ _; refine leA ?_) | (show roomK _ _ _; refine roomA ?_) | (show ltK _ _ _; refine ltA ?_) | (show _ ∧ _; refine ⟨?_, ?_⟩) | (show keepK _ _ _ _ _; refine keepA ?_) | refine own_keep ?_ | refine ap_old ?_))
    have htd : ∀ w', c.ok w' → Calls Try.prog 22 #[c.val] w' (TidyPost w' (spansH g).1 (tidyP (g.l.map NodeV.pl) (check g).2 g.out.toNat)) := fun w' h => by
      have := tidy_any w' c h
      rw [spansH_pl hc1 hc3, hc1, check_pl hc1 hc3, hc3] at this
      exact this
    generalize hX : tidyP (g.l.map NodeV.pl) (check g).2 g.out.toNat = X at *
    by_cases hsp : (spansH g).1 = 0
    · refine call_tidyW (spansH g).1 X Try.call22 (fun ρ w' hw => htd w' (holds_of_abs hw fun R h => copied_ok hgo hc1 hc2 hc3 h.2)) (fun h => absurd hsp h) (fun _ l base cap hl hko => ?_)
      (repeat' ((conv => whnf) <;> first | (show Wp _ _ _ _ _ _ _; refine Wp.go tabOk rfl ?_) | (show @cmpK _ _ _; (first | refine cmpY ?_ | refine cmpN ?_ | (refine cmp_both ?_ ?_ <;> intro _))) | (show wrapK _ _ _; refine wrapA ?_) | (show leK _ _ _; refine leA ?_) | (show roomK _ _ _; refine roomA ?_) | (show ltK _ _ _; refine ltA ?_) | (show _ ∧ _; refine ⟨?_, ?_⟩) | (show keepK _ _ _ _ _; refine keepA ?_) | refine own_keep ?_ | refine ap_old ?_))
      refine call_ref18 (g := g) (spansH g).1 X Try.call23 (fun ρ w' hw => by have := refTidy_any w' g (holds_of_abs hw fun R h => hgo.later h.1.1); rw [hX] at this; exact this) (fun h => absurd hsp h) (fun _ lr br cr hlr hsr h24 => ?_)
      have hlen : l.length = lr.length := by have := congrArg List.length (hl.trans hlr.symm); simpa using this
      (repeat' ((conv => whnf) <;> first | (show @cmpK _ _ _; refine cmp_yes rfl ?_) | (show callK _ 24 [.agg [.c (.slice base l.length cap), .c (.int .i64 X.2)], .agg [.c (.slice br lr.length cr), .c (.int .i64 X.2)]] _ _ _ _; (refine call_pure (f := 24) Try.call24 (.bool true) (fun ρ w' hw => sameGraph_eq w' ⟨base, cap, l, X.2⟩ ⟨br, cr, lr, X.2⟩ (tidied_fit hw (by repeat (first | exact List.mem_cons_self | apply List.mem_cons_of_mem)) (fun R w' h => rowsA_in h.1.2) hko (by omega)) (holds_of_abs hw fun R h => ref18_fit hgo hsr h24 h.1.1.1 h.2) (hl.trans hlr.symm) rfl) ?_)) | (show callK _ 24 [.agg [.c (.slice c.base c.l.length c.cap), .c (.int .i64 c.out)], .agg [.c (.slice g.base g.l.length g.cap), .c (.int .i64 g.out)]] _ _ _ _; (refine call_turn (g := 2) (us := partsL l) (.bool true) (by repeat (first | exact List.mem_cons_self | apply List.mem_cons_of_mem)) Try.call24 (fun ρ w' hw => sameGraph_eq w' c g (holds_of_abs hw fun R h => ok_fit (copied_ok hgo hc1 hc2 hc3 h.1.1.2)) (holds_of_abs hw fun R h => (ok_fit hgo).later h.1.1.1) hc1 hc3) ?_)) | (show Wp _ _ _ _ _ _ _; refine Wp.go tabOk rfl ?_) | (show @cmpK _ _ _; (first | refine cmpY ?_ | refine cmpN ?_ | (refine cmp_both ?_ ?_ <;> intro _))) | (show wrapK _ _ _; refine wrapA ?_) | (show leK _ _ _; refine leA ?_) | (show roomK _ _ _; refine roomA ?_) | (show ltK _ _ _; refine ltA ?_) | (show _ ∧ _; refine ⟨?_, ?_⟩) | (show keepK _ _ _ _ _; refine keepA ?_) | refine own_keep ?_ | refine ap_old ?_))
      refine Wp.loop (σ := Nat) 5 (fun i => [(1, .lp 0 0 0 0), (3, .lp 1 0 0 0), (4, .lp 3 0 0 0), (43, .c (.slice base l.length cap)), (44, .c (.int .i64 l.length)), (45, .c (.int .i64 i))])
        (fun _ => [(3, .box [.c (.slice base l.length cap), .c (.int .i64 X.2)] 26), (2, .ext (dataO (partsL l) false)), (1, .box [.c (.slice c.base c.l.length c.cap), .c (.int .i64 c.out)] 26), (0, .box [.c (.slice g.base g.l.length g.cap), .c (.int .i64 g.out)] 26)])
        (fun _ => ((baseA w).and (((rowsA c.base 9 (nodeRows c.l)).and (freshA c.l)).past w.heap.size)).and ((rowsA base 9 (nodeRows l)).past w.heap.size)) (fun i => i ≤ l.length) (fun i => l.length - i) 0 [] (by decide) (fun s => ⟨rfl, rfl⟩) (Nat.zero_le _)
        ⟨rfl, ⟨rfl, rfl, rfl, rfl, rfl, rfl, trivial⟩, ⟨(by repeat (first | exact List.mem_cons_self | apply List.mem_cons_of_mem)), (by repeat (first | exact List.mem_cons_self | apply List.mem_cons_of_mem)), (by repeat (first | exact List.mem_cons_self | apply List.mem_cons_of_mem)), (by repeat (first | exact List.mem_cons_self | apply List.mem_cons_of_mem)), trivial⟩, fun R w' h => h.1⟩ ?_
      rintro i hi
      by_cases hlt : i < l.length
      · refine Wp.know (p := ∃ a, base = some a) (fun ρ w' hw => holds_of_abs hw fun R h => base_some (j := i) (rowsA_in h.2) (by rw [nodeRows_length]; omega)) ?_
        rintro ⟨ha, hha⟩
        have hrow := nodeRows_get hlt
        have hnm := List.getElem_mem hlt
        generalize l[i] = n at *
        have hdm := (parts_in hnm).2.1
        have hds := (hko n hnm).1.data
        (repeat' ((conv => whnf) <;> first | (show idxK _ _ _ _ _; refine idx_of ha i hha rfl hlt ?_) | (show roK _ _ _; (refine ro_row (j := i) (f := 7) (fun R w' h => by rw [← hha]; exact rowsA_in h.2) n.cells n.data.val hrow rfl ?_)) | (show Wp _ _ _ _ _ _ _; refine Wp.go tabOk rfl ?_) | (show @cmpK _ _ _; (first | refine cmpY ?_ | refine cmpN ?_ | (refine cmp_both ?_ ?_ <;> intro _))) | (show wrapK _ _ _; refine wrapA ?_) | (show leK _ _ _; refine leA ?_) | (show roomK _ _ _; refine roomA ?_) | (show ltK _ _ _; refine ltA ?_) | (show _ ∧ _; refine ⟨?_, ?_⟩) | (show keepK _ _ _ _ _; refine keepA ?_) | refine own_keep ?_ | refine ap_old ?_))
        refine Wp.loop (σ := Nat) 5 (fun j => [(1, .lp 0 0 0 0), (3, .lp 1 0 0 0), (4, .lp 3 0 0 0), (43, .c (.slice base l.length cap)), (44, .c (.int .i64 l.length)), (45, .c (.int .i64 i)), (8, .c (.int .i64 i)), (53, .c n.data.val), (54, .c (.int .i64 n.data.xs.length)), (55, .c (.int .i64 j))])
          (fun _ => [(3, .box [.c (.slice base l.length cap), .c (.int .i64 X.2)] 26), (2, .ext (dataO (partsL l) false)), (1, .box [.c (.slice c.base c.l.length c.cap), .c (.int .i64 c.out)] 26), (0, .box [.c (.slice g.base g.l.length g.cap), .c (.int .i64 g.out)] 26)])
          (fun _ => ((baseA w).and (((rowsA c.base 9 (nodeRows c.l)).and (freshA c.l)).past w.heap.size)).and ((rowsA base 9 (nodeRows l)).past w.heap.size)) (fun j => j ≤ n.data.xs.length) (fun j => n.data.xs.length - j) 0 [] (by decide) (fun s => ⟨rfl, rfl⟩) (Nat.zero_le _)
          ⟨rfl, ⟨rfl, rfl, rfl, rfl, rfl, rfl, rfl, rfl, rfl, rfl, trivial⟩, ⟨(by repeat (first | exact List.mem_cons_self | apply List.mem_cons_of_mem)), (by repeat (first | exact List.mem_cons_self | apply List.mem_cons_of_mem)), (by repeat (first | exact List.mem_cons_self | apply List.mem_cons_of_mem)), (by repeat (first | exact List.mem_cons_self | apply List.mem_cons_of_mem)), trivial⟩, fun R w' h => h⟩ ?_
        rintro j hj
        have hdf := hds.few
        by_cases hjl : j < n.data.xs.length
        · refine Wp.know (p := ∃ b off, n.data.base = some ⟨b, off, none⟩) (fun ρ w' hw => data_base hw (g := 2) (by repeat (first | exact List.mem_cons_self | apply List.mem_cons_of_mem)) hdm hjl) ?_
          rintro ⟨b, off, hb⟩
          (repeat' ((conv => whnf) <;> first | (show Wp _ (Code.region 16 _ _) _ _ _ _ _; refine Wp.reg tabOk 8 ?_) | (show idxK _ _ _ _ _; (first | refine idx_of ha i hha rfl hlt ?_ | refine idx_of ⟨b, off, none⟩ j hb rfl hjl ?_)) | (show roK _ _ _; (refine ro_row (j := i) (f := 7) (fun R w' h => by rw [← hha]; exact rowsA_in h.2) n.cells n.data.val hrow rfl ?_)) | (show Wp _ _ _ _ _ _ _; refine Wp.go tabOk rfl ?_) | (show @cmpK _ _ _; (first | refine cmpY ?_ | refine cmpN ?_ | (refine cmp_both ?_ ?_ <;> intro _))) | (show wrapK _ _ _; refine wrapA ?_) | (show leK _ _ _; refine leA ?_) | (show roomK _ _ _; refine roomA ?_) | (show ltK _ _ _; refine ltA ?_) | (show _ ∧ _; refine ⟨?_, ?_⟩) | (show keepK _ _ _ _ _; refine keepA ?_) | refine own_keep ?_ | refine ap_old ?_))
          refine RegW.peek tabOk (fun v => cellA ⟨b, off + j, none⟩ v) (fun v => ∃ x : Int, v = .int .i64 x) rfl (fun ρ w' hw => peek_data hw (g := 2) (by repeat (first | exact List.mem_cons_self | apply List.mem_cons_of_mem)) hdm hjl hb) (fun v hv => ?_) ?_
          · conv => whnf
            exact ro_cell (fun R w' h => by show w'.cell? ((Addr.mk b off none).add (j * 1)) = _; rw [add_none, Nat.mul_one]; exact h.2) rfl
          rintro v ⟨x, rfl⟩
          show RegW _ _ _ _ _ _ _ _
          refine RegW.go tabOk 9 ?_
          (repeat' ((conv => whnf) <;> first | (show wrapK _ _ _; (first | refine wrap_i64 (by omega) (by omega) ?_ | refine wrap_any ?_)) | (show idxK _ _ _ _ _; refine idx_of ⟨b, off, none⟩ j hb rfl hjl ?_) | (show wrK _ _ _ _ _; (refine wr_data (g := 2) (by repeat (first | exact List.mem_cons_self | apply List.mem_cons_of_mem)) hdm hjl hb (by show (Addr.mk b off none).add (j * 1) = _; rw [add_none, Nat.mul_one]) ?_)) | (show Wp _ _ _ _ _ _ _; refine Wp.go tabOk rfl ?_) | (show @cmpK _ _ _; (first | refine cmpY ?_ | refine cmpN ?_ | (refine cmp_both ?_ ?_ <;> intro _))) | (show wrapK _ _ _; refine wrapA ?_) | (show leK _ _ _; refine leA ?_) | (show roomK _ _ _; refine roomA ?_) | (show ltK _ _ _; refine ltA ?_) | (show _ ∧ _; refine ⟨?_, ?_⟩) | (show keepK _ _ _ _ _; refine keepA ?_) | refine own_keep ?_ | refine ap_old ?_))
          all_goals (conv => whnf)
          all_goals exact ⟨j + 1, [], hjl, by omega, rfl, ⟨rfl, rfl, rfl, rfl, rfl, rfl, rfl, rfl, rfl, rfl, trivial⟩, ⟨(by repeat (first | exact List.mem_cons_self | apply List.mem_cons_of_mem)), (by repeat (first | exact List.mem_cons_self | apply List.mem_cons_of_mem)), (by repeat (first | exact List.mem_cons_self | apply List.mem_cons_of_mem)), (by repeat (first | exact List.mem_cons_self | apply List.mem_cons_of_mem)), trivial⟩, fun R w' h => h⟩
        · obtain rfl : j = n.data.xs.length := by omega
          (repeat' ((conv => whnf) <;> first | (show Wp _ _ _ _ _ _ _; refine Wp.go tabOk rfl ?_) | (show @cmpK _ _ _; (first | refine cmpY ?_ | refine cmpN ?_ | (refine cmp_both ?_ ?_ <;> intro _))) | (show wrapK _ _ _; refine wrapA ?_) | (show leK _ _ _; refine leA ?_) | (show roomK _ _ _; refine roomA ?_) | (show ltK _ _ _; refine ltA ?_) | (show _ ∧ _; refine ⟨?_, ?_⟩) | (show keepK _ _ _ _ _; refine keepA ?_) | refine own_keep ?_ | refine ap_old ?_))
          all_goals (conv => whnf)
          all_goals exact ⟨i + 1, [], hlt, by omega, rfl, ⟨rfl, rfl, rfl, rfl, rfl, rfl, trivial⟩, ⟨(by repeat (first | exact List.mem_cons_self | apply List.mem_cons_of_mem)), (by repeat (first | exact List.mem_cons_self | apply List.mem_cons_of_mem)), (by repeat (first | exact List.mem_cons_self | apply List.mem_cons_of_mem)), (by repeat (first | exact List.mem_cons_self | apply List.mem_cons_of_mem)), trivial⟩, fun R w' h => h⟩
      · obtain rfl : i = l.length := by omega
        (repeat' ((conv => whnf) <;> first | (show callK _ 24 _ _ _ _ _; refine call_pure (f := 24) Try.call24 (.bool true) (fun ρ w' hw => sameGraph_eq w' c g (holds_of_abs hw fun R h => ok_fit (copied_ok hgo hc1 hc2 hc3 h.1.2)) (holds_of_abs hw fun R h => (ok_fit hgo).later h.1.1) hc1 hc3) ?_) | (show Wp _ _ _ _ _ _ _; refine Wp.go tabOk rfl ?_) | (show @cmpK _ _ _; (first | refine cmpY ?_ | refine cmpN ?_ | (refine cmp_both ?_ ?_ <;> intro _))) | (show wrapK _ _ _; refine wrapA ?_) | (show leK _ _ _; refine leA ?_) | (show roomK _ _ _; refine roomA ?_) | (show ltK _ _ _; refine ltA ?_) | (show _ ∧ _; refine ⟨?_, ?_⟩) | (show keepK _ _ _ _ _; refine keepA ?_) | refine own_keep ?_ | refine ap_old ?_))
        all_goals (conv => whnf)
        all_goals exact ends_bool (fun R w' h => h.1.1) rfl rfl
    · refine call_tidyW (spansH g).1 X Try.call22 (fun ρ w' hw => htd w' (holds_of_abs hw fun R h => copied_ok hgo hc1 hc2 hc3 h.2)) (fun _ => ?_) (fun h => absurd h hsp)
      (repeat' ((conv => whnf) <;> first | (show Wp _ _ _ _ _ _ _; refine Wp.go tabOk rfl ?_) | (show @cmpK _ _ _; (first | refine cmpY ?_ | refine cmpN ?_ | (refine cmp_both ?_ ?_ <;> intro _))) | (show wrapK _ _ _; refine wrapA ?_) | (show leK _ _ _; refine leA ?_) | (show roomK _ _ _; refine roomA ?_) | (show ltK _ _ _; refine ltA ?_) | (show _ ∧ _; refine ⟨?_, ?_⟩) | (show keepK _ _ _ _ _; refine keepA ?_) | refine own_keep ?_ | refine ap_old ?_))
      refine call_ref18 (g := g) (spansH g).1 X Try.call23 (fun ρ w' hw => by have := refTidy_any w' g (holds_of_abs hw fun R h => hgo.later h.1); rw [hX] at this; exact this) (fun _ => ?_) (fun h => absurd h hsp)
      (repeat' ((conv => whnf) <;> first | (show @cmpK _ _ _; refine cmp_yes rfl ?_) | (show callK _ 24 [.agg [.c (.slice none 0 0), .c (.int .i64 0)], .agg [.c (.slice none 0 0), .c (.int .i64 0)]] _ _ _ _; refine call_pure (f := 24) Try.call24 (.bool true) (fun ρ w' hw => sameGraph_eq w' ⟨none, 0, [], 0⟩ ⟨none, 0, [], 0⟩ ⟨.inl rfl, fun n hn => by simp at hn, Nat.zero_le _⟩ ⟨.inl rfl, fun n hn => by simp at hn, Nat.zero_le _⟩ rfl rfl) ?_) | (show callK _ 24 [.agg [.c (.slice c.base c.l.length c.cap), .c (.int .i64 c.out)], .agg [.c (.slice g.base g.l.length g.cap), .c (.int .i64 g.out)]] _ _ _ _; refine call_pure (f := 24) Try.call24 (.bool true) (fun ρ w' hw => sameGraph_eq w' c g (holds_of_abs hw fun R h => ok_fit (copied_ok hgo hc1 hc2 hc3 h.2)) (holds_of_abs hw fun R h => (ok_fit hgo).later h.1) hc1 hc3) ?_) | (show Wp _ _ _ _ _ _ _; refine Wp.go tabOk rfl ?_) | (show @cmpK _ _ _; (first | refine cmpY ?_ | refine cmpN ?_ | (refine cmp_both ?_ ?_ <;> intro _))) | (show wrapK _ _ _; refine wrapA ?_) | (show leK _ _ _; refine leA ?_) | (show roomK _ _ _; refine roomA ?_) | (show ltK _ _ _; refine ltA ?_) | (show _ ∧ _; refine ⟨?_, ?_⟩) | (show keepK _ _ _ _ _; refine keepA ?_) | refine own_keep ?_ | refine ap_old ?_))
      refine Wp.rounds 1 ?_
      (repeat' ((conv => whnf) <;> first | (show callK _ 24 _ _ _ _ _; refine call_pure (f := 24) Try.call24 (.bool true) (fun ρ w' hw => sameGraph_eq w' c g (holds_of_abs hw fun R h => ok_fit (copied_ok hgo hc1 hc2 hc3 h.2)) (holds_of_abs hw fun R h => (ok_fit hgo).later h.1) hc1 hc3) ?_) | (show Wp _ _ _ _ _ _ _; refine Wp.go tabOk rfl ?_) | (show @cmpK _ _ _; (first | refine cmpY ?_ | refine cmpN ?_ | (refine cmp_both ?_ ?_ <;> intro _))) | (show wrapK _ _ _; refine wrapA ?_) | (show leK _ _ _; refine leA ?_) | (show roomK _ _ _; refine roomA ?_) | (show ltK _ _ _; refine ltA ?_) | (show _ ∧ _; refine ⟨?_, ?_⟩) | (show keepK _ _ _ _ _; refine keepA ?_) | refine own_keep ?_ | refine ap_old ?_))
      all_goals (conv => whnf)
      all_goals exact ends_bool (fun R w' h => h.1) rfl rfl
end Go.Proofs.Ytdmkdogakbipbaa

/- GT -/
namespace Go.Proofs.Ytdmkdogakbipbaa
open Go.SX Go.ChangeShapes Go.WideShapes Go.ChangeAt Go.RowKit
/-- a field's cells: a number, or numbers -/
def FieldQ (w : World) (f : Field) (cs : List Value) : Prop :=
  (f.type = 3 → ∃ i, (Lit.int .i64 i).wf = true ∧ cs = [.int .i64 i]) ∧ (f.type = 33 → ∃ u : IntsV, cs = [u.val] ∧ u.raw w)
theorem list9 {cs : List Value} (h : cs.length = 9) : ∃ a b c d e f g i j, cs = [a, b, c, d, e, f, g, i, j] := by
  match cs, h with
  | [a, b, c, d, e, f, g, i, j], _ => exact ⟨a, b, c, d, e, f, g, i, j, rfl⟩
theorem list2 {cs : List Value} (h : cs.length = 2) : ∃ a b, cs = [a, b] := by
  match cs, h with
  | [a, b], _ => exact ⟨a, b, rfl⟩
theorem c_int : Try.prog.cellsOf 3 = 1 := by kernel_rfl
theorem c_ints : Try.prog.cellsOf 33 = 1 := by kernel_rfl
theorem opens_node (w : World) : Opens Try.prog w 38 fun cs => ∃ n : NodeV, cs = n.cells ∧ n.raw w := by
  have h := opens_struct (P := Try.prog) (w := w) (k := 9) (Q := FieldQ w) Try.underlying38 (by kernel_rfl) (by
    intro f hf
    have hi : ∀ t, t = 3 → Opens Try.prog w t fun cs => (t = 3 → ∃ i, (Lit.int .i64 i).wf = true ∧ cs = [.int .i64 i]) ∧ (t = 33 → ∃ u : IntsV, cs = [u.val] ∧ u.raw w) := by
      rintro t rfl
      exact Opens.mono (opens_int Try.underlying3) fun cs hc => ⟨fun _ => hc, fun h => (by cases h)⟩
    have hs : ∀ t, t = 33 → Opens Try.prog w t fun cs => (t = 3 → ∃ i, (Lit.int .i64 i).wf = true ∧ cs = [.int .i64 i]) ∧ (t = 33 → ∃ u : IntsV, cs = [u.val] ∧ u.raw w) := by
      rintro t rfl
      exact Opens.mono (opens_intsV w) fun cs hc => ⟨fun h => (by cases h), fun _ => hc⟩
    simp only [List.mem_toArray, List.mem_cons, List.not_mem_nil, or_false] at hf
    rcases hf with rfl | rfl | rfl | rfl | rfl | rfl | rfl | rfl | rfl
    all_goals first | (refine Opens.mono (Q' := FieldQ w _) (hi _ rfl) ?_; intro cs h; exact h) | (refine Opens.mono (Q' := FieldQ w _) (hs _ rfl) ?_; intro cs h; exact h))
  refine Opens.mono h ?_
  rintro cs ⟨hl, hf⟩
  obtain ⟨a, b, c, d, e, f, g, i, j, rfl⟩ := list9 hl
  simp only [List.mem_toArray, List.mem_cons, List.not_mem_nil, or_false, forall_eq_or_imp, forall_eq, FieldQ, c_int, c_ints, List.drop_zero, List.drop_succ_cons, List.take_succ_cons, List.take_zero, forall_const, true_and, and_true, reduceCtorEq, Nat.reduceEqDiff, false_implies] at hf
  obtain ⟨⟨x1, w1, e1⟩, ⟨x2, w2, e2⟩, ⟨x3, w3, e3⟩, ⟨x4, e4, w4⟩, ⟨x5, w5, e5⟩, ⟨x6, w6, e6⟩, ⟨x7, w7, e7⟩, ⟨x8, e8, w8⟩, ⟨x9, e9, w9⟩⟩ := hf
  simp only [List.cons.injEq, and_true] at e1 e2 e3 e4 e5 e6 e7 e8 e9
  subst e1 e2 e3 e4 e5 e6 e7 e8 e9
  exact ⟨⟨x1, x2, x3, x4, x5, x6, x7, x8, x9⟩, rfl, w4, w8, w9, wf_i64' w1, wf_i64' w2, wf_i64' w3, wf_i64' w5, wf_i64' w6, wf_i64' w7⟩

theorem opens_graph (w : World) : Opens Try.prog w 26 fun cs => ∃ g : GraphV, cs = [.slice g.base g.l.length g.cap, .int .i64 g.out] ∧ g.raw w := by
  have hns := opens_slice (P := Try.prog) (w := w) (k := 9) Try.underlying24 (by kernel_rfl) (opens_node w)
  have h := opens_struct (P := Try.prog) (w := w) (k := 2) (Q := fun f cs => (f.type = 3 → ∃ i, (Lit.int .i64 i).wf = true ∧ cs = [.int .i64 i]) ∧ (f.type = 24 → SliceQ w 9 (fun cs => ∃ n : NodeV, cs = n.cells ∧ n.raw w) cs)) Try.underlying26 (by kernel_rfl) (by
    intro f hf
    simp only [List.mem_toArray, List.mem_cons, List.not_mem_nil, or_false] at hf
    rcases hf with rfl | rfl
    · exact Opens.mono hns fun cs hc => ⟨fun h => (by cases h), fun _ => hc⟩
    · exact Opens.mono (opens_int Try.underlying3) fun cs hc => ⟨fun _ => hc, fun h => (by cases h)⟩)
  refine Opens.mono h ?_
  rintro cs ⟨hl, hf⟩
  obtain ⟨a, b, rfl⟩ := list2 hl
  have c_nodes : Try.prog.cellsOf 24 = 1 := by kernel_rfl
  simp only [List.mem_toArray, List.mem_cons, List.not_mem_nil, or_false, forall_eq_or_imp, forall_eq, c_int, c_nodes, List.drop_zero, List.drop_succ_cons, List.take_succ_cons, List.take_zero, forall_const, true_and, and_true, reduceCtorEq, Nat.reduceEqDiff, false_implies] at hf
  obtain ⟨⟨base, cap, xs, e1, hr, hx, _⟩, x2, w2, e2⟩ := hf
  obtain ⟨l, rfl, hall⟩ := list_map_of (f := NodeV.cells) (p := fun n => n.raw w) fun r hr => by obtain ⟨n, hn, hn'⟩ := (hx r hr).2; exact ⟨n, hn', hn⟩
  simp only [List.cons.injEq, and_true] at e1 e2
  subst e1 e2
  exact ⟨⟨base, cap, l, x2⟩, by simp, hr, hall, wf_i64' w2⟩
end Go.Proofs.Ytdmkdogakbipbaa

