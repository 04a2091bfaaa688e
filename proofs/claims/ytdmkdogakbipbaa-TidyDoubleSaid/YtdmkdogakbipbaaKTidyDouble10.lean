import Derived.Test.YtdmkdogakbipbaaKTidyDouble9
/- NX -/
namespace Go.Proofs.Ytdmkdogakbipbaa
open Go.SX Go.RowKit
def scaleN (y : IntsV) : NodeV := ⟨7, 0, 0, nilI, 0, 0, 0, y, nilI⟩
def gT (nb : Option Addr) (nc : Nat) (u v y : IntsV) : GraphV := ⟨nb, nc, [constN u v, scaleN y], 1⟩
def gTP : GraphV := gT none 0 ⟨none, 0, [1]⟩ ⟨none, 0, [2]⟩ ⟨none, 0, [3]⟩
theorem gTP_spans : (spansH gTP).1 = 0 := by kernel_rfl
theorem gTP_tidy : tidyP (gTP.l.map NodeV.pl) (check gTP).2 1 = ([⟨2, 0, 0, [1], 0, 0, 0, [6], []⟩], 0) := by kernel_rfl
theorem gT_all {nb : Option Addr} {nc : Nat} {u v y : IntsV} (hu : u.xs = [1]) (hv : v.xs = [2]) (hy : y.xs = [3]) : (spansH (gT nb nc u v y)).1 = 0 ∧ tidyP ((gT nb nc u v y).l.map NodeV.pl) (check (gT nb nc u v y)).2 1 = ([⟨2, 0, 0, [1], 0, 0, 0, [6], []⟩], 0) := by
  have hl : (gT nb nc u v y).l.map NodeV.pl = gTP.l.map NodeV.pl := by
    show [NodeP.mk 2 0 0 u.xs 0 0 0 v.xs [], NodeP.mk 7 0 0 [] 0 0 0 y.xs []] = _
    rw [hu, hv, hy]; rfl
  rw [spansH_pl hl rfl, hl, check_pl hl rfl]
  exact ⟨gTP_spans, gTP_tidy⟩
theorem gT_ok {w : World} {nb : Option Addr} {nc : Nat} {u v y : IntsV} (hr : RowsI w nb 9 (nodeRows [constN u v, scaleN y])) (hu : u.ok w) (hv : v.ok w) (hy : y.ok w) (h2 : v.xs.length ≤ 5000) (h3 : y.xs.length ≤ 5000) : (gT nb nc u v y).ok w := by
  refine ⟨hr, fun n hn => ?_, fun n hn => ?_, (show 2 ≤ 1000000 by decide), i64_1⟩
  · rcases List.mem_cons.1 hn with rfl | hn
    · exact constN_ok hu hv
    · rw [List.mem_singleton.1 hn]
      exact ⟨nil_ok w, hy, nil_ok w, (show i64 7 from ⟨by decide, by decide⟩), i64_0, i64_0, i64_0, i64_0, i64_0⟩
  · rcases List.mem_cons.1 hn with rfl | hn
    · exact ⟨h2, Nat.zero_le _⟩
    · rw [List.mem_singleton.1 hn]; exact ⟨h3, Nat.zero_le _⟩
set_option maxRecDepth 20000 in
set_option maxHeartbeats 1000000 in
theorem fixed18_any (w : World) : Calls Try.prog 19 #[] w fun e w' => e = .returned (.bool true) ∧ Ext w w' := by
  refine calls_of tab tabOk Try.func19 rfl rfl rfl [] (fun _ => ⟨none, 0⟩) [] [] (baseA w) 0 rfl rfl (by show 0 ≤ _; decide) (abs_base w) ?_
  (repeat' ((conv => whnf) <;> first | (show Wp _ _ _ _ _ _ _; refine Wp.go tabOk rfl ?_) | (show @cmpK _ _ _; (first | refine cmpY ?_ | refine cmpN ?_ | (refine cmp_both ?_ ?_ <;> intro _))) | (show wrapK _ _ _; refine wrapA ?_) | (show leK _ _ _; refine leA ?_) | (show roomK _ _ _; refine roomA ?_) | (show ltK _ _ _; refine ltA ?_) | (show _ ∧ _; refine ⟨?_, ?_⟩) | (show keepK _ _ _ _ _; refine keepA ?_) | refine ap_old ?_))
  refine freeze_intsI (w0 := w) [1] (fun R w' h => h) rfl rfl (few_i64 rfl) (by decide) (fun u hu hus => ?_)
  (repeat' ((conv => whnf) <;> first | (show Wp _ _ _ _ _ _ _; refine Wp.go tabOk rfl ?_) | (show @cmpK _ _ _; (first | refine cmpY ?_ | refine cmpN ?_ | (refine cmp_both ?_ ?_ <;> intro _))) | (show wrapK _ _ _; refine wrapA ?_) | (show leK _ _ _; refine leA ?_) | (show roomK _ _ _; refine roomA ?_) | (show ltK _ _ _; refine ltA ?_) | (show _ ∧ _; refine ⟨?_, ?_⟩) | (show keepK _ _ _ _ _; refine keepA ?_) | refine ap_old ?_))
  refine freeze_intsI (w0 := w) [2] (fun R w' h => h.1) rfl rfl (few_i64 rfl) (by decide) (fun v hv hvs => ?_)
  (repeat' ((conv => whnf) <;> first | (show Wp _ _ _ _ _ _ _; refine Wp.go tabOk rfl ?_) | (show @cmpK _ _ _; (first | refine cmpY ?_ | refine cmpN ?_ | (refine cmp_both ?_ ?_ <;> intro _))) | (show wrapK _ _ _; refine wrapA ?_) | (show leK _ _ _; refine leA ?_) | (show roomK _ _ _; refine roomA ?_) | (show ltK _ _ _; refine ltA ?_) | (show _ ∧ _; refine ⟨?_, ?_⟩) | (show keepK _ _ _ _ _; refine keepA ?_) | refine ap_old ?_))
  refine freeze_intsI (w0 := w) [3] (fun R w' h => h.1.1) rfl rfl (few_i64 rfl) (by decide) (fun y hy hys => ?_)
  (repeat' ((conv => whnf) <;> first | (show Wp _ _ _ _ _ _ _; refine Wp.go tabOk rfl ?_) | (show @cmpK _ _ _; (first | refine cmpY ?_ | refine cmpN ?_ | (refine cmp_both ?_ ?_ <;> intro _))) | (show wrapK _ _ _; refine wrapA ?_) | (show leK _ _ _; refine leA ?_) | (show roomK _ _ _; refine roomA ?_) | (show ltK _ _ _; refine ltA ?_) | (show _ ∧ _; refine ⟨?_, ?_⟩) | (show keepK _ _ _ _ _; refine keepA ?_) | refine ap_old ?_))
  refine freeze_nodesI (w0 := w) [constN u v, scaleN y] (fun R w' h => h.1.1.1) rfl rfl (fun nb nc => ?_)
  obtain ⟨hS, hR⟩ := gT_all (nb := nb) (nc := nc) hu hv hy
  (repeat' ((conv => whnf) <;> first | (show Wp _ _ _ _ _ _ _; refine Wp.go tabOk rfl ?_) | (show @cmpK _ _ _; (first | refine cmpY ?_ | refine cmpN ?_ | (refine cmp_both ?_ ?_ <;> intro _))) | (show wrapK _ _ _; refine wrapA ?_) | (show leK _ _ _; refine leA ?_) | (show roomK _ _ _; refine roomA ?_) | (show ltK _ _ _; refine ltA ?_) | (show _ ∧ _; refine ⟨?_, ?_⟩) | (show keepK _ _ _ _ _; refine keepA ?_) | refine ap_old ?_))
  refine call_tidyW 0 _ Try.call22 (fun ρ w' hw => by have := tidy_any w' (gT nb nc u v y) (holds_of_abs hw fun R h => gT_ok (rowsA_in h.2) (intsA_ok hus h.1.1.1.2) (intsA_ok hvs h.1.1.2) (intsA_ok hys h.1.2) (by rw [hv]; decide) (by rw [hy]; decide)); rw [hS] at this; erw [hR] at this; exact this) (fun h => absurd rfl h) (fun _ l hb hc hl hko => ?_)
  obtain ⟨z, rfl⟩ : ∃ z, l = [z] := by
    have h1 : l.length = 1 := by simpa using congrArg List.length hl
    match l, h1 with
    | [z], _ => exact ⟨z, rfl⟩
  have hz : z.pl = ⟨2, 0, 0, [1], 0, 0, 0, [6], []⟩ := by simpa using hl
  have hzk : z.kind = 2 := congrArg NodeP.kind hz
  have hzd : z.data.xs = [6] := congrArg NodeP.data hz
  refine Wp.know (p := ∃ a, hb = some a) (fun ρ w' hw => holds_of_abs hw fun R h => base_some (j := 0) (rowsA_in h.2) (show 0 < 1 by decide)) ?_
  rintro ⟨ha, rfl⟩
  (repeat' ((conv => whnf) <;> first | (show @cmpK _ _ _; (first | refine cmp_yes rfl ?_ | refine cmp_yes hzk ?_)) | (show idxK _ _ _ _ _; refine idx_of ha 0 rfl rfl (show 0 < 1 by decide) ?_) | (show roK _ _ _; (first | refine ro_row (j := 0) (f := 0) (fun R w' h => rowsA_in h.2) z.cells (.int .i64 z.kind) rfl rfl ?_ | refine ro_row0 (j := 0) (fun R w' h => rowsA_in h.2) z.cells (.int .i64 z.kind) rfl rfl ?_ | refine ro_row (j := 0) (f := 7) (fun R w' h => rowsA_in h.2) z.cells z.data.val rfl rfl ?_)) | (show Wp _ _ _ _ _ _ _; refine Wp.go tabOk rfl ?_) | (show @cmpK _ _ _; (first | refine cmpY ?_ | refine cmpN ?_ | (refine cmp_both ?_ ?_ <;> intro _))) | (show wrapK _ _ _; refine wrapA ?_) | (show leK _ _ _; refine leA ?_) | (show roomK _ _ _; refine roomA ?_) | (show ltK _ _ _; refine ltA ?_) | (show _ ∧ _; refine ⟨?_, ?_⟩) | (show keepK _ _ _ _ _; refine keepA ?_) | refine ap_old ?_))
  refine freeze_intsI (w0 := w) [6] (fun R w' h => h.1.1.1.1.1) rfl rfl (few_i64 rfl) (by decide) (fun q hq hqs => ?_)
  (repeat' ((conv => whnf) <;> first | (show @cmpK _ _ _; (first | refine cmp_yes rfl ?_ | refine cmp_yes hzk ?_)) | (show callK _ 26 _ _ _ _ _; (refine call_pure (f := 26) Try.call26 (.bool true) (fun ρ w' hw => by have := same_any w' z.data q ((tidied_fit (cap := 0) (out := 0) hw (by repeat (first | exact List.mem_cons_self | apply List.mem_cons_of_mem)) (fun R w' h => rowsA_in h.1.2) hko (show 1 ≤ 1000000 by decide)).each z List.mem_cons_self).data (holds_of_abs hw fun R h => intsA_ok hqs h.2); rw [decide_eq_true (hzd.trans hq.symm)] at this; exact this) ?_)) | (show Wp _ _ _ _ _ _ _; refine Wp.go tabOk rfl ?_) | (show @cmpK _ _ _; (first | refine cmpY ?_ | refine cmpN ?_ | (refine cmp_both ?_ ?_ <;> intro _))) | (show wrapK _ _ _; refine wrapA ?_) | (show leK _ _ _; refine leA ?_) | (show roomK _ _ _; refine roomA ?_) | (show ltK _ _ _; refine ltA ?_) | (show _ ∧ _; refine ⟨?_, ?_⟩) | (show keepK _ _ _ _ _; refine keepA ?_) | refine own_keep ?_ | refine ap_old ?_))
  conv => whnf
  exact ends_bool (fun R w' h => h.1.1.1.1.1.1) rfl rfl
end Go.Proofs.Ytdmkdogakbipbaa

/- PN -/
namespace Go.Proofs.Ytdmkdogakbipbaa
open Go.SX Go.RowKit
theorem len_snocN {α : Type} (l : List α) (x : α) : l.length + 1 = (l ++ [x]).length := by rw [List.length_append]; rfl
structure TwoOk (l two : List NodeV) (pl : List Nat) (j : Nat) : Prop where
  rows : two.map NodeV.pl = (dblP ((l.take j).map NodeV.pl)).1
  places : pl = (dblP ((l.take j).map NodeV.pl)).2
  few : two.length ≤ 2 * j
  len : pl.length = j
  small : ∀ x ∈ pl, x ≤ 1000
  each : ∀ m ∈ two, ∃ n ∈ l, ∃ a b : Int, m = atV n a b ∧ i64 a ∧ i64 b
theorem twoOk_nil (l : List NodeV) : TwoOk l [] [] 0 := ⟨rfl, rfl, Nat.le_refl _, rfl, fun x hx => by simp at hx, fun m hm => by simp at hm⟩
theorem TwoOk.lt {l two : List NodeV} {pl : List Nat} {j : Nat} (h : TwoOk l two pl j) (k : Nat) : pl.getD k 0 ≤ 1000 := by
  rcases Nat.lt_or_ge k pl.length with hk | hk
  · rw [List.getD_eq_getElem?_getD, List.getElem?_eq_getElem hk]
    exact h.small _ (List.getElem_mem hk)
  · rw [List.getD_eq_getElem?_getD, List.getElem?_eq_none hk]; exact Nat.zero_le _
theorem TwoOk.step {l two : List NodeV} {pl : List Nat} {j : Nat} (h : TwoOk l two pl j) (hl : l.length ≤ 100) (hj : j < l.length) {n m : NodeV} (hn : l[j] = n) (hm : m = movedV pl n) (ha : i64 n.a) (hb : i64 n.b) :
    (n.kind = 1 → TwoOk l (two ++ [m]) (pl ++ [two.length]) (j + 1)) ∧ (n.kind ≠ 1 → TwoOk l ((two ++ [m]) ++ [m]) (pl ++ [two.length + 1]) (j + 1)) := by
  have e : dblP ((l.take (j + 1)).map NodeV.pl) = dstep (two.map NodeV.pl, pl) n.pl := by
    rw [List.take_add_one, List.getElem?_eq_getElem hj, hn, List.map_append]
    unfold dblP
    rw [List.foldl_append]
    show dstep (dblP _) n.pl = _
    rw [h.rows, h.places]
  have em : m.pl = movedP pl n.pl := by rw [hm, movedV_pl]
  have kk : n.pl.kind = n.kind := rfl
  have hnl : n ∈ l := by rw [← hn]; exact List.getElem_mem hj
  have hf := h.few
  have hac : ∃ n ∈ l, ∃ a b : Int, m = atV n a b ∧ i64 a ∧ i64 b := by
    refine ⟨n, hnl, _, _, hm, ?_, ?_⟩
    · obtain ⟨_, _, q1, q2, _, _⟩ := moved_eq pl n.pl
      by_cases h12 : n.pl.kind = 1 ∨ n.pl.kind = 2
      · rw [q2 h12]; exact ha
      · rw [q1 (by omega) (by omega)]
        have := h.lt n.pl.a.toNat
        unfold i64; omega
    · obtain ⟨_, _, _, _, q1, q2⟩ := moved_eq pl n.pl
      by_cases h6 : n.pl.kind = 6
      · rw [q1 h6]
        have := h.lt n.pl.b.toNat
        unfold i64; omega
      · rw [q2 h6]; exact hb
  refine ⟨fun hk => ⟨?_, ?_, by simp; omega, by simp [h.len], fun x hx => ?_, fun x hx => ?_⟩, fun hk => ⟨?_, ?_, by simp; omega, by simp [h.len], fun x hx => ?_, fun x hx => ?_⟩⟩
  · rw [e]; unfold dstep; rw [if_pos (by omega), List.map_append, ← em]; rfl
  · rw [e]; unfold dstep; rw [if_pos (by omega), if_pos (by omega), List.length_map]; rfl
  · rcases List.mem_append.1 hx with hx | hx
    · exact h.small x hx
    · rw [List.mem_singleton.1 hx]; omega
  · rcases List.mem_append.1 hx with hx | hx
    · exact h.each x hx
    · rw [List.mem_singleton.1 hx]; exact hac
  · rw [e]; unfold dstep; rw [if_neg (by omega), List.map_append, List.map_append, ← em]; simp
  · rw [e]; unfold dstep; rw [if_neg (by omega), if_neg (by omega), List.length_map]
  · rcases List.mem_append.1 hx with hx | hx
    · exact h.small x hx
    · rw [List.mem_singleton.1 hx]; omega
  · rcases List.mem_append.1 hx with hx | hx
    · rcases List.mem_append.1 hx with hx | hx
      · exact h.each x hx
      · rw [List.mem_singleton.1 hx]; exact hac
    · rw [List.mem_singleton.1 hx]; exact hac
set_option maxRecDepth 20000 in
set_option maxHeartbeats 4000000 in
theorem lawTidyDouble_any (w : World) (t : BytesV) (ht : t.raw w) : Calls Try.prog 7 #[t.val] w fun e w' => e = .returned (.bool true) ∧ Ext w w' := by
  by_cases h300 : t.bs.length ≤ 300
  · refine calls_of tab tabOk Try.func7 rfl rfl rfl [] (fun _ => ⟨none, 0⟩) [.c t.val] [] (baseA w) 0 rfl rfl (by show 1 ≤ _; decide) (abs_base w) ?_
    (repeat' ((conv => whnf) <;> first | (show callK _ 19 _ _ _ _ _; refine call_pure (f := 19) Try.call19 (.bool true) (fun ρ w' hw => fixed18_any w') ?_) | (show Wp _ _ _ _ _ _ _; refine Wp.go tabOk rfl ?_) | (show @cmpK _ _ _; (first | refine cmpY ?_ | refine cmpN ?_ | (refine cmp_both ?_ ?_ <;> intro _))) | (show wrapK _ _ _; refine wrapA ?_) | (show leK _ _ _; refine leA ?_) | (show roomK _ _ _; refine roomA ?_) | (show ltK _ _ _; refine ltA ?_) | (show _ ∧ _; refine ⟨?_, ?_⟩) | (show keepK _ _ _ _ _; refine keepA ?_) | refine own_keep ?_ | refine ap_old ?_))
    refine call_graph (f := 16) t 0 (by repeat (first | exact List.mem_cons_self | apply List.mem_cons_of_mem)) Try.call16 (by omega) ht.fits (Nat.zero_le _) (fun R w' h => base_bytes ht h) (fun w' b htk => make_any w' b t 0 htk) (fun l out k' hml h8 ho0 ho1 => ?_)
    obtain ⟨sh, hsh, hck⟩ := made_check hml (by omega)
    have hsp := fun base cap => made_spans hck base cap out ho0 ho1
    have hl1 := hml.one
    (repeat' ((conv => whnf) <;> first | (show @cmpK _ _ _; (first | refine cmpY ?_ | refine cmpN ?_ | (refine cmp_both ?_ ?_ <;> intro _))) | (show wrapK _ _ _; refine wrapA ?_) | (show leK _ _ _; refine leA ?_) | (show roomK _ _ _; refine roomA ?_) | (show ltK _ _ _; refine ltA ?_) | (show _ ∧ _; refine ⟨?_, ?_⟩) | (show keepK _ _ _ _ _; refine keepA ?_) | refine own_keep ?_ | refine ap_old ?_))
    all_goals (conv => whnf)
    refine Wp.freezeN 1 w.heap.size (k := 9) (xs := nodeRows l) (T := 38) (by repeat (first | exact List.mem_cons_self | apply List.mem_cons_of_mem)) (fun R w' h b hb => (h.1 b hb).1) (fun l1 hl1 => ?_)
    obtain ⟨hsp1, hvq⟩ := hsp l1.base l1.cap
    have hck1 := hck l1.base l1.cap out ho0 ho1
    have hgok : ∀ {R : Nat → Prop} {w' : World}, (((baseA w).and ((nodesD l).past w.heap.size)).and ((rowsA l1.base 9 (nodeRows l)).past w.heap.size)).holds R w' → (⟨l1.base, l1.cap, l, out⟩ : GraphV).ok w' := fun h => graph_ok hml.each (by omega) (rowsA_in h.2) ((nodesD l).mono h.1.2 (fun b hb => hb.1)) ⟨by omega, by omega⟩
    have htd : ∀ w', (⟨l1.base, l1.cap, l, out⟩ : GraphV).ok w' → Calls Try.prog 22 #[(⟨l1.base, l1.cap, l, out⟩ : GraphV).val] w' (TidyPost w' (spansQ sh l []).1 (tidyP (l.map NodeV.pl) sh out.toNat)) := fun w' h => by
      have := tidy_any w' ⟨l1.base, l1.cap, l, out⟩ h
      rw [hsp1, hck1] at this
      exact this
    have hfew := fun h => tidied_few (g := ⟨l1.base, l1.cap, l, out⟩) (by rw [hsp1]; exact h)
    have hdbl := fun (two : GraphV) => dbl_graph (g := ⟨l1.base, l1.cap, l, out⟩) (two := two) (by rw [hck1]) (by show l.length ≤ 12; omega)
    have hL := rowIn_graph (g := ⟨l1.base, l1.cap, l, out⟩) (by rw [hck1])
    rw [hck1] at hL
    rw [hck1] at hfew
    simp only [hck1, hsp1] at hdbl
    generalize tidyP (l.map NodeV.pl) sh out.toNat = X at *
    (repeat' ((conv => whnf) <;> first | (show Wp _ _ _ _ _ _ _; refine Wp.go tabOk rfl ?_) | (show @cmpK _ _ _; (first | refine cmpY ?_ | refine cmpN ?_ | (refine cmp_both ?_ ?_ <;> intro _))) | (show wrapK _ _ _; refine wrapA ?_) | (show leK _ _ _; refine leA ?_) | (show roomK _ _ _; refine roomA ?_) | (show ltK _ _ _; refine ltA ?_) | (show _ ∧ _; refine ⟨?_, ?_⟩) | (show keepK _ _ _ _ _; refine keepA ?_) | refine own_keep ?_ | refine ap_old ?_))
    refine Wp.loop (σ := Nat × List NodeV × List Nat) 6 (fun ⟨j, two, pl⟩ => [(3, .lp 2 0 0 0), (4, .os 4 pl.length), (5, .lp 3 0 0 0), (23, .c (.slice l1.base l.length l1.cap)), (24, .c (.int .i64 l.length)), (25, .c (.int .i64 j))])
      (fun ⟨j, two, pl⟩ => [(5, .rows (nodeRows two) 9 38), (4, .rows (ints (stI pl)) 1 3), (3, .box [.os 5 two.length, .c (.int .i64 0)] 26), (2, .box [.c (.slice l1.base l.length l1.cap), .c (.int .i64 out)] 26)])
      (fun _ => ((baseA w).and ((nodesD l).past w.heap.size)).and ((rowsA l1.base 9 (nodeRows l)).past w.heap.size)) (fun ⟨j, two, pl⟩ => j ≤ l.length ∧ TwoOk l two pl j) (fun s => l.length - s.1) (0, [], []) [(4, none), (5, none)] (by decide) (fun s => ⟨rfl, rfl⟩)
      ⟨Nat.zero_le _, twoOk_nil l⟩ ⟨rfl, ⟨rfl, rfl, rfl, rfl, rfl, rfl, trivial⟩, ⟨rfl, rfl, (by repeat (first | exact List.mem_cons_self | apply List.mem_cons_of_mem)), (by repeat (first | exact List.mem_cons_self | apply List.mem_cons_of_mem)), trivial⟩, fun R w' h => h⟩ ?_
    rintro ⟨j, two, pl⟩ ⟨hj, hT⟩
    by_cases hlt1 : j < l.length
    · refine Wp.know (p := ∃ a, l1.base = some a) (fun ρ w' hw => holds_of_abs hw fun R h => base_some (j := j) (rowsA_in h.2) (by rw [nodeRows_length]; exact hlt1)) ?_
      rintro ⟨la, hla⟩
      have hrow := nodeRows_get hlt1
      have hah := hL.ahead (k := j) (by rw [List.length_map]; exact hlt1)
      have hpj : (l.map NodeV.pl).getD j nilP = l[j].pl := by rw [List.getD_eq_getElem?_getD, List.getElem?_map, List.getElem?_eq_getElem hlt1]; rfl
      rw [hpj] at hah
      have hmd := hml.each l[j] (List.getElem_mem hlt1)
      have hst := fun m => hT.step (by omega) hlt1 (m := m) rfl
      generalize l[j] = n at *
      have kk : n.pl.kind = n.kind := rfl
      have ka : n.pl.a = n.a := rfl
      have kb : n.pl.b = n.b := rfl
      have ha0 := hah.a0
      have hb0 := hah.b0
      have hkd := hah.kind
      have hst := fun m hm => hst m hm hmd.aFits hmd.bFits
      have hpl := hT.len
      have htf := hT.few
      by_cases h1 : n.kind = 1
      · have e : movedV pl n = n := by unfold movedV movedP; rw [if_pos (show n.pl.kind = 1 ∨ n.pl.kind = 2 from .inl h1)]; rfl
        have hz1 : ((two ++ [n]).length : Int) - 1 = (two.length : Nat) := by rw [List.length_append, List.length_singleton]; omega
        (repeat' ((conv => whnf) <;> first | (show idxK _ _ _ _ _; refine idx_of la j hla rfl hlt1 ?_) | (show roAggK _ _ _ _; (refine roAgg_row (fun R w' h => by rw [← hla]; exact rowsA_in h.2) _ hrow rfl ?_)) | (show @cmpK _ _ _; (first | refine cmp_yes (by omega) ?_ | refine cmp_no (by omega) ?_)) | (show leK _ _ _; (first | refine le_of (Nat.zero_le _) ?_ | refine le_of (by rw [nodeRows_length]; exact Nat.le_refl _) ?_ | refine le_of (by rw [stI_length]; exact Nat.le_refl _) ?_)) | (show roomK _ _ _; (first | refine room_of (by show (two.length + 1) * 120 ≤ 140737488355328; omega) ?_ | refine room_of (by show (pl.length + 1) * 8 ≤ 140737488355328; omega) ?_)) | (show ownK _ ((_, .rows (List.take two.length _ ++ _) _ _) :: _) _ _ _; refine own_eq (ys := nodeRows (two ++ [n])) (m := (two ++ [n]).length) ?_ (nodes_snoc two n) (by show two.length + 1 = _; rw [List.length_append]; rfl)) | (show wrapK _ _ _; (refine wrap_i64 (by rw [hz1]; omega) (by rw [hz1]; omega) ?_)) | (show ownK _ ((_, .rows (List.take pl.length _ ++ _) _ _) :: _) _ _ _; refine own_eq (ys := ints (stI (pl ++ [two.length]))) (m := (pl ++ [two.length]).length) ?_ (by rw [hz1]; exact stI_snoc pl two.length) (by show pl.length + 1 = _; rw [List.length_append]; rfl)) | (show Wp _ _ _ _ _ _ _; refine Wp.go tabOk rfl ?_) | (show @cmpK _ _ _; (first | refine cmpY ?_ | refine cmpN ?_ | (refine cmp_both ?_ ?_ <;> intro _))) | (show wrapK _ _ _; refine wrapA ?_) | (show leK _ _ _; refine leA ?_) | (show roomK _ _ _; refine roomA ?_) | (show ltK _ _ _; refine ltA ?_) | (show _ ∧ _; refine ⟨?_, ?_⟩) | (show keepK _ _ _ _ _; refine keepA ?_) | refine own_keep ?_ | refine ap_old ?_))
        all_goals (conv => whnf)
        all_goals exact ⟨(j + 1, two ++ [n], pl ++ [two.length]), [(5, some 8), (4, some 10)], ⟨hlt1, (hst n e.symm).1 h1⟩, by simp only; omega, rfl, ⟨rfl, rfl, rfl, rfl, rfl, rfl, trivial⟩, ⟨(by repeat (first | exact List.mem_cons_self | apply List.mem_cons_of_mem)), (by repeat (first | exact List.mem_cons_self | apply List.mem_cons_of_mem)), (by repeat (first | exact List.mem_cons_self | apply List.mem_cons_of_mem)), (by repeat (first | exact List.mem_cons_self | apply List.mem_cons_of_mem)), trivial⟩, fun R w' h => h⟩
      by_cases h2 : n.kind = 2
      · have e : movedV pl n = n := by unfold movedV movedP; rw [if_pos (show n.pl.kind = 1 ∨ n.pl.kind = 2 from .inr h2)]; rfl
        have hz1 : (((two ++ [n]) ++ [n]).length : Int) - 1 = (two.length + 1 : Nat) := by rw [List.length_append, List.length_append, List.length_singleton]; omega
        (repeat' ((conv => whnf) <;> first | (show idxK _ _ _ _ _; refine idx_of la j hla rfl hlt1 ?_) | (show roAggK _ _ _ _; (refine roAgg_row (fun R w' h => by rw [← hla]; exact rowsA_in h.2) _ hrow rfl ?_)) | (show idxRowK _ _ _ _ _ _; (first | refine idxRow_of n.a.toNat (by omega) (by omega) (by rw [stI_length]; exact Nat.le_refl _) ?_ | refine idxRow_of n.b.toNat (by omega) (by omega) (by rw [stI_length]; exact Nat.le_refl _) ?_)) | (show rowK _ _ _ _; (first | refine row_of _ _ (stI_get hA) rfl ?_ | refine row_of _ _ (stI_get hB) rfl ?_)) | (show @cmpK _ _ _; (first | refine cmp_yes (by omega) ?_ | refine cmp_no (by omega) ?_)) | (show leK _ _ _; (first | refine le_of (Nat.zero_le _) ?_ | refine le_of (by rw [nodeRows_length]; exact Nat.le_refl _) ?_ | refine le_of (by rw [stI_length]; exact Nat.le_refl _) ?_)) | (show roomK _ _ _; (first | refine room_of (by show (two.length + 1) * 120 ≤ 140737488355328; omega) ?_ | refine room_of (by show ((two ++ [n]).length + 1) * 120 ≤ 140737488355328; rw [List.length_append, List.length_singleton]; omega) ?_ | refine room_of (by show (pl.length + 1) * 8 ≤ 140737488355328; omega) ?_)) | (show ownK _ ((_, .rows (List.take two.length _ ++ _) _ _) :: _) _ _ _; refine own_eq (ys := nodeRows (two ++ [n])) (m := (two ++ [n]).length) ?_ (nodes_snoc two (n)) (by show two.length + 1 = _; rw [List.length_append]; rfl)) | (show ownK _ ((_, .rows (List.take (two ++ [n]).length _ ++ _) _ _) :: _) _ _ _; refine own_eq (ys := nodeRows ((two ++ [n]) ++ [n])) (m := ((two ++ [n]) ++ [n]).length) ?_ (nodes_snoc (two ++ [n]) (n)) (len_snocN _ _)) | (show wrapK _ _ _; (refine wrap_i64 (by rw [hz1]; omega) (by rw [hz1]; omega) ?_)) | (show ownK _ ((_, .rows (List.take pl.length _ ++ _) _ _) :: _) _ _ _; refine own_eq (ys := ints (stI (pl ++ [two.length + 1]))) (m := (pl ++ [two.length + 1]).length) ?_ (by rw [hz1]; exact stI_snoc pl (two.length + 1)) (by show pl.length + 1 = _; rw [List.length_append]; rfl)) | (show Wp _ _ _ _ _ _ _; refine Wp.go tabOk rfl ?_) | (show @cmpK _ _ _; (first | refine cmpY ?_ | refine cmpN ?_ | (refine cmp_both ?_ ?_ <;> intro _))) | (show wrapK _ _ _; refine wrapA ?_) | (show leK _ _ _; refine leA ?_) | (show roomK _ _ _; refine roomA ?_) | (show ltK _ _ _; refine ltA ?_) | (show _ ∧ _; refine ⟨?_, ?_⟩) | (show keepK _ _ _ _ _; refine keepA ?_) | refine own_keep ?_ | refine ap_old ?_))
        all_goals (conv => whnf)
        all_goals exact ⟨(j + 1, (two ++ [n]) ++ [n], pl ++ [two.length + 1]), [(5, some 10), (4, some 12)], ⟨hlt1, (hst (n) e.symm).2 h1⟩, by simp only; omega, rfl, ⟨rfl, rfl, rfl, rfl, rfl, rfl, trivial⟩, ⟨(by repeat (first | exact List.mem_cons_self | apply List.mem_cons_of_mem)), (by repeat (first | exact List.mem_cons_self | apply List.mem_cons_of_mem)), (by repeat (first | exact List.mem_cons_self | apply List.mem_cons_of_mem)), (by repeat (first | exact List.mem_cons_self | apply List.mem_cons_of_mem)), trivial⟩, fun R w' h => h⟩
      have hA : n.a.toNat < pl.length := by rw [hpl]; exact hah.a1 h1 h2
      have h12 : ¬ (n.pl.kind = 1 ∨ n.pl.kind = 2) := by omega
      by_cases h6 : n.kind = 6
      · have hB : n.b.toNat < pl.length := by rw [hpl]; exact hah.b1 h6
        have e : movedV pl n = atV n (pl.getD n.a.toNat 0) (pl.getD n.b.toNat 0) := by unfold movedV movedP; rw [if_neg h12, if_pos (show n.pl.kind = 6 from h6)]; rfl
        have hz1 : (((two ++ [atV n (pl.getD n.a.toNat 0) (pl.getD n.b.toNat 0)]) ++ [atV n (pl.getD n.a.toNat 0) (pl.getD n.b.toNat 0)]).length : Int) - 1 = (two.length + 1 : Nat) := by rw [List.length_append, List.length_append, List.length_singleton]; omega
        (repeat' ((conv => whnf) <;> first | (show idxK _ _ _ _ _; refine idx_of la j hla rfl hlt1 ?_) | (show roAggK _ _ _ _; (refine roAgg_row (fun R w' h => by rw [← hla]; exact rowsA_in h.2) _ hrow rfl ?_)) | (show idxRowK _ _ _ _ _ _; (first | refine idxRow_of n.a.toNat (by omega) (by omega) (by rw [stI_length]; exact Nat.le_refl _) ?_ | refine idxRow_of n.b.toNat (by omega) (by omega) (by rw [stI_length]; exact Nat.le_refl _) ?_)) | (show rowK _ _ _ _; (first | refine row_of _ _ (stI_get hA) rfl ?_ | refine row_of _ _ (stI_get hB) rfl ?_)) | (show @cmpK _ _ _; (first | refine cmp_yes (by omega) ?_ | refine cmp_no (by omega) ?_)) | (show leK _ _ _; (first | refine le_of (Nat.zero_le _) ?_ | refine le_of (by rw [nodeRows_length]; exact Nat.le_refl _) ?_ | refine le_of (by rw [stI_length]; exact Nat.le_refl _) ?_)) | (show roomK _ _ _; (first | refine room_of (by show (two.length + 1) * 120 ≤ 140737488355328; omega) ?_ | refine room_of (by show ((two ++ [atV n (pl.getD n.a.toNat 0) (pl.getD n.b.toNat 0)]).length + 1) * 120 ≤ 140737488355328; rw [List.length_append, List.length_singleton]; omega) ?_ | refine room_of (by show (pl.length + 1) * 8 ≤ 140737488355328; omega) ?_)) | (show ownK _ ((_, .rows (List.take two.length _ ++ _) _ _) :: _) _ _ _; refine own_eq (ys := nodeRows (two ++ [atV n (pl.getD n.a.toNat 0) (pl.getD n.b.toNat 0)])) (m := (two ++ [atV n (pl.getD n.a.toNat 0) (pl.getD n.b.toNat 0)]).length) ?_ (nodes_snoc two (atV n (pl.getD n.a.toNat 0) (pl.getD n.b.toNat 0))) (by show two.length + 1 = _; rw [List.length_append]; rfl)) | (show ownK _ ((_, .rows (List.take (two ++ [atV n (pl.getD n.a.toNat 0) (pl.getD n.b.toNat 0)]).length _ ++ _) _ _) :: _) _ _ _; refine own_eq (ys := nodeRows ((two ++ [atV n (pl.getD n.a.toNat 0) (pl.getD n.b.toNat 0)]) ++ [atV n (pl.getD n.a.toNat 0) (pl.getD n.b.toNat 0)])) (m := ((two ++ [atV n (pl.getD n.a.toNat 0) (pl.getD n.b.toNat 0)]) ++ [atV n (pl.getD n.a.toNat 0) (pl.getD n.b.toNat 0)]).length) ?_ (nodes_snoc (two ++ [atV n (pl.getD n.a.toNat 0) (pl.getD n.b.toNat 0)]) (atV n (pl.getD n.a.toNat 0) (pl.getD n.b.toNat 0))) (len_snocN _ _)) | (show wrapK _ _ _; (refine wrap_i64 (by rw [hz1]; omega) (by rw [hz1]; omega) ?_)) | (show ownK _ ((_, .rows (List.take pl.length _ ++ _) _ _) :: _) _ _ _; refine own_eq (ys := ints (stI (pl ++ [two.length + 1]))) (m := (pl ++ [two.length + 1]).length) ?_ (by rw [hz1]; exact stI_snoc pl (two.length + 1)) (by show pl.length + 1 = _; rw [List.length_append]; rfl)) | (show Wp _ _ _ _ _ _ _; refine Wp.go tabOk rfl ?_) | (show @cmpK _ _ _; (first | refine cmpY ?_ | refine cmpN ?_ | (refine cmp_both ?_ ?_ <;> intro _))) | (show wrapK _ _ _; refine wrapA ?_) | (show leK _ _ _; refine leA ?_) | (show roomK _ _ _; refine roomA ?_) | (show ltK _ _ _; refine ltA ?_) | (show _ ∧ _; refine ⟨?_, ?_⟩) | (show keepK _ _ _ _ _; refine keepA ?_) | refine own_keep ?_ | refine ap_old ?_))
        all_goals (conv => whnf)
        all_goals exact ⟨(j + 1, (two ++ [atV n (pl.getD n.a.toNat 0) (pl.getD n.b.toNat 0)]) ++ [atV n (pl.getD n.a.toNat 0) (pl.getD n.b.toNat 0)], pl ++ [two.length + 1]), [(5, some 10), (4, some 12)], ⟨hlt1, (hst (atV n (pl.getD n.a.toNat 0) (pl.getD n.b.toNat 0)) e.symm).2 h1⟩, by simp only; omega, rfl, ⟨rfl, rfl, rfl, rfl, rfl, rfl, trivial⟩, ⟨(by repeat (first | exact List.mem_cons_self | apply List.mem_cons_of_mem)), (by repeat (first | exact List.mem_cons_self | apply List.mem_cons_of_mem)), (by repeat (first | exact List.mem_cons_self | apply List.mem_cons_of_mem)), (by repeat (first | exact List.mem_cons_self | apply List.mem_cons_of_mem)), trivial⟩, fun R w' h => h⟩
      · have e : movedV pl n = atV n (pl.getD n.a.toNat 0) n.b := by unfold movedV movedP; rw [if_neg h12, if_neg (show ¬ n.pl.kind = 6 from h6)]; rfl
        have hz1 : (((two ++ [atV n (pl.getD n.a.toNat 0) n.b]) ++ [atV n (pl.getD n.a.toNat 0) n.b]).length : Int) - 1 = (two.length + 1 : Nat) := by rw [List.length_append, List.length_append, List.length_singleton]; omega
        (repeat' ((conv => whnf) <;> first | (show idxK _ _ _ _ _; refine idx_of la j hla rfl hlt1 ?_) | (show roAggK _ _ _ _; (refine roAgg_row (fun R w' h => by rw [← hla]; exact rowsA_in h.2) _ hrow rfl ?_)) | (show idxRowK _ _ _ _ _ _; (first | refine idxRow_of n.a.toNat (by omega) (by omega) (by rw [stI_length]; exact Nat.le_refl _) ?_ | refine idxRow_of n.b.toNat (by omega) (by omega) (by rw [stI_length]; exact Nat.le_refl _) ?_)) | (show rowK _ _ _ _; (first | refine row_of _ _ (stI_get hA) rfl ?_ | refine row_of _ _ (stI_get hB) rfl ?_)) | (show @cmpK _ _ _; (first | refine cmp_yes (by omega) ?_ | refine cmp_no (by omega) ?_)) | (show leK _ _ _; (first | refine le_of (Nat.zero_le _) ?_ | refine le_of (by rw [nodeRows_length]; exact Nat.le_refl _) ?_ | refine le_of (by rw [stI_length]; exact Nat.le_refl _) ?_)) | (show roomK _ _ _; (first | refine room_of (by show (two.length + 1) * 120 ≤ 140737488355328; omega) ?_ | refine room_of (by show ((two ++ [atV n (pl.getD n.a.toNat 0) n.b]).length + 1) * 120 ≤ 140737488355328; rw [List.length_append, List.length_singleton]; omega) ?_ | refine room_of (by show (pl.length + 1) * 8 ≤ 140737488355328; omega) ?_)) | (show ownK _ ((_, .rows (List.take two.length _ ++ _) _ _) :: _) _ _ _; refine own_eq (ys := nodeRows (two ++ [atV n (pl.getD n.a.toNat 0) n.b])) (m := (two ++ [atV n (pl.getD n.a.toNat 0) n.b]).length) ?_ (nodes_snoc two (atV n (pl.getD n.a.toNat 0) n.b)) (by show two.length + 1 = _; rw [List.length_append]; rfl)) | (show ownK _ ((_, .rows (List.take (two ++ [atV n (pl.getD n.a.toNat 0) n.b]).length _ ++ _) _ _) :: _) _ _ _; refine own_eq (ys := nodeRows ((two ++ [atV n (pl.getD n.a.toNat 0) n.b]) ++ [atV n (pl.getD n.a.toNat 0) n.b])) (m := ((two ++ [atV n (pl.getD n.a.toNat 0) n.b]) ++ [atV n (pl.getD n.a.toNat 0) n.b]).length) ?_ (nodes_snoc (two ++ [atV n (pl.getD n.a.toNat 0) n.b]) (atV n (pl.getD n.a.toNat 0) n.b)) (len_snocN _ _)) | (show wrapK _ _ _; (refine wrap_i64 (by rw [hz1]; omega) (by rw [hz1]; omega) ?_)) | (show ownK _ ((_, .rows (List.take pl.length _ ++ _) _ _) :: _) _ _ _; refine own_eq (ys := ints (stI (pl ++ [two.length + 1]))) (m := (pl ++ [two.length + 1]).length) ?_ (by rw [hz1]; exact stI_snoc pl (two.length + 1)) (by show pl.length + 1 = _; rw [List.length_append]; rfl)) | (show Wp _ _ _ _ _ _ _; refine Wp.go tabOk rfl ?_) | (show @cmpK _ _ _; (first | refine cmpY ?_ | refine cmpN ?_ | (refine cmp_both ?_ ?_ <;> intro _))) | (show wrapK _ _ _; refine wrapA ?_) | (show leK _ _ _; refine leA ?_) | (show roomK _ _ _; refine roomA ?_) | (show ltK _ _ _; refine ltA ?_) | (show _ ∧ _; refine ⟨?_, ?_⟩) | (show keepK _ _ _ _ _; refine keepA ?_) | refine own_keep ?_ | refine ap_old ?_))
        all_goals (conv => whnf)
        all_goals exact ⟨(j + 1, (two ++ [atV n (pl.getD n.a.toNat 0) n.b]) ++ [atV n (pl.getD n.a.toNat 0) n.b], pl ++ [two.length + 1]), [(5, some 10), (4, some 12)], ⟨hlt1, (hst (atV n (pl.getD n.a.toNat 0) n.b) e.symm).2 h1⟩, by simp only; omega, rfl, ⟨rfl, rfl, rfl, rfl, rfl, rfl, trivial⟩, ⟨(by repeat (first | exact List.mem_cons_self | apply List.mem_cons_of_mem)), (by repeat (first | exact List.mem_cons_self | apply List.mem_cons_of_mem)), (by repeat (first | exact List.mem_cons_self | apply List.mem_cons_of_mem)), (by repeat (first | exact List.mem_cons_self | apply List.mem_cons_of_mem)), trivial⟩, fun R w' h => h⟩
    · obtain rfl : j = l.length := by omega
      have hrw := hT.rows
      have hpw := hT.places
      rw [List.take_of_length_le (Nat.le_refl _)] at hrw hpw
      have htf := hT.few
      have hpl := hT.len
      have hol : out.toNat < pl.length := by omega
      have hob := hT.lt out.toNat
      (repeat' ((conv => whnf) <;> first | (show @cmpK _ _ _; (first | refine cmpY ?_ | refine cmpN ?_ | (refine cmp_both ?_ ?_ <;> intro _))) | (show wrapK _ _ _; refine wrapA ?_) | (show leK _ _ _; refine leA ?_) | (show roomK _ _ _; refine roomA ?_) | (show ltK _ _ _; refine ltA ?_) | (show _ ∧ _; refine ⟨?_, ?_⟩) | (show keepK _ _ _ _ _; refine keepA ?_) | refine own_keep ?_ | refine ap_old ?_))
      all_goals (conv => whnf)
      refine Wp.freezeN 5 w.heap.size (k := 9) (xs := nodeRows two) (T := 38) (by repeat (first | exact List.mem_cons_self | apply List.mem_cons_of_mem)) (fun R w' h b hb => (h.1.1 b hb).1) (fun fb hfb => ?_)
      have hD := hdbl ⟨fb.base, fb.cap, two, (pl.getD out.toNat 0 : Nat)⟩ hrw (by rw [← hpw])
      obtain ⟨hD1, hD2⟩ := hD
      have htd2 : ∀ w', (⟨fb.base, fb.cap, two, (pl.getD out.toNat 0 : Nat)⟩ : GraphV).ok w' → Calls Try.prog 22 #[(⟨fb.base, fb.cap, two, (pl.getD out.toNat 0 : Nat)⟩ : GraphV).val] w' (TidyPost w' (spansQ sh l []).1 (tidyP (two.map NodeV.pl) (check ⟨fb.base, fb.cap, two, (pl.getD out.toNat 0 : Nat)⟩).2 (GraphV.mk fb.base fb.cap two (pl.getD out.toNat 0 : Nat)).out.toNat)) := fun w' h => by
        have := tidy_any w' ⟨fb.base, fb.cap, two, (pl.getD out.toNat 0 : Nat)⟩ h
        rw [hD1] at this
        exact this
      generalize tidyP (two.map NodeV.pl) (check ⟨fb.base, fb.cap, two, (pl.getD out.toNat 0 : Nat)⟩).2 (GraphV.mk fb.base fb.cap two (pl.getD out.toNat 0 : Nat)).out.toNat = Y at *
      generalize hpo : pl.getD out.toNat 0 = po at *
      have hrow2 := stI_get (st := pl) hol
      rw [hpo] at hrow2
      (repeat' ((conv => whnf) <;> first | (show idxRowK _ _ _ _ _ _; (refine idxRow_of out.toNat (by omega) hol (by rw [stI_length]; exact Nat.le_refl _) ?_)) | (show rowK _ _ _ _; refine row_of _ _ hrow2 rfl ?_) | (show Wp _ _ _ _ _ _ _; refine Wp.go tabOk rfl ?_) | (show @cmpK _ _ _; (first | refine cmpY ?_ | refine cmpN ?_ | (refine cmp_both ?_ ?_ <;> intro _))) | (show wrapK _ _ _; refine wrapA ?_) | (show leK _ _ _; refine leA ?_) | (show roomK _ _ _; refine roomA ?_) | (show ltK _ _ _; refine ltA ?_) | (show _ ∧ _; refine ⟨?_, ?_⟩) | (show keepK _ _ _ _ _; refine keepA ?_) | refine own_keep ?_ | refine ap_old ?_))
      have hgok2 : ∀ {R : Nat → Prop} {w' : World}, ((((baseA w).and ((nodesD l).past w.heap.size)).and ((rowsA l1.base 9 (nodeRows l)).past w.heap.size)).and ((rowsA fb.base 9 (nodeRows two)).past w.heap.size)).holds R w' → (⟨fb.base, fb.cap, two, po⟩ : GraphV).ok w' := fun h => by
        have hg := hgok h.1
        refine ⟨rowsA_in h.2, fun m hm => ?_, fun m hm => ?_, by show two.length ≤ _; omega, by show i64 (po : Int); unfold i64; omega⟩
        · obtain ⟨n, hn, a, b, rfl, ha, hb⟩ := hT.each m hm
          have := hg.each n hn
          exact ⟨this.shape, this.data, this.bias, this.kindFits, ha, hb, this.loFits, this.hiFits, this.sizeFits⟩
        · obtain ⟨n, hn, a, b, rfl, ha, hb⟩ := hT.each m hm
          exact ⟨(hg.small n hn).data, (hg.small n hn).bias⟩
      by_cases he : (spansQ sh l []).1 = 0
      · obtain rfl : Y = X := hD2 he
        obtain ⟨hlf, hXo⟩ := hfew he
        have hlf : Y.1.length ≤ l.length := hlf
        refine call_tidyW (spansQ sh l []).1 Y Try.call22 (fun ρ w' hw => htd w' (holds_of_abs hw fun R h => hgok h.1)) (fun h => absurd he h) (fun _ lt base cap hlt hko => ?_)
        have hltl : lt.length = Y.1.length := by rw [← hlt, List.length_map]
        (repeat' ((conv => whnf) <;> first | (show Wp _ _ _ _ _ _ _; refine Wp.go tabOk rfl ?_) | (show @cmpK _ _ _; (first | refine cmpY ?_ | refine cmpN ?_ | (refine cmp_both ?_ ?_ <;> intro _))) | (show wrapK _ _ _; refine wrapA ?_) | (show leK _ _ _; refine leA ?_) | (show roomK _ _ _; refine roomA ?_) | (show ltK _ _ _; refine ltA ?_) | (show _ ∧ _; refine ⟨?_, ?_⟩) | (show keepK _ _ _ _ _; refine keepA ?_) | refine own_keep ?_ | refine ap_old ?_))
        refine call_tidyW (spansQ sh l []).1 Y Try.call22 (fun ρ w' hw => htd2 w' (holds_of_abs hw fun R h => hgok2 h.1)) (fun h => absurd he h) (fun _ lt2 base2 cap2 hlt2 hko2 => ?_)
        have hltl2 : lt2.length = Y.1.length := by rw [← hlt2, List.length_map]
        (repeat' ((conv => whnf) <;> first | (show @cmpK _ _ _; refine cmp_yes rfl ?_) | (show callQ _ 24 _ _ _ _ _; (refine callQ_of (f := 24) Try.call24 (.bool true) (fun ρ w' hw => sameGraph_eq w' ⟨base, cap, lt, Y.2⟩ ⟨base2, cap2, lt2, Y.2⟩ (tidied_fit hw (by repeat (first | exact List.mem_cons_self | apply List.mem_cons_of_mem)) (fun R w' h => rowsA_in h.1.2) hko (by omega)) (tidied_fit hw (by repeat (first | exact List.mem_cons_self | apply List.mem_cons_of_mem)) (fun R w' h => rowsA_in h.2) hko2 (by omega)) (hlt.trans hlt2.symm) rfl) ?_)) | (show callK _ 24 _ _ _ _ _; (refine call_pure (f := 24) Try.call24 (.bool true) (fun ρ w' hw => sameGraph_eq w' ⟨base, cap, lt, Y.2⟩ ⟨base2, cap2, lt2, Y.2⟩ (tidied_fit hw (by repeat (first | exact List.mem_cons_self | apply List.mem_cons_of_mem)) (fun R w' h => rowsA_in h.1.2) hko (by omega)) (tidied_fit hw (by repeat (first | exact List.mem_cons_self | apply List.mem_cons_of_mem)) (fun R w' h => rowsA_in h.2) hko2 (by omega)) (hlt.trans hlt2.symm) rfl) ?_)) | (show Wp _ _ _ _ _ _ _; refine Wp.go tabOk rfl ?_) | (show @cmpK _ _ _; (first | refine cmpY ?_ | refine cmpN ?_ | (refine cmp_both ?_ ?_ <;> intro _))) | (show wrapK _ _ _; refine wrapA ?_) | (show leK _ _ _; refine leA ?_) | (show roomK _ _ _; refine roomA ?_) | (show ltK _ _ _; refine ltA ?_) | (show _ ∧ _; refine ⟨?_, ?_⟩) | (show keepK _ _ _ _ _; refine keepA ?_) | refine own_keep ?_ | refine ap_old ?_))
        all_goals (conv => whnf)
        all_goals exact ends_bool (fun _ _ h => h.1.1.1.1.1) rfl rfl
      · refine call_tidyW (spansQ sh l []).1 X Try.call22 (fun ρ w' hw => htd w' (holds_of_abs hw fun R h => hgok h.1)) (fun _ => ?_) (fun h => absurd h he)
        (repeat' ((conv => whnf) <;> first | (show Wp _ _ _ _ _ _ _; refine Wp.go tabOk rfl ?_) | (show @cmpK _ _ _; (first | refine cmpY ?_ | refine cmpN ?_ | (refine cmp_both ?_ ?_ <;> intro _))) | (show wrapK _ _ _; refine wrapA ?_) | (show leK _ _ _; refine leA ?_) | (show roomK _ _ _; refine roomA ?_) | (show ltK _ _ _; refine ltA ?_) | (show _ ∧ _; refine ⟨?_, ?_⟩) | (show keepK _ _ _ _ _; refine keepA ?_) | refine own_keep ?_ | refine ap_old ?_))
        refine call_tidyW (spansQ sh l []).1 Y Try.call22 (fun ρ w' hw => htd2 w' (holds_of_abs hw fun R h => hgok2 h)) (fun _ => ?_) (fun h => absurd h he)
        (repeat' ((conv => whnf) <;> first | (show @cmpK _ _ _; refine cmp_yes rfl ?_) | (show callQ _ 24 _ _ _ _ _; refine callQ_of (f := 24) Try.call24 (.bool true) (fun ρ w' hw => sameGraph_eq w' ⟨none, 0, [], 0⟩ ⟨none, 0, [], 0⟩ ⟨.inl rfl, fun n hn => by simp at hn, Nat.zero_le _⟩ ⟨.inl rfl, fun n hn => by simp at hn, Nat.zero_le _⟩ rfl rfl) ?_) | (show callK _ 24 _ _ _ _ _; refine call_pure (f := 24) Try.call24 (.bool true) (fun ρ w' hw => sameGraph_eq w' ⟨none, 0, [], 0⟩ ⟨none, 0, [], 0⟩ ⟨.inl rfl, fun n hn => by simp at hn, Nat.zero_le _⟩ ⟨.inl rfl, fun n hn => by simp at hn, Nat.zero_le _⟩ rfl rfl) ?_) | (show Wp _ _ _ _ _ _ _; refine Wp.go tabOk rfl ?_) | (show @cmpK _ _ _; (first | refine cmpY ?_ | refine cmpN ?_ | (refine cmp_both ?_ ?_ <;> intro _))) | (show wrapK _ _ _; refine wrapA ?_) | (show leK _ _ _; refine leA ?_) | (show roomK _ _ _; refine roomA ?_) | (show ltK _ _ _; refine ltA ?_) | (show _ ∧ _; refine ⟨?_, ?_⟩) | (show keepK _ _ _ _ _; refine keepA ?_) | refine own_keep ?_ | refine ap_old ?_))
        all_goals (conv => whnf)
        all_goals exact ends_bool (fun _ _ h => h.1.1.1) rfl rfl
  · refine calls_of tab tabOk Try.func7 rfl rfl rfl [] (fun _ => ⟨none, 0⟩) [.c t.val] [] (baseA w) 0 rfl rfl (by show 1 ≤ _; decide) (abs_base w) ?_
    (repeat' ((conv => whnf) <;> first | (show callK _ 19 _ _ _ _ _; refine call_pure (f := 19) Try.call19 (.bool true) (fun ρ w' hw => fixed18_any w') ?_) | (show Wp _ _ _ _ _ _ _; refine Wp.go tabOk rfl ?_) | (show @cmpK _ _ _; (first | refine cmpY ?_ | refine cmpN ?_ | (refine cmp_both ?_ ?_ <;> intro _))) | (show wrapK _ _ _; refine wrapA ?_) | (show leK _ _ _; refine leA ?_) | (show roomK _ _ _; refine roomA ?_) | (show ltK _ _ _; refine ltA ?_) | (show _ ∧ _; refine ⟨?_, ?_⟩) | (show keepK _ _ _ _ _; refine keepA ?_) | refine own_keep ?_ | refine ap_old ?_))
    all_goals (conv => whnf)
    all_goals first | exact ends_bool (fun _ _ h => h) rfl rfl | (exfalso; omega)
end Go.Proofs.Ytdmkdogakbipbaa

