import Derived.Test.YtdmkdogakbipbaaKIntervalSums7
/- IH -/
namespace Go.Proofs.Ytdmkdogakbipbaa
open Go.SX Go.RowKit
def RunPost (w : World) (r : Int × List Int) (e : Ending) (w' : World) : Prop :=
  (r.1 ≠ 0 ∧ e = .returned (.tuple #[.slice none 0 0, .int .i64 r.1]) ∧ Ext w w') ∨ (r.1 = 0 ∧ ∃ x : IntsV, (x.xs = r.2 ∧ x.sane) ∧ e = .returned (.tuple #[x.val, .int .i64 0]) ∧ Ext w w' ∧ (intsA x).holds (fun b => w.heap.size ≤ b ∧ b < w'.heap.size) w')
theorem run_bad {B : Base} {v : SV} {H : Heap} {S : Asn} {nx : Nat} {w : World} {r : Int × List Int} (hb : ∀ R w', S.holds R w' → (baseA B.w0).holds R w') (hw0 : B.w0 = w) (hn : r.1 ≠ 0) (hv : ∀ ρ, v.rf ρ = .tuple #[.slice none 0 0, .int .i64 r.1]) : finK B v H S nx (RunPost w r) := by
  subst hw0
  exact fin_of fun ρ w' hw => .inl ⟨hn, by rw [hv], ext_of_abs hw hb⟩
theorem run_good {B : Base} {x : IntsV} {H : Heap} {S : Asn} {nx : Nat} {w : World} {r : Int × List Int} (hb : ∀ R w', S.holds R w' → (baseA B.w0).holds R w') (hw0 : B.w0 = w) (hs : x.sane) (hr : r = (0, x.xs)) (hD : ∀ R w', S.holds R w' → ((intsA x).past B.w0.heap.size).holds R w') : finK B (.tup [.c x.val, .c (.int .i64 0)]) H S nx (RunPost w r) := by
  subst hw0 hr
  exact fin_of fun ρ w' hw => .inr ⟨rfl, x, ⟨rfl, hs⟩, rfl, ext_of_abs hw hb, past_new hw hD⟩
theorem run_bad12 {B : Base} {v : SV} {H : Heap} {S : Asn} {nx : Nat} {w : World} {r' : Int × List (List Int)} {X : Int × List Int} (hb : ∀ R w', S.holds R w' → (baseA B.w0).holds R w') (hw0 : B.w0 = w) (hr : r' = (12, [])) (hv : ∀ ρ, v.rf ρ = .tuple #[.slice none 0 0, .int .i64 12]) : finK B v H S nx (RunPost w (if r'.1 ≠ 0 then (r'.1, []) else X)) := by
  subst hr
  have e : (if ((12 : Int), ([] : List (List Int))).1 ≠ 0 then (((12 : Int), ([] : List (List Int))).1, ([] : List Int)) else X) = (12, []) := if_pos (show (12 : Int) ≠ 0 by decide)
  rw [e]
  exact run_bad hb hw0 (show (12 : Int) ≠ 0 by decide) hv
theorem run_good0 {B : Base} {x : IntsV} {H : Heap} {S : Asn} {nx : Nat} {w : World} {r' : Int × List (List Int)} {k : Nat} {L : List (List Int)} (hb : ∀ R w', S.holds R w' → (baseA B.w0).holds R w') (hw0 : B.w0 = w) (hs : x.sane) (hr : r' = (0, L)) (hx : L.getD k [] = x.xs) (hD : ∀ R w', S.holds R w' → ((intsA x).past B.w0.heap.size).holds R w') : finK B (.tup [.c x.val, .c (.int .i64 0)]) H S nx (RunPost w (if r'.1 ≠ 0 then (r'.1, []) else (0, r'.2.getD k []))) := by
  subst hr
  have e : (if ((0 : Int), L).1 ≠ 0 then (((0 : Int), L).1, ([] : List Int)) else (0, ((0 : Int), L).2.getD k [])) = (0, L.getD k []) := if_neg (show ¬ (0 : Int) ≠ 0 by decide)
  rw [e, hx]
  exact run_good hb hw0 hs rfl hD
/-- a call of Spans -/
theorem call_spans {cx : Cx} {f : FuncId} {args : List SV} {H : Heap} {S : Asn} {nx : Nat} {K : SV → Heap → Asn → Nat → Prop} (r : Int × List Sp) (hf : ∀ ar w, (callFunc f ar).run cx.P w = .ok (.enter f ar) w)
    (hc : ∀ ρ w', Abs cx.B ρ nx H S w' → Calls cx.P f (SV.rfs ρ args).toArray w' (SpansPost w' r))
    (h0 : r.1 ≠ 0 → K (.c (.tuple #[.slice none 0 0, .int .i64 r.1])) H S nx)
    (h1 : r.1 = 0 → ∀ base cap, K (.c (.tuple #[.slice base r.2.length cap, .int .i64 0])) H (S.and ((rowsA base 2 (spRows r.2)).past cx.B.w0.heap.size)) nx) : callK cx f args H S nx K := by
  rw [callK_def]
  refine ⟨hf, fun ρ w hw => (hc ρ w hw).mono ?_⟩
  rintro e w' (⟨hr, rfl, he⟩ | ⟨hr, v, rfl, he, hn⟩)
  · exact ⟨.c (.tuple #[.slice none 0 0, .int .i64 r.1]), ρ, H, S, nx, rfl, fun _ _ => rfl, Nat.le_refl _, SV.lt_c _, hw.ext he, h0 hr⟩
  · obtain ⟨base, cap, e1, hD⟩ := newRows_data hn
    rw [spRows_length] at e1
    subst e1
    exact ⟨.c (.tuple #[.slice base r.2.length cap, .int .i64 0]), ρ, H, _, nx, rfl, fun _ _ => rfl, Nat.le_refl _, SV.lt_c _, hw.grow he hD, h1 hr base cap⟩
theorem getD_kn {N : Nat} {l : List IntsV} {R : Nat → Prop} {w : World} (hs : ∀ u ∈ l, u.sane) (h : (eachA N l).holds R w) (k : Nat) : (l.getD k nilI).ok w := by
  rcases Nat.lt_or_ge k l.length with hk | hk
  · rw [List.getD_eq_getElem?_getD, List.getElem?_eq_getElem hk]
    exact intsA_ok (hs _ (List.getElem_mem hk)) ((intsA _).mono (h _ (List.getElem_mem hk)) (fun b hb => hb.1))
  · rw [List.getD_eq_getElem?_getD, List.getElem?_eq_none hk]
    exact intsA_ok nilI_sane (nilI_holds R w)
theorem getD_xs (l : List IntsV) (k : Nat) : (l.getD k nilI).xs = (l.map IntsV.xs).getD k [] := by
  rcases Nat.lt_or_ge k l.length with hk | hk
  · simp [List.getD_eq_getElem?_getD, hk]
  · simp [List.getD_eq_getElem?_getD, hk, nilI]
/-- known so far: as many as there should be, within their spans -/
structure Known (g : GraphV) (kn : List IntsV) (i : Nat) : Prop where
  len : kn.length = i
  sane : ∀ u ∈ kn, u.sane
  each : ∀ (j : Nat) (u : IntsV) (s : Sp) (q : List Int), kn[j]? = some u → (spansG g).2[j]? = some s → (check g).2[j]? = some q → within s u.xs ∧ (u.xs.length : Int) = entries q
theorem known_arg {g : GraphV} {kn : List IntsV} {i : Nat} (hsp : (spansG g).1 = 0) (hkn : Known g kn i) (hi : i ≤ g.l.length) (k : Nat) : within (((spansG g).2.take i).getD k (0, 0)) (kn.getD k nilI).xs ∧ (∀ x ∈ (kn.getD k nilI).xs, bd20 x) ∧ (k < i → ((kn.getD k nilI).xs.length : Int) = entries (((check g).2.take i).getD k [])) := by
  obtain ⟨hck, hsl, hsi⟩ := spansG_in hsp
  obtain ⟨hl1, hl24, hout, hcl, hin⟩ := check_in hck
  have hkl := hkn.len
  rcases Nat.lt_or_ge k i with hk | hk
  · have hkg : k < g.l.length := by omega
    obtain ⟨p, hp, _, hp1, hp2⟩ := hsi k g.l[k] (List.getElem?_eq_getElem hkg)
    obtain ⟨s, hs, _⟩ := hin k g.l[k] (List.getElem?_eq_getElem hkg)
    have hk' : k < kn.length := by omega
    obtain ⟨h1, h2⟩ := hkn.each k kn[k] p s (List.getElem?_eq_getElem hk') hp hs
    have e1 : kn.getD k nilI = kn[k] := by rw [List.getD_eq_getElem?_getD, List.getElem?_eq_getElem hk']; rfl
    have e2 : ((spansG g).2.take i).getD k (0, 0) = p := by rw [List.getD_eq_getElem?_getD, List.getElem?_take, if_pos hk, hp]; rfl
    have e3 : ((check g).2.take i).getD k [] = s := by rw [List.getD_eq_getElem?_getD, List.getElem?_take, if_pos hk, hs]; rfl
    rw [e1, e2, e3]
    exact ⟨h1, fun x hx => by have := h1 x hx; unfold bd20; omega, fun _ => h2⟩
  · have e1 : kn.getD k nilI = nilI := by rw [List.getD_eq_getElem?_getD, List.getElem?_eq_none (by omega)]; rfl
    rw [e1]
    exact ⟨fun x hx => by simp [nilI] at hx, fun x hx => by simp [nilI] at hx, fun h => by omega⟩
theorem shape_rel {n : NodeV} {sh : List (List Int)} {s : List Int} (h : shapeO n sh = some s) (hnk : nlin n) (hk : 1 ≤ n.kind ∧ n.kind ≤ 9) (hk1 : n.kind ≠ 1) : (n.kind = 2 → s = n.shape.xs) ∧ (n.kind ≠ 2 → entries (sh.getD n.a.toNat []) = entries s) ∧ (n.kind = 6 → entries (sh.getD n.b.toNat []) = entries s) := by
  unfold nlin at hnk
  unfold shapeO at h
  by_cases h2 : n.kind = 2
  · rw [if_pos (by omega)] at h
    exact ⟨fun _ => by simpa using h.symm, fun h => absurd h2 h, fun h => by omega⟩
  · rw [if_neg (by omega), if_neg (by omega), if_neg (by omega), if_neg (by omega)] at h
    refine ⟨fun h => absurd h h2, fun _ => ?_, fun h6 => ?_⟩
    · split at h
      · split at h
        · simp only [Option.some.injEq] at h; rw [h]
        · cases h
      · split at h
        · split at h
          · rename_i he; simp only [Option.some.injEq] at h; rw [← h]; exact he.symm
          · cases h
        · simp only [Option.some.injEq] at h; rw [h]
    · rw [if_pos h6] at h
      split at h
      · rename_i he; simp only [Option.some.injEq] at h; rw [← he, h]
      · cases h
theorem nums_pl {g : GraphV} {kn : List IntsV} {i cnt : Nat} {n : NodeV} {s : List Int} (hsp : (spansG g).1 = 0) (hkn : Known g kn i) (hi : i < g.l.length) (hni : NodeIn n ((check g).2.take i) s) (hnk : nlin n) (hk1 : n.kind ≠ 1) (hcnt : entries s = cnt) : (n.kind = 2 ∨ n.kind = 6 ∨ n.kind = 7 ∨ n.kind = 8 ∨ n.kind = 9) ∧ (n.kind = 2 → n.data.xs.length = cnt) ∧ (n.kind ≠ 2 → (kn.getD n.a.toNat nilI).xs.length = cnt) ∧ (n.kind = 6 → (kn.getD n.b.toNat nilI).xs.length = cnt) := by
  obtain ⟨hck, hsl, hsi⟩ := spansG_in hsp
  obtain ⟨hl1, hl24, hout, hcl, hin⟩ := check_in hck
  have hti : ((check g).2.take i).length = i := by rw [List.length_take, hcl]; omega
  have hform := hni.form
  rw [hti] at hform
  obtain ⟨hA, hB, h7, h8, h2⟩ := ahead_of hform
  obtain ⟨nd, _⟩ := near_in hni.near
  have hfo := formed_of hform
  have hkind := hfo.kind
  obtain ⟨r2, rA, rB⟩ := shape_rel hni.shape hnk hkind hk1
  have kA := known_arg hsp hkn (by omega) n.a.toNat
  have kB := known_arg hsp hkn (by omega) n.b.toNat
  unfold nlin at hnk
  have hcb := (entries_bd s).2
  refine ⟨by omega, fun hk => ?_, fun hk => ?_, fun hk => ?_⟩
  · have := h2 hk
    rw [← r2 hk, hcnt] at this
    omega
  · have ha := hfo.a hk1 hk
    have := kA.2.2 (by omega)
    rw [rA hk, hcnt] at this
    omega
  · have hb := hfo.b hk
    have := kB.2.2 (by omega)
    rw [rB hk, hcnt] at this
    omega
theorem nums_ready {g : GraphV} {kn : List IntsV} {i cnt : Nat} {n : NodeV} {s : List Int} (hsp : (spansG g).1 = 0) (hkn : Known g kn i) (hi : i < g.l.length) (hni : NodeIn n ((check g).2.take i) s) (hnk : nlin n) (hk1 : n.kind ≠ 1) (hcnt : entries s = cnt) {w' : World} (hd : n.data.ok w') (hok : ∀ k, (kn.getD k nilI).ok w') : NumsOk w' n cnt (kn.getD n.a.toNat nilI) (kn.getD n.b.toNat nilI) := by
  obtain ⟨hck, hsl, hsi⟩ := spansG_in hsp
  obtain ⟨hl1, hl24, hout, hcl, hin⟩ := check_in hck
  have hti : ((check g).2.take i).length = i := by rw [List.length_take, hcl]; omega
  have hform := hni.form
  rw [hti] at hform
  obtain ⟨hA, hB, h7, h8, h2⟩ := ahead_of hform
  obtain ⟨nd, _⟩ := near_in hni.near
  have hfo := formed_of hform
  have hkind := hfo.kind
  obtain ⟨r2, rA, rB⟩ := shape_rel hni.shape hnk hkind hk1
  have kA := known_arg hsp hkn (by omega) n.a.toNat
  have kB := known_arg hsp hkn (by omega) n.b.toNat
  unfold nlin at hnk
  have hcb := (entries_bd s).2
  refine ⟨by omega, by omega, hd, nd, fun hk => ?_, h7, h8, hok _, hok _, fun hk => ?_, fun hk => ?_, kA.2.1, kB.2.1⟩
  · have := h2 hk
    rw [← r2 hk, hcnt] at this
    omega
  · have ha := hfo.a hk1 hk
    have := kA.2.2 (by omega)
    rw [rA hk, hcnt] at this
    omega
  · have hb := hfo.b hk
    have := kB.2.2 (by omega)
    rw [rB hk, hcnt] at this
    omega
theorem known_snoc {g : GraphV} {kn : List IntsV} {i : Nat} {x : IntsV} {s : List Int} {p : Sp} (hkn : Known g kn i) (hx : x.sane) (hp : (spansG g).2[i]? = some p) (hs : (check g).2[i]? = some s) (hw : within p x.xs) (hl : (x.xs.length : Int) = entries s) : Known g (kn ++ [x]) (i + 1) := by
  have hkl := hkn.len
  refine ⟨by rw [List.length_append, hkl]; rfl, fun u hu => ?_, fun j u p' q hu hp' hq => ?_⟩
  · rcases List.mem_append.1 hu with h | h
    · exact hkn.sane u h
    · simp at h; subst h; exact hx
  · rcases Nat.lt_or_ge j i with hj | hj
    · rw [List.getElem?_append_left (by omega)] at hu
      exact hkn.each j u p' q hu hp' hq
    · rw [List.getElem?_append_right (by omega)] at hu
      have h0 : j - kn.length = 0 := by
        rcases Nat.eq_zero_or_pos (j - kn.length) with h | h
        · exact h
        · rw [List.getElem?_eq_none (by simp; omega)] at hu; cases hu
      rw [h0] at hu
      simp only [List.getElem?_cons_zero, Option.some.injEq] at hu
      subst hu
      obtain rfl : j = i := by omega
      rw [hp] at hp'
      rw [hs] at hq
      simp only [Option.some.injEq] at hp' hq
      subst hp' hq
      exact ⟨hw, hl⟩
theorem nums_within {g : GraphV} {kn : List IntsV} {i cnt : Nat} {n : NodeV} {s : List Int} (hsp : (spansG g).1 = 0) (hkn : Known g kn i) (hi : i < g.l.length) (hni : NodeIn n ((check g).2.take i) s) (hnk : nlin n) (hk1 : n.kind ≠ 1) (hcnt : entries s = cnt) : within (spanOf n ((spansG g).2.take i)) (numsL n cnt (kn.getD n.a.toNat nilI).xs (kn.getD n.b.toNat nilI).xs) := by
  obtain ⟨h1, h2, h3, h4⟩ := nums_pl hsp hkn hi hni hnk hk1 hcnt
  intro x hx
  obtain ⟨o, ho, rfl⟩ := List.mem_map.1 hx
  rw [List.mem_range] at ho
  exact num_within h1 h2 h3 h4 (known_arg hsp hkn (by omega) n.a.toNat).1 (known_arg hsp hkn (by omega) n.b.toNat).1 ho
set_option maxRecDepth 20000 in
set_option maxHeartbeats 2000000 in
theorem run_any (w : World) (g : GraphV) (hg : g.ok w) (iv : ShapesV) (hiv : InV.ok w iv) (hnl : ∀ n ∈ g.l, nlin n) : Calls Try.prog 18 #[g.val, iv.val] w (RunPost w (runG g (iv.l.map IntsV.xs))) := by
  have hivf := hiv.few
  refine calls_of tab tabOk Try.func18 rfl rfl rfl [] (fun _ => ⟨none, 0⟩) [.agg [.c (.slice g.base g.l.length g.cap), .c (.int .i64 g.out)], .c iv.val] [] (baseA w) 0 rfl rfl (by show 2 ≤ _; decide) (abs_base w) ?_
  (repeat' ((conv => whnf) <;> first | (show drawK _ 11 _ _ _ _ _ _; (refine draw_tree tabOk mixed [15] _ (.take 0 (.take 1 (.take 2 (.take 3 (.take 4 (.take 5 (.take 6 (.take 7 (.take 8 (.take 9 (.take 10 (.take 11 (.take 12 (.one 13 (.take 14 (.one 15 (.done))))))))))))))))) (by kernel_rfl) (by kernel_rfl) (by kernel_rfl) (List.Sublist.refl _) ?_)) | (show drawK _ 12 _ _ _ _ _ _; (refine draw_quiet tabOk mixed (by kernel_rfl) ?_)) | (show drawK _ 14 _ _ _ _ _ _; (refine draw_tree tabOk mixed [9] _ (.take 0 (.take 1 (.take 2 (.take 3 (.take 4 (.alt 5 (.take 8 (.alt 6 (.alt 7 (.one 9 (.one 10 (.done))) (.one 9 (.one 7 (.one 10 (.done))))) (.one 9 (.one 6 (.one 7 (.one 10 (.done))))))) (.one 6 (.alt 5 (.take 8 (.alt 7 (.one 9 (.one 10 (.done))) (.one 9 (.one 7 (.one 10 (.done)))))) (.one 7 (.one 5 (.take 8 (.one 9 (.one 10 (.done)))))))))))))) (by kernel_rfl) (by kernel_rfl) (by kernel_rfl) (List.Sublist.refl _) ?_)) | (show Wp _ _ _ _ _ _ _; (refine Wp.go tabOk rfl ?_)) | (show @cmpK _ _ _; (first | refine cmp_yes (by omega) ?_ | refine cmp_no (by omega) ?_ | (refine cmp_both ?_ ?_ <;> intro _))) | (show wrapK _ _ _; (refine wrap_i64 (by omega) (by omega) ?_)) | (show leK _ _ _; (refine le_of (by first | exact Nat.le_refl _ | omega) ?_)) | (show roomK _ _ _; (refine room_of (by first | omega | (dsimp only; omega)) ?_)) | (show ltK _ _ _; (refine lt_of (by omega) ?_)) | (show _ ∧ _; (refine ⟨?_, ?_⟩)) | (show keepK _ _ _ _ _; (refine keep_of (by first | exact List.Sublist.refl _ | exact List.Sublist.cons _ (List.Sublist.refl _) | exact List.Sublist.cons _ (List.Sublist.cons _ (List.Sublist.refl _)) | exact List.Sublist.cons _ (List.Sublist.cons _ (List.Sublist.cons _ (List.Sublist.refl _)))) (by first | exact (fun _ _ h => h) | exact (fun _ _ h => h.1) | exact (fun _ _ h => h.1.1)) ?_)) | (show ownK _ _ _ _ _; (refine own_keep ?_))))
  refine call_spans (f := 25) (spansG g) Try.call25 (fun ρ w' hw => spans_any w' g (holds_of_abs hw fun R h => hg.later h) hnl) (fun hne => ?_) (fun hsp base cap => ?_)
  · have hq : runG g (iv.l.map IntsV.xs) = ((spansG g).1, []) := if_pos hne
    rw [hq]
    (repeat' ((conv => whnf) <;> first | (show @cmpK _ _ _; (refine cmp_yes hne ?_)) | (show drawK _ 11 _ _ _ _ _ _; (refine draw_tree tabOk mixed [15] _ (.take 0 (.take 1 (.take 2 (.take 3 (.take 4 (.take 5 (.take 6 (.take 7 (.take 8 (.take 9 (.take 10 (.take 11 (.take 12 (.one 13 (.take 14 (.one 15 (.done))))))))))))))))) (by kernel_rfl) (by kernel_rfl) (by kernel_rfl) (List.Sublist.refl _) ?_)) | (show drawK _ 12 _ _ _ _ _ _; (refine draw_quiet tabOk mixed (by kernel_rfl) ?_)) | (show drawK _ 14 _ _ _ _ _ _; (refine draw_tree tabOk mixed [9] _ (.take 0 (.take 1 (.take 2 (.take 3 (.take 4 (.alt 5 (.take 8 (.alt 6 (.alt 7 (.one 9 (.one 10 (.done))) (.one 9 (.one 7 (.one 10 (.done))))) (.one 9 (.one 6 (.one 7 (.one 10 (.done))))))) (.one 6 (.alt 5 (.take 8 (.alt 7 (.one 9 (.one 10 (.done))) (.one 9 (.one 7 (.one 10 (.done)))))) (.one 7 (.one 5 (.take 8 (.one 9 (.one 10 (.done)))))))))))))) (by kernel_rfl) (by kernel_rfl) (by kernel_rfl) (List.Sublist.refl _) ?_)) | (show Wp _ _ _ _ _ _ _; (refine Wp.go tabOk rfl ?_)) | (show @cmpK _ _ _; (first | refine cmp_yes (by omega) ?_ | refine cmp_no (by omega) ?_ | (refine cmp_both ?_ ?_ <;> intro _))) | (show wrapK _ _ _; (refine wrap_i64 (by omega) (by omega) ?_)) | (show leK _ _ _; (refine le_of (by first | exact Nat.le_refl _ | omega) ?_)) | (show roomK _ _ _; (refine room_of (by first | omega | (dsimp only; omega)) ?_)) | (show ltK _ _ _; (refine lt_of (by omega) ?_)) | (show _ ∧ _; (refine ⟨?_, ?_⟩)) | (show keepK _ _ _ _ _; (refine keep_of (by first | exact List.Sublist.refl _ | exact List.Sublist.cons _ (List.Sublist.refl _) | exact List.Sublist.cons _ (List.Sublist.cons _ (List.Sublist.refl _)) | exact List.Sublist.cons _ (List.Sublist.cons _ (List.Sublist.cons _ (List.Sublist.refl _)))) (by first | exact (fun _ _ h => h) | exact (fun _ _ h => h.1) | exact (fun _ _ h => h.1.1)) ?_)) | (show ownK _ _ _ _ _; (refine own_keep ?_))))
    conv => whnf
    exact run_bad (fun _ _ h => h) rfl hne (fun _ => rfl)
  have hq : runG g (iv.l.map IntsV.xs) = if (valsG g (iv.l.map IntsV.xs)).1 ≠ 0 then ((valsG g (iv.l.map IntsV.xs)).1, []) else (0, (valsG g (iv.l.map IntsV.xs)).2.getD g.out.toNat []) := if_neg (fun h => h hsp)
  rw [hq]
  obtain ⟨hck, hsl, hsi⟩ := spansG_in hsp
  obtain ⟨hl1, hl24, hout, hcl, hin⟩ := check_in hck
  (repeat' ((conv => whnf) <;> first | (show drawK _ 11 _ _ _ _ _ _; (refine draw_tree tabOk mixed [15] _ (.take 0 (.take 1 (.take 2 (.take 3 (.take 4 (.take 5 (.take 6 (.take 7 (.take 8 (.take 9 (.take 10 (.take 11 (.take 12 (.one 13 (.take 14 (.one 15 (.done))))))))))))))))) (by kernel_rfl) (by kernel_rfl) (by kernel_rfl) (List.Sublist.refl _) ?_)) | (show drawK _ 12 _ _ _ _ _ _; (refine draw_quiet tabOk mixed (by kernel_rfl) ?_)) | (show drawK _ 14 _ _ _ _ _ _; (refine draw_tree tabOk mixed [9] _ (.take 0 (.take 1 (.take 2 (.take 3 (.take 4 (.alt 5 (.take 8 (.alt 6 (.alt 7 (.one 9 (.one 10 (.done))) (.one 9 (.one 7 (.one 10 (.done))))) (.one 9 (.one 6 (.one 7 (.one 10 (.done))))))) (.one 6 (.alt 5 (.take 8 (.alt 7 (.one 9 (.one 10 (.done))) (.one 9 (.one 7 (.one 10 (.done)))))) (.one 7 (.one 5 (.take 8 (.one 9 (.one 10 (.done)))))))))))))) (by kernel_rfl) (by kernel_rfl) (by kernel_rfl) (List.Sublist.refl _) ?_)) | (show Wp _ _ _ _ _ _ _; (refine Wp.go tabOk rfl ?_)) | (show @cmpK _ _ _; (first | refine cmp_yes (by omega) ?_ | refine cmp_no (by omega) ?_ | (refine cmp_both ?_ ?_ <;> intro _))) | (show wrapK _ _ _; (refine wrap_i64 (by omega) (by omega) ?_)) | (show leK _ _ _; (refine le_of (by first | exact Nat.le_refl _ | omega) ?_)) | (show roomK _ _ _; (refine room_of (by first | omega | (dsimp only; omega)) ?_)) | (show ltK _ _ _; (refine lt_of (by omega) ?_)) | (show _ ∧ _; (refine ⟨?_, ?_⟩)) | (show keepK _ _ _ _ _; (refine keep_of (by first | exact List.Sublist.refl _ | exact List.Sublist.cons _ (List.Sublist.refl _) | exact List.Sublist.cons _ (List.Sublist.cons _ (List.Sublist.refl _)) | exact List.Sublist.cons _ (List.Sublist.cons _ (List.Sublist.cons _ (List.Sublist.refl _)))) (by first | exact (fun _ _ h => h) | exact (fun _ _ h => h.1) | exact (fun _ _ h => h.1.1)) ?_)) | (show ownK _ _ _ _ _; (refine own_keep ?_))))
  refine call_check (f := 43) (check g) Try.call43 (fun ρ w' hw => check_any w' g (holds_of_abs hw fun R h => hg.later h.1)) (fun hne => absurd hck hne) (fun _ sv hm hsv => ?_)
  have hsvl : sv.l.length = g.l.length := by rw [← hcl, ← hm]; simp
  (repeat' ((conv => whnf) <;> first | (show makeK _ _ _ _; (refine make_of g.l.length rfl rfl (by show 24 * _ ≤ _; omega) (by omega) ?_)) | (show drawK _ 11 _ _ _ _ _ _; (refine draw_tree tabOk mixed [15] _ (.take 0 (.take 1 (.take 2 (.take 3 (.take 4 (.take 5 (.take 6 (.take 7 (.take 8 (.take 9 (.take 10 (.take 11 (.take 12 (.one 13 (.take 14 (.one 15 (.done))))))))))))))))) (by kernel_rfl) (by kernel_rfl) (by kernel_rfl) (List.Sublist.refl _) ?_)) | (show drawK _ 12 _ _ _ _ _ _; (refine draw_quiet tabOk mixed (by kernel_rfl) ?_)) | (show drawK _ 14 _ _ _ _ _ _; (refine draw_tree tabOk mixed [9] _ (.take 0 (.take 1 (.take 2 (.take 3 (.take 4 (.alt 5 (.take 8 (.alt 6 (.alt 7 (.one 9 (.one 10 (.done))) (.one 9 (.one 7 (.one 10 (.done))))) (.one 9 (.one 6 (.one 7 (.one 10 (.done))))))) (.one 6 (.alt 5 (.take 8 (.alt 7 (.one 9 (.one 10 (.done))) (.one 9 (.one 7 (.one 10 (.done)))))) (.one 7 (.one 5 (.take 8 (.one 9 (.one 10 (.done)))))))))))))) (by kernel_rfl) (by kernel_rfl) (by kernel_rfl) (List.Sublist.refl _) ?_)) | (show Wp _ _ _ _ _ _ _; (refine Wp.go tabOk rfl ?_)) | (show @cmpK _ _ _; (first | refine cmp_yes (by omega) ?_ | refine cmp_no (by omega) ?_ | (refine cmp_both ?_ ?_ <;> intro _))) | (show wrapK _ _ _; (refine wrap_i64 (by omega) (by omega) ?_)) | (show leK _ _ _; (refine le_of (by first | exact Nat.le_refl _ | omega) ?_)) | (show roomK _ _ _; (refine room_of (by first | omega | (dsimp only; omega)) ?_)) | (show ltK _ _ _; (refine lt_of (by omega) ?_)) | (show _ ∧ _; (refine ⟨?_, ?_⟩)) | (show keepK _ _ _ _ _; (refine keep_of (by first | exact List.Sublist.refl _ | exact List.Sublist.cons _ (List.Sublist.refl _) | exact List.Sublist.cons _ (List.Sublist.cons _ (List.Sublist.refl _)) | exact List.Sublist.cons _ (List.Sublist.cons _ (List.Sublist.cons _ (List.Sublist.refl _)))) (by first | exact (fun _ _ h => h) | exact (fun _ _ h => h.1) | exact (fun _ _ h => h.1.1)) ?_)) | (show ownK _ _ _ _ _; (refine own_keep ?_))))
  refine Wp.loop (σ := Nat × List IntsV × ShapesV) 2 (fun ⟨i, _, cur⟩ => [(2, .lp 0 0 0 0), (1, .c cur.val), (8, .c sv.val), (10, .os 1 g.l.length), (32, .c (.slice g.base g.l.length g.cap)), (33, .c (.int .i64 g.l.length)), (34, .c (.int .i64 i))]) (fun ⟨_, kn, _⟩ => [(1, .rows (shRows (gridK g.l.length kn)) 1 33), (0, .box [.c (.slice g.base g.l.length g.cap), .c (.int .i64 g.out)] 26)]) (fun ⟨_, kn, _⟩ => ((baseA w).and ((shapesD sv).past w.heap.size)).and (eachA w.heap.size kn))
    (fun ⟨i, kn, cur⟩ => i ≤ g.l.length ∧ Known g kn i ∧ InV.ok w cur ∧ valsR (g.l.drop i) ((check g).2.drop i) (kn.map IntsV.xs) (cur.l.map IntsV.xs) = valsG g (iv.l.map IntsV.xs)) (fun s => g.l.length - s.1) (0, [], iv) [] (by decide) (fun s => ⟨rfl, rfl⟩) ⟨Nat.zero_le _, ⟨rfl, fun u hu => by simp at hu, fun j u s q hu => by simp at hu⟩, hiv, rfl⟩ ⟨rfl, ⟨rfl, rfl, rfl, rfl, rfl, rfl, rfl, trivial⟩, ⟨?_, (by repeat (first | exact List.mem_cons_self | apply List.mem_cons_of_mem)), trivial⟩, fun R w h => ⟨⟨h.1.1, h.2⟩, eachA_nil _ R w⟩⟩ ?_
  · have : shRows (gridK g.l.length []) = List.replicate g.l.length [Value.slice none 0 0] := by simp [shRows, gridK]; exact .inr rfl
    show (1, Ent.rows (shRows (gridK g.l.length [])) 1 33) ∈ _
    rw [this]
    exact (by repeat (first | exact List.mem_cons_self | apply List.mem_cons_of_mem))
  rintro ⟨i, kn, cur⟩ ⟨hi, hkn, hcur, hv⟩
  have hkl := hkn.len
  have hcf := hcur.few
  by_cases hlt : i < g.l.length
  · obtain ⟨a, ha⟩ : ∃ a, g.base = some a := base_some (j := i) hg.rows (by rw [nodeRows_length]; omega)
    have hnm := List.getElem_mem hlt
    obtain ⟨s, hs, hni⟩ := hin i g.l[i] (List.getElem?_eq_getElem hlt)
    obtain ⟨p, hp, hpe, hp1, hp2⟩ := hsi i g.l[i] (List.getElem?_eq_getElem hlt)
    have hdrop : g.l.drop i = g.l[i] :: g.l.drop (i + 1) := List.drop_eq_getElem_cons hlt
    have hsd : (check g).2.drop i = s :: (check g).2.drop (i + 1) := by
      obtain ⟨hls, hse⟩ := List.getElem?_eq_some_iff.1 hs
      rw [List.drop_eq_getElem_cons hls, hse]
    rw [hdrop, hsd] at hv
    have hrow := nodeRows_get hlt
    generalize g.l[i] = n at *
    have hn := hg.each n hnm
    have hnk := hnl n hnm
    have hti : ((check g).2.take i).length = i := by rw [List.length_take, hcl]; omega
    have hform := hni.form
    rw [hti] at hform
    obtain ⟨hA, hB, h7, h8, h2⟩ := ahead_of hform
    obtain ⟨nd, nb, nlo, nhi, nle⟩ := near_in hni.near
    have hkind := (formed_of hform).kind
    unfold nlin at hnk
    obtain ⟨u, hu, hus⟩ : ∃ u, sv.l[i]? = some u ∧ u.xs = s := by
      have hs' := hs
      rw [← hm, List.getElem?_map] at hs'
      cases hu : sv.l[i]? with
      | none => rw [hu] at hs'; simp at hs'
      | some u => rw [hu] at hs'; exact ⟨u, rfl, by simpa using hs'⟩
    obtain ⟨cnt, hcnt⟩ : ∃ cnt : Nat, entries u.xs = cnt := ⟨(entries u.xs).toNat, by have := (entries_bd u.xs).1; omega⟩
    have hcb := (entries_bd u.xs).2
    by_cases hk1 : n.kind = 1
    · obtain ⟨cb, cc, cl⟩ := cur
      cases cl with
      | nil =>
        have hv1 : valsR (n :: g.l.drop (i + 1)) (s :: (check g).2.drop (i + 1)) (kn.map IntsV.xs) [] = (12, []) := by
          conv => lhs; unfold valsR
          rw [if_neg (fun h => h hk1)]
        have hv2 : valsG g (iv.l.map IntsV.xs) = (12, []) := by rw [← hv]; exact hv1
        (repeat' ((conv => whnf) <;> first | (show @cmpK _ _ _; (refine cmp_yes rfl ?_)) | (show idxK _ _ _ _ _; (refine idx_of a i ha rfl hlt ?_)) | (show roAggK _ _ _ _; (refine roAgg_row (fun R w' h => by rw [← ha]; exact rows_base h.1.1 hg.rows) _ hrow rfl ?_)) | (show callK _ 44 _ _ _ _ _; (refine call_pure (f := 44) Try.call44 (placeV n (.slice none 0 0) .nilFunc cnt) (fun ρ w' hw => hcnt ▸ at_plain w' n sv (holds_of_abs hw fun R h => shapes_okI hsv (by omega) h.1.2) i u hu hnk) ?_)) | (show drawK _ 11 _ _ _ _ _ _; (refine draw_tree tabOk mixed [15] _ (.take 0 (.take 1 (.take 2 (.take 3 (.take 4 (.take 5 (.take 6 (.take 7 (.take 8 (.take 9 (.take 10 (.take 11 (.take 12 (.one 13 (.take 14 (.one 15 (.done))))))))))))))))) (by kernel_rfl) (by kernel_rfl) (by kernel_rfl) (List.Sublist.refl _) ?_)) | (show drawK _ 12 _ _ _ _ _ _; (refine draw_quiet tabOk mixed (by kernel_rfl) ?_)) | (show drawK _ 14 _ _ _ _ _ _; (refine draw_tree tabOk mixed [9] _ (.take 0 (.take 1 (.take 2 (.take 3 (.take 4 (.alt 5 (.take 8 (.alt 6 (.alt 7 (.one 9 (.one 10 (.done))) (.one 9 (.one 7 (.one 10 (.done))))) (.one 9 (.one 6 (.one 7 (.one 10 (.done))))))) (.one 6 (.alt 5 (.take 8 (.alt 7 (.one 9 (.one 10 (.done))) (.one 9 (.one 7 (.one 10 (.done)))))) (.one 7 (.one 5 (.take 8 (.one 9 (.one 10 (.done)))))))))))))) (by kernel_rfl) (by kernel_rfl) (by kernel_rfl) (List.Sublist.refl _) ?_)) | (show Wp _ _ _ _ _ _ _; (refine Wp.go tabOk rfl ?_)) | (show @cmpK _ _ _; (first | refine cmp_yes (by omega) ?_ | refine cmp_no (by omega) ?_ | (refine cmp_both ?_ ?_ <;> intro _))) | (show wrapK _ _ _; (refine wrap_i64 (by omega) (by omega) ?_)) | (show leK _ _ _; (refine le_of (by first | exact Nat.le_refl _ | omega) ?_)) | (show roomK _ _ _; (refine room_of (by first | omega | (dsimp only; omega)) ?_)) | (show ltK _ _ _; (refine lt_of (by omega) ?_)) | (show _ ∧ _; (refine ⟨?_, ?_⟩)) | (show keepK _ _ _ _ _; (refine keep_of (by first | exact List.Sublist.refl _ | exact List.Sublist.cons _ (List.Sublist.refl _) | exact List.Sublist.cons _ (List.Sublist.cons _ (List.Sublist.refl _)) | exact List.Sublist.cons _ (List.Sublist.cons _ (List.Sublist.cons _ (List.Sublist.refl _)))) (by first | exact (fun _ _ h => h) | exact (fun _ _ h => h.1) | exact (fun _ _ h => h.1.1)) ?_)) | (show ownK _ _ _ _ _; (refine own_keep ?_))))
        all_goals (conv => whnf)
        all_goals exact run_bad12 (fun _ _ h => h.1.1) rfl hv2 (fun _ => rfl)
      | cons x xs =>
        obtain ⟨ca, hca⟩ : ∃ a, cb = some a := base_some (j := 0) hcur.rows (by show 0 < (shRows (x :: xs)).length; rw [shRows_length]; exact Nat.succ_pos _)
        subst hca
        have hxok : x.ok w := hcur.each x List.mem_cons_self
        have hcs : entries s = cnt := by rw [← hus]; exact hcnt
        have hroom := hcur.room
        have hxl : xs.length + 1 ≤ cc := hroom
        have hne0 : ¬ ((({ base := some ca, cap := cc, l := x :: xs } : ShapesV).l.length : Nat) : Int) = 0 := by show ¬ ((xs.length + 1 : Nat) : Int) = 0; omega
        have hpos : 1 ≤ cnt := by
          have hso := hni.shape
          unfold shapeO at hso
          rw [if_pos (.inl hk1), Option.some.injEq] at hso
          have := (formed_of hform).own (.inl hk1)
          rw [hso] at this
          omega
        by_cases hbad : (x.xs.length : Int) ≠ entries s ∨ foldI min x.xs < n.lo ∨ n.hi < foldI max x.xs
        · have hv1 : valsR (n :: g.l.drop (i + 1)) (s :: (check g).2.drop (i + 1)) (kn.map IntsV.xs) (x.xs :: xs.map IntsV.xs) = (12, []) := by
            conv => lhs; unfold valsR
            rw [if_neg (fun h => h hk1)]
            simp only
            rw [if_pos hbad]
          have hv2 : valsG g (iv.l.map IntsV.xs) = (12, []) := by rw [← hv]; exact hv1
          rw [hcs] at hbad
          (repeat' ((conv => whnf) <;> first | (show @cmpK _ _ _; (refine cmp_no hne0 ?_)) | (show idxK _ _ _ _ _; (first | refine idx_of a i ha rfl hlt ?_ | refine idx_of ca 0 rfl rfl (by omega) ?_)) | (show roAggK _ _ _ _; (refine roAgg_row (fun R w' h => by rw [← ha]; exact rows_base h.1.1 hg.rows) _ hrow rfl ?_)) | (show roK _ _ _; (refine ro_row0 (fun R w' h => rows_base h.1.1 hcur.rows) _ _ (j := 0) rfl rfl ?_)) | (show idxRowK _ _ _ _ _ _; (refine idxRow_of i rfl hlt (by rw [shRows_length, gridK_length (by omega)]; exact Nat.le_refl _) ?_)) | (show callK _ 44 _ _ _ _ _; (refine call_pure (f := 44) Try.call44 (placeV n (.slice none 0 0) .nilFunc cnt) (fun ρ w' hw => hcnt ▸ at_plain w' n sv (holds_of_abs hw fun R h => shapes_okI hsv (by omega) h.1.2) i u hu hnk) ?_)) | (show callQ _ 46 _ _ _ _ _; (refine callQ_of (f := 46) Try.call46 (.int .i64 (foldI min x.xs)) (fun ρ w' hw => min_any w' x (holds_of_abs hw fun R h => hxok.later h.1.1) (by omega)) ?_)) | (show callQ _ 47 _ _ _ _ _; (refine callQ_of (f := 47) Try.call47 (.int .i64 (foldI max x.xs)) (fun ρ w' hw => max_any w' x (holds_of_abs hw fun R h => hxok.later h.1.1) (by omega)) ?_)) | (show drawK _ 11 _ _ _ _ _ _; (refine draw_tree tabOk mixed [15] _ (.take 0 (.take 1 (.take 2 (.take 3 (.take 4 (.take 5 (.take 6 (.take 7 (.take 8 (.take 9 (.take 10 (.take 11 (.take 12 (.one 13 (.take 14 (.one 15 (.done))))))))))))))))) (by kernel_rfl) (by kernel_rfl) (by kernel_rfl) (List.Sublist.refl _) ?_)) | (show drawK _ 12 _ _ _ _ _ _; (refine draw_quiet tabOk mixed (by kernel_rfl) ?_)) | (show drawK _ 14 _ _ _ _ _ _; (refine draw_tree tabOk mixed [9] _ (.take 0 (.take 1 (.take 2 (.take 3 (.take 4 (.alt 5 (.take 8 (.alt 6 (.alt 7 (.one 9 (.one 10 (.done))) (.one 9 (.one 7 (.one 10 (.done))))) (.one 9 (.one 6 (.one 7 (.one 10 (.done))))))) (.one 6 (.alt 5 (.take 8 (.alt 7 (.one 9 (.one 10 (.done))) (.one 9 (.one 7 (.one 10 (.done)))))) (.one 7 (.one 5 (.take 8 (.one 9 (.one 10 (.done)))))))))))))) (by kernel_rfl) (by kernel_rfl) (by kernel_rfl) (List.Sublist.refl _) ?_)) | (show Wp _ _ _ _ _ _ _; (refine Wp.go tabOk rfl ?_)) | (show @cmpK _ _ _; (first | refine cmp_yes (by omega) ?_ | refine cmp_no (by omega) ?_ | (refine cmp_both ?_ ?_ <;> intro _))) | (show wrapK _ _ _; (refine wrap_i64 (by omega) (by omega) ?_)) | (show leK _ _ _; (refine le_of (by first | exact Nat.le_refl _ | omega) ?_)) | (show roomK _ _ _; (refine room_of (by first | omega | (dsimp only; omega)) ?_)) | (show ltK _ _ _; (refine lt_of (by omega) ?_)) | (show _ ∧ _; (refine ⟨?_, ?_⟩)) | (show keepK _ _ _ _ _; (refine keep_of (by first | exact List.Sublist.refl _ | exact List.Sublist.cons _ (List.Sublist.refl _) | exact List.Sublist.cons _ (List.Sublist.cons _ (List.Sublist.refl _)) | exact List.Sublist.cons _ (List.Sublist.cons _ (List.Sublist.cons _ (List.Sublist.refl _)))) (by first | exact (fun _ _ h => h) | exact (fun _ _ h => h.1) | exact (fun _ _ h => h.1.1)) ?_)) | (show ownK _ _ _ _ _; (refine own_keep ?_))))
          all_goals (conv => whnf)
          all_goals first | (exfalso; omega) | exact run_bad12 (fun _ _ h => h.1.1) rfl hv2 (fun _ => rfl)
        · have hv1 : valsR (n :: g.l.drop (i + 1)) (s :: (check g).2.drop (i + 1)) (kn.map IntsV.xs) (x.xs :: xs.map IntsV.xs) = valsR (g.l.drop (i + 1)) ((check g).2.drop (i + 1)) (kn.map IntsV.xs ++ [x.xs]) (xs.map IntsV.xs) := by
            conv => lhs; unfold valsR
            rw [if_neg (fun h => h hk1)]
            simp only
            rw [if_neg hbad]
          have hv2 := hv1.symm.trans hv
          rw [hcs] at hbad
          have hwi : within p x.xs := by
            rw [hpe]
            have hL : endsL n (((spansG g).2.take i).getD n.a.toNat (0, 0)) (((spansG g).2.take i).getD n.b.toNat (0, 0)) = [n.lo, n.hi] := if_pos hk1
            unfold spanOf
            rw [hL]
            intro z hz
            have m1 : foldI min [n.lo, n.hi] = min n.lo n.hi := rfl
            have m2 : foldI max [n.lo, n.hi] = max n.lo n.hi := rfl
            have := foldI_min_le hz
            have := foldI_max_ge hz
            simp only [m1, m2]
            omega
          (repeat' ((conv => whnf) <;> first | (show @cmpK _ _ _; (refine cmp_no hne0 ?_)) | (show idxK _ _ _ _ _; (first | refine idx_of a i ha rfl hlt ?_ | refine idx_of ca 0 rfl rfl (by omega) ?_)) | (show roAggK _ _ _ _; (refine roAgg_row (fun R w' h => by rw [← ha]; exact rows_base h.1.1 hg.rows) _ hrow rfl ?_)) | (show roK _ _ _; (refine ro_row0 (fun R w' h => rows_base h.1.1 hcur.rows) _ _ (j := 0) rfl rfl ?_)) | (show idxRowK _ _ _ _ _ _; (refine idxRow_of i rfl hlt (by rw [shRows_length, gridK_length (by omega)]; exact Nat.le_refl _) ?_)) | (show callK _ 44 _ _ _ _ _; (refine call_pure (f := 44) Try.call44 (placeV n (.slice none 0 0) .nilFunc cnt) (fun ρ w' hw => hcnt ▸ at_plain w' n sv (holds_of_abs hw fun R h => shapes_okI hsv (by omega) h.1.2) i u hu hnk) ?_)) | (show callQ _ 46 _ _ _ _ _; (refine callQ_of (f := 46) Try.call46 (.int .i64 (foldI min x.xs)) (fun ρ w' hw => min_any w' x (holds_of_abs hw fun R h => hxok.later h.1.1) (by omega)) ?_)) | (show callQ _ 47 _ _ _ _ _; (refine callQ_of (f := 47) Try.call47 (.int .i64 (foldI max x.xs)) (fun ρ w' hw => max_any w' x (holds_of_abs hw fun R h => hxok.later h.1.1) (by omega)) ?_)) | (show drawK _ 14 _ _ _ _ _ _; (refine draw_tree tabOk mixed [] [] (.take 0 (.take 1 (.take 2 (.take 6 (.alt 3 (.alt 4 (.alt 5 (.alt 7 (.one 8 (.one 9 (.take 10 (.done)))) (.one 8 (.alt 7 (.one 9 (.take 10 (.done))) (.one 9 (.one 7 (.take 10 (.done))))))) (.one 7 (.one 5 (.one 8 (.one 9 (.take 10 (.done))))))) (.one 7 (.one 4 (.one 5 (.one 8 (.one 9 (.take 10 (.done)))))))) (.one 7 (.one 3 (.one 4 (.one 5 (.one 8 (.one 9 (.take 10 (.done))))))))))))) (by kernel_rfl) (by kernel_rfl) (by kernel_rfl) (List.nil_sublist _) ?_)) | (show keepK _ _ _ _ _; (refine keep_of (by repeat (first | exact List.Sublist.refl _ | exact List.nil_sublist _ | apply List.Sublist.cons_cons | apply List.Sublist.cons)) (by first | exact (fun _ _ h => h) | exact (fun _ _ h => h.1) | exact (fun _ _ h => h.1.1)) ?_)) | (show callK _ 48 _ _ _ _ _; (refine call_clone x.xs Try.call48 hxok.fits hxok.few (fun ρ w' hw => clone_any w' x (holds_of_abs hw fun R h => hxok.later h.1.1) (by omega)) (fun y hy hys => ?_))) | (show sliceK _ _ _ _ _ _ _ _; (refine slice_oneI (by omega) (by omega) ?_)) | (show rowStoreK _ _ _ _ _; (refine gridK_store hkl hlt ?_)) | (show drawK _ 11 _ _ _ _ _ _; (refine draw_tree tabOk mixed [15] _ (.take 0 (.take 1 (.take 2 (.take 3 (.take 4 (.take 5 (.take 6 (.take 7 (.take 8 (.take 9 (.take 10 (.take 11 (.take 12 (.one 13 (.take 14 (.one 15 (.done))))))))))))))))) (by kernel_rfl) (by kernel_rfl) (by kernel_rfl) (List.Sublist.refl _) ?_)) | (show drawK _ 12 _ _ _ _ _ _; (refine draw_quiet tabOk mixed (by kernel_rfl) ?_)) | (show Wp _ _ _ _ _ _ _; (refine Wp.go tabOk rfl ?_)) | (show @cmpK _ _ _; (first | refine cmp_yes (by omega) ?_ | refine cmp_no (by omega) ?_ | (refine cmp_both ?_ ?_ <;> intro _))) | (show wrapK _ _ _; (refine wrap_i64 (by omega) (by omega) ?_)) | (show leK _ _ _; (refine le_of (by first | exact Nat.le_refl _ | omega) ?_)) | (show roomK _ _ _; (refine room_of (by first | omega | (dsimp only; omega)) ?_)) | (show ltK _ _ _; (refine lt_of (by omega) ?_)) | (show _ ∧ _; (refine ⟨?_, ?_⟩)) | (show keepK _ _ _ _ _; (refine keep_of (by first | exact List.Sublist.refl _ | exact List.Sublist.cons _ (List.Sublist.refl _) | exact List.Sublist.cons _ (List.Sublist.cons _ (List.Sublist.refl _)) | exact List.Sublist.cons _ (List.Sublist.cons _ (List.Sublist.cons _ (List.Sublist.refl _)))) (by first | exact (fun _ _ h => h) | exact (fun _ _ h => h.1) | exact (fun _ _ h => h.1.1)) ?_)) | (show ownK _ _ _ _ _; (refine own_keep ?_))))
          all_goals (conv => whnf)
          all_goals exact ⟨(i + 1, kn ++ [y], ⟨some (if cc = 1 then ca else ca.add 1), cc - 1, xs⟩), [], ⟨hlt, known_snoc hkn hys hp hs (by rw [hy]; exact hwi) (by rw [hy, hcs]; omega), InV.rest_ok hcur rfl, by rw [List.map_append, List.map_cons, List.map_nil, hy]; exact hv2⟩, by simp only; omega, rfl, ⟨rfl, rfl, rfl, rfl, rfl, rfl, rfl, trivial⟩, ⟨(by repeat (first | exact List.mem_cons_self | apply List.mem_cons_of_mem)), (by repeat (first | exact List.mem_cons_self | apply List.mem_cons_of_mem)), trivial⟩, fun R w' h => ⟨h.1.1, eachA_snoc h.1.2 h.2⟩⟩
    · have hv1 : valsR (n :: g.l.drop (i + 1)) (s :: (check g).2.drop (i + 1)) (kn.map IntsV.xs) (cur.l.map IntsV.xs) = valsR (g.l.drop (i + 1)) ((check g).2.drop (i + 1)) (kn.map IntsV.xs ++ [numsL n cnt (kn.getD n.a.toNat nilI).xs (kn.getD n.b.toNat nilI).xs]) (cur.l.map IntsV.xs) := by
        conv => lhs; unfold valsR
        rw [if_pos hk1, getD_xs, getD_xs, ← hus, hcnt]; rfl
      rw [hv1] at hv
      have hcs : entries s = cnt := by rw [← hus]; exact hcnt
      have gA := gridK_getD (n := g.l.length) (l := kn) (j := n.a.toNat) (by omega) (by omega)
      have gB := gridK_getD (n := g.l.length) (l := kn) (j := n.b.toNat) (by omega) (by omega)
      (repeat' ((conv => whnf) <;> first | (show idxK _ _ _ _ _; (refine idx_of a i ha rfl hlt ?_)) | (show roAggK _ _ _ _; (refine roAgg_row (fun R w' h => by rw [← ha]; exact rows_base h.1.1 hg.rows) _ hrow rfl ?_)) | (show callK _ 44 _ _ _ _ _; (refine call_pure (f := 44) Try.call44 (placeV n (.slice none 0 0) .nilFunc cnt) (fun ρ w' hw => hcnt ▸ at_plain w' n sv (holds_of_abs hw fun R h => shapes_okI hsv (by omega) h.1.2) i u hu hnk) ?_)) | (show idxRowK _ _ _ _ _ _; (first | refine idxRow_of n.a.toNat (by omega) (by omega) (by rw [shRows_length, gridK_length (by omega)]; exact Nat.le_refl _) ?_ | refine idxRow_of n.b.toNat (by omega) (by omega) (by rw [shRows_length, gridK_length (by omega)]; exact Nat.le_refl _) ?_ | refine idxRow_of i rfl hlt (by rw [shRows_length, gridK_length (by omega)]; exact Nat.le_refl _) ?_)) | (show rowK _ _ _ _; (first | refine row_of _ _ gA rfl ?_ | refine row_of _ _ gB rfl ?_)) | (show keepK _ _ _ _ _; (refine keep_of (by repeat (first | exact List.Sublist.refl _ | exact List.nil_sublist _ | apply List.Sublist.cons_cons | apply List.Sublist.cons)) (by first | exact (fun _ _ h => h) | exact (fun _ _ h => h.1) | exact (fun _ _ h => h.1.1)) ?_)) | (show callK _ 45 _ _ _ _ _; (refine call_past Try.call45 IntsV.val intsA (fun x => x.xs = numsL n cnt (kn.getD n.a.toNat nilI).xs (kn.getD n.b.toNat nilI).xs ∧ x.sane) (fun ρ w' hw => nums_plain w' n (.slice none 0 0) .nilFunc cnt (kn.getD n.a.toNat nilI) (kn.getD n.b.toNat nilI) (holds_of_abs hw fun R h => nums_ready hsp hkn hlt hni hnk hk1 hcs (hn.data.later h.1.1) (fun k => getD_kn hkn.sane h.2 k))) (fun x hx => ?_))) | (show rowStoreK _ _ _ _ _; (refine gridK_store hkl hlt ?_)) | (show drawK _ 11 _ _ _ _ _ _; (refine draw_tree tabOk mixed [15] _ (.take 0 (.take 1 (.take 2 (.take 3 (.take 4 (.take 5 (.take 6 (.take 7 (.take 8 (.take 9 (.take 10 (.take 11 (.take 12 (.one 13 (.take 14 (.one 15 (.done))))))))))))))))) (by kernel_rfl) (by kernel_rfl) (by kernel_rfl) (List.Sublist.refl _) ?_)) | (show drawK _ 12 _ _ _ _ _ _; (refine draw_quiet tabOk mixed (by kernel_rfl) ?_)) | (show drawK _ 14 _ _ _ _ _ _; (refine draw_tree tabOk mixed [9] _ (.take 0 (.take 1 (.take 2 (.take 3 (.take 4 (.alt 5 (.take 8 (.alt 6 (.alt 7 (.one 9 (.one 10 (.done))) (.one 9 (.one 7 (.one 10 (.done))))) (.one 9 (.one 6 (.one 7 (.one 10 (.done))))))) (.one 6 (.alt 5 (.take 8 (.alt 7 (.one 9 (.one 10 (.done))) (.one 9 (.one 7 (.one 10 (.done)))))) (.one 7 (.one 5 (.take 8 (.one 9 (.one 10 (.done)))))))))))))) (by kernel_rfl) (by kernel_rfl) (by kernel_rfl) (List.Sublist.refl _) ?_)) | (show Wp _ _ _ _ _ _ _; (refine Wp.go tabOk rfl ?_)) | (show @cmpK _ _ _; (first | refine cmp_yes (by omega) ?_ | refine cmp_no (by omega) ?_ | (refine cmp_both ?_ ?_ <;> intro _))) | (show wrapK _ _ _; (refine wrap_i64 (by omega) (by omega) ?_)) | (show leK _ _ _; (refine le_of (by first | exact Nat.le_refl _ | omega) ?_)) | (show roomK _ _ _; (refine room_of (by first | omega | (dsimp only; omega)) ?_)) | (show ltK _ _ _; (refine lt_of (by omega) ?_)) | (show _ ∧ _; (refine ⟨?_, ?_⟩)) | (show keepK _ _ _ _ _; (refine keep_of (by first | exact List.Sublist.refl _ | exact List.Sublist.cons _ (List.Sublist.refl _) | exact List.Sublist.cons _ (List.Sublist.cons _ (List.Sublist.refl _)) | exact List.Sublist.cons _ (List.Sublist.cons _ (List.Sublist.cons _ (List.Sublist.refl _)))) (by first | exact (fun _ _ h => h) | exact (fun _ _ h => h.1) | exact (fun _ _ h => h.1.1)) ?_)) | (show ownK _ _ _ _ _; (refine own_keep ?_))))
      all_goals (conv => whnf)
      all_goals exact ⟨(i + 1, kn ++ [x], cur), [], ⟨hlt, known_snoc hkn hx.2 hp hs (by rw [hx.1, hpe]; exact nums_within hsp hkn hlt hni hnk hk1 hcs) (by rw [hx.1, hcs]; simp [numsL]), hcur, by rw [List.map_append, List.map_cons, List.map_nil, hx.1]; exact hv⟩, by simp only; omega, rfl, ⟨rfl, rfl, rfl, rfl, rfl, rfl, rfl, trivial⟩, ⟨(by repeat (first | exact List.mem_cons_self | apply List.mem_cons_of_mem)), (by repeat (first | exact List.mem_cons_self | apply List.mem_cons_of_mem)), trivial⟩, fun R w' h => ⟨h.1.1, eachA_snoc h.1.2 h.2⟩⟩
  · obtain rfl : i = g.l.length := by omega
    rw [List.drop_length] at hv
    have hgO := gridK_getD (n := g.l.length) (l := kn) (j := g.out.toNat) (by omega) (by omega)
    by_cases hrest : 0 < cur.l.length
    · have hv2 : valsG g (iv.l.map IntsV.xs) = (12, []) := by
        rw [← hv]
        conv => lhs; unfold valsR
        rw [if_pos (by simpa using hrest)]
      (repeat' ((conv => whnf) <;> first | (show drawK _ 11 _ _ _ _ _ _; (refine draw_tree tabOk mixed [15] _ (.take 0 (.take 1 (.take 2 (.take 3 (.take 4 (.take 5 (.take 6 (.take 7 (.take 8 (.take 9 (.take 10 (.take 11 (.take 12 (.one 13 (.take 14 (.one 15 (.done))))))))))))))))) (by kernel_rfl) (by kernel_rfl) (by kernel_rfl) (List.Sublist.refl _) ?_)) | (show drawK _ 12 _ _ _ _ _ _; (refine draw_quiet tabOk mixed (by kernel_rfl) ?_)) | (show drawK _ 14 _ _ _ _ _ _; (refine draw_tree tabOk mixed [9] _ (.take 0 (.take 1 (.take 2 (.take 3 (.take 4 (.alt 5 (.take 8 (.alt 6 (.alt 7 (.one 9 (.one 10 (.done))) (.one 9 (.one 7 (.one 10 (.done))))) (.one 9 (.one 6 (.one 7 (.one 10 (.done))))))) (.one 6 (.alt 5 (.take 8 (.alt 7 (.one 9 (.one 10 (.done))) (.one 9 (.one 7 (.one 10 (.done)))))) (.one 7 (.one 5 (.take 8 (.one 9 (.one 10 (.done)))))))))))))) (by kernel_rfl) (by kernel_rfl) (by kernel_rfl) (List.Sublist.refl _) ?_)) | (show Wp _ _ _ _ _ _ _; (refine Wp.go tabOk rfl ?_)) | (show @cmpK _ _ _; (first | refine cmp_yes (by omega) ?_ | refine cmp_no (by omega) ?_ | (refine cmp_both ?_ ?_ <;> intro _))) | (show wrapK _ _ _; (refine wrap_i64 (by omega) (by omega) ?_)) | (show leK _ _ _; (refine le_of (by first | exact Nat.le_refl _ | omega) ?_)) | (show roomK _ _ _; (refine room_of (by first | omega | (dsimp only; omega)) ?_)) | (show ltK _ _ _; (refine lt_of (by omega) ?_)) | (show _ ∧ _; (refine ⟨?_, ?_⟩)) | (show keepK _ _ _ _ _; (refine keep_of (by first | exact List.Sublist.refl _ | exact List.Sublist.cons _ (List.Sublist.refl _) | exact List.Sublist.cons _ (List.Sublist.cons _ (List.Sublist.refl _)) | exact List.Sublist.cons _ (List.Sublist.cons _ (List.Sublist.cons _ (List.Sublist.refl _)))) (by first | exact (fun _ _ h => h) | exact (fun _ _ h => h.1) | exact (fun _ _ h => h.1.1)) ?_)) | (show ownK _ _ _ _ _; (refine own_keep ?_))))
      conv => whnf
      exact run_bad12 (fun _ _ h => h.1.1) rfl hv2 (fun _ => rfl)
    · have hv2 : valsG g (iv.l.map IntsV.xs) = (0, kn.map IntsV.xs) := by
        rw [← hv]
        conv => lhs; unfold valsR
        rw [if_neg (by simpa using hrest)]
      (repeat' ((conv => whnf) <;> first | (show idxRowK _ _ _ _ _ _; (refine idxRow_of g.out.toNat (by omega) (by omega) (by rw [shRows_length, gridK_length (by omega)]; exact Nat.le_refl _) ?_)) | (show rowK _ _ _ _; (refine row_of _ _ hgO rfl ?_)) | (show drawK _ 11 _ _ _ _ _ _; (refine draw_tree tabOk mixed [15] _ (.take 0 (.take 1 (.take 2 (.take 3 (.take 4 (.take 5 (.take 6 (.take 7 (.take 8 (.take 9 (.take 10 (.take 11 (.take 12 (.one 13 (.take 14 (.one 15 (.done))))))))))))))))) (by kernel_rfl) (by kernel_rfl) (by kernel_rfl) (List.Sublist.refl _) ?_)) | (show drawK _ 12 _ _ _ _ _ _; (refine draw_quiet tabOk mixed (by kernel_rfl) ?_)) | (show drawK _ 14 _ _ _ _ _ _; (refine draw_tree tabOk mixed [9] _ (.take 0 (.take 1 (.take 2 (.take 3 (.take 4 (.alt 5 (.take 8 (.alt 6 (.alt 7 (.one 9 (.one 10 (.done))) (.one 9 (.one 7 (.one 10 (.done))))) (.one 9 (.one 6 (.one 7 (.one 10 (.done))))))) (.one 6 (.alt 5 (.take 8 (.alt 7 (.one 9 (.one 10 (.done))) (.one 9 (.one 7 (.one 10 (.done)))))) (.one 7 (.one 5 (.take 8 (.one 9 (.one 10 (.done)))))))))))))) (by kernel_rfl) (by kernel_rfl) (by kernel_rfl) (List.Sublist.refl _) ?_)) | (show Wp _ _ _ _ _ _ _; (refine Wp.go tabOk rfl ?_)) | (show @cmpK _ _ _; (first | refine cmp_yes (by omega) ?_ | refine cmp_no (by omega) ?_ | (refine cmp_both ?_ ?_ <;> intro _))) | (show wrapK _ _ _; (refine wrap_i64 (by omega) (by omega) ?_)) | (show leK _ _ _; (refine le_of (by first | exact Nat.le_refl _ | omega) ?_)) | (show roomK _ _ _; (refine room_of (by first | omega | (dsimp only; omega)) ?_)) | (show ltK _ _ _; (refine lt_of (by omega) ?_)) | (show _ ∧ _; (refine ⟨?_, ?_⟩)) | (show keepK _ _ _ _ _; (refine keep_of (by first | exact List.Sublist.refl _ | exact List.Sublist.cons _ (List.Sublist.refl _) | exact List.Sublist.cons _ (List.Sublist.cons _ (List.Sublist.refl _)) | exact List.Sublist.cons _ (List.Sublist.cons _ (List.Sublist.cons _ (List.Sublist.refl _)))) (by first | exact (fun _ _ h => h) | exact (fun _ _ h => h.1) | exact (fun _ _ h => h.1.1)) ?_)) | (show ownK _ _ _ _ _; (refine own_keep ?_))))
      conv => whnf
      have hko : g.out.toNat < kn.length := by omega
      have hge : kn.getD g.out.toNat nilI = kn[g.out.toNat] := by rw [List.getD_eq_getElem?_getD, List.getElem?_eq_getElem hko]; rfl
      exact run_good0 (fun _ _ h => h.1.1) rfl (by rw [hge]; exact hkn.sane _ (List.getElem_mem hko)) hv2 (getD_xs _ _).symm (fun R w' h => by rw [hge]; exact h.2 _ (List.getElem_mem hko))
end Go.Proofs.Ytdmkdogakbipbaa
/- IY -/
namespace Go.Proofs.Ytdmkdogakbipbaa
open Go.SX Go.RowKit
/-! what a graph tells, plain, of all kinds -/
def numsAt (sh : List (List Int)) (n : NodeV) (known : List (List Int)) : List Int := numsA n (entries (sh.getD known.length [])).toNat (sh.getD n.a.toNat []) (known.getD n.a.toNat []) (known.getD n.b.toNat [])
def valsQ (sh : List (List Int)) : List NodeV → List (List Int) → List (List Int) → Int × List (List Int)
  | [], known, inp => if 0 < inp.length then (12, []) else (0, known)
  | n :: r, known, inp =>
    if n.kind ≠ 1 then valsQ sh r (known ++ [numsAt sh n known]) inp
    else match inp with
      | [] => (12, [])
      | x :: xs => if (x.length : Int) ≠ entries (sh.getD known.length []) ∨ foldI min x < n.lo ∨ n.hi < foldI max x then (12, []) else valsQ sh r (known ++ [x]) xs
def valsH (g : GraphV) (inp : List (List Int)) : Int × List (List Int) := valsQ (check g).2 g.l [] inp
def runH (g : GraphV) (inp : List (List Int)) : Int × List Int :=
  if (spansH g).1 ≠ 0 then ((spansH g).1, []) else if (valsH g inp).1 ≠ 0 then ((valsH g inp).1, []) else (0, (valsH g inp).2.getD g.out.toNat [])
def spanAt (sh : List (List Int)) (n : NodeV) (acc : List Sp) : Sp := spanE (endsAt sh n acc)
theorem spansQ_in {sh : List (List Int)} : ∀ {l : List NodeV} {acc S : List Sp}, spansQ sh l acc = (0, S) → ∃ q, S = acc ++ q ∧ q.length = l.length ∧ ∀ i n, l[i]? = some n → ∃ s, q[i]? = some s ∧ s = spanAt sh n (acc ++ q.take i) ∧ -1048576 ≤ s.1 ∧ s.2 ≤ 1048576
  | [], acc, S, h => by
    obtain rfl : acc = S := by simpa [spansQ] using h
    exact ⟨[], by simp, rfl, fun i n hn => by simp at hn⟩
  | m :: r, acc, S, h => by
    by_cases hr : (spanAt sh m acc).1 < -1048576 ∨ 1048576 < (spanAt sh m acc).2
    · have : spansQ sh (m :: r) acc = (5, []) := if_pos hr
      rw [this] at h; simp at h
    · have : spansQ sh (m :: r) acc = spansQ sh r (acc ++ [spanAt sh m acc]) := if_neg hr
      rw [this] at h
      obtain ⟨q, hq, hl, ha⟩ := spansQ_in h
      refine ⟨spanAt sh m acc :: q, by rw [hq, List.append_assoc]; rfl, by simp [hl], fun i n hin => ?_⟩
      cases i with
      | zero =>
        simp only [List.getElem?_cons_zero, Option.some.injEq] at hin
        subst hin
        exact ⟨_, rfl, by simp, by omega, by omega⟩
      | succ i =>
        simp only [List.getElem?_cons_succ] at hin
        obtain ⟨t, h1, h2, h3⟩ := ha i n hin
        refine ⟨t, by simpa using h1, ?_, h3⟩
        rw [List.take_succ_cons, show acc ++ spanAt sh m acc :: q.take i = acc ++ [spanAt sh m acc] ++ q.take i by simp]
        exact h2
theorem spansH_in {g : GraphV} (h : (spansH g).1 = 0) : (check g).1 = 0 ∧ (spansH g).2.length = g.l.length ∧ ∀ i n, g.l[i]? = some n → ∃ s, (spansH g).2[i]? = some s ∧ s = spanAt (check g).2 n ((spansH g).2.take i) ∧ -1048576 ≤ s.1 ∧ s.2 ≤ 1048576 := by
  unfold spansH at h ⊢
  by_cases hc : (check g).1 ≠ 0
  · rw [if_pos hc] at h; exact absurd h hc
  · rw [if_neg hc] at h ⊢
    obtain ⟨q, hq, hl, ha⟩ := spansQ_in (l := g.l) (acc := []) (S := (spansQ (check g).2 g.l []).2) (Prod.ext h rfl)
    rw [List.nil_append] at hq
    rw [hq]
    exact ⟨by omega, hl, fun i n hn => by simpa using ha i n hn⟩
/-- known so far: as many as there should be, within their spans -/
structure KnownH (g : GraphV) (kn : List IntsV) (i : Nat) : Prop where
  len : kn.length = i
  sane : ∀ u ∈ kn, u.sane
  each : ∀ (j : Nat) (u : IntsV) (s : Sp) (q : List Int), kn[j]? = some u → (spansH g).2[j]? = some s → (check g).2[j]? = some q → within s u.xs ∧ (u.xs.length : Int) = entries q
theorem known_argH {g : GraphV} {kn : List IntsV} {i : Nat} (hsp : (spansH g).1 = 0) (hkn : KnownH g kn i) (hi : i ≤ g.l.length) (k : Nat) : within (((spansH g).2.take i).getD k (0, 0)) (kn.getD k nilI).xs ∧ (∀ x ∈ (kn.getD k nilI).xs, bd20 x) ∧ (k < i → ((kn.getD k nilI).xs.length : Int) = entries (((check g).2.take i).getD k [])) := by
  obtain ⟨hck, hsl, hsi⟩ := spansH_in hsp
  obtain ⟨hl1, hl24, hout, hcl, hin⟩ := check_in hck
  have hkl := hkn.len
  rcases Nat.lt_or_ge k i with hk | hk
  · have hkg : k < g.l.length := by omega
    obtain ⟨p, hp, _, hp1, hp2⟩ := hsi k g.l[k] (List.getElem?_eq_getElem hkg)
    obtain ⟨s, hs, _⟩ := hin k g.l[k] (List.getElem?_eq_getElem hkg)
    have hk' : k < kn.length := by omega
    obtain ⟨h1, h2⟩ := hkn.each k kn[k] p s (List.getElem?_eq_getElem hk') hp hs
    have e1 : kn.getD k nilI = kn[k] := by rw [List.getD_eq_getElem?_getD, List.getElem?_eq_getElem hk']; rfl
    have e2 : ((spansH g).2.take i).getD k (0, 0) = p := by rw [List.getD_eq_getElem?_getD, List.getElem?_take, if_pos hk, hp]; rfl
    have e3 : ((check g).2.take i).getD k [] = s := by rw [List.getD_eq_getElem?_getD, List.getElem?_take, if_pos hk, hs]; rfl
    rw [e1, e2, e3]
    exact ⟨h1, fun x hx => by have := h1 x hx; unfold bd20; omega, fun _ => h2⟩
  · have e1 : kn.getD k nilI = nilI := by rw [List.getD_eq_getElem?_getD, List.getElem?_eq_none (by omega)]; rfl
    rw [e1]
    exact ⟨fun x hx => by simp [nilI] at hx, fun x hx => by simp [nilI] at hx, fun h => by omega⟩
theorem num_inH {g : GraphV} {kn : List IntsV} {i : Nat} {n : NodeV} (hsp : (spansH g).1 = 0) (hkn : KnownH g kn i) (hi : i ≤ g.l.length) (hf : Formed n i) : NumIn n ((check g).2.take i) (kn.getD n.a.toNat nilI).xs (kn.getD n.b.toNat nilI).xs :=
  ⟨fun k1 k2 => (known_argH hsp hkn hi n.a.toNat).2.2 (by have := hf.a k1 k2; omega), fun k6 => (known_argH hsp hkn hi n.b.toNat).2.2 (by have := hf.b k6; omega)⟩
theorem known_snocH {g : GraphV} {kn : List IntsV} {i : Nat} {x : IntsV} {s : List Int} {p : Sp} (hkn : KnownH g kn i) (hx : x.sane) (hp : (spansH g).2[i]? = some p) (hs : (check g).2[i]? = some s) (hw : within p x.xs) (hl : (x.xs.length : Int) = entries s) : KnownH g (kn ++ [x]) (i + 1) := by
  have hkl := hkn.len
  refine ⟨by rw [List.length_append, hkl]; rfl, fun u hu => ?_, fun j u p' q hu hp' hq => ?_⟩
  · rcases List.mem_append.1 hu with h | h
    · exact hkn.sane u h
    · simp at h; subst h; exact hx
  · rcases Nat.lt_or_ge j i with hj | hj
    · rw [List.getElem?_append_left (by omega)] at hu
      exact hkn.each j u p' q hu hp' hq
    · rw [List.getElem?_append_right (by omega)] at hu
      have h0 : j - kn.length = 0 := by
        rcases Nat.eq_zero_or_pos (j - kn.length) with h | h
        · exact h
        · rw [List.getElem?_eq_none (by simp; omega)] at hu; cases hu
      rw [h0] at hu
      simp only [List.getElem?_cons_zero, Option.some.injEq] at hu
      subst hu
      obtain rfl : j = i := by omega
      rw [hp] at hp'
      rw [hs] at hq
      simp only [Option.some.injEq] at hp' hq
      subst hp' hq
      exact ⟨hw, hl⟩
set_option maxRecDepth 20000 in
set_option maxHeartbeats 2000000 in
theorem run_all (w : World) (g : GraphV) (hg : g.ok w) (iv : ShapesV) (hiv : InV.ok w iv) : Calls Try.prog 18 #[g.val, iv.val] w (RunPost w (runH g (iv.l.map IntsV.xs))) := by
  have hivf := hiv.few
  refine calls_of tab tabOk Try.func18 rfl rfl rfl [] (fun _ => ⟨none, 0⟩) [.agg [.c (.slice g.base g.l.length g.cap), .c (.int .i64 g.out)], .c iv.val] [] (baseA w) 0 rfl rfl (by show 2 ≤ _; decide) (abs_base w) ?_
  (repeat' ((conv => whnf) <;> first | (show drawK _ 11 _ _ _ _ _ _; (refine draw_tree tabOk mixed [15] _ (.take 0 (.take 1 (.take 2 (.take 3 (.take 4 (.take 5 (.take 6 (.take 7 (.take 8 (.take 9 (.take 10 (.take 11 (.take 12 (.one 13 (.take 14 (.one 15 (.done))))))))))))))))) (by kernel_rfl) (by kernel_rfl) (by kernel_rfl) (List.Sublist.refl _) ?_)) | (show drawK _ 12 _ _ _ _ _ _; (refine draw_quiet tabOk mixed (by kernel_rfl) ?_)) | (show drawK _ 14 _ _ _ _ _ _; (refine draw_tree tabOk mixed [9] _ (.take 0 (.take 1 (.take 2 (.take 3 (.take 4 (.alt 5 (.take 8 (.alt 6 (.alt 7 (.one 9 (.one 10 (.done))) (.one 9 (.one 7 (.one 10 (.done))))) (.one 9 (.one 6 (.one 7 (.one 10 (.done))))))) (.one 6 (.alt 5 (.take 8 (.alt 7 (.one 9 (.one 10 (.done))) (.one 9 (.one 7 (.one 10 (.done)))))) (.one 7 (.one 5 (.take 8 (.one 9 (.one 10 (.done)))))))))))))) (by kernel_rfl) (by kernel_rfl) (by kernel_rfl) (List.Sublist.refl _) ?_)) | (show Wp _ _ _ _ _ _ _; (refine Wp.go tabOk rfl ?_)) | (show @cmpK _ _ _; (first | refine cmp_yes (by omega) ?_ | refine cmp_no (by omega) ?_ | (refine cmp_both ?_ ?_ <;> intro _))) | (show wrapK _ _ _; (refine wrap_i64 (by omega) (by omega) ?_)) | (show leK _ _ _; (refine le_of (by first | exact Nat.le_refl _ | omega) ?_)) | (show roomK _ _ _; (refine room_of (by first | omega | (dsimp only; omega)) ?_)) | (show ltK _ _ _; (refine lt_of (by omega) ?_)) | (show _ ∧ _; (refine ⟨?_, ?_⟩)) | (show keepK _ _ _ _ _; (refine keep_of (by first | exact List.Sublist.refl _ | exact List.Sublist.cons _ (List.Sublist.refl _) | exact List.Sublist.cons _ (List.Sublist.cons _ (List.Sublist.refl _)) | exact List.Sublist.cons _ (List.Sublist.cons _ (List.Sublist.cons _ (List.Sublist.refl _)))) (by first | exact (fun _ _ h => h) | exact (fun _ _ h => h.1) | exact (fun _ _ h => h.1.1)) ?_)) | (show ownK _ _ _ _ _; (refine own_keep ?_))))
  refine call_spans (f := 25) (spansH g) Try.call25 (fun ρ w' hw => spans_all w' g (holds_of_abs hw fun R h => hg.later h)) (fun hne => ?_) (fun hsp base cap => ?_)
  · have hq : runH g (iv.l.map IntsV.xs) = ((spansH g).1, []) := if_pos hne
    rw [hq]
    (repeat' ((conv => whnf) <;> first | (show @cmpK _ _ _; (refine cmp_yes hne ?_)) | (show drawK _ 11 _ _ _ _ _ _; (refine draw_tree tabOk mixed [15] _ (.take 0 (.take 1 (.take 2 (.take 3 (.take 4 (.take 5 (.take 6 (.take 7 (.take 8 (.take 9 (.take 10 (.take 11 (.take 12 (.one 13 (.take 14 (.one 15 (.done))))))))))))))))) (by kernel_rfl) (by kernel_rfl) (by kernel_rfl) (List.Sublist.refl _) ?_)) | (show drawK _ 12 _ _ _ _ _ _; (refine draw_quiet tabOk mixed (by kernel_rfl) ?_)) | (show drawK _ 14 _ _ _ _ _ _; (refine draw_tree tabOk mixed [9] _ (.take 0 (.take 1 (.take 2 (.take 3 (.take 4 (.alt 5 (.take 8 (.alt 6 (.alt 7 (.one 9 (.one 10 (.done))) (.one 9 (.one 7 (.one 10 (.done))))) (.one 9 (.one 6 (.one 7 (.one 10 (.done))))))) (.one 6 (.alt 5 (.take 8 (.alt 7 (.one 9 (.one 10 (.done))) (.one 9 (.one 7 (.one 10 (.done)))))) (.one 7 (.one 5 (.take 8 (.one 9 (.one 10 (.done)))))))))))))) (by kernel_rfl) (by kernel_rfl) (by kernel_rfl) (List.Sublist.refl _) ?_)) | (show Wp _ _ _ _ _ _ _; (refine Wp.go tabOk rfl ?_)) | (show @cmpK _ _ _; (first | refine cmp_yes (by omega) ?_ | refine cmp_no (by omega) ?_ | (refine cmp_both ?_ ?_ <;> intro _))) | (show wrapK _ _ _; (refine wrap_i64 (by omega) (by omega) ?_)) | (show leK _ _ _; (refine le_of (by first | exact Nat.le_refl _ | omega) ?_)) | (show roomK _ _ _; (refine room_of (by first | omega | (dsimp only; omega)) ?_)) | (show ltK _ _ _; (refine lt_of (by omega) ?_)) | (show _ ∧ _; (refine ⟨?_, ?_⟩)) | (show keepK _ _ _ _ _; (refine keep_of (by first | exact List.Sublist.refl _ | exact List.Sublist.cons _ (List.Sublist.refl _) | exact List.Sublist.cons _ (List.Sublist.cons _ (List.Sublist.refl _)) | exact List.Sublist.cons _ (List.Sublist.cons _ (List.Sublist.cons _ (List.Sublist.refl _)))) (by first | exact (fun _ _ h => h) | exact (fun _ _ h => h.1) | exact (fun _ _ h => h.1.1)) ?_)) | (show ownK _ _ _ _ _; (refine own_keep ?_))))
    conv => whnf
    exact run_bad (fun _ _ h => h) rfl hne (fun _ => rfl)
  have hq : runH g (iv.l.map IntsV.xs) = if (valsH g (iv.l.map IntsV.xs)).1 ≠ 0 then ((valsH g (iv.l.map IntsV.xs)).1, []) else (0, (valsH g (iv.l.map IntsV.xs)).2.getD g.out.toNat []) := if_neg (fun h => h hsp)
  rw [hq]
  obtain ⟨hck, hsl, hsi⟩ := spansH_in hsp
  obtain ⟨hl1, hl24, hout, hcl, hin⟩ := check_in hck
  (repeat' ((conv => whnf) <;> first | (show drawK _ 11 _ _ _ _ _ _; (refine draw_tree tabOk mixed [15] _ (.take 0 (.take 1 (.take 2 (.take 3 (.take 4 (.take 5 (.take 6 (.take 7 (.take 8 (.take 9 (.take 10 (.take 11 (.take 12 (.one 13 (.take 14 (.one 15 (.done))))))))))))))))) (by kernel_rfl) (by kernel_rfl) (by kernel_rfl) (List.Sublist.refl _) ?_)) | (show drawK _ 12 _ _ _ _ _ _; (refine draw_quiet tabOk mixed (by kernel_rfl) ?_)) | (show drawK _ 14 _ _ _ _ _ _; (refine draw_tree tabOk mixed [9] _ (.take 0 (.take 1 (.take 2 (.take 3 (.take 4 (.alt 5 (.take 8 (.alt 6 (.alt 7 (.one 9 (.one 10 (.done))) (.one 9 (.one 7 (.one 10 (.done))))) (.one 9 (.one 6 (.one 7 (.one 10 (.done))))))) (.one 6 (.alt 5 (.take 8 (.alt 7 (.one 9 (.one 10 (.done))) (.one 9 (.one 7 (.one 10 (.done)))))) (.one 7 (.one 5 (.take 8 (.one 9 (.one 10 (.done)))))))))))))) (by kernel_rfl) (by kernel_rfl) (by kernel_rfl) (List.Sublist.refl _) ?_)) | (show Wp _ _ _ _ _ _ _; (refine Wp.go tabOk rfl ?_)) | (show @cmpK _ _ _; (first | refine cmp_yes (by omega) ?_ | refine cmp_no (by omega) ?_ | (refine cmp_both ?_ ?_ <;> intro _))) | (show wrapK _ _ _; (refine wrap_i64 (by omega) (by omega) ?_)) | (show leK _ _ _; (refine le_of (by first | exact Nat.le_refl _ | omega) ?_)) | (show roomK _ _ _; (refine room_of (by first | omega | (dsimp only; omega)) ?_)) | (show ltK _ _ _; (refine lt_of (by omega) ?_)) | (show _ ∧ _; (refine ⟨?_, ?_⟩)) | (show keepK _ _ _ _ _; (refine keep_of (by first | exact List.Sublist.refl _ | exact List.Sublist.cons _ (List.Sublist.refl _) | exact List.Sublist.cons _ (List.Sublist.cons _ (List.Sublist.refl _)) | exact List.Sublist.cons _ (List.Sublist.cons _ (List.Sublist.cons _ (List.Sublist.refl _)))) (by first | exact (fun _ _ h => h) | exact (fun _ _ h => h.1) | exact (fun _ _ h => h.1.1)) ?_)) | (show ownK _ _ _ _ _; (refine own_keep ?_))))
  refine call_check (f := 43) (check g) Try.call43 (fun ρ w' hw => check_any w' g (holds_of_abs hw fun R h => hg.later h.1)) (fun hne => absurd hck hne) (fun _ sv hm hsv => ?_)
  have hsvl : sv.l.length = g.l.length := by rw [← hcl, ← hm]; simp
  (repeat' ((conv => whnf) <;> first | (show makeK _ _ _ _; (refine make_of g.l.length rfl rfl (by show 24 * _ ≤ _; omega) (by omega) ?_)) | (show drawK _ 11 _ _ _ _ _ _; (refine draw_tree tabOk mixed [15] _ (.take 0 (.take 1 (.take 2 (.take 3 (.take 4 (.take 5 (.take 6 (.take 7 (.take 8 (.take 9 (.take 10 (.take 11 (.take 12 (.one 13 (.take 14 (.one 15 (.done))))))))))))))))) (by kernel_rfl) (by kernel_rfl) (by kernel_rfl) (List.Sublist.refl _) ?_)) | (show drawK _ 12 _ _ _ _ _ _; (refine draw_quiet tabOk mixed (by kernel_rfl) ?_)) | (show drawK _ 14 _ _ _ _ _ _; (refine draw_tree tabOk mixed [9] _ (.take 0 (.take 1 (.take 2 (.take 3 (.take 4 (.alt 5 (.take 8 (.alt 6 (.alt 7 (.one 9 (.one 10 (.done))) (.one 9 (.one 7 (.one 10 (.done))))) (.one 9 (.one 6 (.one 7 (.one 10 (.done))))))) (.one 6 (.alt 5 (.take 8 (.alt 7 (.one 9 (.one 10 (.done))) (.one 9 (.one 7 (.one 10 (.done)))))) (.one 7 (.one 5 (.take 8 (.one 9 (.one 10 (.done)))))))))))))) (by kernel_rfl) (by kernel_rfl) (by kernel_rfl) (List.Sublist.refl _) ?_)) | (show Wp _ _ _ _ _ _ _; (refine Wp.go tabOk rfl ?_)) | (show @cmpK _ _ _; (first | refine cmp_yes (by omega) ?_ | refine cmp_no (by omega) ?_ | (refine cmp_both ?_ ?_ <;> intro _))) | (show wrapK _ _ _; (refine wrap_i64 (by omega) (by omega) ?_)) | (show leK _ _ _; (refine le_of (by first | exact Nat.le_refl _ | omega) ?_)) | (show roomK _ _ _; (refine room_of (by first | omega | (dsimp only; omega)) ?_)) | (show ltK _ _ _; (refine lt_of (by omega) ?_)) | (show _ ∧ _; (refine ⟨?_, ?_⟩)) | (show keepK _ _ _ _ _; (refine keep_of (by first | exact List.Sublist.refl _ | exact List.Sublist.cons _ (List.Sublist.refl _) | exact List.Sublist.cons _ (List.Sublist.cons _ (List.Sublist.refl _)) | exact List.Sublist.cons _ (List.Sublist.cons _ (List.Sublist.cons _ (List.Sublist.refl _)))) (by first | exact (fun _ _ h => h) | exact (fun _ _ h => h.1) | exact (fun _ _ h => h.1.1)) ?_)) | (show ownK _ _ _ _ _; (refine own_keep ?_))))
  refine Wp.loop (σ := Nat × List IntsV × ShapesV) 2 (fun ⟨i, _, cur⟩ => [(2, .lp 0 0 0 0), (1, .c cur.val), (8, .c sv.val), (10, .os 1 g.l.length), (32, .c (.slice g.base g.l.length g.cap)), (33, .c (.int .i64 g.l.length)), (34, .c (.int .i64 i))]) (fun ⟨_, kn, _⟩ => [(1, .rows (shRows (gridK g.l.length kn)) 1 33), (0, .box [.c (.slice g.base g.l.length g.cap), .c (.int .i64 g.out)] 26)]) (fun ⟨_, kn, _⟩ => ((baseA w).and ((shapesD sv).past w.heap.size)).and (eachA w.heap.size kn))
    (fun ⟨i, kn, cur⟩ => i ≤ g.l.length ∧ KnownH g kn i ∧ InV.ok w cur ∧ valsQ (check g).2 (g.l.drop i) (kn.map IntsV.xs) (cur.l.map IntsV.xs) = valsH g (iv.l.map IntsV.xs)) (fun s => g.l.length - s.1) (0, [], iv) [] (by decide) (fun s => ⟨rfl, rfl⟩) ⟨Nat.zero_le _, ⟨rfl, fun u hu => by simp at hu, fun j u s q hu => by simp at hu⟩, hiv, rfl⟩ ⟨rfl, ⟨rfl, rfl, rfl, rfl, rfl, rfl, rfl, trivial⟩, ⟨?_, (by repeat (first | exact List.mem_cons_self | apply List.mem_cons_of_mem)), trivial⟩, fun R w h => ⟨⟨h.1.1, h.2⟩, eachA_nil _ R w⟩⟩ ?_
  · have : shRows (gridK g.l.length []) = List.replicate g.l.length [Value.slice none 0 0] := by simp [shRows, gridK]; exact .inr rfl
    show (1, Ent.rows (shRows (gridK g.l.length [])) 1 33) ∈ _
    rw [this]
    exact (by repeat (first | exact List.mem_cons_self | apply List.mem_cons_of_mem))
  rintro ⟨i, kn, cur⟩ ⟨hi, hkn, hcur, hv⟩
  have hkl := hkn.len
  have hcf := hcur.few
  by_cases hlt : i < g.l.length
  · obtain ⟨a, ha⟩ : ∃ a, g.base = some a := base_some (j := i) hg.rows (by rw [nodeRows_length]; omega)
    have hnm := List.getElem_mem hlt
    obtain ⟨s, hs, hni⟩ := hin i g.l[i] (List.getElem?_eq_getElem hlt)
    obtain ⟨p, hp, hpe, hp1, hp2⟩ := hsi i g.l[i] (List.getElem?_eq_getElem hlt)
    have hdrop : g.l.drop i = g.l[i] :: g.l.drop (i + 1) := List.drop_eq_getElem_cons hlt
    rw [hdrop] at hv
    have hrow := nodeRows_get hlt
    have hpi := place_in hck (List.getElem?_eq_getElem hlt)
    generalize g.l[i] = n at *
    have hn := hg.each n hnm
    obtain ⟨⟨ha0, hal2, hai⟩, ⟨hb0, hbl2, hbi⟩, cnt, hcnt0, hpl⟩ := hpi
    have e1 : (check g).2.getD i [] = s := by rw [List.getD_eq_getElem?_getD, hs]; rfl
    rw [e1] at hcnt0 hpl
    have hti : ((check g).2.take i).length = i := by rw [List.length_take, hcl]; omega
    have hform := hni.form
    rw [hti] at hform
    have hkml : (kn.map IntsV.xs).length = i := by rw [List.length_map, hkl]
    obtain ⟨t, ht, hts⟩ : ∃ t, sv.l[n.a.toNat]? = some t ∧ t.xs = (check g).2.getD n.a.toNat [] := by
      have hlt2 : n.a.toNat < sv.l.length := by omega
      refine ⟨sv.l[n.a.toNat], List.getElem?_eq_getElem hlt2, ?_⟩
      rw [← hm, List.getD_eq_getElem?_getD, List.getElem?_map, List.getElem?_eq_getElem hlt2]; rfl
    have htm : t ∈ sv.l := List.mem_of_getElem? ht
    rw [← hts] at hpl
    obtain ⟨u, hu, hus⟩ : ∃ u, sv.l[i]? = some u ∧ u.xs = s := by
      have hs' := hs
      rw [← hm, List.getElem?_map] at hs'
      cases hu : sv.l[i]? with
      | none => rw [hu] at hs'; simp at hs'
      | some u => rw [hu] at hs'; exact ⟨u, rfl, by simpa using hs'⟩
    have hcnt : entries u.xs = cnt := by rw [hus]; exact hcnt0
    have hcb := (entries_bd u.xs).2
    have hat : ∀ w', sv.ok w' → Calls Try.prog 44 #[n.valA, sv.val, .int .i64 i] w' (fun e w'' => e = .returned (placeV n (inA n t) (fnA n t cnt) cnt) ∧ Ext w' w'') := fun w' h => at_all w' n sv h i u t cnt hu ht ha0 hcnt
    have hnm : n.kind ≠ 1 → ∀ w', n.ok w' → t.ok w' → ∀ a b : IntsV, a.ok w' → b.ok w' → (∀ x ∈ a.xs, bd20 x) → (∀ x ∈ b.xs, bd20 x) → NumIn n ((check g).2.take i) a.xs b.xs → Calls Try.prog 45 #[placeV n (inA n t) (fnA n t cnt) cnt, a.val, b.val] w' (NewInts w' (numsA n cnt t.xs a.xs b.xs)) := fun hk1 w' h1 h2 a b h3 h4 h5 h6 h7 => nums_all w' n _ s t cnt hpl hk1 h1 h2 a b h3 h4 h5 h6 h7
    obtain ⟨ib, il, ic, hinv⟩ := inA_slice n t
    have hfn := fnA_func n t cnt
    rw [hinv] at hat hnm
    by_cases hk1 : n.kind = 1
    · have hf0 : fnA n t cnt = .nilFunc := if_neg (by unfold isLin; omega)
      rw [hf0] at hat
      obtain ⟨cb, cc, cl⟩ := cur
      cases cl with
      | nil =>
        have hv1 : valsQ (check g).2 (n :: g.l.drop (i + 1)) (kn.map IntsV.xs) [] = (12, []) := by
          conv => lhs; unfold valsQ
          rw [if_neg (fun h => h hk1)]
        have hv2 : valsH g (iv.l.map IntsV.xs) = (12, []) := by rw [← hv]; exact hv1
        (repeat' ((conv => whnf) <;> first | (show @cmpK _ _ _; (refine cmp_yes rfl ?_)) | (show idxK _ _ _ _ _; (refine idx_of a i ha rfl hlt ?_)) | (show roAggK _ _ _ _; (refine roAgg_row (fun R w' h => by rw [← ha]; exact rows_base h.1.1 hg.rows) _ hrow rfl ?_)) | (show callK _ 44 _ _ _ _ _; (refine call_pure (f := 44) Try.call44 _ (fun ρ w' hw => hat w' (holds_of_abs hw fun R h => shapes_okI hsv (by omega) h.1.2)) ?_)) | (show drawK _ 11 _ _ _ _ _ _; (refine draw_tree tabOk mixed [15] _ (.take 0 (.take 1 (.take 2 (.take 3 (.take 4 (.take 5 (.take 6 (.take 7 (.take 8 (.take 9 (.take 10 (.take 11 (.take 12 (.one 13 (.take 14 (.one 15 (.done))))))))))))))))) (by kernel_rfl) (by kernel_rfl) (by kernel_rfl) (List.Sublist.refl _) ?_)) | (show drawK _ 12 _ _ _ _ _ _; (refine draw_quiet tabOk mixed (by kernel_rfl) ?_)) | (show drawK _ 14 _ _ _ _ _ _; (refine draw_tree tabOk mixed [9] _ (.take 0 (.take 1 (.take 2 (.take 3 (.take 4 (.alt 5 (.take 8 (.alt 6 (.alt 7 (.one 9 (.one 10 (.done))) (.one 9 (.one 7 (.one 10 (.done))))) (.one 9 (.one 6 (.one 7 (.one 10 (.done))))))) (.one 6 (.alt 5 (.take 8 (.alt 7 (.one 9 (.one 10 (.done))) (.one 9 (.one 7 (.one 10 (.done)))))) (.one 7 (.one 5 (.take 8 (.one 9 (.one 10 (.done)))))))))))))) (by kernel_rfl) (by kernel_rfl) (by kernel_rfl) (List.Sublist.refl _) ?_)) | (show Wp _ _ _ _ _ _ _; (refine Wp.go tabOk rfl ?_)) | (show @cmpK _ _ _; (first | refine cmp_yes (by omega) ?_ | refine cmp_no (by omega) ?_ | (refine cmp_both ?_ ?_ <;> intro _))) | (show wrapK _ _ _; (refine wrap_i64 (by omega) (by omega) ?_)) | (show leK _ _ _; (refine le_of (by first | exact Nat.le_refl _ | omega) ?_)) | (show roomK _ _ _; (refine room_of (by first | omega | (dsimp only; omega)) ?_)) | (show ltK _ _ _; (refine lt_of (by omega) ?_)) | (show _ ∧ _; (refine ⟨?_, ?_⟩)) | (show keepK _ _ _ _ _; (refine keep_of (by first | exact List.Sublist.refl _ | exact List.Sublist.cons _ (List.Sublist.refl _) | exact List.Sublist.cons _ (List.Sublist.cons _ (List.Sublist.refl _)) | exact List.Sublist.cons _ (List.Sublist.cons _ (List.Sublist.cons _ (List.Sublist.refl _)))) (by first | exact (fun _ _ h => h) | exact (fun _ _ h => h.1) | exact (fun _ _ h => h.1.1)) ?_)) | (show ownK _ _ _ _ _; (refine own_keep ?_))))
        all_goals (conv => whnf)
        all_goals exact run_bad12 (fun _ _ h => h.1.1) rfl hv2 (fun _ => rfl)
      | cons x xs =>
        obtain ⟨ca, hca⟩ : ∃ a, cb = some a := base_some (j := 0) hcur.rows (by show 0 < (shRows (x :: xs)).length; rw [shRows_length]; exact Nat.succ_pos _)
        subst hca
        have hxok : x.ok w := hcur.each x List.mem_cons_self
        have hcs : entries s = cnt := by rw [← hus]; exact hcnt
        have hroom := hcur.room
        have hxl : xs.length + 1 ≤ cc := hroom
        have hne0 : ¬ ((({ base := some ca, cap := cc, l := x :: xs } : ShapesV).l.length : Nat) : Int) = 0 := by show ¬ ((xs.length + 1 : Nat) : Int) = 0; omega
        have hpos : 1 ≤ cnt := by
          have hso := hni.shape
          unfold shapeO at hso
          rw [if_pos (.inl hk1), Option.some.injEq] at hso
          have := (formed_of hform).own (.inl hk1)
          rw [hso] at this
          omega
        by_cases hbad : (x.xs.length : Int) ≠ entries s ∨ foldI min x.xs < n.lo ∨ n.hi < foldI max x.xs
        · have hv1 : valsQ (check g).2 (n :: g.l.drop (i + 1)) (kn.map IntsV.xs) (x.xs :: xs.map IntsV.xs) = (12, []) := by
            conv => lhs; unfold valsQ
            rw [if_neg (fun h => h hk1)]
            simp only
            rw [hkml, e1, if_pos hbad]
          have hv2 : valsH g (iv.l.map IntsV.xs) = (12, []) := by rw [← hv]; exact hv1
          rw [hcs] at hbad
          (repeat' ((conv => whnf) <;> first | (show @cmpK _ _ _; (refine cmp_no hne0 ?_)) | (show idxK _ _ _ _ _; (first | refine idx_of a i ha rfl hlt ?_ | refine idx_of ca 0 rfl rfl (by omega) ?_)) | (show roAggK _ _ _ _; (refine roAgg_row (fun R w' h => by rw [← ha]; exact rows_base h.1.1 hg.rows) _ hrow rfl ?_)) | (show roK _ _ _; (refine ro_row0 (fun R w' h => rows_base h.1.1 hcur.rows) _ _ (j := 0) rfl rfl ?_)) | (show idxRowK _ _ _ _ _ _; (refine idxRow_of i rfl hlt (by rw [shRows_length, gridK_length (by omega)]; exact Nat.le_refl _) ?_)) | (show callK _ 44 _ _ _ _ _; (refine call_pure (f := 44) Try.call44 _ (fun ρ w' hw => hat w' (holds_of_abs hw fun R h => shapes_okI hsv (by omega) h.1.2)) ?_)) | (show callQ _ 46 _ _ _ _ _; (refine callQ_of (f := 46) Try.call46 (.int .i64 (foldI min x.xs)) (fun ρ w' hw => min_any w' x (holds_of_abs hw fun R h => hxok.later h.1.1) (by omega)) ?_)) | (show callQ _ 47 _ _ _ _ _; (refine callQ_of (f := 47) Try.call47 (.int .i64 (foldI max x.xs)) (fun ρ w' hw => max_any w' x (holds_of_abs hw fun R h => hxok.later h.1.1) (by omega)) ?_)) | (show drawK _ 11 _ _ _ _ _ _; (refine draw_tree tabOk mixed [15] _ (.take 0 (.take 1 (.take 2 (.take 3 (.take 4 (.take 5 (.take 6 (.take 7 (.take 8 (.take 9 (.take 10 (.take 11 (.take 12 (.one 13 (.take 14 (.one 15 (.done))))))))))))))))) (by kernel_rfl) (by kernel_rfl) (by kernel_rfl) (List.Sublist.refl _) ?_)) | (show drawK _ 12 _ _ _ _ _ _; (refine draw_quiet tabOk mixed (by kernel_rfl) ?_)) | (show drawK _ 14 _ _ _ _ _ _; (refine draw_tree tabOk mixed [9] _ (.take 0 (.take 1 (.take 2 (.take 3 (.take 4 (.alt 5 (.take 8 (.alt 6 (.alt 7 (.one 9 (.one 10 (.done))) (.one 9 (.one 7 (.one 10 (.done))))) (.one 9 (.one 6 (.one 7 (.one 10 (.done))))))) (.one 6 (.alt 5 (.take 8 (.alt 7 (.one 9 (.one 10 (.done))) (.one 9 (.one 7 (.one 10 (.done)))))) (.one 7 (.one 5 (.take 8 (.one 9 (.one 10 (.done)))))))))))))) (by kernel_rfl) (by kernel_rfl) (by kernel_rfl) (List.Sublist.refl _) ?_)) | (show Wp _ _ _ _ _ _ _; (refine Wp.go tabOk rfl ?_)) | (show @cmpK _ _ _; (first | refine cmp_yes (by omega) ?_ | refine cmp_no (by omega) ?_ | (refine cmp_both ?_ ?_ <;> intro _))) | (show wrapK _ _ _; (refine wrap_i64 (by omega) (by omega) ?_)) | (show leK _ _ _; (refine le_of (by first | exact Nat.le_refl _ | omega) ?_)) | (show roomK _ _ _; (refine room_of (by first | omega | (dsimp only; omega)) ?_)) | (show ltK _ _ _; (refine lt_of (by omega) ?_)) | (show _ ∧ _; (refine ⟨?_, ?_⟩)) | (show keepK _ _ _ _ _; (refine keep_of (by first | exact List.Sublist.refl _ | exact List.Sublist.cons _ (List.Sublist.refl _) | exact List.Sublist.cons _ (List.Sublist.cons _ (List.Sublist.refl _)) | exact List.Sublist.cons _ (List.Sublist.cons _ (List.Sublist.cons _ (List.Sublist.refl _)))) (by first | exact (fun _ _ h => h) | exact (fun _ _ h => h.1) | exact (fun _ _ h => h.1.1)) ?_)) | (show ownK _ _ _ _ _; (refine own_keep ?_))))
          all_goals (conv => whnf)
          all_goals first | (exfalso; omega) | exact run_bad12 (fun _ _ h => h.1.1) rfl hv2 (fun _ => rfl)
        · have hv1 : valsQ (check g).2 (n :: g.l.drop (i + 1)) (kn.map IntsV.xs) (x.xs :: xs.map IntsV.xs) = valsQ (check g).2 (g.l.drop (i + 1)) (kn.map IntsV.xs ++ [x.xs]) (xs.map IntsV.xs) := by
            conv => lhs; unfold valsQ
            rw [if_neg (fun h => h hk1)]
            simp only
            rw [hkml, e1, if_neg hbad]
          have hv2 := hv1.symm.trans hv
          rw [hcs] at hbad
          have hwi : within p x.xs := by
            rw [hpe]
            have hL : endsAt (check g).2 n ((spansH g).2.take i) = [n.lo, n.hi] := by
              unfold endsAt endsA
              rw [if_neg (by unfold isLin; omega)]
              exact if_pos hk1
            unfold spanAt spanE
            rw [hL]
            intro z hz
            have m1 : foldI min [n.lo, n.hi] = min n.lo n.hi := rfl
            have m2 : foldI max [n.lo, n.hi] = max n.lo n.hi := rfl
            have := foldI_min_le hz
            have := foldI_max_ge hz
            simp only [m1, m2]
            omega
          (repeat' ((conv => whnf) <;> first | (show @cmpK _ _ _; (refine cmp_no hne0 ?_)) | (show idxK _ _ _ _ _; (first | refine idx_of a i ha rfl hlt ?_ | refine idx_of ca 0 rfl rfl (by omega) ?_)) | (show roAggK _ _ _ _; (refine roAgg_row (fun R w' h => by rw [← ha]; exact rows_base h.1.1 hg.rows) _ hrow rfl ?_)) | (show roK _ _ _; (refine ro_row0 (fun R w' h => rows_base h.1.1 hcur.rows) _ _ (j := 0) rfl rfl ?_)) | (show idxRowK _ _ _ _ _ _; (refine idxRow_of i rfl hlt (by rw [shRows_length, gridK_length (by omega)]; exact Nat.le_refl _) ?_)) | (show callK _ 44 _ _ _ _ _; (refine call_pure (f := 44) Try.call44 _ (fun ρ w' hw => hat w' (holds_of_abs hw fun R h => shapes_okI hsv (by omega) h.1.2)) ?_)) | (show callQ _ 46 _ _ _ _ _; (refine callQ_of (f := 46) Try.call46 (.int .i64 (foldI min x.xs)) (fun ρ w' hw => min_any w' x (holds_of_abs hw fun R h => hxok.later h.1.1) (by omega)) ?_)) | (show callQ _ 47 _ _ _ _ _; (refine callQ_of (f := 47) Try.call47 (.int .i64 (foldI max x.xs)) (fun ρ w' hw => max_any w' x (holds_of_abs hw fun R h => hxok.later h.1.1) (by omega)) ?_)) | (show drawK _ 14 _ _ _ _ _ _; (refine draw_tree tabOk mixed [] [] (.take 0 (.take 1 (.take 2 (.take 6 (.alt 3 (.alt 4 (.alt 5 (.alt 7 (.one 8 (.one 9 (.take 10 (.done)))) (.one 8 (.alt 7 (.one 9 (.take 10 (.done))) (.one 9 (.one 7 (.take 10 (.done))))))) (.one 7 (.one 5 (.one 8 (.one 9 (.take 10 (.done))))))) (.one 7 (.one 4 (.one 5 (.one 8 (.one 9 (.take 10 (.done)))))))) (.one 7 (.one 3 (.one 4 (.one 5 (.one 8 (.one 9 (.take 10 (.done))))))))))))) (by kernel_rfl) (by kernel_rfl) (by kernel_rfl) (List.nil_sublist _) ?_)) | (show keepK _ _ _ _ _; (refine keep_of (by repeat (first | exact List.Sublist.refl _ | exact List.nil_sublist _ | apply List.Sublist.cons_cons | apply List.Sublist.cons)) (by first | exact (fun _ _ h => h) | exact (fun _ _ h => h.1) | exact (fun _ _ h => h.1.1)) ?_)) | (show callK _ 48 _ _ _ _ _; (refine call_clone x.xs Try.call48 hxok.fits hxok.few (fun ρ w' hw => clone_any w' x (holds_of_abs hw fun R h => hxok.later h.1.1) (by omega)) (fun y hy hys => ?_))) | (show sliceK _ _ _ _ _ _ _ _; (refine slice_oneI (by omega) (by omega) ?_)) | (show rowStoreK _ _ _ _ _; (refine gridK_store hkl hlt ?_)) | (show drawK _ 11 _ _ _ _ _ _; (refine draw_tree tabOk mixed [15] _ (.take 0 (.take 1 (.take 2 (.take 3 (.take 4 (.take 5 (.take 6 (.take 7 (.take 8 (.take 9 (.take 10 (.take 11 (.take 12 (.one 13 (.take 14 (.one 15 (.done))))))))))))))))) (by kernel_rfl) (by kernel_rfl) (by kernel_rfl) (List.Sublist.refl _) ?_)) | (show drawK _ 12 _ _ _ _ _ _; (refine draw_quiet tabOk mixed (by kernel_rfl) ?_)) | (show Wp _ _ _ _ _ _ _; (refine Wp.go tabOk rfl ?_)) | (show @cmpK _ _ _; (first | refine cmp_yes (by omega) ?_ | refine cmp_no (by omega) ?_ | (refine cmp_both ?_ ?_ <;> intro _))) | (show wrapK _ _ _; (refine wrap_i64 (by omega) (by omega) ?_)) | (show leK _ _ _; (refine le_of (by first | exact Nat.le_refl _ | omega) ?_)) | (show roomK _ _ _; (refine room_of (by first | omega | (dsimp only; omega)) ?_)) | (show ltK _ _ _; (refine lt_of (by omega) ?_)) | (show _ ∧ _; (refine ⟨?_, ?_⟩)) | (show keepK _ _ _ _ _; (refine keep_of (by first | exact List.Sublist.refl _ | exact List.Sublist.cons _ (List.Sublist.refl _) | exact List.Sublist.cons _ (List.Sublist.cons _ (List.Sublist.refl _)) | exact List.Sublist.cons _ (List.Sublist.cons _ (List.Sublist.cons _ (List.Sublist.refl _)))) (by first | exact (fun _ _ h => h) | exact (fun _ _ h => h.1) | exact (fun _ _ h => h.1.1)) ?_)) | (show ownK _ _ _ _ _; (refine own_keep ?_))))
          all_goals (conv => whnf)
          all_goals exact ⟨(i + 1, kn ++ [y], ⟨some (if cc = 1 then ca else ca.add 1), cc - 1, xs⟩), [], ⟨hlt, known_snocH hkn hys hp hs (by rw [hy]; exact hwi) (by rw [hy, hcs]; omega), InV.rest_ok hcur rfl, by rw [List.map_append, List.map_cons, List.map_nil, hy]; exact hv2⟩, by simp only; omega, rfl, ⟨rfl, rfl, rfl, rfl, rfl, rfl, rfl, trivial⟩, ⟨(by repeat (first | exact List.mem_cons_self | apply List.mem_cons_of_mem)), (by repeat (first | exact List.mem_cons_self | apply List.mem_cons_of_mem)), trivial⟩, fun R w' h => ⟨h.1.1, eachA_snoc h.1.2 h.2⟩⟩
    · have hv1 : valsQ (check g).2 (n :: g.l.drop (i + 1)) (kn.map IntsV.xs) (cur.l.map IntsV.xs) = valsQ (check g).2 (g.l.drop (i + 1)) (kn.map IntsV.xs ++ [numsA n cnt t.xs (kn.getD n.a.toNat nilI).xs (kn.getD n.b.toNat nilI).xs]) (cur.l.map IntsV.xs) := by
        conv => lhs; unfold valsQ
        unfold numsAt
        rw [if_pos hk1, getD_xs, getD_xs, hkml, e1, hcnt0, hts]; rfl
      rw [hv1] at hv
      have hcs : entries s = cnt := by rw [← hus]; exact hcnt
      have kA := known_argH hsp hkn (by omega) n.a.toNat
      have kB := known_argH hsp hkn (by omega) n.b.toNat
      have hnum := num_inH hsp hkn (by omega) (formed_of hform)
      have hwn := nums_in hpl hk1 hnum kA.1 kB.1
      have hEq : endsAt (check g).2 n ((spansH g).2.take i) = endsA n cnt t.xs (((spansH g).2.take i).getD n.a.toNat (0, 0)) (((spansH g).2.take i).getD n.b.toNat (0, 0)) := by
        unfold endsAt
        rw [show ((spansH g).2.take i).length = i by rw [List.length_take, hsl]; omega, e1, hcnt0, hts]; rfl
      have gA := gridK_getD (n := g.l.length) (l := kn) (j := n.a.toNat) (by omega) (by omega)
      have gB := gridK_getD (n := g.l.length) (l := kn) (j := n.b.toNat) (by omega) (by omega)
      rcases hfn with hf0 | ⟨f1, f2, f3, hf0⟩
      all_goals rw [hf0] at hat hnm
      all_goals
        (repeat' ((conv => whnf) <;> first | (show idxK _ _ _ _ _; (refine idx_of a i ha rfl hlt ?_)) | (show roAggK _ _ _ _; (refine roAgg_row (fun R w' h => by rw [← ha]; exact rows_base h.1.1 hg.rows) _ hrow rfl ?_)) | (show callK _ 44 _ _ _ _ _; (refine call_pure (f := 44) Try.call44 _ (fun ρ w' hw => hat w' (holds_of_abs hw fun R h => shapes_okI hsv (by omega) h.1.2)) ?_)) | (show idxRowK _ _ _ _ _ _; (first | refine idxRow_of n.a.toNat (by omega) (by omega) (by rw [shRows_length, gridK_length (by omega)]; exact Nat.le_refl _) ?_ | refine idxRow_of n.b.toNat (by omega) (by omega) (by rw [shRows_length, gridK_length (by omega)]; exact Nat.le_refl _) ?_ | refine idxRow_of i rfl hlt (by rw [shRows_length, gridK_length (by omega)]; exact Nat.le_refl _) ?_)) | (show rowK _ _ _ _; (first | refine row_of _ _ gA rfl ?_ | refine row_of _ _ gB rfl ?_)) | (show keepK _ _ _ _ _; (refine keep_of (by repeat (first | exact List.Sublist.refl _ | exact List.nil_sublist _ | apply List.Sublist.cons_cons | apply List.Sublist.cons)) (by first | exact (fun _ _ h => h) | exact (fun _ _ h => h.1) | exact (fun _ _ h => h.1.1)) ?_)) | (show callK _ 45 _ _ _ _ _; (refine call_past Try.call45 IntsV.val intsA (fun x => x.xs = numsA n cnt t.xs (kn.getD n.a.toNat nilI).xs (kn.getD n.b.toNat nilI).xs ∧ x.sane) (fun ρ w' hw => hnm hk1 w' (holds_of_abs hw fun R h => hn.later h.1.1) (holds_of_abs hw fun R h => (shapes_okI hsv (by omega) h.1.2).each t htm) (kn.getD n.a.toNat nilI) (kn.getD n.b.toNat nilI) (holds_of_abs hw fun R h => getD_kn hkn.sane h.2 _) (holds_of_abs hw fun R h => getD_kn hkn.sane h.2 _) kA.2.1 kB.2.1 hnum) (fun x hx => ?_))) | (show rowStoreK _ _ _ _ _; (refine gridK_store hkl hlt ?_)) | (show drawK _ 11 _ _ _ _ _ _; (refine draw_tree tabOk mixed [15] _ (.take 0 (.take 1 (.take 2 (.take 3 (.take 4 (.take 5 (.take 6 (.take 7 (.take 8 (.take 9 (.take 10 (.take 11 (.take 12 (.one 13 (.take 14 (.one 15 (.done))))))))))))))))) (by kernel_rfl) (by kernel_rfl) (by kernel_rfl) (List.Sublist.refl _) ?_)) | (show drawK _ 12 _ _ _ _ _ _; (refine draw_quiet tabOk mixed (by kernel_rfl) ?_)) | (show drawK _ 14 _ _ _ _ _ _; (refine draw_tree tabOk mixed [9] _ (.take 0 (.take 1 (.take 2 (.take 3 (.take 4 (.alt 5 (.take 8 (.alt 6 (.alt 7 (.one 9 (.one 10 (.done))) (.one 9 (.one 7 (.one 10 (.done))))) (.one 9 (.one 6 (.one 7 (.one 10 (.done))))))) (.one 6 (.alt 5 (.take 8 (.alt 7 (.one 9 (.one 10 (.done))) (.one 9 (.one 7 (.one 10 (.done)))))) (.one 7 (.one 5 (.take 8 (.one 9 (.one 10 (.done)))))))))))))) (by kernel_rfl) (by kernel_rfl) (by kernel_rfl) (List.Sublist.refl _) ?_)) | (show Wp _ _ _ _ _ _ _; (refine Wp.go tabOk rfl ?_)) | (show @cmpK _ _ _; (first | refine cmp_yes (by omega) ?_ | refine cmp_no (by omega) ?_ | (refine cmp_both ?_ ?_ <;> intro _))) | (show wrapK _ _ _; (refine wrap_i64 (by omega) (by omega) ?_)) | (show leK _ _ _; (refine le_of (by first | exact Nat.le_refl _ | omega) ?_)) | (show roomK _ _ _; (refine room_of (by first | omega | (dsimp only; omega)) ?_)) | (show ltK _ _ _; (refine lt_of (by omega) ?_)) | (show _ ∧ _; (refine ⟨?_, ?_⟩)) | (show keepK _ _ _ _ _; (refine keep_of (by first | exact List.Sublist.refl _ | exact List.Sublist.cons _ (List.Sublist.refl _) | exact List.Sublist.cons _ (List.Sublist.cons _ (List.Sublist.refl _)) | exact List.Sublist.cons _ (List.Sublist.cons _ (List.Sublist.cons _ (List.Sublist.refl _)))) (by first | exact (fun _ _ h => h) | exact (fun _ _ h => h.1) | exact (fun _ _ h => h.1.1)) ?_)) | (show ownK _ _ _ _ _; (refine own_keep ?_))))
        all_goals (conv => whnf)
        all_goals exact ⟨(i + 1, kn ++ [x], cur), [], ⟨hlt, known_snocH hkn hx.2 hp hs (by rw [hx.1, hpe]; unfold spanAt; rw [hEq]; exact hwn.1) (by rw [hx.1, hcs, hwn.2]), hcur, by rw [List.map_append, List.map_cons, List.map_nil, hx.1]; exact hv⟩, by simp only; omega, rfl, ⟨rfl, rfl, rfl, rfl, rfl, rfl, rfl, trivial⟩, ⟨(by repeat (first | exact List.mem_cons_self | apply List.mem_cons_of_mem)), (by repeat (first | exact List.mem_cons_self | apply List.mem_cons_of_mem)), trivial⟩, fun R w' h => ⟨h.1.1, eachA_snoc h.1.2 h.2⟩⟩
  · obtain rfl : i = g.l.length := by omega
    rw [List.drop_length] at hv
    have hgO := gridK_getD (n := g.l.length) (l := kn) (j := g.out.toNat) (by omega) (by omega)
    by_cases hrest : 0 < cur.l.length
    · have hv2 : valsH g (iv.l.map IntsV.xs) = (12, []) := by
        rw [← hv]
        conv => lhs; unfold valsQ
        rw [if_pos (by simpa using hrest)]
      (repeat' ((conv => whnf) <;> first | (show drawK _ 11 _ _ _ _ _ _; (refine draw_tree tabOk mixed [15] _ (.take 0 (.take 1 (.take 2 (.take 3 (.take 4 (.take 5 (.take 6 (.take 7 (.take 8 (.take 9 (.take 10 (.take 11 (.take 12 (.one 13 (.take 14 (.one 15 (.done))))))))))))))))) (by kernel_rfl) (by kernel_rfl) (by kernel_rfl) (List.Sublist.refl _) ?_)) | (show drawK _ 12 _ _ _ _ _ _; (refine draw_quiet tabOk mixed (by kernel_rfl) ?_)) | (show drawK _ 14 _ _ _ _ _ _; (refine draw_tree tabOk mixed [9] _ (.take 0 (.take 1 (.take 2 (.take 3 (.take 4 (.alt 5 (.take 8 (.alt 6 (.alt 7 (.one 9 (.one 10 (.done))) (.one 9 (.one 7 (.one 10 (.done))))) (.one 9 (.one 6 (.one 7 (.one 10 (.done))))))) (.one 6 (.alt 5 (.take 8 (.alt 7 (.one 9 (.one 10 (.done))) (.one 9 (.one 7 (.one 10 (.done)))))) (.one 7 (.one 5 (.take 8 (.one 9 (.one 10 (.done)))))))))))))) (by kernel_rfl) (by kernel_rfl) (by kernel_rfl) (List.Sublist.refl _) ?_)) | (show Wp _ _ _ _ _ _ _; (refine Wp.go tabOk rfl ?_)) | (show @cmpK _ _ _; (first | refine cmp_yes (by omega) ?_ | refine cmp_no (by omega) ?_ | (refine cmp_both ?_ ?_ <;> intro _))) | (show wrapK _ _ _; (refine wrap_i64 (by omega) (by omega) ?_)) | (show leK _ _ _; (refine le_of (by first | exact Nat.le_refl _ | omega) ?_)) | (show roomK _ _ _; (refine room_of (by first | omega | (dsimp only; omega)) ?_)) | (show ltK _ _ _; (refine lt_of (by omega) ?_)) | (show _ ∧ _; (refine ⟨?_, ?_⟩)) | (show keepK _ _ _ _ _; (refine keep_of (by first | exact List.Sublist.refl _ | exact List.Sublist.cons _ (List.Sublist.refl _) | exact List.Sublist.cons _ (List.Sublist.cons _ (List.Sublist.refl _)) | exact List.Sublist.cons _ (List.Sublist.cons _ (List.Sublist.cons _ (List.Sublist.refl _)))) (by first | exact (fun _ _ h => h) | exact (fun _ _ h => h.1) | exact (fun _ _ h => h.1.1)) ?_)) | (show ownK _ _ _ _ _; (refine own_keep ?_))))
      conv => whnf
      exact run_bad12 (fun _ _ h => h.1.1) rfl hv2 (fun _ => rfl)
    · have hv2 : valsH g (iv.l.map IntsV.xs) = (0, kn.map IntsV.xs) := by
        rw [← hv]
        conv => lhs; unfold valsQ
        rw [if_neg (by simpa using hrest)]
      (repeat' ((conv => whnf) <;> first | (show idxRowK _ _ _ _ _ _; (refine idxRow_of g.out.toNat (by omega) (by omega) (by rw [shRows_length, gridK_length (by omega)]; exact Nat.le_refl _) ?_)) | (show rowK _ _ _ _; (refine row_of _ _ hgO rfl ?_)) | (show drawK _ 11 _ _ _ _ _ _; (refine draw_tree tabOk mixed [15] _ (.take 0 (.take 1 (.take 2 (.take 3 (.take 4 (.take 5 (.take 6 (.take 7 (.take 8 (.take 9 (.take 10 (.take 11 (.take 12 (.one 13 (.take 14 (.one 15 (.done))))))))))))))))) (by kernel_rfl) (by kernel_rfl) (by kernel_rfl) (List.Sublist.refl _) ?_)) | (show drawK _ 12 _ _ _ _ _ _; (refine draw_quiet tabOk mixed (by kernel_rfl) ?_)) | (show drawK _ 14 _ _ _ _ _ _; (refine draw_tree tabOk mixed [9] _ (.take 0 (.take 1 (.take 2 (.take 3 (.take 4 (.alt 5 (.take 8 (.alt 6 (.alt 7 (.one 9 (.one 10 (.done))) (.one 9 (.one 7 (.one 10 (.done))))) (.one 9 (.one 6 (.one 7 (.one 10 (.done))))))) (.one 6 (.alt 5 (.take 8 (.alt 7 (.one 9 (.one 10 (.done))) (.one 9 (.one 7 (.one 10 (.done)))))) (.one 7 (.one 5 (.take 8 (.one 9 (.one 10 (.done)))))))))))))) (by kernel_rfl) (by kernel_rfl) (by kernel_rfl) (List.Sublist.refl _) ?_)) | (show Wp _ _ _ _ _ _ _; (refine Wp.go tabOk rfl ?_)) | (show @cmpK _ _ _; (first | refine cmp_yes (by omega) ?_ | refine cmp_no (by omega) ?_ | (refine cmp_both ?_ ?_ <;> intro _))) | (show wrapK _ _ _; (refine wrap_i64 (by omega) (by omega) ?_)) | (show leK _ _ _; (refine le_of (by first | exact Nat.le_refl _ | omega) ?_)) | (show roomK _ _ _; (refine room_of (by first | omega | (dsimp only; omega)) ?_)) | (show ltK _ _ _; (refine lt_of (by omega) ?_)) | (show _ ∧ _; (refine ⟨?_, ?_⟩)) | (show keepK _ _ _ _ _; (refine keep_of (by first | exact List.Sublist.refl _ | exact List.Sublist.cons _ (List.Sublist.refl _) | exact List.Sublist.cons _ (List.Sublist.cons _ (List.Sublist.refl _)) | exact List.Sublist.cons _ (List.Sublist.cons _ (List.Sublist.cons _ (List.Sublist.refl _)))) (by first | exact (fun _ _ h => h) | exact (fun _ _ h => h.1) | exact (fun _ _ h => h.1.1)) ?_)) | (show ownK _ _ _ _ _; (refine own_keep ?_))))
      conv => whnf
      have hko : g.out.toNat < kn.length := by omega
      have hge : kn.getD g.out.toNat nilI = kn[g.out.toNat] := by rw [List.getD_eq_getElem?_getD, List.getElem?_eq_getElem hko]; rfl
      exact run_good0 (fun _ _ h => h.1.1) rfl (by rw [hge]; exact hkn.sane _ (List.getElem_mem hko)) hv2 (getD_xs _ _).symm (fun R w' h => by rw [hge]; exact h.2 _ (List.getElem_mem hko))
end Go.Proofs.Ytdmkdogakbipbaa
/- GX -/
namespace Go.Proofs.Ytdmkdogakbipbaa
open Go.SX Go.RowKit
/-! Plain: made nodes may be -/
structure GoodNode (n : NodeV) (sh : List (List Int)) : Prop where
  form : formB n sh.length = true
  shape : ∃ s, shapeO n sh = some s ∧ ShOk s
  near : nearB n = true
  made : Made n
theorem near_small {xs : List Int} (h : smallL xs) : nearL xs = true := by
  unfold nearL
  rw [List.all_eq_true]
  intro x hx
  have := h x hx
  exact decide_eq_true ⟨by omega, by omega⟩
theorem smallL_nil : smallL nilI.xs := fun x hx => by simp [nilI] at hx
theorem near_of {n : NodeV} (hd : smallL n.data.xs) (hb : smallL n.bias.xs) (hl : -4 ≤ n.lo ∧ n.lo ≤ n.hi ∧ n.hi ≤ 9) : nearB n = true := by
  unfold nearB
  rw [near_small hd, near_small hb, decide_eq_true hl.2.1]
  have : nearL [n.lo, n.hi] = true := by
    unfold nearL
    rw [List.all_eq_true]
    intro x hx
    simp only [List.mem_cons, List.not_mem_nil, or_false] at hx
    exact decide_eq_true (by rcases hx with rfl | rfl <;> omega)
  rw [this]; rfl
theorem good_input {n : NodeV} {sh : List (List Int)} (h : IsInput n) : GoodNode n sh := by
  refine ⟨?_, ⟨n.shape.xs, ?_, h.shape⟩, near_of (by rw [h.data]; exact smallL_nil) (by rw [h.bias]; exact smallL_nil) ⟨h.lo.1, h.hi.1, h.hi.2⟩, h.made⟩
  · unfold formB
    rw [if_pos h.kind]
    unfold lacksB
    have := h.shape.pos
    simp [h.a, h.b, h.size, h.data, h.bias, nilI, this]
  · unfold shapeO
    rw [if_pos (.inl h.kind)]
section
variable {sh : List (List Int)} {u d e : IntsV} {i j : Nat} {s : List Int}
theorem z_of {k : Int} (h : -100 ≤ k ∧ k ≤ 10000) : i64 k := ⟨by omega, by omega⟩
theorem small64 {s : List Int} (h : ShOk s) : s.length ≤ 3 := (entries_dims h.pos).2.1
theorem good_const (hu : u.sane) (hs : ShOk u.xs) (hd : d.sane) (hdl : (d.xs.length : Int) = entries u.xs) (hsm : smallL d.xs) : GoodNode ⟨2, 0, 0, u, 0, 0, 0, d, nilI⟩ sh := by
  have h1 := hs.pos
  have h2 := hs.few
  have h3 := small64 hs
  refine ⟨?_, ⟨u.xs, ?_, hs⟩, near_of hsm smallL_nil ⟨by simp, by simp, by simp⟩, ⟨hu, hd, nilI_sane, by simp only; omega, by simp only; omega, by simp [nilI], z_of (by simp), z0, z0, z0, z0, z0⟩⟩
  · unfold formB lacksB
    simp [nilI, h1, hdl]
  · unfold shapeO
    simp
theorem good_dense (hi : i < sh.length) (hg : sh.getD i [] = s) (hs : ShOk s) (hd : d.sane) (he : e.sane) (ho : 1 ≤ e.xs.length ∧ e.xs.length ≤ 4) (hdl : (d.xs.length : Int) = e.xs.length * entries s) (h1 : smallL d.xs) (h2 : smallL e.xs) (h24 : sh.length ≤ 24) : GoodNode ⟨3, i, 0, nilI, 0, 0, 0, d, e⟩ sh := by
  have h3 := hs.pos
  have h4 := hs.few
  have hm : (e.xs.length : Int) * entries s ≤ 4 * 18 := Int.mul_le_mul (by omega) h4 (by omega) (by omega)
  have hg' : sh.getD ((i : Int)).toNat [] = s := hg
  refine ⟨?_, ⟨[(e.xs.length : Int)], ?_, ⟨entries1 (by omega) (by omega), ?_, fun h => by simp at h⟩⟩, near_of h1 h2 ⟨by simp, by simp, by simp⟩, ⟨nilI_sane, hd, he, by simp [nilI], by simp only; omega, by simp only; omega, z_of (by simp), z_of (by simp only; omega), z0, z0, z0, z0⟩⟩
  · unfold formB lacksB aheadB
    simp [nilI, hi]
    omega
  · unfold shapeO
    simp only [hg', hdl]
    simp
  · have : entries [(e.xs.length : Int)] = e.xs.length ∨ entries [(e.xs.length : Int)] = 0 := by
      unfold entries
      rw [if_neg (by simp)]
      simp only [entLoop]
      split
      · exact .inr rfl
      · left; omega
    omega
theorem good_add (hi : i < sh.length) (hj : j < sh.length) (hg : sh.getD i [] = s) (hg2 : sh.getD j [] = s) (hs : ShOk s) (h24 : sh.length ≤ 24) : GoodNode ⟨6, i, j, nilI, 0, 0, 0, nilI, nilI⟩ sh := by
  have hg' : sh.getD ((i : Int)).toNat [] = s := hg
  have hg2' : sh.getD ((j : Int)).toNat [] = s := hg2
  refine ⟨?_, ⟨s, ?_, hs⟩, near_of smallL_nil smallL_nil ⟨by simp, by simp, by simp⟩, ⟨nilI_sane, nilI_sane, nilI_sane, by simp [nilI], by simp [nilI], by simp [nilI], z_of (by simp), z_of (by simp only; omega), z_of (by simp only; omega), z0, z0, z0⟩⟩
  · unfold formB lacksB aheadB
    simp [nilI, hi, hj]
  · unfold shapeO
    simp only [hg', hg2']
    simp
theorem good_power (hi : i < sh.length) (hg : sh.getD i [] = s) (hs : ShOk s) (hd : d.sane) (hl : d.xs.length = 3) (h1 : smallL d.xs) (h24 : sh.length ≤ 24) : GoodNode ⟨8, i, 0, nilI, 0, 0, 0, d, nilI⟩ sh := by
  have hg' : sh.getD ((i : Int)).toNat [] = s := hg
  refine ⟨?_, ⟨s, ?_, hs⟩, near_of h1 smallL_nil ⟨by simp, by simp, by simp⟩, ⟨nilI_sane, hd, nilI_sane, by simp [nilI], by simp only; omega, by simp [nilI], z_of (by simp), z_of (by simp only; omega), z0, z0, z0, z0⟩⟩
  · unfold formB lacksB aheadB
    simp [nilI, hi, hl]
  · unfold shapeO
    simp only [hg']
    simp
theorem good_scale (hi : i < sh.length) (hg : sh.getD i [] = s) (hs : ShOk s) (hd : d.sane) (hl : d.xs.length = 1) (h1 : smallL d.xs) (h24 : sh.length ≤ 24) : GoodNode ⟨7, i, 0, nilI, 0, 0, 0, d, nilI⟩ sh := by
  have hg' : sh.getD ((i : Int)).toNat [] = s := hg
  refine ⟨?_, ⟨s, ?_, hs⟩, near_of h1 smallL_nil ⟨by simp, by simp, by simp⟩, ⟨nilI_sane, hd, nilI_sane, by simp [nilI], by simp only; omega, by simp [nilI], z_of (by simp), z_of (by simp only; omega), z0, z0, z0, z0⟩⟩
  · unfold formB lacksB aheadB
    simp [nilI, hi, hl]
  · unfold shapeO
    simp only [hg']
    simp
theorem entries_one {n : Int} (h1 : 1 ≤ n) (h2 : n ≤ 64) : entries [n] = n := by
  unfold entries
  rw [if_neg (by simp)]
  simp only [entLoop]
  rw [if_neg (by omega)]
  omega
theorem good_flat (hi : i < sh.length) (hg : sh.getD i [] = s) (hs : ShOk s) (hu : u.sane) (hx : u.xs = [entries s]) (h24 : sh.length ≤ 24) : GoodNode ⟨9, i, 0, u, 0, 0, 0, nilI, nilI⟩ sh := by
  have h3 := hs.pos
  have h4 := hs.few
  have hg' : sh.getD ((i : Int)).toNat [] = s := hg
  have h5 := entries_one (n := entries s) (by omega) (by omega)
  refine ⟨?_, ⟨[entries s], ?_, ⟨by omega, by omega, fun h => by simp at h⟩⟩, near_of smallL_nil smallL_nil ⟨by simp, by simp, by simp⟩, ⟨hu, nilI_sane, nilI_sane, by simp only [hx]; simp, by simp [nilI], by simp [nilI], z_of (by simp), z_of (by simp only; omega), z0, z0, z0, z0⟩⟩
  · unfold formB lacksB aheadB
    simp [nilI, hi, hx, h5, h3]
  · unfold shapeO
    simp only [hg', hx, h5]
    simp

theorem entries3_val {a b c : Int} (h : 0 < entries [a, b, c]) : entries [a, b, c] = a * b * c := by
  have e : entries [a, b, c] = entLoop 1 [a, b, c] := by unfold entries; rw [if_neg (by simp)]
  rw [e] at h ⊢
  simp only [entLoop] at h ⊢
  by_cases t1 : a < 1 ∨ a > 64 / 1
  · rw [if_pos t1] at h; omega
  rw [if_neg t1] at h ⊢
  by_cases t2 : b < 1 ∨ b > 64 / (1 * a)
  · rw [if_pos t2] at h; omega
  rw [if_neg t2] at h ⊢
  by_cases t3 : c < 1 ∨ c > 64 / (1 * a * b)
  · rw [if_pos t3] at h; omega
  rw [if_neg t3, Int.one_mul]
theorem shok3 {a b c : Int} (ha : 1 ≤ a ∧ a ≤ 2) (hb : 1 ≤ b) (hc : 1 ≤ c) (hbc : b * c ≤ 9) : ShOk [a, b, c] := by
  have h0 : 1 ≤ b * c := by have := Int.mul_le_mul hb hc (by omega) (by omega); omega
  have h1 : a * (b * c) ≤ 2 * 9 := Int.mul_le_mul ha.2 hbc (by omega) (by omega)
  rw [← Int.mul_assoc] at h1
  have h2 := entries3 ha.1 hb hc (by omega)
  exact ⟨h2, by rw [entries3_val h2]; omega, fun _ => ⟨by simpa using ha.2, by simpa using hbc⟩⟩
theorem dims3 {s : List Int} (hs : ShOk s) (h3 : s.length = 3) : s = [s.getD 0 0, s.getD 1 0, s.getD 2 0] ∧ 1 ≤ s.getD 0 0 ∧ s.getD 0 0 ≤ 2 ∧ 1 ≤ s.getD 1 0 ∧ 1 ≤ s.getD 2 0 ∧ s.getD 1 0 * s.getD 2 0 ≤ 9 ∧ s.getD 1 0 ≤ 9 ∧ s.getD 2 0 ≤ 9 := by
  have e := len3 h3
  have hp := hs.pos
  rw [e] at hp
  obtain ⟨p0, p1, p2, _⟩ := entries3_prod hp
  obtain ⟨q1, q2⟩ := hs.three h3
  have r1 : s.getD 1 0 * 1 ≤ s.getD 1 0 * s.getD 2 0 := Int.mul_le_mul_of_nonneg_left p2 (by omega)
  have r2 : 1 * s.getD 2 0 ≤ s.getD 1 0 * s.getD 2 0 := Int.mul_le_mul_of_nonneg_right p1 (by omega)
  exact ⟨e, p0, q1, p1, p2, q2, by omega, by omega⟩
theorem good_pool (hi : i < sh.length) (hg : sh.getD i [] = s) (hs : ShOk s) (h3 : s.length = 3) (he1 : s.getD 1 0 % 2 = 0) (he2 : s.getD 2 0 % 2 = 0) (h24 : sh.length ≤ 24) : GoodNode ⟨5, i, 0, nilI, 0, 0, 2, nilI, nilI⟩ sh := by
  have hg' : sh.getD ((i : Int)).toNat [] = s := hg
  obtain ⟨_, p0, q0, p1, p2, q2, _, _⟩ := dims3 hs h3
  have m : s.getD 1 0 / 2 * (s.getD 2 0 / 2) ≤ s.getD 1 0 * s.getD 2 0 := Int.mul_le_mul (by omega) (by omega) (by omega) (by omega)
  refine ⟨?_, ⟨[s.getD 0 0, s.getD 1 0 / 2, s.getD 2 0 / 2], ?_, shok3 ⟨p0, q0⟩ (by omega) (by omega) (by omega)⟩, near_of smallL_nil smallL_nil ⟨by simp, by simp, by simp⟩, ⟨nilI_sane, nilI_sane, nilI_sane, by simp [nilI], by simp [nilI], by simp [nilI], z_of (by simp), z_of (by simp only; omega), z0, z0, z0, z_of (by simp)⟩⟩
  · unfold formB lacksB aheadB
    simp [nilI, hi]
  · unfold shapeO
    simp only [hg']
    rw [if_neg (by simp), if_neg (by simp), if_neg (by simp), if_pos trivial, if_neg (by omega)]
theorem kernel4 {a b c e : Int} (ha : 1 ≤ a ∧ a ≤ 64) (hb : 1 ≤ b ∧ b ≤ 64) (hc : 1 ≤ c ∧ c ≤ 64) (he : 1 ≤ e ∧ e ≤ 64) : kernelI [a, b, c, e] = a * b * c * e := by
  unfold kernelI
  rw [if_pos (by simp)]
  simp only [kerLoop]
  rw [if_neg (by omega), if_neg (by omega), if_neg (by omega), if_neg (by omega), Int.one_mul]
theorem good_conv {k0 k2 k3 : Int} (hi : i < sh.length) (hg : sh.getD i [] = s) (hs : ShOk s) (h3 : s.length = 3) (h0 : 1 ≤ k0 ∧ k0 ≤ 2) (h2 : 1 ≤ k2 ∧ k2 ≤ 2 ∧ k2 ≤ s.getD 1 0) (hk3 : 1 ≤ k3 ∧ k3 ≤ 2 ∧ k3 ≤ s.getD 2 0) (hu : u.sane) (hx : u.xs = [k0, s.getD 0 0, k2, k3]) (hd : d.sane) (he : e.sane)
    (hdl : (d.xs.length : Int) = k0 * s.getD 0 0 * k2 * k3) (hel : (e.xs.length : Int) = k0) (h1 : smallL d.xs) (hh : smallL e.xs) (h24 : sh.length ≤ 24) : GoodNode ⟨4, i, 0, u, 0, 0, 0, d, e⟩ sh := by
  have hg' : sh.getD ((i : Int)).toNat [] = s := hg
  obtain ⟨_, p0, q0, p1, p2, q2, q3, q4⟩ := dims3 hs h3
  have hk := kernel4 (a := k0) (b := s.getD 0 0) (c := k2) (e := k3) (by omega) (by omega) (by omega) (by omega)
  have m1 : k0 * s.getD 0 0 ≤ 2 * 2 := Int.mul_le_mul h0.2 q0 (by omega) (by omega)
  have n1 : 1 * 1 ≤ k0 * s.getD 0 0 := Int.mul_le_mul h0.1 p0 (by omega) (by omega)
  have m2 : k0 * s.getD 0 0 * k2 ≤ 4 * 2 := Int.mul_le_mul m1 h2.2.1 (by omega) (by omega)
  have n2 : 1 * 1 ≤ k0 * s.getD 0 0 * k2 := Int.mul_le_mul n1 h2.1 (by omega) (by omega)
  have m3 : k0 * s.getD 0 0 * k2 * k3 ≤ 8 * 2 := Int.mul_le_mul m2 hk3.2.1 (by omega) (by omega)
  have n3 : 1 * 1 ≤ k0 * s.getD 0 0 * k2 * k3 := Int.mul_le_mul n2 hk3.1 (by omega) (by omega)
  have m : (s.getD 1 0 - k2 + 1) * (s.getD 2 0 - k3 + 1) ≤ s.getD 1 0 * s.getD 2 0 := Int.mul_le_mul (by omega) (by omega) (by omega) (by omega)
  have hok := shok3 (a := k0) (b := s.getD 1 0 - k2 + 1) (c := s.getD 2 0 - k3 + 1) h0 (by omega) (by omega) (by omega)
  refine ⟨?_, ⟨[k0, s.getD 1 0 - k2 + 1, s.getD 2 0 - k3 + 1], ?_, hok⟩, near_of h1 hh ⟨by simp, by simp, by simp⟩, ⟨hu, hd, he, by simp only [hx]; simp, by simp only; omega, by simp only; omega, z_of (by simp), z_of (by simp only; omega), z0, z0, z0, z0⟩⟩
  · unfold formB
    rw [if_neg (by simp), if_neg (by simp), if_neg (by simp), if_pos rfl]
    unfold lacksB aheadB
    simp only [hx, hk, hdl, hel]
    generalize k0 * s.getD 0 0 * k2 * k3 = K at *
    have hK : 0 < K := by omega
    simp [hi, hK]
  · unfold shapeO
    simp only [hg', hx]
    rw [if_neg (by simp), if_neg (by simp), if_pos trivial]
    simp only [List.getD_cons_zero, List.getD_cons_succ]
    rw [if_neg (by omega), if_pos hok.pos]
end
end Go.Proofs.Ytdmkdogakbipbaa
