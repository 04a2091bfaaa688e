import Derived.DeepKeys
import Derived.Test.YtajbngkcgbehlaaRows
import Derived.Test.YtajbngkcgbehlaaKIntervalSharp6
/- IH -/
namespace Go.Proofs.Ytajbngkcgbehlaa
open Go.SX Go.RowKit
def RunPost (w : World) (r : Int × List Int) (e : Ending) (w' : World) : Prop :=
  (r.1 ≠ 0 ∧ e = .returned (.tuple #[.slice none 0 0, .int .i64 r.1]) ∧ Ext w w') ∨ (r.1 = 0 ∧ ∃ x : IntsV, (x.xs = r.2 ∧ x.sane) ∧ e = .returned (.tuple #[x.val, .int .i64 0]) ∧ Ext w w' ∧ (intsA x).holds (fun b => w.heap.size ≤ b ∧ b < w'.heap.size) w')
theorem run_bad {B : Base} {v : SV} {H : Heap} {S : Asn} {nx : Nat} {w : World} {r : Int × List Int} (hb : ∀ R w', S.holds R w' → (baseA B.w0).holds R w') (hw0 : B.w0 = w) (hn : r.1 ≠ 0) (hv : ∀ ρ, v.rf ρ = .tuple #[.slice none 0 0, .int .i64 r.1]) : finK B v H S nx (RunPost w r) := by
  subst hw0
  exact fin_of fun ρ w' hw => .inl ⟨hn, by rw [hv], ext_of_abs hw hb⟩
theorem run_good {B : Base} {x : IntsV} {H : Heap} {S : Asn} {nx : Nat} {w : World} {r : Int × List Int} (hb : ∀ R w', S.holds R w' → (baseA B.w0).holds R w') (hw0 : B.w0 = w) (hs : x.sane) (hr : r = (0, x.xs)) (hD : ∀ R w', S.holds R w' → ((intsA x).past B.w0.heap.size).holds R w') : finK B (.tup [.c x.val, .c (.int .i64 0)]) H S nx (RunPost w r) := by
  subst hw0 hr
  exact fin_of fun ρ w' hw => .inr ⟨rfl, x, ⟨rfl, hs⟩, rfl, ext_of_abs hw hb, past_new hw hD⟩
theorem run_bad12 {B : Base} {v : SV} {H : Heap} {S : Asn} {nx : Nat} {w : World} {r' : Int × List (List Int)} {X : Int × List Int} (hb : ∀ R w', S.holds R w' → (baseA B.w0).holds R w') (hw0 : B.w0 = w) (hr : r' = (12, [])) (hv : ∀ ρ, v.rf ρ = .tuple #[.slice none 0 0, .int .i64 12]) : finK B v H S nx (RunPost w (if r'.1 ≠ 0 then (r'.1, []) else X)) := by
  subst hr
  have e : (if ((12 : Int), ([] : List (List Int))).1 ≠ 0 then (((12 : Int), ([] : List (List Int))).1, ([] : List Int)) else X) = (12, []) := if_pos (show (12 : Int) ≠ 0 by decide)
  rw [e]
  exact run_bad hb hw0 (show (12 : Int) ≠ 0 by decide) hv
theorem run_good0 {B : Base} {x : IntsV} {H : Heap} {S : Asn} {nx : Nat} {w : World} {r' : Int × List (List Int)} {k : Nat} {L : List (List Int)} (hb : ∀ R w', S.holds R w' → (baseA B.w0).holds R w') (hw0 : B.w0 = w) (hs : x.sane) (hr : r' = (0, L)) (hx : L.getD k [] = x.xs) (hD : ∀ R w', S.holds R w' → ((intsA x).past B.w0.heap.size).holds R w') : finK B (.tup [.c x.val, .c (.int .i64 0)]) H S nx (RunPost w (if r'.1 ≠ 0 then (r'.1, []) else (0, r'.2.getD k []))) := by
  subst hr
  have e : (if ((0 : Int), L).1 ≠ 0 then (((0 : Int), L).1, ([] : List Int)) else (0, ((0 : Int), L).2.getD k [])) = (0, L.getD k []) := if_neg (show ¬ (0 : Int) ≠ 0 by decide)
  rw [e, hx]
  exact run_good hb hw0 hs rfl hD
/-- a call of Spans -/
theorem call_spans {cx : Cx} {f : FuncId} {args : List SV} {H : Heap} {S : Asn} {nx : Nat} {K : SV → Heap → Asn → Nat → Prop} (r : Int × List Sp) (hf : ∀ ar w, (callFunc f ar).run cx.P w = .ok (.enter f ar) w)
    (hc : ∀ ρ w', Abs cx.B ρ nx H S w' → Calls cx.P f (SV.rfs ρ args).toArray w' (SpansPost w' r))
    (h0 : r.1 ≠ 0 → K (.c (.tuple #[.slice none 0 0, .int .i64 r.1])) H S nx)
    (h1 : r.1 = 0 → ∀ base cap, K (.c (.tuple #[.slice base r.2.length cap, .int .i64 0])) H (S.and ((rowsA base 2 (spRows r.2)).past cx.B.w0.heap.size)) nx) : callK cx f args H S nx K := by
  rw [callK_def]
  refine ⟨hf, fun ρ w hw => (hc ρ w hw).mono ?_⟩
  rintro e w' (⟨hr, rfl, he⟩ | ⟨hr, v, rfl, he, hn⟩)
  · exact ⟨.c (.tuple #[.slice none 0 0, .int .i64 r.1]), ρ, H, S, nx, rfl, fun _ _ => rfl, Nat.le_refl _, SV.lt_c _, hw.ext he, h0 hr⟩
  · obtain ⟨base, cap, e1, hD⟩ := newRows_data hn
    rw [spRows_length] at e1
    subst e1
    exact ⟨.c (.tuple #[.slice base r.2.length cap, .int .i64 0]), ρ, H, _, nx, rfl, fun _ _ => rfl, Nat.le_refl _, SV.lt_c _, hw.grow he hD, h1 hr base cap⟩
theorem getD_kn {N : Nat} {l : List IntsV} {R : Nat → Prop} {w : World} (hs : ∀ u ∈ l, u.sane) (h : (eachA N l).holds R w) (k : Nat) : (l.getD k nilI).ok w := by
  rcases Nat.lt_or_ge k l.length with hk | hk
  · rw [List.getD_eq_getElem?_getD, List.getElem?_eq_getElem hk]
    exact intsA_ok (hs _ (List.getElem_mem hk)) ((intsA _).mono (h _ (List.getElem_mem hk)) (fun b hb => hb.1))
  · rw [List.getD_eq_getElem?_getD, List.getElem?_eq_none hk]
    exact intsA_ok nilI_sane (nilI_holds R w)
theorem getD_xs (l : List IntsV) (k : Nat) : (l.getD k nilI).xs = (l.map IntsV.xs).getD k [] := by
  rcases Nat.lt_or_ge k l.length with hk | hk
  · simp [List.getD_eq_getElem?_getD, hk]
  · simp [List.getD_eq_getElem?_getD, hk, nilI]
/-- known so far: as many as there should be, within their spans -/
structure Known (g : GraphV) (kn : List IntsV) (i : Nat) : Prop where
  len : kn.length = i
  sane : ∀ u ∈ kn, u.sane
  each : ∀ (j : Nat) (u : IntsV) (s : Sp) (q : List Int), kn[j]? = some u → (spansG g).2[j]? = some s → (check g).2[j]? = some q → within s u.xs ∧ (u.xs.length : Int) = entries q
theorem known_arg {g : GraphV} {kn : List IntsV} {i : Nat} (hsp : (spansG g).1 = 0) (hkn : Known g kn i) (hi : i ≤ g.l.length) (k : Nat) : within (((spansG g).2.take i).getD k (0, 0)) (kn.getD k nilI).xs ∧ (∀ x ∈ (kn.getD k nilI).xs, bd20 x) ∧ (k < i → ((kn.getD k nilI).xs.length : Int) = entries (((check g).2.take i).getD k [])) := by
  obtain ⟨hck, hsl, hsi⟩ := spansG_in hsp
  obtain ⟨hl1, hl24, hout, hcl, hin⟩ := check_in hck
  have hkl := hkn.len
  rcases Nat.lt_or_ge k i with hk | hk
  · have hkg : k < g.l.length := by omega
    obtain ⟨p, hp, _, hp1, hp2⟩ := hsi k g.l[k] (List.getElem?_eq_getElem hkg)
    obtain ⟨s, hs, _⟩ := hin k g.l[k] (List.getElem?_eq_getElem hkg)
    have hk' : k < kn.length := by omega
    obtain ⟨h1, h2⟩ := hkn.each k kn[k] p s (List.getElem?_eq_getElem hk') hp hs
    have e1 : kn.getD k nilI = kn[k] := by rw [List.getD_eq_getElem?_getD, List.getElem?_eq_getElem hk']; rfl
    have e2 : ((spansG g).2.take i).getD k (0, 0) = p := by rw [List.getD_eq_getElem?_getD, List.getElem?_take, if_pos hk, hp]; rfl
    have e3 : ((check g).2.take i).getD k [] = s := by rw [List.getD_eq_getElem?_getD, List.getElem?_take, if_pos hk, hs]; rfl
    rw [e1, e2, e3]
    exact ⟨h1, fun x hx => by have := h1 x hx; unfold bd20; omega, fun _ => h2⟩
  · have e1 : kn.getD k nilI = nilI := by rw [List.getD_eq_getElem?_getD, List.getElem?_eq_none (by omega)]; rfl
    rw [e1]
    exact ⟨fun x hx => by simp [nilI] at hx, fun x hx => by simp [nilI] at hx, fun h => by omega⟩
theorem shape_rel {n : NodeV} {sh : List (List Int)} {s : List Int} (h : shapeO n sh = some s) (hnk : nlin n) (hk : 1 ≤ n.kind ∧ n.kind ≤ 9) (hk1 : n.kind ≠ 1) : (n.kind = 2 → s = n.shape.xs) ∧ (n.kind ≠ 2 → entries (sh.getD n.a.toNat []) = entries s) ∧ (n.kind = 6 → entries (sh.getD n.b.toNat []) = entries s) := by
  unfold nlin at hnk
  unfold shapeO at h
  by_cases h2 : n.kind = 2
  · rw [if_pos (by omega)] at h
    exact ⟨fun _ => by simpa using h.symm, fun h => absurd h2 h, fun h => by omega⟩
  · rw [if_neg (by omega), if_neg (by omega), if_neg (by omega), if_neg (by omega)] at h
    refine ⟨fun h => absurd h h2, fun _ => ?_, fun h6 => ?_⟩
    · split at h
      · split at h
        · simp only [Option.some.injEq] at h; rw [h]
        · cases h
      · split at h
        · split at h
          · rename_i he; simp only [Option.some.injEq] at h; rw [← h]; exact he.symm
          · cases h
        · simp only [Option.some.injEq] at h; rw [h]
    · rw [if_pos h6] at h
      split at h
      · rename_i he; simp only [Option.some.injEq] at h; rw [← he, h]
      · cases h
theorem nums_pl {g : GraphV} {kn : List IntsV} {i cnt : Nat} {n : NodeV} {s : List Int} (hsp : (spansG g).1 = 0) (hkn : Known g kn i) (hi : i < g.l.length) (hni : NodeIn n ((check g).2.take i) s) (hnk : nlin n) (hk1 : n.kind ≠ 1) (hcnt : entries s = cnt) : (n.kind = 2 ∨ n.kind = 6 ∨ n.kind = 7 ∨ n.kind = 8 ∨ n.kind = 9) ∧ (n.kind = 2 → n.data.xs.length = cnt) ∧ (n.kind ≠ 2 → (kn.getD n.a.toNat nilI).xs.length = cnt) ∧ (n.kind = 6 → (kn.getD n.b.toNat nilI).xs.length = cnt) := by
  obtain ⟨hck, hsl, hsi⟩ := spansG_in hsp
  obtain ⟨hl1, hl24, hout, hcl, hin⟩ := check_in hck
  have hti : ((check g).2.take i).length = i := by rw [List.length_take, hcl]; omega
  have hform := hni.form
  rw [hti] at hform
  obtain ⟨hA, hB, h7, h8, h2⟩ := ahead_of hform
  obtain ⟨nd, _⟩ := near_in hni.near
  have hfo := formed_of hform
  have hkind := hfo.kind
  obtain ⟨r2, rA, rB⟩ := shape_rel hni.shape hnk hkind hk1
  have kA := known_arg hsp hkn (by omega) n.a.toNat
  have kB := known_arg hsp hkn (by omega) n.b.toNat
  unfold nlin at hnk
  have hcb := (entries_bd s).2
  refine ⟨by omega, fun hk => ?_, fun hk => ?_, fun hk => ?_⟩
  · have := h2 hk
    rw [← r2 hk, hcnt] at this
    omega
  · have ha := hfo.a hk1 hk
    have := kA.2.2 (by omega)
    rw [rA hk, hcnt] at this
    omega
  · have hb := hfo.b hk
    have := kB.2.2 (by omega)
    rw [rB hk, hcnt] at this
    omega
theorem nums_ready {g : GraphV} {kn : List IntsV} {i cnt : Nat} {n : NodeV} {s : List Int} (hsp : (spansG g).1 = 0) (hkn : Known g kn i) (hi : i < g.l.length) (hni : NodeIn n ((check g).2.take i) s) (hnk : nlin n) (hk1 : n.kind ≠ 1) (hcnt : entries s = cnt) {w' : World} (hd : n.data.ok w') (hok : ∀ k, (kn.getD k nilI).ok w') : NumsOk w' n cnt (kn.getD n.a.toNat nilI) (kn.getD n.b.toNat nilI) := by
  obtain ⟨hck, hsl, hsi⟩ := spansG_in hsp
  obtain ⟨hl1, hl24, hout, hcl, hin⟩ := check_in hck
  have hti : ((check g).2.take i).length = i := by rw [List.length_take, hcl]; omega
  have hform := hni.form
  rw [hti] at hform
  obtain ⟨hA, hB, h7, h8, h2⟩ := ahead_of hform
  obtain ⟨nd, _⟩ := near_in hni.near
  have hfo := formed_of hform
  have hkind := hfo.kind
  obtain ⟨r2, rA, rB⟩ := shape_rel hni.shape hnk hkind hk1
  have kA := known_arg hsp hkn (by omega) n.a.toNat
  have kB := known_arg hsp hkn (by omega) n.b.toNat
  unfold nlin at hnk
  have hcb := (entries_bd s).2
  refine ⟨by omega, by omega, hd, nd, fun hk => ?_, h7, h8, hok _, hok _, fun hk => ?_, fun hk => ?_, kA.2.1, kB.2.1⟩
  · have := h2 hk
    rw [← r2 hk, hcnt] at this
    omega
  · have ha := hfo.a hk1 hk
    have := kA.2.2 (by omega)
    rw [rA hk, hcnt] at this
    omega
  · have hb := hfo.b hk
    have := kB.2.2 (by omega)
    rw [rB hk, hcnt] at this
    omega
theorem known_snoc {g : GraphV} {kn : List IntsV} {i : Nat} {x : IntsV} {s : List Int} {p : Sp} (hkn : Known g kn i) (hx : x.sane) (hp : (spansG g).2[i]? = some p) (hs : (check g).2[i]? = some s) (hw : within p x.xs) (hl : (x.xs.length : Int) = entries s) : Known g (kn ++ [x]) (i + 1) := by
  have hkl := hkn.len
  refine ⟨by rw [List.length_append, hkl]; rfl, fun u hu => ?_, fun j u p' q hu hp' hq => ?_⟩
  · rcases List.mem_append.1 hu with h | h
    · exact hkn.sane u h
    · simp at h; subst h; exact hx
  · rcases Nat.lt_or_ge j i with hj | hj
    · rw [List.getElem?_append_left (by omega)] at hu
      exact hkn.each j u p' q hu hp' hq
    · rw [List.getElem?_append_right (by omega)] at hu
      have h0 : j - kn.length = 0 := by
        rcases Nat.eq_zero_or_pos (j - kn.length) with h | h
        · exact h
        · rw [List.getElem?_eq_none (by simp; omega)] at hu; cases hu
      rw [h0] at hu
      simp only [List.getElem?_cons_zero, Option.some.injEq] at hu
      subst hu
      obtain rfl : j = i := by omega
      rw [hp] at hp'
      rw [hs] at hq
      simp only [Option.some.injEq] at hp' hq
      subst hp' hq
      exact ⟨hw, hl⟩
theorem nums_within {g : GraphV} {kn : List IntsV} {i cnt : Nat} {n : NodeV} {s : List Int} (hsp : (spansG g).1 = 0) (hkn : Known g kn i) (hi : i < g.l.length) (hni : NodeIn n ((check g).2.take i) s) (hnk : nlin n) (hk1 : n.kind ≠ 1) (hcnt : entries s = cnt) : within (spanOf n ((spansG g).2.take i)) (numsL n cnt (kn.getD n.a.toNat nilI).xs (kn.getD n.b.toNat nilI).xs) := by
  obtain ⟨h1, h2, h3, h4⟩ := nums_pl hsp hkn hi hni hnk hk1 hcnt
  intro x hx
  obtain ⟨o, ho, rfl⟩ := List.mem_map.1 hx
  rw [List.mem_range] at ho
  exact num_within h1 h2 h3 h4 (known_arg hsp hkn (by omega) n.a.toNat).1 (known_arg hsp hkn (by omega) n.b.toNat).1 ho
set_option maxRecDepth 20000 in
set_option maxHeartbeats 2000000 in
theorem run_any (w : World) (g : GraphV) (hg : g.ok w) (iv : ShapesV) (hiv : InV.ok w iv) (hnl : ∀ n ∈ g.l, nlin n) : Calls Try.prog 37 #[g.val, iv.val] w (RunPost w (runG g (iv.l.map IntsV.xs))) := by
  have hivf := hiv.few
  refine calls_of tab tabOk Try.func37 rfl rfl rfl [] (fun _ => ⟨none, 0⟩) [.agg [.c (.slice g.base g.l.length g.cap), .c (.int .i64 g.out)], .c iv.val] [] (baseA w) 0 rfl rfl (by show 2 ≤ _; decide) (abs_base w) ?_
  (repeat' ((conv => whnf) <;> first | (show drawK _ 11 _ _ _ _ _ _; (refine draw_tree tabOk mixed [15] _ (.take 0 (.take 1 (.take 2 (.take 3 (.take 4 (.take 5 (.take 6 (.take 7 (.take 8 (.take 9 (.take 10 (.take 11 (.take 12 (.one 13 (.take 14 (.one 15 (.done))))))))))))))))) (by kernel_rfl) (by kernel_rfl) (by kernel_rfl) (List.Sublist.refl _) ?_)) | (show drawK _ 12 _ _ _ _ _ _; (refine draw_quiet tabOk mixed (by kernel_rfl) ?_)) | (show drawK _ 14 _ _ _ _ _ _; (refine draw_tree tabOk mixed [9] _ (.take 0 (.take 1 (.take 2 (.take 3 (.take 4 (.alt 5 (.take 8 (.alt 6 (.alt 7 (.one 9 (.one 10 (.done))) (.one 9 (.one 7 (.one 10 (.done))))) (.one 9 (.one 6 (.one 7 (.one 10 (.done))))))) (.one 6 (.alt 5 (.take 8 (.alt 7 (.one 9 (.one 10 (.done))) (.one 9 (.one 7 (.one 10 (.done)))))) (.one 7 (.one 5 (.take 8 (.one 9 (.one 10 (.done)))))))))))))) (by kernel_rfl) (by kernel_rfl) (by kernel_rfl) (List.Sublist.refl _) ?_)) | (show Wp _ _ _ _ _ _ _; (refine Wp.go tabOk rfl ?_)) | (show @cmpK _ _ _; (first | refine cmp_yes (by omega) ?_ | refine cmp_no (by omega) ?_ | (refine cmp_both ?_ ?_ <;> intro _))) | (show wrapK _ _ _; (refine wrap_i64 (by omega) (by omega) ?_)) | (show leK _ _ _; (refine le_of (by first | exact Nat.le_refl _ | omega) ?_)) | (show roomK _ _ _; (refine room_of (by first | omega | (dsimp only; omega)) ?_)) | (show ltK _ _ _; (refine lt_of (by omega) ?_)) | (show _ ∧ _; (refine ⟨?_, ?_⟩)) | (show keepK _ _ _ _ _; (refine keep_of (by first | exact List.Sublist.refl _ | exact List.Sublist.cons _ (List.Sublist.refl _) | exact List.Sublist.cons _ (List.Sublist.cons _ (List.Sublist.refl _)) | exact List.Sublist.cons _ (List.Sublist.cons _ (List.Sublist.cons _ (List.Sublist.refl _)))) (by first | exact (fun _ _ h => h) | exact (fun _ _ h => h.1) | exact (fun _ _ h => h.1.1)) ?_)) | (show ownK _ _ _ _ _; (refine own_keep ?_))))
  refine call_spans (f := 34) (spansG g) Try.call34 (fun ρ w' hw => spans_any w' g (holds_of_abs hw fun R h => hg.later h) hnl) (fun hne => ?_) (fun hsp base cap => ?_)
  · have hq : runG g (iv.l.map IntsV.xs) = ((spansG g).1, []) := if_pos hne
    rw [hq]
    (repeat' ((conv => whnf) <;> first | (show @cmpK _ _ _; (refine cmp_yes hne ?_)) | (show drawK _ 11 _ _ _ _ _ _; (refine draw_tree tabOk mixed [15] _ (.take 0 (.take 1 (.take 2 (.take 3 (.take 4 (.take 5 (.take 6 (.take 7 (.take 8 (.take 9 (.take 10 (.take 11 (.take 12 (.one 13 (.take 14 (.one 15 (.done))))))))))))))))) (by kernel_rfl) (by kernel_rfl) (by kernel_rfl) (List.Sublist.refl _) ?_)) | (show drawK _ 12 _ _ _ _ _ _; (refine draw_quiet tabOk mixed (by kernel_rfl) ?_)) | (show drawK _ 14 _ _ _ _ _ _; (refine draw_tree tabOk mixed [9] _ (.take 0 (.take 1 (.take 2 (.take 3 (.take 4 (.alt 5 (.take 8 (.alt 6 (.alt 7 (.one 9 (.one 10 (.done))) (.one 9 (.one 7 (.one 10 (.done))))) (.one 9 (.one 6 (.one 7 (.one 10 (.done))))))) (.one 6 (.alt 5 (.take 8 (.alt 7 (.one 9 (.one 10 (.done))) (.one 9 (.one 7 (.one 10 (.done)))))) (.one 7 (.one 5 (.take 8 (.one 9 (.one 10 (.done)))))))))))))) (by kernel_rfl) (by kernel_rfl) (by kernel_rfl) (List.Sublist.refl _) ?_)) | (show Wp _ _ _ _ _ _ _; (refine Wp.go tabOk rfl ?_)) | (show @cmpK _ _ _; (first | refine cmp_yes (by omega) ?_ | refine cmp_no (by omega) ?_ | (refine cmp_both ?_ ?_ <;> intro _))) | (show wrapK _ _ _; (refine wrap_i64 (by omega) (by omega) ?_)) | (show leK _ _ _; (refine le_of (by first | exact Nat.le_refl _ | omega) ?_)) | (show roomK _ _ _; (refine room_of (by first | omega | (dsimp only; omega)) ?_)) | (show ltK _ _ _; (refine lt_of (by omega) ?_)) | (show _ ∧ _; (refine ⟨?_, ?_⟩)) | (show keepK _ _ _ _ _; (refine keep_of (by first | exact List.Sublist.refl _ | exact List.Sublist.cons _ (List.Sublist.refl _) | exact List.Sublist.cons _ (List.Sublist.cons _ (List.Sublist.refl _)) | exact List.Sublist.cons _ (List.Sublist.cons _ (List.Sublist.cons _ (List.Sublist.refl _)))) (by first | exact (fun _ _ h => h) | exact (fun _ _ h => h.1) | exact (fun _ _ h => h.1.1)) ?_)) | (show ownK _ _ _ _ _; (refine own_keep ?_))))
    conv => whnf
    exact run_bad (fun _ _ h => h) rfl hne (fun _ => rfl)
  have hq : runG g (iv.l.map IntsV.xs) = if (valsG g (iv.l.map IntsV.xs)).1 ≠ 0 then ((valsG g (iv.l.map IntsV.xs)).1, []) else (0, (valsG g (iv.l.map IntsV.xs)).2.getD g.out.toNat []) := if_neg (fun h => h hsp)
  rw [hq]
  obtain ⟨hck, hsl, hsi⟩ := spansG_in hsp
  obtain ⟨hl1, hl24, hout, hcl, hin⟩ := check_in hck
  (repeat' ((conv => whnf) <;> first | (show drawK _ 11 _ _ _ _ _ _; (refine draw_tree tabOk mixed [15] _ (.take 0 (.take 1 (.take 2 (.take 3 (.take 4 (.take 5 (.take 6 (.take 7 (.take 8 (.take 9 (.take 10 (.take 11 (.take 12 (.one 13 (.take 14 (.one 15 (.done))))))))))))))))) (by kernel_rfl) (by kernel_rfl) (by kernel_rfl) (List.Sublist.refl _) ?_)) | (show drawK _ 12 _ _ _ _ _ _; (refine draw_quiet tabOk mixed (by kernel_rfl) ?_)) | (show drawK _ 14 _ _ _ _ _ _; (refine draw_tree tabOk mixed [9] _ (.take 0 (.take 1 (.take 2 (.take 3 (.take 4 (.alt 5 (.take 8 (.alt 6 (.alt 7 (.one 9 (.one 10 (.done))) (.one 9 (.one 7 (.one 10 (.done))))) (.one 9 (.one 6 (.one 7 (.one 10 (.done))))))) (.one 6 (.alt 5 (.take 8 (.alt 7 (.one 9 (.one 10 (.done))) (.one 9 (.one 7 (.one 10 (.done)))))) (.one 7 (.one 5 (.take 8 (.one 9 (.one 10 (.done)))))))))))))) (by kernel_rfl) (by kernel_rfl) (by kernel_rfl) (List.Sublist.refl _) ?_)) | (show Wp _ _ _ _ _ _ _; (refine Wp.go tabOk rfl ?_)) | (show @cmpK _ _ _; (first | refine cmp_yes (by omega) ?_ | refine cmp_no (by omega) ?_ | (refine cmp_both ?_ ?_ <;> intro _))) | (show wrapK _ _ _; (refine wrap_i64 (by omega) (by omega) ?_)) | (show leK _ _ _; (refine le_of (by first | exact Nat.le_refl _ | omega) ?_)) | (show roomK _ _ _; (refine room_of (by first | omega | (dsimp only; omega)) ?_)) | (show ltK _ _ _; (refine lt_of (by omega) ?_)) | (show _ ∧ _; (refine ⟨?_, ?_⟩)) | (show keepK _ _ _ _ _; (refine keep_of (by first | exact List.Sublist.refl _ | exact List.Sublist.cons _ (List.Sublist.refl _) | exact List.Sublist.cons _ (List.Sublist.cons _ (List.Sublist.refl _)) | exact List.Sublist.cons _ (List.Sublist.cons _ (List.Sublist.cons _ (List.Sublist.refl _)))) (by first | exact (fun _ _ h => h) | exact (fun _ _ h => h.1) | exact (fun _ _ h => h.1.1)) ?_)) | (show ownK _ _ _ _ _; (refine own_keep ?_))))
  refine call_check (f := 17) (check g) Try.call17 (fun ρ w' hw => check_any w' g (holds_of_abs hw fun R h => hg.later h.1)) (fun hne => absurd hck hne) (fun _ sv hm hsv => ?_)
  have hsvl : sv.l.length = g.l.length := by rw [← hcl, ← hm]; simp
  (repeat' ((conv => whnf) <;> first | (show makeK _ _ _ _; (refine make_of g.l.length rfl rfl (by show 24 * _ ≤ _; omega) (by omega) ?_)) | (show drawK _ 11 _ _ _ _ _ _; (refine draw_tree tabOk mixed [15] _ (.take 0 (.take 1 (.take 2 (.take 3 (.take 4 (.take 5 (.take 6 (.take 7 (.take 8 (.take 9 (.take 10 (.take 11 (.take 12 (.one 13 (.take 14 (.one 15 (.done))))))))))))))))) (by kernel_rfl) (by kernel_rfl) (by kernel_rfl) (List.Sublist.refl _) ?_)) | (show drawK _ 12 _ _ _ _ _ _; (refine draw_quiet tabOk mixed (by kernel_rfl) ?_)) | (show drawK _ 14 _ _ _ _ _ _; (refine draw_tree tabOk mixed [9] _ (.take 0 (.take 1 (.take 2 (.take 3 (.take 4 (.alt 5 (.take 8 (.alt 6 (.alt 7 (.one 9 (.one 10 (.done))) (.one 9 (.one 7 (.one 10 (.done))))) (.one 9 (.one 6 (.one 7 (.one 10 (.done))))))) (.one 6 (.alt 5 (.take 8 (.alt 7 (.one 9 (.one 10 (.done))) (.one 9 (.one 7 (.one 10 (.done)))))) (.one 7 (.one 5 (.take 8 (.one 9 (.one 10 (.done)))))))))))))) (by kernel_rfl) (by kernel_rfl) (by kernel_rfl) (List.Sublist.refl _) ?_)) | (show Wp _ _ _ _ _ _ _; (refine Wp.go tabOk rfl ?_)) | (show @cmpK _ _ _; (first | refine cmp_yes (by omega) ?_ | refine cmp_no (by omega) ?_ | (refine cmp_both ?_ ?_ <;> intro _))) | (show wrapK _ _ _; (refine wrap_i64 (by omega) (by omega) ?_)) | (show leK _ _ _; (refine le_of (by first | exact Nat.le_refl _ | omega) ?_)) | (show roomK _ _ _; (refine room_of (by first | omega | (dsimp only; omega)) ?_)) | (show ltK _ _ _; (refine lt_of (by omega) ?_)) | (show _ ∧ _; (refine ⟨?_, ?_⟩)) | (show keepK _ _ _ _ _; (refine keep_of (by first | exact List.Sublist.refl _ | exact List.Sublist.cons _ (List.Sublist.refl _) | exact List.Sublist.cons _ (List.Sublist.cons _ (List.Sublist.refl _)) | exact List.Sublist.cons _ (List.Sublist.cons _ (List.Sublist.cons _ (List.Sublist.refl _)))) (by first | exact (fun _ _ h => h) | exact (fun _ _ h => h.1) | exact (fun _ _ h => h.1.1)) ?_)) | (show ownK _ _ _ _ _; (refine own_keep ?_))))
  refine Wp.loop (σ := Nat × List IntsV × ShapesV) 2 (fun ⟨i, _, cur⟩ => [(2, .lp 0 0 0 0), (1, .c cur.val), (8, .c sv.val), (10, .os 1 g.l.length), (32, .c (.slice g.base g.l.length g.cap)), (33, .c (.int .i64 g.l.length)), (34, .c (.int .i64 i))]) (fun ⟨_, kn, _⟩ => [(1, .rows (shRows (gridK g.l.length kn)) 1 32), (0, .box [.c (.slice g.base g.l.length g.cap), .c (.int .i64 g.out)] 24)]) (fun ⟨_, kn, _⟩ => ((baseA w).and ((shapesD sv).past w.heap.size)).and (eachA w.heap.size kn))
    (fun ⟨i, kn, cur⟩ => i ≤ g.l.length ∧ Known g kn i ∧ InV.ok w cur ∧ valsR (g.l.drop i) ((check g).2.drop i) (kn.map IntsV.xs) (cur.l.map IntsV.xs) = valsG g (iv.l.map IntsV.xs)) (fun s => g.l.length - s.1) (0, [], iv) [] (by decide) (fun s => ⟨rfl, rfl⟩) ⟨Nat.zero_le _, ⟨rfl, fun u hu => by simp at hu, fun j u s q hu => by simp at hu⟩, hiv, rfl⟩ ⟨rfl, ⟨rfl, rfl, rfl, rfl, rfl, rfl, rfl, trivial⟩, ⟨?_, (by repeat (first | exact List.mem_cons_self | apply List.mem_cons_of_mem)), trivial⟩, fun R w h => ⟨⟨h.1.1, h.2⟩, eachA_nil _ R w⟩⟩ ?_
  · have : shRows (gridK g.l.length []) = List.replicate g.l.length [Value.slice none 0 0] := by simp [shRows, gridK]; exact .inr rfl
    show (1, Ent.rows (shRows (gridK g.l.length [])) 1 32) ∈ _
    rw [this]
    exact (by repeat (first | exact List.mem_cons_self | apply List.mem_cons_of_mem))
  rintro ⟨i, kn, cur⟩ ⟨hi, hkn, hcur, hv⟩
  have hkl := hkn.len
  have hcf := hcur.few
  by_cases hlt : i < g.l.length
  · obtain ⟨a, ha⟩ : ∃ a, g.base = some a := base_some (j := i) hg.rows (by rw [nodeRows_length]; omega)
    have hnm := List.getElem_mem hlt
    obtain ⟨s, hs, hni⟩ := hin i g.l[i] (List.getElem?_eq_getElem hlt)
    obtain ⟨p, hp, hpe, hp1, hp2⟩ := hsi i g.l[i] (List.getElem?_eq_getElem hlt)
    have hdrop : g.l.drop i = g.l[i] :: g.l.drop (i + 1) := List.drop_eq_getElem_cons hlt
    have hsd : (check g).2.drop i = s :: (check g).2.drop (i + 1) := by
      obtain ⟨hls, hse⟩ := List.getElem?_eq_some_iff.1 hs
      rw [List.drop_eq_getElem_cons hls, hse]
    rw [hdrop, hsd] at hv
    have hrow := nodeRows_get hlt
    generalize g.l[i] = n at *
    have hn := hg.each n hnm
    have hnk := hnl n hnm
    have hti : ((check g).2.take i).length = i := by rw [List.length_take, hcl]; omega
    have hform := hni.form
    rw [hti] at hform
    obtain ⟨hA, hB, h7, h8, h2⟩ := ahead_of hform
    obtain ⟨nd, nb, nlo, nhi, nle⟩ := near_in hni.near
    have hkind := (formed_of hform).kind
    unfold nlin at hnk
    obtain ⟨u, hu, hus⟩ : ∃ u, sv.l[i]? = some u ∧ u.xs = s := by
      have hs' := hs
      rw [← hm, List.getElem?_map] at hs'
      cases hu : sv.l[i]? with
      | none => rw [hu] at hs'; simp at hs'
      | some u => rw [hu] at hs'; exact ⟨u, rfl, by simpa using hs'⟩
    obtain ⟨cnt, hcnt⟩ : ∃ cnt : Nat, entries u.xs = cnt := ⟨(entries u.xs).toNat, by have := (entries_bd u.xs).1; omega⟩
    have hcb := (entries_bd u.xs).2
    by_cases hk1 : n.kind = 1
    · obtain ⟨cb, cc, cl⟩ := cur
      cases cl with
      | nil =>
        have hv1 : valsR (n :: g.l.drop (i + 1)) (s :: (check g).2.drop (i + 1)) (kn.map IntsV.xs) [] = (12, []) := by
          conv => lhs; unfold valsR
          rw [if_neg (fun h => h hk1)]
        have hv2 : valsG g (iv.l.map IntsV.xs) = (12, []) := by rw [← hv]; exact hv1
        (repeat' ((conv => whnf) <;> first | (show @cmpK _ _ _; (refine cmp_yes rfl ?_)) | (show idxK _ _ _ _ _; (refine idx_of a i ha rfl hlt ?_)) | (show roAggK _ _ _ _; (refine roAgg_row (fun R w' h => by rw [← ha]; exact rows_base h.1.1 hg.rows) _ hrow rfl ?_)) | (show callK _ 75 _ _ _ _ _; (refine call_pure (f := 75) Try.call75 (placeV n (.slice none 0 0) .nilFunc cnt) (fun ρ w' hw => hcnt ▸ at_plain w' n sv (holds_of_abs hw fun R h => shapes_okI hsv (by omega) h.1.2) i u hu hnk) ?_)) | (show drawK _ 11 _ _ _ _ _ _; (refine draw_tree tabOk mixed [15] _ (.take 0 (.take 1 (.take 2 (.take 3 (.take 4 (.take 5 (.take 6 (.take 7 (.take 8 (.take 9 (.take 10 (.take 11 (.take 12 (.one 13 (.take 14 (.one 15 (.done))))))))))))))))) (by kernel_rfl) (by kernel_rfl) (by kernel_rfl) (List.Sublist.refl _) ?_)) | (show drawK _ 12 _ _ _ _ _ _; (refine draw_quiet tabOk mixed (by kernel_rfl) ?_)) | (show drawK _ 14 _ _ _ _ _ _; (refine draw_tree tabOk mixed [9] _ (.take 0 (.take 1 (.take 2 (.take 3 (.take 4 (.alt 5 (.take 8 (.alt 6 (.alt 7 (.one 9 (.one 10 (.done))) (.one 9 (.one 7 (.one 10 (.done))))) (.one 9 (.one 6 (.one 7 (.one 10 (.done))))))) (.one 6 (.alt 5 (.take 8 (.alt 7 (.one 9 (.one 10 (.done))) (.one 9 (.one 7 (.one 10 (.done)))))) (.one 7 (.one 5 (.take 8 (.one 9 (.one 10 (.done)))))))))))))) (by kernel_rfl) (by kernel_rfl) (by kernel_rfl) (List.Sublist.refl _) ?_)) | (show Wp _ _ _ _ _ _ _; (refine Wp.go tabOk rfl ?_)) | (show @cmpK _ _ _; (first | refine cmp_yes (by omega) ?_ | refine cmp_no (by omega) ?_ | (refine cmp_both ?_ ?_ <;> intro _))) | (show wrapK _ _ _; (refine wrap_i64 (by omega) (by omega) ?_)) | (show leK _ _ _; (refine le_of (by first | exact Nat.le_refl _ | omega) ?_)) | (show roomK _ _ _; (refine room_of (by first | omega | (dsimp only; omega)) ?_)) | (show ltK _ _ _; (refine lt_of (by omega) ?_)) | (show _ ∧ _; (refine ⟨?_, ?_⟩)) | (show keepK _ _ _ _ _; (refine keep_of (by first | exact List.Sublist.refl _ | exact List.Sublist.cons _ (List.Sublist.refl _) | exact List.Sublist.cons _ (List.Sublist.cons _ (List.Sublist.refl _)) | exact List.Sublist.cons _ (List.Sublist.cons _ (List.Sublist.cons _ (List.Sublist.refl _)))) (by first | exact (fun _ _ h => h) | exact (fun _ _ h => h.1) | exact (fun _ _ h => h.1.1)) ?_)) | (show ownK _ _ _ _ _; (refine own_keep ?_))))
        all_goals (conv => whnf)
        all_goals exact run_bad12 (fun _ _ h => h.1.1) rfl hv2 (fun _ => rfl)
      | cons x xs =>
        obtain ⟨ca, hca⟩ : ∃ a, cb = some a := base_some (j := 0) hcur.rows (by show 0 < (shRows (x :: xs)).length; rw [shRows_length]; exact Nat.succ_pos _)
        subst hca
        have hxok : x.ok w := hcur.each x List.mem_cons_self
        have hcs : entries s = cnt := by rw [← hus]; exact hcnt
        have hroom := hcur.room
        have hxl : xs.length + 1 ≤ cc := hroom
        have hne0 : ¬ ((({ base := some ca, cap := cc, l := x :: xs } : ShapesV).l.length : Nat) : Int) = 0 := by show ¬ ((xs.length + 1 : Nat) : Int) = 0; omega
        have hpos : 1 ≤ cnt := by
          have hso := hni.shape
          unfold shapeO at hso
          rw [if_pos (.inl hk1), Option.some.injEq] at hso
          have := (formed_of hform).own (.inl hk1)
          rw [hso] at this
          omega
        by_cases hbad : (x.xs.length : Int) ≠ entries s ∨ foldI min x.xs < n.lo ∨ n.hi < foldI max x.xs
        · have hv1 : valsR (n :: g.l.drop (i + 1)) (s :: (check g).2.drop (i + 1)) (kn.map IntsV.xs) (x.xs :: xs.map IntsV.xs) = (12, []) := by
            conv => lhs; unfold valsR
            rw [if_neg (fun h => h hk1)]
            simp only
            rw [if_pos hbad]
          have hv2 : valsG g (iv.l.map IntsV.xs) = (12, []) := by rw [← hv]; exact hv1
          rw [hcs] at hbad
          (repeat' ((conv => whnf) <;> first | (show @cmpK _ _ _; (refine cmp_no hne0 ?_)) | (show idxK _ _ _ _ _; (first | refine idx_of a i ha rfl hlt ?_ | refine idx_of ca 0 rfl rfl (by omega) ?_)) | (show roAggK _ _ _ _; (refine roAgg_row (fun R w' h => by rw [← ha]; exact rows_base h.1.1 hg.rows) _ hrow rfl ?_)) | (show roK _ _ _; (refine ro_row0 (fun R w' h => rows_base h.1.1 hcur.rows) _ _ (j := 0) rfl rfl ?_)) | (show idxRowK _ _ _ _ _ _; (refine idxRow_of i rfl hlt (by rw [shRows_length, gridK_length (by omega)]; exact Nat.le_refl _) ?_)) | (show callK _ 75 _ _ _ _ _; (refine call_pure (f := 75) Try.call75 (placeV n (.slice none 0 0) .nilFunc cnt) (fun ρ w' hw => hcnt ▸ at_plain w' n sv (holds_of_abs hw fun R h => shapes_okI hsv (by omega) h.1.2) i u hu hnk) ?_)) | (show callQ _ 77 _ _ _ _ _; (refine callQ_of (f := 77) Try.call77 (.int .i64 (foldI min x.xs)) (fun ρ w' hw => min_any w' x (holds_of_abs hw fun R h => hxok.later h.1.1) (by omega)) ?_)) | (show callQ _ 78 _ _ _ _ _; (refine callQ_of (f := 78) Try.call78 (.int .i64 (foldI max x.xs)) (fun ρ w' hw => max_any w' x (holds_of_abs hw fun R h => hxok.later h.1.1) (by omega)) ?_)) | (show drawK _ 11 _ _ _ _ _ _; (refine draw_tree tabOk mixed [15] _ (.take 0 (.take 1 (.take 2 (.take 3 (.take 4 (.take 5 (.take 6 (.take 7 (.take 8 (.take 9 (.take 10 (.take 11 (.take 12 (.one 13 (.take 14 (.one 15 (.done))))))))))))))))) (by kernel_rfl) (by kernel_rfl) (by kernel_rfl) (List.Sublist.refl _) ?_)) | (show drawK _ 12 _ _ _ _ _ _; (refine draw_quiet tabOk mixed (by kernel_rfl) ?_)) | (show drawK _ 14 _ _ _ _ _ _; (refine draw_tree tabOk mixed [9] _ (.take 0 (.take 1 (.take 2 (.take 3 (.take 4 (.alt 5 (.take 8 (.alt 6 (.alt 7 (.one 9 (.one 10 (.done))) (.one 9 (.one 7 (.one 10 (.done))))) (.one 9 (.one 6 (.one 7 (.one 10 (.done))))))) (.one 6 (.alt 5 (.take 8 (.alt 7 (.one 9 (.one 10 (.done))) (.one 9 (.one 7 (.one 10 (.done)))))) (.one 7 (.one 5 (.take 8 (.one 9 (.one 10 (.done)))))))))))))) (by kernel_rfl) (by kernel_rfl) (by kernel_rfl) (List.Sublist.refl _) ?_)) | (show Wp _ _ _ _ _ _ _; (refine Wp.go tabOk rfl ?_)) | (show @cmpK _ _ _; (first | refine cmp_yes (by omega) ?_ | refine cmp_no (by omega) ?_ | (refine cmp_both ?_ ?_ <;> intro _))) | (show wrapK _ _ _; (refine wrap_i64 (by omega) (by omega) ?_)) | (show leK _ _ _; (refine le_of (by first | exact Nat.le_refl _ | omega) ?_)) | (show roomK _ _ _; (refine room_of (by first | omega | (dsimp only; omega)) ?_)) | (show ltK _ _ _; (refine lt_of (by omega) ?_)) | (show _ ∧ _; (refine ⟨?_, ?_⟩)) | (show keepK _ _ _ _ _; (refine keep_of (by first | exact List.Sublist.refl _ | exact List.Sublist.cons _ (List.Sublist.refl _) | exact List.Sublist.cons _ (List.Sublist.cons _ (List.Sublist.refl _)) | exact List.Sublist.cons _ (List.Sublist.cons _ (List.Sublist.cons _ (List.Sublist.refl _)))) (by first | exact (fun _ _ h => h) | exact (fun _ _ h => h.1) | exact (fun _ _ h => h.1.1)) ?_)) | (show ownK _ _ _ _ _; (refine own_keep ?_))))
          all_goals (conv => whnf)
          all_goals first | (exfalso; omega) | exact run_bad12 (fun _ _ h => h.1.1) rfl hv2 (fun _ => rfl)
        · have hv1 : valsR (n :: g.l.drop (i + 1)) (s :: (check g).2.drop (i + 1)) (kn.map IntsV.xs) (x.xs :: xs.map IntsV.xs) = valsR (g.l.drop (i + 1)) ((check g).2.drop (i + 1)) (kn.map IntsV.xs ++ [x.xs]) (xs.map IntsV.xs) := by
            conv => lhs; unfold valsR
            rw [if_neg (fun h => h hk1)]
            simp only
            rw [if_neg hbad]
          have hv2 := hv1.symm.trans hv
          rw [hcs] at hbad
          have hwi : within p x.xs := by
            rw [hpe]
            have hL : endsL n (((spansG g).2.take i).getD n.a.toNat (0, 0)) (((spansG g).2.take i).getD n.b.toNat (0, 0)) = [n.lo, n.hi] := if_pos hk1
            unfold spanOf
            rw [hL]
            intro z hz
            have m1 : foldI min [n.lo, n.hi] = min n.lo n.hi := rfl
            have m2 : foldI max [n.lo, n.hi] = max n.lo n.hi := rfl
            have := foldI_min_le hz
            have := foldI_max_ge hz
            simp only [m1, m2]
            omega
          (repeat' ((conv => whnf) <;> first | (show @cmpK _ _ _; (refine cmp_no hne0 ?_)) | (show idxK _ _ _ _ _; (first | refine idx_of a i ha rfl hlt ?_ | refine idx_of ca 0 rfl rfl (by omega) ?_)) | (show roAggK _ _ _ _; (refine roAgg_row (fun R w' h => by rw [← ha]; exact rows_base h.1.1 hg.rows) _ hrow rfl ?_)) | (show roK _ _ _; (refine ro_row0 (fun R w' h => rows_base h.1.1 hcur.rows) _ _ (j := 0) rfl rfl ?_)) | (show idxRowK _ _ _ _ _ _; (refine idxRow_of i rfl hlt (by rw [shRows_length, gridK_length (by omega)]; exact Nat.le_refl _) ?_)) | (show callK _ 75 _ _ _ _ _; (refine call_pure (f := 75) Try.call75 (placeV n (.slice none 0 0) .nilFunc cnt) (fun ρ w' hw => hcnt ▸ at_plain w' n sv (holds_of_abs hw fun R h => shapes_okI hsv (by omega) h.1.2) i u hu hnk) ?_)) | (show callQ _ 77 _ _ _ _ _; (refine callQ_of (f := 77) Try.call77 (.int .i64 (foldI min x.xs)) (fun ρ w' hw => min_any w' x (holds_of_abs hw fun R h => hxok.later h.1.1) (by omega)) ?_)) | (show callQ _ 78 _ _ _ _ _; (refine callQ_of (f := 78) Try.call78 (.int .i64 (foldI max x.xs)) (fun ρ w' hw => max_any w' x (holds_of_abs hw fun R h => hxok.later h.1.1) (by omega)) ?_)) | (show drawK _ 14 _ _ _ _ _ _; (refine draw_tree tabOk mixed [] [] (.take 0 (.take 1 (.take 2 (.take 6 (.alt 3 (.alt 4 (.alt 5 (.alt 7 (.one 8 (.one 9 (.take 10 (.done)))) (.one 8 (.alt 7 (.one 9 (.take 10 (.done))) (.one 9 (.one 7 (.take 10 (.done))))))) (.one 7 (.one 5 (.one 8 (.one 9 (.take 10 (.done))))))) (.one 7 (.one 4 (.one 5 (.one 8 (.one 9 (.take 10 (.done)))))))) (.one 7 (.one 3 (.one 4 (.one 5 (.one 8 (.one 9 (.take 10 (.done))))))))))))) (by kernel_rfl) (by kernel_rfl) (by kernel_rfl) (List.nil_sublist _) ?_)) | (show keepK _ _ _ _ _; (refine keep_of (by repeat (first | exact List.Sublist.refl _ | exact List.nil_sublist _ | apply List.Sublist.cons_cons | apply List.Sublist.cons)) (by first | exact (fun _ _ h => h) | exact (fun _ _ h => h.1) | exact (fun _ _ h => h.1.1)) ?_)) | (show callK _ 45 _ _ _ _ _; (refine call_clone x.xs Try.call45 hxok.fits hxok.few (fun ρ w' hw => clone_any w' x (holds_of_abs hw fun R h => hxok.later h.1.1) (by omega)) (fun y hy hys => ?_))) | (show sliceK _ _ _ _ _ _ _ _; (refine slice_oneI (by omega) (by omega) ?_)) | (show rowStoreK _ _ _ _ _; (refine gridK_store hkl hlt ?_)) | (show drawK _ 11 _ _ _ _ _ _; (refine draw_tree tabOk mixed [15] _ (.take 0 (.take 1 (.take 2 (.take 3 (.take 4 (.take 5 (.take 6 (.take 7 (.take 8 (.take 9 (.take 10 (.take 11 (.take 12 (.one 13 (.take 14 (.one 15 (.done))))))))))))))))) (by kernel_rfl) (by kernel_rfl) (by kernel_rfl) (List.Sublist.refl _) ?_)) | (show drawK _ 12 _ _ _ _ _ _; (refine draw_quiet tabOk mixed (by kernel_rfl) ?_)) | (show Wp _ _ _ _ _ _ _; (refine Wp.go tabOk rfl ?_)) | (show @cmpK _ _ _; (first | refine cmp_yes (by omega) ?_ | refine cmp_no (by omega) ?_ | (refine cmp_both ?_ ?_ <;> intro _))) | (show wrapK _ _ _; (refine wrap_i64 (by omega) (by omega) ?_)) | (show leK _ _ _; (refine le_of (by first | exact Nat.le_refl _ | omega) ?_)) | (show roomK _ _ _; (refine room_of (by first | omega | (dsimp only; omega)) ?_)) | (show ltK _ _ _; (refine lt_of (by omega) ?_)) | (show _ ∧ _; (refine ⟨?_, ?_⟩)) | (show keepK _ _ _ _ _; (refine keep_of (by first | exact List.Sublist.refl _ | exact List.Sublist.cons _ (List.Sublist.refl _) | exact List.Sublist.cons _ (List.Sublist.cons _ (List.Sublist.refl _)) | exact List.Sublist.cons _ (List.Sublist.cons _ (List.Sublist.cons _ (List.Sublist.refl _)))) (by first | exact (fun _ _ h => h) | exact (fun _ _ h => h.1) | exact (fun _ _ h => h.1.1)) ?_)) | (show ownK _ _ _ _ _; (refine own_keep ?_))))
          all_goals (conv => whnf)
          all_goals exact ⟨(i + 1, kn ++ [y], ⟨some (if cc = 1 then ca else ca.add 1), cc - 1, xs⟩), [], ⟨hlt, known_snoc hkn hys hp hs (by rw [hy]; exact hwi) (by rw [hy, hcs]; omega), InV.rest_ok hcur rfl, by rw [List.map_append, List.map_cons, List.map_nil, hy]; exact hv2⟩, by simp only; omega, rfl, ⟨rfl, rfl, rfl, rfl, rfl, rfl, rfl, trivial⟩, ⟨(by repeat (first | exact List.mem_cons_self | apply List.mem_cons_of_mem)), (by repeat (first | exact List.mem_cons_self | apply List.mem_cons_of_mem)), trivial⟩, fun R w' h => ⟨h.1.1, eachA_snoc h.1.2 h.2⟩⟩
    · have hv1 : valsR (n :: g.l.drop (i + 1)) (s :: (check g).2.drop (i + 1)) (kn.map IntsV.xs) (cur.l.map IntsV.xs) = valsR (g.l.drop (i + 1)) ((check g).2.drop (i + 1)) (kn.map IntsV.xs ++ [numsL n cnt (kn.getD n.a.toNat nilI).xs (kn.getD n.b.toNat nilI).xs]) (cur.l.map IntsV.xs) := by
        conv => lhs; unfold valsR
        rw [if_pos hk1, getD_xs, getD_xs, ← hus, hcnt]; rfl
      rw [hv1] at hv
      have hcs : entries s = cnt := by rw [← hus]; exact hcnt
      have gA := gridK_getD (n := g.l.length) (l := kn) (j := n.a.toNat) (by omega) (by omega)
      have gB := gridK_getD (n := g.l.length) (l := kn) (j := n.b.toNat) (by omega) (by omega)
      (repeat' ((conv => whnf) <;> first | (show idxK _ _ _ _ _; (refine idx_of a i ha rfl hlt ?_)) | (show roAggK _ _ _ _; (refine roAgg_row (fun R w' h => by rw [← ha]; exact rows_base h.1.1 hg.rows) _ hrow rfl ?_)) | (show callK _ 75 _ _ _ _ _; (refine call_pure (f := 75) Try.call75 (placeV n (.slice none 0 0) .nilFunc cnt) (fun ρ w' hw => hcnt ▸ at_plain w' n sv (holds_of_abs hw fun R h => shapes_okI hsv (by omega) h.1.2) i u hu hnk) ?_)) | (show idxRowK _ _ _ _ _ _; (first | refine idxRow_of n.a.toNat (by omega) (by omega) (by rw [shRows_length, gridK_length (by omega)]; exact Nat.le_refl _) ?_ | refine idxRow_of n.b.toNat (by omega) (by omega) (by rw [shRows_length, gridK_length (by omega)]; exact Nat.le_refl _) ?_ | refine idxRow_of i rfl hlt (by rw [shRows_length, gridK_length (by omega)]; exact Nat.le_refl _) ?_)) | (show rowK _ _ _ _; (first | refine row_of _ _ gA rfl ?_ | refine row_of _ _ gB rfl ?_)) | (show keepK _ _ _ _ _; (refine keep_of (by repeat (first | exact List.Sublist.refl _ | exact List.nil_sublist _ | apply List.Sublist.cons_cons | apply List.Sublist.cons)) (by first | exact (fun _ _ h => h) | exact (fun _ _ h => h.1) | exact (fun _ _ h => h.1.1)) ?_)) | (show callK _ 80 _ _ _ _ _; (refine call_past Try.call80 IntsV.val intsA (fun x => x.xs = numsL n cnt (kn.getD n.a.toNat nilI).xs (kn.getD n.b.toNat nilI).xs ∧ x.sane) (fun ρ w' hw => nums_plain w' n (.slice none 0 0) .nilFunc cnt (kn.getD n.a.toNat nilI) (kn.getD n.b.toNat nilI) (holds_of_abs hw fun R h => nums_ready hsp hkn hlt hni hnk hk1 hcs (hn.data.later h.1.1) (fun k => getD_kn hkn.sane h.2 k))) (fun x hx => ?_))) | (show rowStoreK _ _ _ _ _; (refine gridK_store hkl hlt ?_)) | (show drawK _ 11 _ _ _ _ _ _; (refine draw_tree tabOk mixed [15] _ (.take 0 (.take 1 (.take 2 (.take 3 (.take 4 (.take 5 (.take 6 (.take 7 (.take 8 (.take 9 (.take 10 (.take 11 (.take 12 (.one 13 (.take 14 (.one 15 (.done))))))))))))))))) (by kernel_rfl) (by kernel_rfl) (by kernel_rfl) (List.Sublist.refl _) ?_)) | (show drawK _ 12 _ _ _ _ _ _; (refine draw_quiet tabOk mixed (by kernel_rfl) ?_)) | (show drawK _ 14 _ _ _ _ _ _; (refine draw_tree tabOk mixed [9] _ (.take 0 (.take 1 (.take 2 (.take 3 (.take 4 (.alt 5 (.take 8 (.alt 6 (.alt 7 (.one 9 (.one 10 (.done))) (.one 9 (.one 7 (.one 10 (.done))))) (.one 9 (.one 6 (.one 7 (.one 10 (.done))))))) (.one 6 (.alt 5 (.take 8 (.alt 7 (.one 9 (.one 10 (.done))) (.one 9 (.one 7 (.one 10 (.done)))))) (.one 7 (.one 5 (.take 8 (.one 9 (.one 10 (.done)))))))))))))) (by kernel_rfl) (by kernel_rfl) (by kernel_rfl) (List.Sublist.refl _) ?_)) | (show Wp _ _ _ _ _ _ _; (refine Wp.go tabOk rfl ?_)) | (show @cmpK _ _ _; (first | refine cmp_yes (by omega) ?_ | refine cmp_no (by omega) ?_ | (refine cmp_both ?_ ?_ <;> intro _))) | (show wrapK _ _ _; (refine wrap_i64 (by omega) (by omega) ?_)) | (show leK _ _ _; (refine le_of (by first | exact Nat.le_refl _ | omega) ?_)) | (show roomK _ _ _; (refine room_of (by first | omega | (dsimp only; omega)) ?_)) | (show ltK _ _ _; (refine lt_of (by omega) ?_)) | (show _ ∧ _; (refine ⟨?_, ?_⟩)) | (show keepK _ _ _ _ _; (refine keep_of (by first | exact List.Sublist.refl _ | exact List.Sublist.cons _ (List.Sublist.refl _) | exact List.Sublist.cons _ (List.Sublist.cons _ (List.Sublist.refl _)) | exact List.Sublist.cons _ (List.Sublist.cons _ (List.Sublist.cons _ (List.Sublist.refl _)))) (by first | exact (fun _ _ h => h) | exact (fun _ _ h => h.1) | exact (fun _ _ h => h.1.1)) ?_)) | (show ownK _ _ _ _ _; (refine own_keep ?_))))
      all_goals (conv => whnf)
      all_goals exact ⟨(i + 1, kn ++ [x], cur), [], ⟨hlt, known_snoc hkn hx.2 hp hs (by rw [hx.1, hpe]; exact nums_within hsp hkn hlt hni hnk hk1 hcs) (by rw [hx.1, hcs]; simp [numsL]), hcur, by rw [List.map_append, List.map_cons, List.map_nil, hx.1]; exact hv⟩, by simp only; omega, rfl, ⟨rfl, rfl, rfl, rfl, rfl, rfl, rfl, trivial⟩, ⟨(by repeat (first | exact List.mem_cons_self | apply List.mem_cons_of_mem)), (by repeat (first | exact List.mem_cons_self | apply List.mem_cons_of_mem)), trivial⟩, fun R w' h => ⟨h.1.1, eachA_snoc h.1.2 h.2⟩⟩
  · obtain rfl : i = g.l.length := by omega
    rw [List.drop_length] at hv
    have hgO := gridK_getD (n := g.l.length) (l := kn) (j := g.out.toNat) (by omega) (by omega)
    by_cases hrest : 0 < cur.l.length
    · have hv2 : valsG g (iv.l.map IntsV.xs) = (12, []) := by
        rw [← hv]
        conv => lhs; unfold valsR
        rw [if_pos (by simpa using hrest)]
      (repeat' ((conv => whnf) <;> first | (show drawK _ 11 _ _ _ _ _ _; (refine draw_tree tabOk mixed [15] _ (.take 0 (.take 1 (.take 2 (.take 3 (.take 4 (.take 5 (.take 6 (.take 7 (.take 8 (.take 9 (.take 10 (.take 11 (.take 12 (.one 13 (.take 14 (.one 15 (.done))))))))))))))))) (by kernel_rfl) (by kernel_rfl) (by kernel_rfl) (List.Sublist.refl _) ?_)) | (show drawK _ 12 _ _ _ _ _ _; (refine draw_quiet tabOk mixed (by kernel_rfl) ?_)) | (show drawK _ 14 _ _ _ _ _ _; (refine draw_tree tabOk mixed [9] _ (.take 0 (.take 1 (.take 2 (.take 3 (.take 4 (.alt 5 (.take 8 (.alt 6 (.alt 7 (.one 9 (.one 10 (.done))) (.one 9 (.one 7 (.one 10 (.done))))) (.one 9 (.one 6 (.one 7 (.one 10 (.done))))))) (.one 6 (.alt 5 (.take 8 (.alt 7 (.one 9 (.one 10 (.done))) (.one 9 (.one 7 (.one 10 (.done)))))) (.one 7 (.one 5 (.take 8 (.one 9 (.one 10 (.done)))))))))))))) (by kernel_rfl) (by kernel_rfl) (by kernel_rfl) (List.Sublist.refl _) ?_)) | (show Wp _ _ _ _ _ _ _; (refine Wp.go tabOk rfl ?_)) | (show @cmpK _ _ _; (first | refine cmp_yes (by omega) ?_ | refine cmp_no (by omega) ?_ | (refine cmp_both ?_ ?_ <;> intro _))) | (show wrapK _ _ _; (refine wrap_i64 (by omega) (by omega) ?_)) | (show leK _ _ _; (refine le_of (by first | exact Nat.le_refl _ | omega) ?_)) | (show roomK _ _ _; (refine room_of (by first | omega | (dsimp only; omega)) ?_)) | (show ltK _ _ _; (refine lt_of (by omega) ?_)) | (show _ ∧ _; (refine ⟨?_, ?_⟩)) | (show keepK _ _ _ _ _; (refine keep_of (by first | exact List.Sublist.refl _ | exact List.Sublist.cons _ (List.Sublist.refl _) | exact List.Sublist.cons _ (List.Sublist.cons _ (List.Sublist.refl _)) | exact List.Sublist.cons _ (List.Sublist.cons _ (List.Sublist.cons _ (List.Sublist.refl _)))) (by first | exact (fun _ _ h => h) | exact (fun _ _ h => h.1) | exact (fun _ _ h => h.1.1)) ?_)) | (show ownK _ _ _ _ _; (refine own_keep ?_))))
      conv => whnf
      exact run_bad12 (fun _ _ h => h.1.1) rfl hv2 (fun _ => rfl)
    · have hv2 : valsG g (iv.l.map IntsV.xs) = (0, kn.map IntsV.xs) := by
        rw [← hv]
        conv => lhs; unfold valsR
        rw [if_neg (by simpa using hrest)]
      (repeat' ((conv => whnf) <;> first | (show idxRowK _ _ _ _ _ _; (refine idxRow_of g.out.toNat (by omega) (by omega) (by rw [shRows_length, gridK_length (by omega)]; exact Nat.le_refl _) ?_)) | (show rowK _ _ _ _; (refine row_of _ _ hgO rfl ?_)) | (show drawK _ 11 _ _ _ _ _ _; (refine draw_tree tabOk mixed [15] _ (.take 0 (.take 1 (.take 2 (.take 3 (.take 4 (.take 5 (.take 6 (.take 7 (.take 8 (.take 9 (.take 10 (.take 11 (.take 12 (.one 13 (.take 14 (.one 15 (.done))))))))))))))))) (by kernel_rfl) (by kernel_rfl) (by kernel_rfl) (List.Sublist.refl _) ?_)) | (show drawK _ 12 _ _ _ _ _ _; (refine draw_quiet tabOk mixed (by kernel_rfl) ?_)) | (show drawK _ 14 _ _ _ _ _ _; (refine draw_tree tabOk mixed [9] _ (.take 0 (.take 1 (.take 2 (.take 3 (.take 4 (.alt 5 (.take 8 (.alt 6 (.alt 7 (.one 9 (.one 10 (.done))) (.one 9 (.one 7 (.one 10 (.done))))) (.one 9 (.one 6 (.one 7 (.one 10 (.done))))))) (.one 6 (.alt 5 (.take 8 (.alt 7 (.one 9 (.one 10 (.done))) (.one 9 (.one 7 (.one 10 (.done)))))) (.one 7 (.one 5 (.take 8 (.one 9 (.one 10 (.done)))))))))))))) (by kernel_rfl) (by kernel_rfl) (by kernel_rfl) (List.Sublist.refl _) ?_)) | (show Wp _ _ _ _ _ _ _; (refine Wp.go tabOk rfl ?_)) | (show @cmpK _ _ _; (first | refine cmp_yes (by omega) ?_ | refine cmp_no (by omega) ?_ | (refine cmp_both ?_ ?_ <;> intro _))) | (show wrapK _ _ _; (refine wrap_i64 (by omega) (by omega) ?_)) | (show leK _ _ _; (refine le_of (by first | exact Nat.le_refl _ | omega) ?_)) | (show roomK _ _ _; (refine room_of (by first | omega | (dsimp only; omega)) ?_)) | (show ltK _ _ _; (refine lt_of (by omega) ?_)) | (show _ ∧ _; (refine ⟨?_, ?_⟩)) | (show keepK _ _ _ _ _; (refine keep_of (by first | exact List.Sublist.refl _ | exact List.Sublist.cons _ (List.Sublist.refl _) | exact List.Sublist.cons _ (List.Sublist.cons _ (List.Sublist.refl _)) | exact List.Sublist.cons _ (List.Sublist.cons _ (List.Sublist.cons _ (List.Sublist.refl _)))) (by first | exact (fun _ _ h => h) | exact (fun _ _ h => h.1) | exact (fun _ _ h => h.1.1)) ?_)) | (show ownK _ _ _ _ _; (refine own_keep ?_))))
      conv => whnf
      have hko : g.out.toNat < kn.length := by omega
      have hge : kn.getD g.out.toNat nilI = kn[g.out.toNat] := by rw [List.getD_eq_getElem?_getD, List.getElem?_eq_getElem hko]; rfl
      exact run_good0 (fun _ _ h => h.1.1) rfl (by rw [hge]; exact hkn.sane _ (List.getElem_mem hko)) hv2 (getD_xs _ _).symm (fun R w' h => by rw [hge]; exact h.2 _ (List.getElem_mem hko))
end Go.Proofs.Ytajbngkcgbehlaa
/- II -/
namespace Go.Proofs.Ytajbngkcgbehlaa
open Go.SX Go.RowKit
/-! a graph of an input and a quadratic -/
def inN (u : IntsV) (lo hi : Int) : NodeV := ⟨1, 0, 0, u, lo, hi, 0, nilI, nilI⟩
def powN (v : IntsV) : NodeV := ⟨8, 0, 0, nilI, 0, 0, 0, v, nilI⟩
def g2 (nb : Option Addr) (nc : Nat) (u v : IntsV) (lo hi : Int) : GraphV := ⟨nb, nc, [inN u lo hi, powN v], 1⟩
theorem ent1 : entries [1] = 1 := by unfold entries; decide
theorem bd_near {l : List Int} (h : ∀ x ∈ l, bd20 x) : nearL l = true := List.all_eq_true.2 fun x hx => by have := h x hx; unfold bd20 at this; simpa using this
theorem check_g2 {nb : Option Addr} {nc : Nat} {u v : IntsV} {lo hi : Int} (hu : u.xs = [1]) (hv : v.xs.length = 3) (hb : ∀ x ∈ v.xs, bd20 x) (hlo : bd20 lo) (hhi : bd20 hi) (hle : lo ≤ hi) : check (g2 nb nc u v lo hi) = (0, [[1], [1]]) := by
  have f1 : formB (inN u lo hi) (([] : List (List Int)).length : Nat) = true := by
    unfold formB inN
    rw [if_pos rfl]
    unfold lacksB
    simp [hu, ent1, nilI]
  have s1 : shapeO (inN u lo hi) [] = some [1] := by
    unfold shapeO inN
    rw [if_pos (.inl rfl)]
    simp [hu]
  have n1 : nearB (inN u lo hi) = true := by
    unfold nearB inN
    rw [show nearL nilI.xs = true from rfl, bd_near (l := [lo, hi]) (by intro x hx; simp at hx; rcases hx with rfl | rfl <;> assumption)]
    simp [hle]
  have f2 : formB (powN v) (([] ++ [[1]] : List (List Int)).length : Nat) = true := by
    unfold formB powN
    repeat (first | rw [if_pos rfl] | rw [if_neg (by decide)])
    unfold lacksB aheadB
    simp [hv, nilI]
  have s2 : shapeO (powN v) ([] ++ [[1]]) = some [1] := by
    unfold shapeO powN
    repeat (first | rw [if_pos rfl] | rw [if_neg (by decide)])
    rfl
  have n2 : nearB (powN v) = true := by
    unfold nearB powN
    rw [bd_near hb, show nearL nilI.xs = true from rfl]
    rfl
  unfold check g2
  rw [if_neg (by simp)]
  rw [checkR_next f1 s1 n1, checkR_next f2 s2 n2]
  rfl
theorem spansR_step {n : NodeV} {r : List NodeV} {acc : List Sp} {L : List Int} (h : endsL n (acc.getD n.a.toNat (0, 0)) (acc.getD n.b.toNat (0, 0)) = L) : spansR (n :: r) acc = if foldI min L < -1048576 ∨ 1048576 < foldI max L then (5, []) else spansR r (acc ++ [(foldI min L, foldI max L)]) := by
  subst h; rfl
theorem spans_g2 {nb : Option Addr} {nc : Nat} {u v : IntsV} {lo hi : Int} (hc : check (g2 nb nc u v lo hi) = (0, [[1], [1]])) (hlo : bd20 lo) (hhi : bd20 hi) (hle : lo ≤ hi) :
    spansG (g2 nb nc u v lo hi) = if foldI min (powEnds v.xs (lo, hi)) < -1048576 ∨ 1048576 < foldI max (powEnds v.xs (lo, hi)) then (5, []) else (0, [(lo, hi), (foldI min (powEnds v.xs (lo, hi)), foldI max (powEnds v.xs (lo, hi)))]) := by
  have m1 : foldI min [lo, hi] = lo := by show min lo hi = lo; omega
  have m2 : foldI max [lo, hi] = hi := by show max lo hi = hi; omega
  have e1 : endsL (inN u lo hi) (([] : List Sp).getD 0 (0, 0)) (([] : List Sp).getD 0 (0, 0)) = [lo, hi] := if_pos rfl
  have e2 : endsL (powN v) (([] ++ [(lo, hi)] : List Sp).getD 0 (0, 0)) (([] ++ [(lo, hi)] : List Sp).getD 0 (0, 0)) = powEnds v.xs (lo, hi) := by
    unfold endsL powN
    repeat (first | rw [if_pos rfl] | rw [if_neg (by decide)])
    rfl
  unfold spansG
  rw [hc, if_neg (by simp)]
  unfold bd20 at hlo hhi
  show spansR [inN u lo hi, powN v] [] = _
  rw [spansR_step (n := inN u lo hi) (acc := []) e1, m1, m2, if_neg (by omega), spansR_step (n := powN v) (acc := [] ++ [(lo, hi)]) e2]
  rfl
theorem g2_nlin {nb : Option Addr} {nc : Nat} {u v : IntsV} {lo hi : Int} : ∀ n ∈ (g2 nb nc u v lo hi).l, nlin n := fun n hn => by
  simp only [g2, List.mem_cons, List.not_mem_nil, or_false] at hn
  rcases hn with rfl | rfl
  · exact ⟨(show (1 : Int) ≠ 3 by decide), (show (1 : Int) ≠ 4 by decide), (show (1 : Int) ≠ 5 by decide)⟩
  · exact ⟨(show (8 : Int) ≠ 3 by decide), (show (8 : Int) ≠ 4 by decide), (show (8 : Int) ≠ 5 by decide)⟩
theorem g2_ok {w : World} {nb : Option Addr} {nc : Nat} {u v : IntsV} {lo hi : Int} (hr : RowsI w nb 9 (nodeRows [inN u lo hi, powN v])) (hu : u.ok w) (hv : v.ok w) (hul : u.xs.length ≤ 5000) (hvl : v.xs.length ≤ 5000) (hlo : bd20 lo) (hhi : bd20 hi) : (g2 nb nc u v lo hi).ok w := by
  have hn : nilI.ok w := intsA_ok nilI_sane (nilI_holds (fun _ => True) w)
  unfold bd20 at hlo hhi
  refine ⟨hr, fun n hnm => ?_, fun n hnm => ?_, by show 2 ≤ 1000000; decide, (by show i64 1; exact z1)⟩
  · simp only [g2, List.mem_cons, List.not_mem_nil, or_false] at hnm
    rcases hnm with rfl | rfl
    · exact ⟨hu, hn, hn, z1, z0, z0, ⟨by show _ ≤ lo; omega, by show lo ≤ _; omega⟩, ⟨by show _ ≤ hi; omega, by show hi ≤ _; omega⟩, z0⟩
    · exact ⟨hn, hv, hn, (show i64 8 from ⟨by decide, by decide⟩), z0, z0, z0, z0, z0⟩
  · simp only [g2, List.mem_cons, List.not_mem_nil, or_false] at hnm
    rcases hnm with rfl | rfl
    · exact ⟨by simp [inN, nilI], by simp [inN, nilI]⟩
    · exact ⟨hvl, by simp [powN, nilI]⟩
/-! Most -/
def mostStep (m : Int) (s : Sp) : Int := max (max (max (max m s.1) (0 - s.1)) s.2) (0 - s.2)
def mostL (l : List Sp) : Int := l.foldl mostStep 0
theorem mostL_snoc {l : List Sp} {k : Nat} (h : k < l.length) : mostL (l.take (k + 1)) = mostStep (mostL (l.take k)) l[k] := by
  unfold mostL; rw [List.take_succ_eq_append_getElem h, List.foldl_append]; rfl
theorem mostL_bd : ∀ {l : List Sp} {m : Int}, 0 ≤ m → m ≤ 1048576 → (∀ s ∈ l, bd20 s.1 ∧ bd20 s.2) → 0 ≤ l.foldl mostStep m ∧ l.foldl mostStep m ≤ 1048576
  | [], m, h0, h1, _ => ⟨h0, h1⟩
  | s :: r, m, h0, h1, h => by
    have hs := h s List.mem_cons_self
    unfold bd20 at hs
    exact mostL_bd (l := r) (m := mostStep m s) (by unfold mostStep; omega) (by unfold mostStep; omega) (fun x hx => h x (List.mem_cons_of_mem _ hx))
theorem wrap_mone {z y : Int} {K : Int → Prop} (h : z = y) (h1 : -9223372036854775808 ≤ y) (h2 : y ≤ 9223372036854775807) (hk : K y) : wrapK .i64 z K := by
  subst h; exact wrap_i64 h1 h2 hk
set_option maxRecDepth 20000 in
theorem most_any (w : World) (base : Option Addr) (cap : Nat) (l : List Sp) (hr : RowsI w base 2 (spRows l)) (hb : ∀ s ∈ l, bd20 s.1 ∧ bd20 s.2) (hlen : l.length ≤ 9223372036854775807) : Calls Try.prog 41 #[.slice base l.length cap] w fun e w' => e = .returned (.int .i64 (mostL l)) ∧ Ext w w' := by
  refine calls_of tab tabOk Try.func41 rfl rfl rfl [] (fun _ => ⟨none, 0⟩) [.c (.slice base l.length cap)] [] (baseA w) 0 rfl rfl (by show 1 ≤ _; decide) (abs_base w) ?_
  (repeat' ((conv => whnf) <;> first | (show Wp _ _ _ _ _ _ _; (refine Wp.go tabOk rfl ?_)) | (show @cmpK _ _ _; (first | refine cmp_yes (by omega) ?_ | refine cmp_no (by omega) ?_ | (refine cmp_both ?_ ?_ <;> intro _))) | (show wrapK _ _ _; (refine wrap_i64 (by omega) (by omega) ?_)) | (show leK _ _ _; (refine le_of (by first | exact Nat.le_refl _ | omega) ?_)) | (show roomK _ _ _; (refine room_of (by first | omega | (dsimp only; omega)) ?_)) | (show ltK _ _ _; (refine lt_of (by omega) ?_)) | (show _ ∧ _; (refine ⟨?_, ?_⟩)) | (show keepK _ _ _ _ _; (refine keep_of (by first | exact List.Sublist.refl _ | exact List.Sublist.cons _ (List.Sublist.refl _) | exact List.Sublist.cons _ (List.Sublist.cons _ (List.Sublist.refl _)) | exact List.Sublist.cons _ (List.Sublist.cons _ (List.Sublist.cons _ (List.Sublist.refl _)))) (by first | exact (fun _ _ h => h) | exact (fun _ _ h => h.1) | exact (fun _ _ h => h.1.1)) ?_)) | (show ownK _ _ _ _ _; (refine own_keep ?_))))
  refine Wp.loop (σ := Nat × Int) 0 (fun ⟨k, m⟩ => [(3, .c (.int .i64 m)), (6, .c (.slice base l.length cap)), (7, .c (.int .i64 l.length)), (8, .c (.int .i64 k))]) (fun _ => []) (fun _ => baseA w)
    (fun ⟨k, m⟩ => k ≤ l.length ∧ m = mostL (l.take k)) (fun s => l.length - s.1) (0, 0) [] (by decide) (fun s => ⟨rfl, rfl⟩) ⟨Nat.zero_le _, rfl⟩ ⟨rfl, ⟨rfl, rfl, rfl, rfl, trivial⟩, trivial, fun _ _ h => h⟩ ?_
  rintro ⟨k, m⟩ ⟨hk, hm⟩
  by_cases hlt : k < l.length
  · obtain ⟨a, ha⟩ : ∃ a, base = some a := base_some (j := k) hr (by rw [spRows_length]; exact hlt)
    have hrow := spRows_get hlt
    have hsn := mostL_snoc hlt
    have hbk := hb _ (List.getElem_mem hlt)
    generalize l[k] = s at *
    unfold bd20 at hbk
    (repeat' ((conv => whnf) <;> first | (show idxK _ _ _ _ _; (refine idx_of a k ha rfl hlt ?_)) | (show roAggK _ _ _ _; (refine roAgg_row (fun R w' h => by rw [← ha]; exact rows_base h hr) _ hrow rfl ?_)) | (show Wp _ _ _ _ _ _ _; (refine Wp.go tabOk rfl ?_)) | (show @cmpK _ _ _; (first | refine cmp_yes (by omega) ?_ | refine cmp_no (by omega) ?_ | (refine cmp_both ?_ ?_ <;> intro _))) | (show wrapK _ _ _; (refine wrap_i64 (by omega) (by omega) ?_)) | (show leK _ _ _; (refine le_of (by first | exact Nat.le_refl _ | omega) ?_)) | (show roomK _ _ _; (refine room_of (by first | omega | (dsimp only; omega)) ?_)) | (show ltK _ _ _; (refine lt_of (by omega) ?_)) | (show _ ∧ _; (refine ⟨?_, ?_⟩)) | (show keepK _ _ _ _ _; (refine keep_of (by first | exact List.Sublist.refl _ | exact List.Sublist.cons _ (List.Sublist.refl _) | exact List.Sublist.cons _ (List.Sublist.cons _ (List.Sublist.refl _)) | exact List.Sublist.cons _ (List.Sublist.cons _ (List.Sublist.cons _ (List.Sublist.refl _)))) (by first | exact (fun _ _ h => h) | exact (fun _ _ h => h.1) | exact (fun _ _ h => h.1.1)) ?_)) | (show ownK _ _ _ _ _; (refine own_keep ?_))))
    all_goals (conv => whnf)
    all_goals exact ⟨(k + 1, _), [], ⟨hlt, by rw [hsn, ← hm]; unfold mostStep; omega⟩, by simp only; omega, rfl, ⟨rfl, rfl, rfl, rfl, trivial⟩, trivial, fun _ _ h => h⟩
  · obtain rfl : k = l.length := by omega
    rw [List.take_of_length_le (Nat.le_refl _)] at hm
    (repeat' ((conv => whnf) <;> first | (show Wp _ _ _ _ _ _ _; (refine Wp.go tabOk rfl ?_)) | (show @cmpK _ _ _; (first | refine cmp_yes (by omega) ?_ | refine cmp_no (by omega) ?_ | (refine cmp_both ?_ ?_ <;> intro _))) | (show wrapK _ _ _; (refine wrap_i64 (by omega) (by omega) ?_)) | (show leK _ _ _; (refine le_of (by first | exact Nat.le_refl _ | omega) ?_)) | (show roomK _ _ _; (refine room_of (by first | omega | (dsimp only; omega)) ?_)) | (show ltK _ _ _; (refine lt_of (by omega) ?_)) | (show _ ∧ _; (refine ⟨?_, ?_⟩)) | (show keepK _ _ _ _ _; (refine keep_of (by first | exact List.Sublist.refl _ | exact List.Sublist.cons _ (List.Sublist.refl _) | exact List.Sublist.cons _ (List.Sublist.cons _ (List.Sublist.refl _)) | exact List.Sublist.cons _ (List.Sublist.cons _ (List.Sublist.cons _ (List.Sublist.refl _)))) (by first | exact (fun _ _ h => h) | exact (fun _ _ h => h.1) | exact (fun _ _ h => h.1.1)) ?_)) | (show ownK _ _ _ _ _; (refine own_keep ?_))))
    conv => whnf
    exact ends_of (fun _ _ h => h) (fun _ => by rw [← hm]; rfl) rfl
/-! spans held against spans -/
theorem c_span : Try.prog.cellsOf 67 = 2 := by kernel_rfl
theorem c_intI : Try.prog.cellsOf 3 = 1 := by kernel_rfl
theorem wf_ofI {x : Int} (h : i64 x) : (Lit.int .i64 x).wf = true := by
  simp [Lit.wf, IntKind.min, IntKind.max, IntKind.signed, IntKind.bits]
  exact ⟨h.1, by have := h.2; omega⟩
def spLits (s : Sp) : List Lit := [.int .i64 s.1, .int .i64 s.2]
theorem sp_lits (s : Sp) (h1 : i64 s.1) (h2 : i64 s.2) : Try.prog.keyLits 2 67 [.int .i64 s.1, .int .i64 s.2] = some (spLits s) := by
  simp [Program.keyLits, Try.underlying67, c_span, List.mapM_cons, Try.underlying3, c_intI, wf_ofI h1, wf_ofI h2]
  rfl
theorem span_eql {s : Sp} (h1 : i64 s.1) (h2 : i64 s.2) {ox oy : Operand} {K : SV → Prop} (h : K (.c (.bool true))) : pureK Try.prog (do eqGuard .eql 67 ox oy (spanV s) (spanV s); binOp .eql 67 (spanV s) (spanV s)) K := by
  rw [pureK_def]
  refine ⟨_, fun w => ?_, h⟩
  have g1 : (eqGuard .eql 67 ox oy (spanV s) (spanV s)).run Try.prog w = .ok () w := by
    have : Try.prog.eqGuardType Try.prog.depth 67 = false := by kernel_rfl
    simp [eqGuard, spanV, this]
  obtain ⟨r, q2, q3⟩ := run_equalIn_deep (P := Try.prog) 9998 2 67 (by kernel_rfl) w 2 2 (spanV s) (spanV s) (spLits s) (spLits s) (by simp [spanV, Value.formed, Try.underlying67, c_span]) (by simp [spanV, Value.formed, Try.underlying67, c_span]) (sp_lits s h1 h2) (sp_lits s h1 h2)
  have hr : r = true := q3.2 rfl
  subst hr
  have h4 : (Op.equal 67 (spanV s) (spanV s)).run Try.prog w = .ok true w := q2
  simp only [Sem.run_bind, g1, Result.andThen_ok]
  simp [spanV, binOp] at h4 ⊢
  rw [h4]; rfl
end Go.Proofs.Ytajbngkcgbehlaa
/- IJ -/
namespace Go.Proofs.Ytajbngkcgbehlaa
open Go.SX Go.RowKit
theorem freeze_intsI {w0 : World} {i n : Nat} (xs : List Int) {R0 : List (List Value)} {T : TypeId} {H : Heap} {S : Asn} {nx : Nat} {K : SV → Heap → Asn → Nat → Prop} (hN : ∀ R w, S.holds R w → (baseA w0).holds R w) (he : R0 = ints xs) (hn : n = xs.length) (hf : ∀ x ∈ xs, i64 x) (hl : xs.length ≤ 1000000) (h : ∀ u : IntsV, u.xs = xs → u.sane → K (.c u.val) H (S.and ((intsA u).past w0.heap.size)) nx) : ownK (.os i n) ((i, .rows R0 1 T) :: H) S nx K := by
  subst he hn
  exact own_freeze w0.heap.size (fun R w hS b hb => (hN R w hS b hb).1) (fun l hc => h ⟨l.base, l.cap, xs⟩ rfl ⟨hf, by simpa [ints_length] using hc, hl⟩)
theorem freeze_nodesI {w0 : World} {i n : Nat} (l : List NodeV) {R0 : List (List Value)} {T : TypeId} {H : Heap} {S : Asn} {nx : Nat} {K : SV → Heap → Asn → Nat → Prop} (hN : ∀ R w, S.holds R w → (baseA w0).holds R w) (he : R0 = nodeRows l) (hn : n = l.length) (h : ∀ base cap, K (.c (.slice base l.length cap)) H (S.and ((rowsA base 9 (nodeRows l)).past w0.heap.size)) nx) : ownK (.os i n) ((i, .rows R0 9 T) :: H) S nx K := by
  subst he hn
  exact own_freeze w0.heap.size (fun R w hS b hb => (hN R w hS b hb).1) (fun lc _ => h lc.base lc.cap)
theorem freeze_slicesI {w0 : World} {i n : Nat} (l : List IntsV) {R0 : List (List Value)} {T : TypeId} {H : Heap} {S : Asn} {nx : Nat} {K : SV → Heap → Asn → Nat → Prop} (hN : ∀ R w, S.holds R w → (baseA w0).holds R w) (he : R0 = shRows l) (hn : n = l.length) (h : ∀ base cap, l.length ≤ cap → K (.c (.slice base l.length cap)) H (S.and ((rowsA base 1 (shRows l)).past w0.heap.size)) nx) : ownK (.os i n) ((i, .rows R0 1 T) :: H) S nx K := by
  subst he hn
  exact own_freeze w0.heap.size (fun R w hS b hb => (hN R w hS b hb).1) (fun lc hc => h lc.base lc.cap (by simpa [shRows_length] using hc))
theorem few_i64 {xs : List Int} (h : (xs.all fun x => decide (-1000000 ≤ x ∧ x ≤ 1000000)) = true) : ∀ x ∈ xs, i64 x := fun x hx => by
  have := of_decide_eq_true (List.all_eq_true.1 h x hx)
  unfold i64; omega
theorem few_bd {xs : List Int} (h : (xs.all fun x => decide (-1000000 ≤ x ∧ x ≤ 1000000)) = true) : ∀ x ∈ xs, bd20 x := fun x hx => by
  have := of_decide_eq_true (List.all_eq_true.1 h x hx)
  unfold bd20; omega
/-- a call of Run -/
theorem call_run {cx : Cx} {f : FuncId} {args : List SV} {H : Heap} {S : Asn} {nx : Nat} {K : SV → Heap → Asn → Nat → Prop} (r : Int × List Int) (hf : ∀ ar w, (callFunc f ar).run cx.P w = .ok (.enter f ar) w)
    (hc : ∀ ρ w', Abs cx.B ρ nx H S w' → Calls cx.P f (SV.rfs ρ args).toArray w' (RunPost w' r))
    (h0 : r.1 ≠ 0 → K (.c (.tuple #[.slice none 0 0, .int .i64 r.1])) H S nx)
    (h1 : r.1 = 0 → ∀ x : IntsV, x.xs = r.2 → x.sane → K (.c (.tuple #[x.val, .int .i64 0])) H (S.and ((intsA x).past cx.B.w0.heap.size)) nx) : callK cx f args H S nx K := by
  rw [callK_def]
  refine ⟨hf, fun ρ w hw => (hc ρ w hw).mono ?_⟩
  rintro e w' (⟨hr, rfl, he⟩ | ⟨hr, x, ⟨hx1, hx2⟩, rfl, he, hD⟩)
  · exact ⟨.c (.tuple #[.slice none 0 0, .int .i64 r.1]), ρ, H, S, nx, rfl, fun _ _ => rfl, Nat.le_refl _, SV.lt_c _, hw.ext he, h0 hr⟩
  · exact ⟨.c (.tuple #[x.val, .int .i64 0]), ρ, H, _, nx, rfl, fun _ _ => rfl, Nat.le_refl _, SV.lt_c _, hw.grow he hD, h1 hr x hx1 hx2⟩
theorem run_f {nb : Option Addr} {nc : Nat} {u v : IntsV} (hu : u.xs = [1]) (hv : v.xs = [1, 0, 1]) : spansG (g2 nb nc u v (-2) 3) = (0, [(-2, 3), (1, 10)]) ∧ runG (g2 nb nc u v (-2) 3) [[-2]] = (0, [5]) := by
  have hc := check_g2 (nb := nb) (nc := nc) (u := u) (v := v) (lo := -2) (hi := 3) hu (by rw [hv]; rfl) (by rw [hv]; exact few_bd rfl) ⟨by decide, by decide⟩ ⟨by decide, by decide⟩ (by decide)
  have hs := spans_g2 hc ⟨by decide, by decide⟩ ⟨by decide, by decide⟩ (by decide)
  have hs2 : spansG (g2 nb nc u v (-2) 3) = (0, [(-2, 3), (1, 10)]) := by rw [hs, hv]; rfl
  refine ⟨hs2, ?_⟩
  unfold runG valsG
  rw [hs2, hc]
  have hv1 : valsR (g2 nb nc u v (-2) 3).l [[1], [1]] [] [[-2]] = (0, [[-2], [5]]) := by
    show valsR [inN u (-2) 3, powN v] [[1], [1]] [] [[-2]] = _
    unfold valsR
    rw [if_neg (by simp [inN])]
    simp only
    rw [if_neg (by rw [ent1]; simp [inN, foldI])]
    unfold valsR
    rw [if_pos (by simp [powN])]
    unfold valsR
    rw [ent1]
    have : numsL (powN v) (1 : Int).toNat (([] ++ [[-2]] : List (List Int)).getD (powN v).a.toNat []) (([] ++ [[-2]] : List (List Int)).getD (powN v).b.toNat []) = [5] := by
      show [numAt (powN v) [-2] [-2] 0] = [5]
      have : numAt (powN v) [-2] [-2] 0 = powI v.xs (-2) := rfl
      rw [this, hv]; rfl
    rw [this]; rfl
  rw [hv1]; rfl
set_option maxRecDepth 20000 in
set_option maxHeartbeats 1000000 in
theorem fixed17_any (w : World) : Calls Try.prog 33 #[] w fun e w' => e = .returned (.bool true) ∧ Ext w w' := by
  refine calls_of tab tabOk Try.func33 rfl rfl rfl [] (fun _ => ⟨none, 0⟩) [] [] (baseA w) 0 rfl rfl (by show 0 ≤ _; decide) (abs_base w) ?_
  (repeat' ((conv => whnf) <;> first | (show Wp _ _ _ _ _ _ _; (refine Wp.go tabOk rfl ?_)) | (show @cmpK _ _ _; (first | refine cmp_yes (by omega) ?_ | refine cmp_no (by omega) ?_ | (refine cmp_both ?_ ?_ <;> intro _))) | (show wrapK _ _ _; (refine wrap_i64 (by omega) (by omega) ?_)) | (show leK _ _ _; (refine le_of (by first | exact Nat.le_refl _ | omega) ?_)) | (show roomK _ _ _; (refine room_of (by first | omega | (dsimp only; omega)) ?_)) | (show ltK _ _ _; (refine lt_of (by omega) ?_)) | (show _ ∧ _; (refine ⟨?_, ?_⟩)) | (show keepK _ _ _ _ _; (refine keep_of (by first | exact List.Sublist.refl _ | exact List.Sublist.cons _ (List.Sublist.refl _) | exact List.Sublist.cons _ (List.Sublist.cons _ (List.Sublist.refl _)) | exact List.Sublist.cons _ (List.Sublist.cons _ (List.Sublist.cons _ (List.Sublist.refl _)))) (by first | exact (fun _ _ h => h) | exact (fun _ _ h => h.1) | exact (fun _ _ h => h.1.1)) ?_))))
  refine freeze_intsI (w0 := w) [1] (fun R w' h => h) rfl rfl (few_i64 rfl) (by decide) (fun u hu hus => ?_)
  (repeat' ((conv => whnf) <;> first | (show Wp _ _ _ _ _ _ _; (refine Wp.go tabOk rfl ?_)) | (show @cmpK _ _ _; (first | refine cmp_yes (by omega) ?_ | refine cmp_no (by omega) ?_ | (refine cmp_both ?_ ?_ <;> intro _))) | (show wrapK _ _ _; (refine wrap_i64 (by omega) (by omega) ?_)) | (show leK _ _ _; (refine le_of (by first | exact Nat.le_refl _ | omega) ?_)) | (show roomK _ _ _; (refine room_of (by first | omega | (dsimp only; omega)) ?_)) | (show ltK _ _ _; (refine lt_of (by omega) ?_)) | (show _ ∧ _; (refine ⟨?_, ?_⟩)) | (show keepK _ _ _ _ _; (refine keep_of (by first | exact List.Sublist.refl _ | exact List.Sublist.cons _ (List.Sublist.refl _) | exact List.Sublist.cons _ (List.Sublist.cons _ (List.Sublist.refl _)) | exact List.Sublist.cons _ (List.Sublist.cons _ (List.Sublist.cons _ (List.Sublist.refl _)))) (by first | exact (fun _ _ h => h) | exact (fun _ _ h => h.1) | exact (fun _ _ h => h.1.1)) ?_))))
  refine freeze_intsI (w0 := w) [1, 0, 1] (fun R w' h => h.1) rfl rfl (few_i64 rfl) (by decide) (fun v hv hvs => ?_)
  (repeat' ((conv => whnf) <;> first | (show Wp _ _ _ _ _ _ _; (refine Wp.go tabOk rfl ?_)) | (show @cmpK _ _ _; (first | refine cmp_yes (by omega) ?_ | refine cmp_no (by omega) ?_ | (refine cmp_both ?_ ?_ <;> intro _))) | (show wrapK _ _ _; (refine wrap_i64 (by omega) (by omega) ?_)) | (show leK _ _ _; (refine le_of (by first | exact Nat.le_refl _ | omega) ?_)) | (show roomK _ _ _; (refine room_of (by first | omega | (dsimp only; omega)) ?_)) | (show ltK _ _ _; (refine lt_of (by omega) ?_)) | (show _ ∧ _; (refine ⟨?_, ?_⟩)) | (show keepK _ _ _ _ _; (refine keep_of (by first | exact List.Sublist.refl _ | exact List.Sublist.cons _ (List.Sublist.refl _) | exact List.Sublist.cons _ (List.Sublist.cons _ (List.Sublist.refl _)) | exact List.Sublist.cons _ (List.Sublist.cons _ (List.Sublist.cons _ (List.Sublist.refl _)))) (by first | exact (fun _ _ h => h) | exact (fun _ _ h => h.1) | exact (fun _ _ h => h.1.1)) ?_))))
  refine freeze_nodesI (w0 := w) [inN u (-2) 3, powN v] (fun R w' h => h.1.1) rfl rfl (fun nb nc => ?_)
  obtain ⟨hS, hR⟩ := run_f (nb := nb) (nc := nc) hu hv
  have hgok : ∀ {R : Nat → Prop} {w' : World}, (((baseA w).and ((intsA u).past w.heap.size)).and ((intsA v).past w.heap.size)).and ((rowsA nb 9 (nodeRows [inN u (-2) 3, powN v])).past w.heap.size) |>.holds R w' → (g2 nb nc u v (-2) 3).ok w' := fun h => g2_ok (rowsA_in h.2) (intsA_ok hus h.1.1.2) (intsA_ok hvs h.1.2) (by rw [hu]; decide) (by rw [hv]; decide) ⟨by decide, by decide⟩ ⟨by decide, by decide⟩
  (repeat' ((conv => whnf) <;> first | (show Wp _ _ _ _ _ _ _; (refine Wp.go tabOk rfl ?_)) | (show @cmpK _ _ _; (first | refine cmp_yes (by omega) ?_ | refine cmp_no (by omega) ?_ | (refine cmp_both ?_ ?_ <;> intro _))) | (show wrapK _ _ _; (refine wrap_i64 (by omega) (by omega) ?_)) | (show leK _ _ _; (refine le_of (by first | exact Nat.le_refl _ | omega) ?_)) | (show roomK _ _ _; (refine room_of (by first | omega | (dsimp only; omega)) ?_)) | (show ltK _ _ _; (refine lt_of (by omega) ?_)) | (show _ ∧ _; (refine ⟨?_, ?_⟩)) | (show keepK _ _ _ _ _; (refine keep_of (by first | exact List.Sublist.refl _ | exact List.Sublist.cons _ (List.Sublist.refl _) | exact List.Sublist.cons _ (List.Sublist.cons _ (List.Sublist.refl _)) | exact List.Sublist.cons _ (List.Sublist.cons _ (List.Sublist.cons _ (List.Sublist.refl _)))) (by first | exact (fun _ _ h => h) | exact (fun _ _ h => h.1) | exact (fun _ _ h => h.1.1)) ?_))))
  refine call_spans (f := 34) (0, [(-2, 3), (1, 10)]) Try.call34 (fun ρ w' hw => by have := spans_any w' (g2 nb nc u v (-2) 3) (holds_of_abs hw fun R h => hgok h) g2_nlin; rw [hS] at this; exact this) (fun hne => absurd rfl hne) (fun _ sb sc => ?_)
  (repeat' ((conv => whnf) <;> first | (show Wp _ _ _ _ _ _ _; (refine Wp.go tabOk rfl ?_)) | (show @cmpK _ _ _; (first | refine cmp_yes (by omega) ?_ | refine cmp_no (by omega) ?_ | (refine cmp_both ?_ ?_ <;> intro _))) | (show wrapK _ _ _; (refine wrap_i64 (by omega) (by omega) ?_)) | (show leK _ _ _; (refine le_of (by first | exact Nat.le_refl _ | omega) ?_)) | (show roomK _ _ _; (refine room_of (by first | omega | (dsimp only; omega)) ?_)) | (show ltK _ _ _; (refine lt_of (by omega) ?_)) | (show _ ∧ _; (refine ⟨?_, ?_⟩)) | (show keepK _ _ _ _ _; (refine keep_of (by first | exact List.Sublist.refl _ | exact List.Sublist.cons _ (List.Sublist.refl _) | exact List.Sublist.cons _ (List.Sublist.cons _ (List.Sublist.refl _)) | exact List.Sublist.cons _ (List.Sublist.cons _ (List.Sublist.cons _ (List.Sublist.refl _)))) (by first | exact (fun _ _ h => h) | exact (fun _ _ h => h.1) | exact (fun _ _ h => h.1.1)) ?_))))
  refine freeze_intsI (w0 := w) [-2] (fun R w' h => h.1.1.1.1) rfl rfl (few_i64 rfl) (by decide) (fun y hy hys => ?_)
  (repeat' ((conv => whnf) <;> first | (show Wp _ _ _ _ _ _ _; (refine Wp.go tabOk rfl ?_)) | (show @cmpK _ _ _; (first | refine cmp_yes (by omega) ?_ | refine cmp_no (by omega) ?_ | (refine cmp_both ?_ ?_ <;> intro _))) | (show wrapK _ _ _; (refine wrap_i64 (by omega) (by omega) ?_)) | (show leK _ _ _; (refine le_of (by first | exact Nat.le_refl _ | omega) ?_)) | (show roomK _ _ _; (refine room_of (by first | omega | (dsimp only; omega)) ?_)) | (show ltK _ _ _; (refine lt_of (by omega) ?_)) | (show _ ∧ _; (refine ⟨?_, ?_⟩)) | (show keepK _ _ _ _ _; (refine keep_of (by first | exact List.Sublist.refl _ | exact List.Sublist.cons _ (List.Sublist.refl _) | exact List.Sublist.cons _ (List.Sublist.cons _ (List.Sublist.refl _)) | exact List.Sublist.cons _ (List.Sublist.cons _ (List.Sublist.cons _ (List.Sublist.refl _)))) (by first | exact (fun _ _ h => h) | exact (fun _ _ h => h.1) | exact (fun _ _ h => h.1.1)) ?_))))
  refine freeze_slicesI (w0 := w) [y] (fun R w' h => h.1.1.1.1.1) rfl rfl (fun ib ic hic => ?_)
  (repeat' ((conv => whnf) <;> first | (show Wp _ _ _ _ _ _ _; (refine Wp.go tabOk rfl ?_)) | (show @cmpK _ _ _; (first | refine cmp_yes (by omega) ?_ | refine cmp_no (by omega) ?_ | (refine cmp_both ?_ ?_ <;> intro _))) | (show wrapK _ _ _; (refine wrap_i64 (by omega) (by omega) ?_)) | (show leK _ _ _; (refine le_of (by first | exact Nat.le_refl _ | omega) ?_)) | (show roomK _ _ _; (refine room_of (by first | omega | (dsimp only; omega)) ?_)) | (show ltK _ _ _; (refine lt_of (by omega) ?_)) | (show _ ∧ _; (refine ⟨?_, ?_⟩)) | (show keepK _ _ _ _ _; (refine keep_of (by first | exact List.Sublist.refl _ | exact List.Sublist.cons _ (List.Sublist.refl _) | exact List.Sublist.cons _ (List.Sublist.cons _ (List.Sublist.refl _)) | exact List.Sublist.cons _ (List.Sublist.cons _ (List.Sublist.cons _ (List.Sublist.refl _)))) (by first | exact (fun _ _ h => h) | exact (fun _ _ h => h.1) | exact (fun _ _ h => h.1.1)) ?_))))
  refine call_run (f := 37) (0, [5]) Try.call37 (fun ρ w' hw => by
    have hok : InV.ok w' (⟨ib, ic, [y]⟩ : ShapesV) := holds_of_abs hw fun R h => ⟨rowsA_in h.2, fun z hz => by rw [List.mem_singleton.1 hz]; exact intsA_ok hys h.1.2, hic, (show 1 ≤ 1000000 by decide)⟩
    have := run_any w' (g2 nb nc u v (-2) 3) (holds_of_abs hw fun R h => hgok h.1.1.1) ⟨ib, ic, [y]⟩ hok g2_nlin
    have e : ([y].map IntsV.xs) = [[-2]] := by rw [List.map_cons, List.map_nil, hy]
    rw [e, hR] at this
    exact this) (fun hne => absurd rfl hne) (fun _ z hz hzs => ?_)
  refine Wp.know (p := ∃ a, sb = some a) (fun ρ w' hw => holds_of_abs hw fun R h => base_some (j := 0) (rowsA_in h.1.1.1.2) (show 0 < 2 by decide)) ?_
  rintro ⟨sa, rfl⟩
  (repeat' ((conv => whnf) <;> first | (show @cmpK _ _ _; (refine cmp_yes rfl ?_)) | (show idxK _ _ _ _ _; (refine idx_of sa 1 rfl rfl (show 1 < 2 by decide) ?_)) | (show roAggK _ _ _ _; (refine roAgg_row (fun R w' h => rowsA_in h.1.1.1.2) [.int .i64 1, .int .i64 10] (j := 1) rfl rfl ?_)) | (show pureK _ _ _; (refine span_eql (s := (1, 10)) ⟨by decide, by decide⟩ ⟨by decide, by decide⟩ ?_)) | (show Wp _ _ _ _ _ _ _; (refine Wp.go tabOk rfl ?_)) | (show @cmpK _ _ _; (first | refine cmp_yes (by omega) ?_ | refine cmp_no (by omega) ?_ | (refine cmp_both ?_ ?_ <;> intro _))) | (show wrapK _ _ _; (refine wrap_i64 (by omega) (by omega) ?_)) | (show leK _ _ _; (refine le_of (by first | exact Nat.le_refl _ | omega) ?_)) | (show roomK _ _ _; (refine room_of (by first | omega | (dsimp only; omega)) ?_)) | (show ltK _ _ _; (refine lt_of (by omega) ?_)) | (show _ ∧ _; (refine ⟨?_, ?_⟩)) | (show keepK _ _ _ _ _; (refine keep_of (by first | exact List.Sublist.refl _ | exact List.Sublist.cons _ (List.Sublist.refl _) | exact List.Sublist.cons _ (List.Sublist.cons _ (List.Sublist.refl _)) | exact List.Sublist.cons _ (List.Sublist.cons _ (List.Sublist.cons _ (List.Sublist.refl _)))) (by first | exact (fun _ _ h => h) | exact (fun _ _ h => h.1) | exact (fun _ _ h => h.1.1)) ?_))))
  refine freeze_intsI (w0 := w) [5] (fun R w' h => h.1.1.1.1.1.1.1) rfl rfl (few_i64 rfl) (by decide) (fun q hq hqs => ?_)
  (repeat' ((conv => whnf) <;> first | (show @cmpK _ _ _; (refine cmp_yes rfl ?_)) | (show callK _ 39 _ _ _ _ _; (refine call_pure (f := 39) Try.call39 (.bool true) (fun ρ w' hw => by have := same_any w' z q (holds_of_abs hw fun R h => intsA_ok hzs h.1.2) (holds_of_abs hw fun R h => intsA_ok hqs h.2); rw [decide_eq_true (hz.trans hq.symm)] at this; exact this) ?_)) | (show callK _ 41 _ _ _ _ _; (refine call_pure (f := 41) Try.call41 (.int .i64 10) (fun ρ w' hw => most_any w' (some sa) sc [(-2, 3), (1, 10)] (holds_of_abs hw fun R h => rowsA_in h.1.1.1.1.2) (by intro s hs; simp at hs; rcases hs with rfl | rfl <;> exact ⟨⟨by decide, by decide⟩, ⟨by decide, by decide⟩⟩) (by decide)) ?_)) | (show Wp _ _ _ _ _ _ _; (refine Wp.go tabOk rfl ?_)) | (show @cmpK _ _ _; (first | refine cmp_yes (by omega) ?_ | refine cmp_no (by omega) ?_ | (refine cmp_both ?_ ?_ <;> intro _))) | (show wrapK _ _ _; (refine wrap_i64 (by omega) (by omega) ?_)) | (show leK _ _ _; (refine le_of (by first | exact Nat.le_refl _ | omega) ?_)) | (show roomK _ _ _; (refine room_of (by first | omega | (dsimp only; omega)) ?_)) | (show ltK _ _ _; (refine lt_of (by omega) ?_)) | (show _ ∧ _; (refine ⟨?_, ?_⟩)) | (show keepK _ _ _ _ _; (refine keep_of (by first | exact List.Sublist.refl _ | exact List.Sublist.cons _ (List.Sublist.refl _) | exact List.Sublist.cons _ (List.Sublist.cons _ (List.Sublist.refl _)) | exact List.Sublist.cons _ (List.Sublist.cons _ (List.Sublist.cons _ (List.Sublist.refl _)))) (by first | exact (fun _ _ h => h) | exact (fun _ _ h => h.1) | exact (fun _ _ h => h.1.1)) ?_)) | (show ownK _ _ _ _ _; (refine own_keep ?_))))
  conv => whnf
  exact ends_bool (fun R w' h => h.1.1.1.1.1.1.1.1) rfl rfl
end Go.Proofs.Ytajbngkcgbehlaa
/- IM -/
namespace Go.Proofs.Ytajbngkcgbehlaa
open Go.SX Go.ChangeShapes Go.WideShapes Go.ChangeAt Go.RowKit
/-- the least and the most so far -/
structure Sofar (d : List Int) (lo v least most : Int) : Prop where
  all : ∀ x, lo ≤ x → x < v → least ≤ powI d x ∧ powI d x ≤ most
  some_ : (v = lo ∧ least = 1099511627776 ∧ most = -1099511627776) ∨ ((∃ x, lo ≤ x ∧ x < v ∧ least = powI d x) ∧ (∃ x, lo ≤ x ∧ x < v ∧ most = powI d x))
theorem Sofar.start (d : List Int) (lo : Int) : Sofar d lo lo 1099511627776 (-1099511627776) := ⟨fun x h1 h2 => by omega, .inl ⟨rfl, rfl, rfl⟩⟩
theorem Sofar.next {d : List Int} {lo v least most : Int} (h : Sofar d lo v least most) (hv : lo ≤ v) (hb : -1099511627776 < powI d v ∧ powI d v < 1099511627776) : Sofar d lo (v + 1) (min least (powI d v)) (max most (powI d v)) := by
  refine ⟨fun x h1 h2 => ?_, .inr ?_⟩
  · rcases (by omega : x < v ∨ x = v) with hx | rfl
    · have := h.all x h1 hx; omega
    · omega
  · rcases h.some_ with ⟨h1, h2, h3⟩ | ⟨⟨x, x1, x2, x3⟩, ⟨y, y1, y2, y3⟩⟩
    · exact ⟨⟨v, hv, by omega, by omega⟩, ⟨v, hv, by omega, by omega⟩⟩
    · refine ⟨?_, ?_⟩
      · rcases (by omega : min least (powI d v) = least ∨ min least (powI d v) = powI d v) with hm | hm
        · exact ⟨x, x1, by omega, by rw [hm]; exact x3⟩
        · exact ⟨v, hv, by omega, hm⟩
      · rcases (by omega : max most (powI d v) = most ∨ max most (powI d v) = powI d v) with hm | hm
        · exact ⟨y, y1, by omega, by rw [hm]; exact y3⟩
        · exact ⟨v, hv, by omega, hm⟩
theorem sofar_eq {d : List Int} {lo v x y x' y' : Int} (h : Sofar d lo v x y) (hx : x' = x) (hy : y' = y) : Sofar d lo v x' y' := by subst hx hy; exact h
theorem powEnds_len {d : List Int} {a : Sp} : 1 ≤ (powEnds d a).length := by unfold powEnds; split <;> simp
theorem Sofar.done {d : List Int} {lo hi least most : Int} (h : Sofar d lo (hi + 1) least most) (hle : lo ≤ hi) : least = foldI min (powEnds d (lo, hi)) ∧ most = foldI max (powEnds d (lo, hi)) := by
  rcases h.some_ with ⟨h1, _⟩ | ⟨⟨x, x1, x2, x3⟩, ⟨y, y1, y2, y3⟩⟩
  · omega
  · obtain ⟨p, p1, p2, p3⟩ := powEnds_at (a := (lo, hi)) (foldI_min_mem (powEnds_len (d := d))) hle
    obtain ⟨q, q1, q2, q3⟩ := powEnds_at (a := (lo, hi)) (foldI_max_mem (powEnds_len (d := d))) hle
    simp only at p1 p2 q1 q2
    have w1 := pow_within (d := d) (a := (lo, hi)) (v := x) x1 (by simp only; omega)
    have w2 := pow_within (d := d) (a := (lo, hi)) (v := y) y1 (by simp only; omega)
    have a1 := h.all p p1 (by omega)
    have a2 := h.all q q1 (by omega)
    omega
set_option maxRecDepth 20000 in
set_option maxHeartbeats 1000000 in
theorem lawSharp_any (w : World) (lo wide c b a : Int) (hlo : -128 ≤ lo ∧ lo ≤ 127) (hwi : 0 ≤ wide ∧ wide ≤ 255) (hc : -32768 ≤ c ∧ c ≤ 32767) (hb : -32768 ≤ b ∧ b ≤ 32767) (ha : -128 ≤ a ∧ a ≤ 127) : Calls Try.prog 13 #[.int .i8 lo, .int .u8 wide, .int .i16 c, .int .i16 b, .int .i8 a] w fun e w' => e = .returned (.bool true) ∧ Ext w w' := by
  have hd : ∀ x ∈ [c, b, a], bd20 x := fun x hx => by
    simp only [List.mem_cons, List.not_mem_nil, or_false] at hx
    unfold bd20
    rcases hx with rfl | rfl | rfl <;> omega
  have hd64 : ∀ x ∈ [c, b, a], i64 x := fun x hx => by have := hd x hx; unfold bd20 at this; unfold i64; omega
  refine calls_of tab tabOk Try.func13 rfl rfl rfl [] (fun _ => ⟨none, 0⟩) [.c (.int .i8 lo), .c (.int .u8 wide), .c (.int .i16 c), .c (.int .i16 b), .c (.int .i8 a)] [] (baseA w) 0 rfl rfl (by show 5 ≤ _; decide) (abs_base w) ?_
  (repeat' ((conv => whnf) <;> first | (show callK _ 33 _ _ _ _ _; (refine call_pure (f := 33) Try.call33 (.bool true) (fun ρ w' hw => fixed17_any w') ?_)) | (show Wp _ _ _ _ _ _ _; (refine Wp.go tabOk rfl ?_)) | (show @cmpK _ _ _; (first | refine cmp_yes (by omega) ?_ | refine cmp_no (by omega) ?_ | (refine cmp_both ?_ ?_ <;> intro _))) | (show wrapK _ _ _; (refine wrap_i64 (by omega) (by omega) ?_)) | (show leK _ _ _; (refine le_of (by first | exact Nat.le_refl _ | omega) ?_)) | (show roomK _ _ _; (refine room_of (by first | omega | (dsimp only; omega)) ?_)) | (show ltK _ _ _; (refine lt_of (by omega) ?_)) | (show _ ∧ _; (refine ⟨?_, ?_⟩)) | (show keepK _ _ _ _ _; (refine keep_of (by first | exact List.Sublist.refl _ | exact List.Sublist.cons _ (List.Sublist.refl _) | exact List.Sublist.cons _ (List.Sublist.cons _ (List.Sublist.refl _)) | exact List.Sublist.cons _ (List.Sublist.cons _ (List.Sublist.cons _ (List.Sublist.refl _)))) (by first | exact (fun _ _ h => h) | exact (fun _ _ h => h.1) | exact (fun _ _ h => h.1.1)) ?_))))
  refine freeze_intsI (w0 := w) [1] (fun R w' h => h) rfl rfl (few_i64 rfl) (by decide) (fun u hu hus => ?_)
  (repeat' ((conv => whnf) <;> first | (show Wp _ _ _ _ _ _ _; (refine Wp.go tabOk rfl ?_)) | (show @cmpK _ _ _; (first | refine cmp_yes (by omega) ?_ | refine cmp_no (by omega) ?_ | (refine cmp_both ?_ ?_ <;> intro _))) | (show wrapK _ _ _; (refine wrap_i64 (by omega) (by omega) ?_)) | (show leK _ _ _; (refine le_of (by first | exact Nat.le_refl _ | omega) ?_)) | (show roomK _ _ _; (refine room_of (by first | omega | (dsimp only; omega)) ?_)) | (show ltK _ _ _; (refine lt_of (by omega) ?_)) | (show _ ∧ _; (refine ⟨?_, ?_⟩)) | (show keepK _ _ _ _ _; (refine keep_of (by first | exact List.Sublist.refl _ | exact List.Sublist.cons _ (List.Sublist.refl _) | exact List.Sublist.cons _ (List.Sublist.cons _ (List.Sublist.refl _)) | exact List.Sublist.cons _ (List.Sublist.cons _ (List.Sublist.cons _ (List.Sublist.refl _)))) (by first | exact (fun _ _ h => h) | exact (fun _ _ h => h.1) | exact (fun _ _ h => h.1.1)) ?_))))
  refine freeze_intsI (w0 := w) [c, b, a] (fun R w' h => h.1) rfl rfl hd64 (by simp) (fun v hv hvs => ?_)
  (repeat' ((conv => whnf) <;> first | (show Wp _ _ _ _ _ _ _; (refine Wp.go tabOk rfl ?_)) | (show @cmpK _ _ _; (first | refine cmp_yes (by omega) ?_ | refine cmp_no (by omega) ?_ | (refine cmp_both ?_ ?_ <;> intro _))) | (show wrapK _ _ _; (refine wrap_i64 (by omega) (by omega) ?_)) | (show leK _ _ _; (refine le_of (by first | exact Nat.le_refl _ | omega) ?_)) | (show roomK _ _ _; (refine room_of (by first | omega | (dsimp only; omega)) ?_)) | (show ltK _ _ _; (refine lt_of (by omega) ?_)) | (show _ ∧ _; (refine ⟨?_, ?_⟩)) | (show keepK _ _ _ _ _; (refine keep_of (by first | exact List.Sublist.refl _ | exact List.Sublist.cons _ (List.Sublist.refl _) | exact List.Sublist.cons _ (List.Sublist.cons _ (List.Sublist.refl _)) | exact List.Sublist.cons _ (List.Sublist.cons _ (List.Sublist.cons _ (List.Sublist.refl _)))) (by first | exact (fun _ _ h => h) | exact (fun _ _ h => h.1) | exact (fun _ _ h => h.1.1)) ?_))))
  refine freeze_nodesI (w0 := w) [inN u lo (lo + wide), powN v] (fun R w' h => h.1.1) rfl rfl (fun nb nc => ?_)
  have hgok : ∀ {R : Nat → Prop} {w' : World}, (((baseA w).and ((intsA u).past w.heap.size)).and ((intsA v).past w.heap.size)).and ((rowsA nb 9 (nodeRows [inN u lo (lo + wide), powN v])).past w.heap.size) |>.holds R w' → (g2 nb nc u v lo (lo + wide)).ok w' := fun h => g2_ok (rowsA_in h.2) (intsA_ok hus h.1.1.2) (intsA_ok hvs h.1.2) (by rw [hu]; decide) (by rw [hv]; simp) (by unfold bd20; omega) (by unfold bd20; omega)
  have hck := check_g2 (nb := nb) (nc := nc) (u := u) (v := v) (lo := lo) (hi := lo + wide) hu (by rw [hv]; rfl) (by rw [hv]; exact hd) (by unfold bd20; omega) (by unfold bd20; omega) (by omega)
  have hS := spans_g2 hck (by unfold bd20; omega) (by unfold bd20; omega) (by omega)
  rw [hv] at hS
  (repeat' ((conv => whnf) <;> first | (show Wp _ _ _ _ _ _ _; (refine Wp.go tabOk rfl ?_)) | (show @cmpK _ _ _; (first | refine cmp_yes (by omega) ?_ | refine cmp_no (by omega) ?_ | (refine cmp_both ?_ ?_ <;> intro _))) | (show wrapK _ _ _; (refine wrap_i64 (by omega) (by omega) ?_)) | (show leK _ _ _; (refine le_of (by first | exact Nat.le_refl _ | omega) ?_)) | (show roomK _ _ _; (refine room_of (by first | omega | (dsimp only; omega)) ?_)) | (show ltK _ _ _; (refine lt_of (by omega) ?_)) | (show _ ∧ _; (refine ⟨?_, ?_⟩)) | (show keepK _ _ _ _ _; (refine keep_of (by first | exact List.Sublist.refl _ | exact List.Sublist.cons _ (List.Sublist.refl _) | exact List.Sublist.cons _ (List.Sublist.cons _ (List.Sublist.refl _)) | exact List.Sublist.cons _ (List.Sublist.cons _ (List.Sublist.cons _ (List.Sublist.refl _)))) (by first | exact (fun _ _ h => h) | exact (fun _ _ h => h.1) | exact (fun _ _ h => h.1.1)) ?_))))
  by_cases hr : foldI min (powEnds [c, b, a] (lo, lo + wide)) < -1048576 ∨ 1048576 < foldI max (powEnds [c, b, a] (lo, lo + wide))
  · rw [if_pos hr] at hS
    refine call_spans (f := 34) (5, []) Try.call34 (fun ρ w' hw => by have := spans_any w' (g2 nb nc u v lo (lo + wide)) (holds_of_abs hw fun R h => hgok h) g2_nlin; rw [hS] at this; exact this) (fun _ => ?_) (fun h => by cases h)
    (repeat' ((conv => whnf) <;> first | (show Wp _ _ _ _ _ _ _; (refine Wp.go tabOk rfl ?_)) | (show @cmpK _ _ _; (first | refine cmp_yes (by omega) ?_ | refine cmp_no (by omega) ?_ | (refine cmp_both ?_ ?_ <;> intro _))) | (show wrapK _ _ _; (refine wrap_i64 (by omega) (by omega) ?_)) | (show leK _ _ _; (refine le_of (by first | exact Nat.le_refl _ | omega) ?_)) | (show roomK _ _ _; (refine room_of (by first | omega | (dsimp only; omega)) ?_)) | (show ltK _ _ _; (refine lt_of (by omega) ?_)) | (show _ ∧ _; (refine ⟨?_, ?_⟩)) | (show keepK _ _ _ _ _; (refine keep_of (by first | exact List.Sublist.refl _ | exact List.Sublist.cons _ (List.Sublist.refl _) | exact List.Sublist.cons _ (List.Sublist.cons _ (List.Sublist.refl _)) | exact List.Sublist.cons _ (List.Sublist.cons _ (List.Sublist.cons _ (List.Sublist.refl _)))) (by first | exact (fun _ _ h => h) | exact (fun _ _ h => h.1) | exact (fun _ _ h => h.1.1)) ?_))))
    refine Wp.loop (σ := Int × Int × Int) 5 (fun ⟨z, least, most⟩ => [(2, .c (.int .i16 c)), (3, .c (.int .i16 b)), (4, .c (.int .i8 a)), (11, .lp 1 0 0 0), (13, .c (.slice none 0 0)), (14, .c (.int .i64 5)), (15, .c (.int .i64 least)), (16, .c (.int .i64 most)), (17, .c (.int .i64 z))]) (fun _ => [(1, .box [.c (.int .i64 1), .c (.int .i64 0), .c (.int .i64 0), .c u.val, .c (.int .i64 lo), .c (.int .i64 (lo + wide)), .c (.int .i64 0), .c (.slice none 0 0), .c (.slice none 0 0)] 43)]) (fun _ => ((((baseA w).and ((intsA u).past w.heap.size)).and ((intsA v).past w.heap.size)).and ((rowsA nb 9 (nodeRows [inN u lo (lo + wide), powN v])).past w.heap.size)))
      (fun ⟨z, least, most⟩ => Sofar [c, b, a] lo z least most ∧ lo ≤ z ∧ z ≤ lo + wide + 1 ∧ (-1099511627776 ≤ least ∧ least ≤ 1099511627776) ∧ (-1099511627776 ≤ most ∧ most ≤ 1099511627776)) (fun s => (lo + wide + 1 - s.1).toNat) (lo, 1099511627776, -1099511627776) [] (by decide) (fun s => ⟨rfl, rfl⟩) ⟨Sofar.start _ _, Int.le_refl _, by omega, ⟨by decide, by decide⟩, ⟨by decide, by decide⟩⟩ ⟨rfl, ⟨rfl, rfl, rfl, rfl, rfl, rfl, rfl, rfl, rfl, trivial⟩, ⟨(by repeat (first | exact List.mem_cons_self | apply List.mem_cons_of_mem)), trivial⟩, fun _ _ h => h⟩ ?_
    rintro ⟨z, least, most⟩ ⟨hso, hz0, hz1, hl, hm⟩
    by_cases hgo : z ≤ lo + wide
    · have q1 := mul_bd (x := a) (y := z) (A := 128) (B := 383) (by omega) (by omega)
      have q2 := mul_bd (x := a * z) (y := z) (A := 128 * 383) (B := 383) q1 (by omega)
      have q3 := mul_bd (x := b) (y := z) (A := 32768) (B := 383) (by omega) (by omega)
      have hp : powI [c, b, a] z = a * z * z + b * z + c := rfl
      have hnx := hso.next hz0 (by rw [hp]; omega)
      rw [hp] at hnx
      (repeat' ((conv => whnf) <;> first | (show Wp _ _ _ _ _ _ _; (refine Wp.go tabOk rfl ?_)) | (show @cmpK _ _ _; (first | refine cmp_yes (by omega) ?_ | refine cmp_no (by omega) ?_ | (refine cmp_both ?_ ?_ <;> intro _))) | (show wrapK _ _ _; (refine wrap_i64 (by omega) (by omega) ?_)) | (show leK _ _ _; (refine le_of (by first | exact Nat.le_refl _ | omega) ?_)) | (show roomK _ _ _; (refine room_of (by first | omega | (dsimp only; omega)) ?_)) | (show ltK _ _ _; (refine lt_of (by omega) ?_)) | (show _ ∧ _; (refine ⟨?_, ?_⟩)) | (show keepK _ _ _ _ _; (refine keep_of (by first | exact List.Sublist.refl _ | exact List.Sublist.cons _ (List.Sublist.refl _) | exact List.Sublist.cons _ (List.Sublist.cons _ (List.Sublist.refl _)) | exact List.Sublist.cons _ (List.Sublist.cons _ (List.Sublist.cons _ (List.Sublist.refl _)))) (by first | exact (fun _ _ h => h) | exact (fun _ _ h => h.1) | exact (fun _ _ h => h.1.1)) ?_)) | (show ownK _ _ _ _ _; (refine own_keep ?_))))
      all_goals (conv => whnf)
      all_goals first | (exfalso; omega) | exact ⟨(z + 1, _, _), [], ⟨sofar_eq hnx (by omega) (by omega), by omega, by omega, by omega, by omega⟩, by simp only; omega, rfl, ⟨rfl, rfl, rfl, rfl, rfl, rfl, rfl, rfl, rfl, trivial⟩, ⟨(by repeat (first | exact List.mem_cons_self | apply List.mem_cons_of_mem)), trivial⟩, fun _ _ h => h⟩
    · obtain rfl : z = lo + wide + 1 := by omega
      obtain ⟨rfl, rfl⟩ := hso.done (by omega)
      (repeat' ((conv => whnf) <;> first | (show Wp _ _ _ _ _ _ _; (refine Wp.go tabOk rfl ?_)) | (show @cmpK _ _ _; (first | refine cmp_yes (by omega) ?_ | refine cmp_no (by omega) ?_ | (refine cmp_both ?_ ?_ <;> intro _))) | (show wrapK _ _ _; (refine wrap_i64 (by omega) (by omega) ?_)) | (show leK _ _ _; (refine le_of (by first | exact Nat.le_refl _ | omega) ?_)) | (show roomK _ _ _; (refine room_of (by first | omega | (dsimp only; omega)) ?_)) | (show ltK _ _ _; (refine lt_of (by omega) ?_)) | (show _ ∧ _; (refine ⟨?_, ?_⟩)) | (show keepK _ _ _ _ _; (refine keep_of (by first | exact List.Sublist.refl _ | exact List.Sublist.cons _ (List.Sublist.refl _) | exact List.Sublist.cons _ (List.Sublist.cons _ (List.Sublist.refl _)) | exact List.Sublist.cons _ (List.Sublist.cons _ (List.Sublist.cons _ (List.Sublist.refl _)))) (by first | exact (fun _ _ h => h) | exact (fun _ _ h => h.1) | exact (fun _ _ h => h.1.1)) ?_)) | (show ownK _ _ _ _ _; (refine own_keep ?_))))
      all_goals (conv => whnf)
      all_goals first | (exfalso; omega) | exact ends_bool (fun _ _ h => h.1.1.1) rfl rfl
  · rw [if_neg hr] at hS
    refine call_spans (f := 34) (0, [(lo, lo + wide), (foldI min (powEnds [c, b, a] (lo, lo + wide)), foldI max (powEnds [c, b, a] (lo, lo + wide)))]) Try.call34 (fun ρ w' hw => by have := spans_any w' (g2 nb nc u v lo (lo + wide)) (holds_of_abs hw fun R h => hgok h) g2_nlin; rw [hS] at this; exact this) (fun hne => absurd rfl hne) (fun _ sb sc => ?_)
    refine Wp.know (p := ∃ x, sb = some x) (fun ρ w' hw => holds_of_abs hw fun R h => base_some (j := 0) (rowsA_in h.2) (show 0 < 2 by decide)) ?_
    rintro ⟨sa, rfl⟩
    (repeat' ((conv => whnf) <;> first | (show Wp _ _ _ _ _ _ _; (refine Wp.go tabOk rfl ?_)) | (show @cmpK _ _ _; (first | refine cmp_yes (by omega) ?_ | refine cmp_no (by omega) ?_ | (refine cmp_both ?_ ?_ <;> intro _))) | (show wrapK _ _ _; (refine wrap_i64 (by omega) (by omega) ?_)) | (show leK _ _ _; (refine le_of (by first | exact Nat.le_refl _ | omega) ?_)) | (show roomK _ _ _; (refine room_of (by first | omega | (dsimp only; omega)) ?_)) | (show ltK _ _ _; (refine lt_of (by omega) ?_)) | (show _ ∧ _; (refine ⟨?_, ?_⟩)) | (show keepK _ _ _ _ _; (refine keep_of (by first | exact List.Sublist.refl _ | exact List.Sublist.cons _ (List.Sublist.refl _) | exact List.Sublist.cons _ (List.Sublist.cons _ (List.Sublist.refl _)) | exact List.Sublist.cons _ (List.Sublist.cons _ (List.Sublist.cons _ (List.Sublist.refl _)))) (by first | exact (fun _ _ h => h) | exact (fun _ _ h => h.1) | exact (fun _ _ h => h.1.1)) ?_))))
    refine Wp.loop (σ := Int × Int × Int) 5 (fun ⟨z, least, most⟩ => [(2, .c (.int .i16 c)), (3, .c (.int .i16 b)), (4, .c (.int .i8 a)), (11, .lp 1 0 0 0), (13, .c (.slice (some sa) 2 sc)), (14, .c (.int .i64 0)), (15, .c (.int .i64 least)), (16, .c (.int .i64 most)), (17, .c (.int .i64 z))]) (fun _ => [(1, .box [.c (.int .i64 1), .c (.int .i64 0), .c (.int .i64 0), .c u.val, .c (.int .i64 lo), .c (.int .i64 (lo + wide)), .c (.int .i64 0), .c (.slice none 0 0), .c (.slice none 0 0)] 43)]) (fun _ => ((((baseA w).and ((intsA u).past w.heap.size)).and ((intsA v).past w.heap.size)).and ((rowsA nb 9 (nodeRows [inN u lo (lo + wide), powN v])).past w.heap.size)).and ((rowsA (some sa) 2 (spRows [(lo, lo + wide), (foldI min (powEnds [c, b, a] (lo, lo + wide)), foldI max (powEnds [c, b, a] (lo, lo + wide)))])).past w.heap.size))
      (fun ⟨z, least, most⟩ => Sofar [c, b, a] lo z least most ∧ lo ≤ z ∧ z ≤ lo + wide + 1 ∧ (-1099511627776 ≤ least ∧ least ≤ 1099511627776) ∧ (-1099511627776 ≤ most ∧ most ≤ 1099511627776)) (fun s => (lo + wide + 1 - s.1).toNat) (lo, 1099511627776, -1099511627776) [] (by decide) (fun s => ⟨rfl, rfl⟩) ⟨Sofar.start _ _, Int.le_refl _, by omega, ⟨by decide, by decide⟩, ⟨by decide, by decide⟩⟩ ⟨rfl, ⟨rfl, rfl, rfl, rfl, rfl, rfl, rfl, rfl, rfl, trivial⟩, ⟨(by repeat (first | exact List.mem_cons_self | apply List.mem_cons_of_mem)), trivial⟩, fun _ _ h => h⟩ ?_
    rintro ⟨z, least, most⟩ ⟨hso, hz0, hz1, hl, hm⟩
    by_cases hgo : z ≤ lo + wide
    · have q1 := mul_bd (x := a) (y := z) (A := 128) (B := 383) (by omega) (by omega)
      have q2 := mul_bd (x := a * z) (y := z) (A := 128 * 383) (B := 383) q1 (by omega)
      have q3 := mul_bd (x := b) (y := z) (A := 32768) (B := 383) (by omega) (by omega)
      have hp : powI [c, b, a] z = a * z * z + b * z + c := rfl
      have hnx := hso.next hz0 (by rw [hp]; omega)
      rw [hp] at hnx
      (repeat' ((conv => whnf) <;> first | (show Wp _ _ _ _ _ _ _; (refine Wp.go tabOk rfl ?_)) | (show @cmpK _ _ _; (first | refine cmp_yes (by omega) ?_ | refine cmp_no (by omega) ?_ | (refine cmp_both ?_ ?_ <;> intro _))) | (show wrapK _ _ _; (refine wrap_i64 (by omega) (by omega) ?_)) | (show leK _ _ _; (refine le_of (by first | exact Nat.le_refl _ | omega) ?_)) | (show roomK _ _ _; (refine room_of (by first | omega | (dsimp only; omega)) ?_)) | (show ltK _ _ _; (refine lt_of (by omega) ?_)) | (show _ ∧ _; (refine ⟨?_, ?_⟩)) | (show keepK _ _ _ _ _; (refine keep_of (by first | exact List.Sublist.refl _ | exact List.Sublist.cons _ (List.Sublist.refl _) | exact List.Sublist.cons _ (List.Sublist.cons _ (List.Sublist.refl _)) | exact List.Sublist.cons _ (List.Sublist.cons _ (List.Sublist.cons _ (List.Sublist.refl _)))) (by first | exact (fun _ _ h => h) | exact (fun _ _ h => h.1) | exact (fun _ _ h => h.1.1)) ?_)) | (show ownK _ _ _ _ _; (refine own_keep ?_))))
      all_goals (conv => whnf)
      all_goals first | (exfalso; omega) | exact ⟨(z + 1, _, _), [], ⟨sofar_eq hnx (by omega) (by omega), by omega, by omega, by omega, by omega⟩, by simp only; omega, rfl, ⟨rfl, rfl, rfl, rfl, rfl, rfl, rfl, rfl, rfl, trivial⟩, ⟨(by repeat (first | exact List.mem_cons_self | apply List.mem_cons_of_mem)), trivial⟩, fun _ _ h => h⟩
    · obtain rfl : z = lo + wide + 1 := by omega
      obtain ⟨rfl, rfl⟩ := hso.done (by omega)
      (repeat' ((conv => whnf) <;> first | (show idxK _ _ _ _ _; (refine idx_of sa 1 rfl rfl (show 1 < 2 by decide) ?_)) | (show roAggK _ _ _ _; (refine roAgg_row (fun R w' h => rowsA_in h.2) _ (j := 1) rfl rfl ?_)) | (show pureK _ _ _; (refine span_eql (s := (foldI min (powEnds [c, b, a] (lo, lo + wide)), foldI max (powEnds [c, b, a] (lo, lo + wide)))) (by unfold i64; simp only; omega) (by unfold i64; simp only; omega) ?_)) | (show Wp _ _ _ _ _ _ _; (refine Wp.go tabOk rfl ?_)) | (show @cmpK _ _ _; (first | refine cmp_yes (by omega) ?_ | refine cmp_no (by omega) ?_ | (refine cmp_both ?_ ?_ <;> intro _))) | (show wrapK _ _ _; (refine wrap_i64 (by omega) (by omega) ?_)) | (show leK _ _ _; (refine le_of (by first | exact Nat.le_refl _ | omega) ?_)) | (show roomK _ _ _; (refine room_of (by first | omega | (dsimp only; omega)) ?_)) | (show ltK _ _ _; (refine lt_of (by omega) ?_)) | (show _ ∧ _; (refine ⟨?_, ?_⟩)) | (show keepK _ _ _ _ _; (refine keep_of (by first | exact List.Sublist.refl _ | exact List.Sublist.cons _ (List.Sublist.refl _) | exact List.Sublist.cons _ (List.Sublist.cons _ (List.Sublist.refl _)) | exact List.Sublist.cons _ (List.Sublist.cons _ (List.Sublist.cons _ (List.Sublist.refl _)))) (by first | exact (fun _ _ h => h) | exact (fun _ _ h => h.1) | exact (fun _ _ h => h.1.1)) ?_)) | (show ownK _ _ _ _ _; (refine own_keep ?_))))
      all_goals (conv => whnf)
      all_goals first | (exfalso; omega) | exact ends_bool (fun _ _ h => h.1.1.1.1) rfl rfl
end Go.Proofs.Ytajbngkcgbehlaa
