import Derived.Test.YtlcikmddmcdeeaaRN
namespace Go.Proofs.Ytlcikmddmcdeeaa
open Go.SX Go.RowKit
structure CodeV.raw (w : World) (v : CodeV) : Prop where
  rows : RowsI w v.base 5 (instrRows v.l)
  fits : ∀ x ∈ v.l, x.fits
  room : v.l.length ≤ v.cap
theorem CodeV.raw.ok {w w' : World} {R : Nat → Prop} {v : CodeV} (h : v.raw w) (hl : v.l.length ≤ 1000000) (hb : (baseA w).holds R w') : v.ok w' := ⟨rows_base hb h.rows, h.fits, h.room, hl⟩
theorem lawTakes_short (w : World) (v : CodeV) (hv : v.raw w) (hl : 1000 < v.l.length ∨ ¬ Straight v.l) : Calls Try.prog 3 #[v.val] w fun e w' => e = .returned (.bool true) ∧ Ext w w' := by
  by_cases h1 : 1000 < v.l.length
  · refine calls_of tab tabOk Try.func3 rfl rfl rfl [] (fun _ => ⟨none, 0⟩) [.c (.slice v.base v.l.length v.cap)] [] (baseA w) 0 rfl rfl (by show 1 ≤ _; decide) (abs_base w) ?_
    (repeat' ((conv => whnf) <;> first | (show callK _ 6 _ _ _ _ _; (refine call_pure (f := 6) Try.call6 (.bool true) (fun ρ w' hw => fixed_any w') ?_)) | (show drawK _ 23 _ _ _ _ _ _; (refine draw_quiet tabOk mixed (by kernel_rfl) ?_)) | (show Wp _ _ _ _ _ _ _; (refine Wp.go tabOk rfl ?_)) | (show @cmpK _ _ _; (first | refine cmp_yes (by omega) ?_ | refine cmp_no (by omega) ?_ | (refine cmp_both ?_ ?_ <;> intro _))) | (show wrapK _ _ _; (refine wrap_i64 (by omega) (by omega) ?_)) | (show leK _ _ _; (refine le_of (by first | exact Nat.le_refl _ | omega) ?_)) | (show roomK _ _ _; (refine room_of (by first | omega | (dsimp only; omega)) ?_)) | (show ltK _ _ _; (refine lt_of (by omega) ?_)) | (show _ ∧ _; (refine ⟨?_, ?_⟩)) | (show keepK _ _ _ _ _; (refine keep_of (by first | exact List.Sublist.refl _ | exact List.Sublist.cons _ (List.Sublist.refl _) | exact List.Sublist.cons _ (List.Sublist.cons _ (List.Sublist.refl _)) | exact List.Sublist.cons _ (List.Sublist.cons _ (List.Sublist.cons _ (List.Sublist.refl _)))) (by first | exact (fun _ _ h => h) | exact (fun _ _ h => h.1) | exact (fun _ _ h => h.1.1)) ?_)) | (show ownK _ _ _ _ _; (refine own_keep ?_))))
    exact ends_bool (fun _ _ h => h) rfl rfl
  · have hn := hl.resolve_left h1
    refine calls_of tab tabOk Try.func3 rfl rfl rfl [] (fun _ => ⟨none, 0⟩) [.c (.slice v.base v.l.length v.cap)] [] (baseA w) 0 rfl rfl (by show 1 ≤ _; decide) (abs_base w) ?_
    (repeat' ((conv => whnf) <;> first | (show callK _ 6 _ _ _ _ _; (refine call_pure (f := 6) Try.call6 (.bool true) (fun ρ w' hw => fixed_any w') ?_)) | (show callK _ 7 _ _ _ _ _; (refine call_pure (f := 7) Try.call7 _ (fun ρ w' hw => assign_bad w' v (holds_of_abs hw fun R h => hv.ok (by omega) h) hn) ?_)) | (show drawK _ 23 _ _ _ _ _ _; (refine draw_quiet tabOk mixed (by kernel_rfl) ?_)) | (show Wp _ _ _ _ _ _ _; (refine Wp.go tabOk rfl ?_)) | (show @cmpK _ _ _; (first | refine cmp_yes (by omega) ?_ | refine cmp_no (by omega) ?_ | (refine cmp_both ?_ ?_ <;> intro _))) | (show wrapK _ _ _; (refine wrap_i64 (by omega) (by omega) ?_)) | (show leK _ _ _; (refine le_of (by first | exact Nat.le_refl _ | omega) ?_)) | (show roomK _ _ _; (refine room_of (by first | omega | (dsimp only; omega)) ?_)) | (show ltK _ _ _; (refine lt_of (by omega) ?_)) | (show _ ∧ _; (refine ⟨?_, ?_⟩)) | (show keepK _ _ _ _ _; (refine keep_of (by first | exact List.Sublist.refl _ | exact List.Sublist.cons _ (List.Sublist.refl _) | exact List.Sublist.cons _ (List.Sublist.cons _ (List.Sublist.refl _)) | exact List.Sublist.cons _ (List.Sublist.cons _ (List.Sublist.cons _ (List.Sublist.refl _)))) (by first | exact (fun _ _ h => h) | exact (fun _ _ h => h.1) | exact (fun _ _ h => h.1.1)) ?_)) | (show ownK _ _ _ _ _; (refine own_keep ?_))))
    conv => whnf
    exact ends_bool (fun _ _ h => h) rfl rfl
theorem minus_step {n k : Nat} (hk : k < n) : (List.replicate k (-1 : Int) ++ List.replicate (n - k) 0).set k (-1) = List.replicate (k + 1) (-1) ++ List.replicate (n - (k + 1)) 0 := by
  have e : n - k = (n - (k + 1)) + 1 := by omega
  rw [List.set_append_right _ _ (by simp), e, List.replicate_succ]
  simp only [List.length_replicate, Nat.sub_self, List.set_cons_zero]
  rw [List.replicate_succ', List.append_assoc]
  rfl
theorem refTakes_is (w : World) (x : InstrV) (l : List Int) (h : takenL x = l) : Calls Try.prog 8 #[x.val] w fun e w' => ∃ u : Unit, True ∧ ∃ v, e = .returned v ∧ Ext w w' ∧ NewRows w w' v 1 3 (ints l) := h ▸ refTakes_any w x
/-- what an instruction over registers is -/
structure OutOk (l : List InstrV) (s : RegSt) (i : Nat) (y x : InstrV) : Prop where
  op : x.op = y.op
  k : x.k = y.k
  to : x.to = s.reg.getD i 0
  toB : 0 ≤ x.to ∧ x.to < s.cnt
  aB : 0 ≤ x.a ∧ x.a < s.cnt
  bB : 0 ≤ x.b ∧ x.b < s.cnt
  a0 : takesN y.op < 1 → x.a = 0
  b0 : takesN y.op < 2 → x.b = 0
  hA : 1 ≤ takesN y.op → (holdsAt s.reg s.cnt i).getD x.a.toNat 0 = y.a
  hB : 2 ≤ takesN y.op → (holdsAt s.reg s.cnt i).getD x.b.toNat 0 = y.b
theorem out_ok {l : List InstrV} (hs : Straight l) {s : RegSt} (h : RInv l l.length s) {i : Nat} {y x : InstrV} (hy : l[i]? = some y) (hx : s.out[i]? = some x) : OutOk l s i y x := by
  have hi := (List.getElem?_eq_some_iff.1 hy).1
  rw [h.out i y hi hy] at hx
  cases hx
  obtain ⟨g1, g2, g3, g4, g5, g6⟩ := hs.2.2 i y hi hy
  have hp := h.pos hs.1
  have hr := h.mid.regB i hi
  refine ⟨rfl, rfl, rfl, hr, ?_, ?_, ?_, ?_, ?_, ?_⟩
  · simp only [outOf]
    split
    · have := g5 (by assumption); exact h.mid.regB _ (by omega)
    · omega
  · simp only [outOf]
    split
    · have := g6 (by assumption); exact h.mid.regB _ (by omega)
    · omega
  · intro hn; simp only [outOf]; rw [if_neg (by omega)]
  · intro hn; simp only [outOf]; rw [if_neg (by omega)]
  · intro hn
    have := g5 hn
    simp only [outOf]
    rw [if_pos hn]
    have hk : ((y.a.toNat : Nat) : Int) ∈ takenL y := by
      rw [Int.toNat_of_nonneg (by omega)]
      rcases takenL_of y with ⟨hn', ht⟩ | ⟨hn', ht⟩ | ⟨hn', ht⟩ | ⟨hn', ht⟩ <;> first | omega | (rw [ht]; simp)
    rw [(held hs h hy hk).2]; omega
  · intro hn
    have := g6 hn
    simp only [outOf]
    rw [if_pos hn]
    have hk : ((y.b.toNat : Nat) : Int) ∈ takenL y := by
      rw [Int.toNat_of_nonneg (by omega)]
      rcases takenL_of y with ⟨hn', ht⟩ | ⟨hn', ht⟩ | ⟨hn', ht⟩ | ⟨hn', ht⟩ <;> first | omega | (rw [ht]; simp)
    rw [(held hs h hy hk).2]; omega
set_option maxRecDepth 20000 in
theorem lawTakes_any (w : World) (v : CodeV) (hv : v.raw w) : Calls Try.prog 3 #[v.val] w fun e w' => e = .returned (.bool true) ∧ Ext w w' := by
  by_cases hl : v.l.length ≤ 1000 ∧ Straight v.l
  case neg => exact lawTakes_short w v hv (by by_cases h : 1000 < v.l.length; exact .inl h; exact .inr fun hs => hl ⟨by omega, hs⟩)
  obtain ⟨hl, hs⟩ := hl
  refine calls_of tab tabOk Try.func3 rfl rfl rfl [] (fun _ => ⟨none, 0⟩) [.c (.slice v.base v.l.length v.cap)] [] (baseA w) 0 rfl rfl (by show 1 ≤ _; decide) (abs_base w) ?_
  (repeat' ((conv => whnf) <;> first | (show callK _ 6 _ _ _ _ _; (refine call_pure (f := 6) Try.call6 (.bool true) (fun ρ w' hw => fixed_any w') ?_)) | (show drawK _ 23 _ _ _ _ _ _; (refine draw_quiet tabOk mixed (by kernel_rfl) ?_)) | (show Wp _ _ _ _ _ _ _; (refine Wp.go tabOk rfl ?_)) | (show @cmpK _ _ _; (first | refine cmp_yes (by omega) ?_ | refine cmp_no (by omega) ?_ | (refine cmp_both ?_ ?_ <;> intro _))) | (show wrapK _ _ _; (refine wrap_i64 (by omega) (by omega) ?_)) | (show leK _ _ _; (refine le_of (by first | exact Nat.le_refl _ | omega) ?_)) | (show roomK _ _ _; (refine room_of (by first | omega | (dsimp only; omega)) ?_)) | (show ltK _ _ _; (refine lt_of (by omega) ?_)) | (show _ ∧ _; (refine ⟨?_, ?_⟩)) | (show keepK _ _ _ _ _; (refine keep_of (by first | exact List.Sublist.refl _ | exact List.Sublist.cons _ (List.Sublist.refl _) | exact List.Sublist.cons _ (List.Sublist.cons _ (List.Sublist.refl _)) | exact List.Sublist.cons _ (List.Sublist.cons _ (List.Sublist.cons _ (List.Sublist.refl _)))) (by first | exact (fun _ _ h => h) | exact (fun _ _ h => h.1) | exact (fun _ _ h => h.1.1)) ?_)) | (show ownK _ _ _ _ _; (refine own_keep ?_))))
  refine call_assign v hs hv.fits (fun ρ w' hw => holds_of_abs hw fun R h => hv.ok (by omega) h) (fun s c hR hI hc hok => ?_)
  have hcl : c.l.length = v.l.length := by rw [hc]; exact hI.lenO
  have hpos := hs.1
  have hcp := hI.pos hpos
  have hcf := hI.few
  (repeat' ((conv => whnf) <;> first | (show makeK _ _ _ _; (refine make_of s.cnt rfl rfl (by show 8 * _ ≤ _; omega) (by omega) ?_)) | (show drawK _ 23 _ _ _ _ _ _; (refine draw_quiet tabOk mixed (by kernel_rfl) ?_)) | (show Wp _ _ _ _ _ _ _; (refine Wp.go tabOk rfl ?_)) | (show @cmpK _ _ _; (first | refine cmp_yes (by omega) ?_ | refine cmp_no (by omega) ?_ | (refine cmp_both ?_ ?_ <;> intro _))) | (show wrapK _ _ _; (refine wrap_i64 (by omega) (by omega) ?_)) | (show leK _ _ _; (refine le_of (by first | exact Nat.le_refl _ | omega) ?_)) | (show roomK _ _ _; (refine room_of (by first | omega | (dsimp only; omega)) ?_)) | (show ltK _ _ _; (refine lt_of (by omega) ?_)) | (show _ ∧ _; (refine ⟨?_, ?_⟩)) | (show keepK _ _ _ _ _; (refine keep_of (by first | exact List.Sublist.refl _ | exact List.Sublist.cons _ (List.Sublist.refl _) | exact List.Sublist.cons _ (List.Sublist.cons _ (List.Sublist.refl _)) | exact List.Sublist.cons _ (List.Sublist.cons _ (List.Sublist.cons _ (List.Sublist.refl _)))) (by first | exact (fun _ _ h => h) | exact (fun _ _ h => h.1) | exact (fun _ _ h => h.1.1)) ?_)) | (show ownK _ _ _ _ _; (refine own_keep ?_))))
  refine Wp.loop (σ := Nat) 1 (fun k => [(0, .c (.slice v.base v.l.length v.cap)), (3, .c (.slice c.base c.l.length c.cap)), (4, .c (.int .i64 s.cnt)), (6, .os 0 s.cnt), (50, .c (.int .i64 s.cnt)), (51, .c (.int .i64 k))]) (fun k => [(0, .rows (ints (List.replicate k (-1) ++ List.replicate (s.cnt - k) 0)) 1 3)]) (fun _ => (baseA w).and ((codeD c).past w.heap.size))
    (fun k => k ≤ s.cnt) (fun k => s.cnt - k) 0 [] (by decide) (fun s => ⟨rfl, rfl⟩) (Nat.zero_le _) ⟨rfl, ⟨rfl, rfl, rfl, rfl, rfl, rfl, trivial⟩, ⟨?_, trivial⟩, fun _ _ h => h⟩ ?_
  · have e : ints (List.replicate 0 (-1) ++ List.replicate (s.cnt - 0) 0) = List.replicate s.cnt [Value.int .i64 0] := by simp [ints]
    rw [e]; exact List.mem_cons_self
  rintro k hk
  by_cases hlt : k < s.cnt
  · (repeat' ((conv => whnf) <;> first | (show idxRowK _ _ _ _ _ _; (refine idxRow_of k rfl hlt (by simp [ints_length]; omega) ?_)) | (show rowStoreK _ _ _ _ _; (refine istore (j := k) (by simp; omega) ?_)) | (show drawK _ 23 _ _ _ _ _ _; (refine draw_quiet tabOk mixed (by kernel_rfl) ?_)) | (show Wp _ _ _ _ _ _ _; (refine Wp.go tabOk rfl ?_)) | (show @cmpK _ _ _; (first | refine cmp_yes (by omega) ?_ | refine cmp_no (by omega) ?_ | (refine cmp_both ?_ ?_ <;> intro _))) | (show wrapK _ _ _; (refine wrap_i64 (by omega) (by omega) ?_)) | (show leK _ _ _; (refine le_of (by first | exact Nat.le_refl _ | omega) ?_)) | (show roomK _ _ _; (refine room_of (by first | omega | (dsimp only; omega)) ?_)) | (show ltK _ _ _; (refine lt_of (by omega) ?_)) | (show _ ∧ _; (refine ⟨?_, ?_⟩)) | (show keepK _ _ _ _ _; (refine keep_of (by first | exact List.Sublist.refl _ | exact List.Sublist.cons _ (List.Sublist.refl _) | exact List.Sublist.cons _ (List.Sublist.cons _ (List.Sublist.refl _)) | exact List.Sublist.cons _ (List.Sublist.cons _ (List.Sublist.cons _ (List.Sublist.refl _)))) (by first | exact (fun _ _ h => h) | exact (fun _ _ h => h.1) | exact (fun _ _ h => h.1.1)) ?_)) | (show ownK _ _ _ _ _; (refine own_keep ?_))))
    conv => whnf
    exact ⟨k + 1, [], hlt, by omega, rfl, ⟨rfl, rfl, rfl, rfl, rfl, rfl, trivial⟩, ⟨by rw [← minus_step hlt]; exact List.mem_cons_self, trivial⟩, fun _ _ h => h⟩
  obtain rfl : k = s.cnt := by omega
  (repeat' ((conv => whnf) <;> first | (show drawK _ 23 _ _ _ _ _ _; (refine draw_quiet tabOk mixed (by kernel_rfl) ?_)) | (show Wp _ _ _ _ _ _ _; (refine Wp.go tabOk rfl ?_)) | (show @cmpK _ _ _; (first | refine cmp_yes (by omega) ?_ | refine cmp_no (by omega) ?_ | (refine cmp_both ?_ ?_ <;> intro _))) | (show wrapK _ _ _; (refine wrap_i64 (by omega) (by omega) ?_)) | (show leK _ _ _; (refine le_of (by first | exact Nat.le_refl _ | omega) ?_)) | (show roomK _ _ _; (refine room_of (by first | omega | (dsimp only; omega)) ?_)) | (show ltK _ _ _; (refine lt_of (by omega) ?_)) | (show _ ∧ _; (refine ⟨?_, ?_⟩)) | (show keepK _ _ _ _ _; (refine keep_of (by first | exact List.Sublist.refl _ | exact List.Sublist.cons _ (List.Sublist.refl _) | exact List.Sublist.cons _ (List.Sublist.cons _ (List.Sublist.refl _)) | exact List.Sublist.cons _ (List.Sublist.cons _ (List.Sublist.cons _ (List.Sublist.refl _)))) (by first | exact (fun _ _ h => h) | exact (fun _ _ h => h.1) | exact (fun _ _ h => h.1.1)) ?_)) | (show ownK _ _ _ _ _; (refine own_keep ?_))))
  refine Wp.loop (σ := Nat) 1 (fun i => [(0, .c (.slice v.base v.l.length v.cap)), (3, .c (.slice c.base c.l.length c.cap)), (4, .c (.int .i64 s.cnt)), (6, .os 0 s.cnt), (58, .c (.slice c.base c.l.length c.cap)), (59, .c (.int .i64 c.l.length)), (60, .c (.int .i64 i))]) (fun i => [(0, .rows (ints (holdsAt s.reg s.cnt i)) 1 3)]) (fun _ => (baseA w).and ((codeD c).past w.heap.size))
    (fun i => i ≤ c.l.length) (fun i => c.l.length - i) 0 [] (by decide) (fun s => ⟨rfl, rfl⟩) (Nat.zero_le _) ⟨rfl, ⟨rfl, rfl, rfl, rfl, rfl, rfl, rfl, trivial⟩, ⟨?_, trivial⟩, fun _ _ h => h⟩ ?_
  · rw [Nat.sub_self, List.replicate_zero, List.append_nil]; exact List.mem_cons_self
  rintro i hi
  have hfit : c.l.length ≤ 1000 := by omega
  by_cases hlt : i < c.l.length
  · have hlt2 : i < v.l.length := by omega
    have hy : v.l[i]? = some v.l[i] := List.getElem?_eq_getElem hlt2
    have hx : s.out[i]? = some c.l[i] := by rw [← hc]; exact List.getElem?_eq_getElem hlt
    have ho := out_ok hs hI hy hx
    have hrc : (instrRows c.l)[i]? = some c.l[i].cells := instrRows_get hlt
    have hrv : (instrRows v.l)[i]? = some v.l[i].cells := instrRows_get hlt2
    have hHl := holdsAt_length s.reg s.cnt i
    obtain ⟨a, ha⟩ : ∃ a, v.base = some a := base_some (j := i) hv.rows (by rw [instrRows_length]; exact hlt2)
    have hvr : ∀ R w', ((baseA w).and ((codeD c).past w.heap.size)).holds R w' → RowsI w' (some a) 5 (instrRows v.l) := fun R w' h => ha ▸ rows_base h.1 hv.rows
    refine Wp.know (p := ∃ b, c.base = some b) (fun ρ w' hw => (holds_of_abs hw fun R h => (hok _ _ h.2).at hlt)) ?_
    rintro ⟨b, hb⟩
    have hcr : ∀ R w', ((baseA w).and ((codeD c).past w.heap.size)).holds R w' → RowsI w' (some b) 5 (instrRows c.l) := fun R w' h => hb ▸ (hok _ _ h.2).rows
    generalize v.l[i] = y at *
    generalize c.l[i] = x at *
    obtain ⟨o1, o2, o3, o4, o5, o6, o7, o8, o9, o10⟩ := ho
    rw [ha, hb]
    have hsucc : holdsAt s.reg s.cnt (i + 1) = (holdsAt s.reg s.cnt i).set x.to.toNat i := by rw [o3]; rfl
    have e0 : (ints []).length = 0 := rfl
    have e1 : (ints [y.a]).length = 1 := rfl
    have e2 : (ints [y.a, y.b]).length = 2 := rfl
    rcases takenL_of y with ⟨hn, ht⟩ | ⟨hn, ht⟩ | ⟨hn, ht⟩ | ⟨hn, ht⟩
    all_goals
      (repeat' ((conv => whnf) <;> first | (show idxK _ _ _ _ _; (first | refine idx_of b i rfl rfl hlt ?_ | refine idx_of a i rfl rfl hlt2 ?_)) | (show roAggK _ _ _ _; (first | refine roAgg_row hcr _ hrc rfl ?_ | refine roAgg_row hvr _ hrv rfl ?_)) | (show callK _ 8 _ _ _ _ _; (refine call_new (f := 8) Try.call8 1 3 (fun _ : Unit => ints _) (fun _ => True) (fun ρ w' hw => refTakes_is w' y _ ht) (fun _ _ => ?_))) | (show idxRowK _ _ _ _ _ _; (first | refine idxRow_of x.a.toNat (by omega) (by omega) (by rw [ints_length, hHl]; exact Nat.le_refl _) ?_ | refine idxRow_of x.b.toNat (by omega) (by omega) (by rw [ints_length, hHl]; exact Nat.le_refl _) ?_ | refine idxRow_of x.to.toNat (by omega) (by omega) (by rw [ints_length, hHl]; exact Nat.le_refl _) ?_)) | (show rowK _ _ _ _; (first | refine row_of _ _ (ints_getD (k := x.a.toNat) (by omega)) rfl ?_ | refine row_of _ _ (ints_getD (k := x.b.toNat) (by omega)) rfl ?_)) | (show rowStoreK _ _ _ _ _; (refine istore (j := x.to.toNat) (by omega) ?_)) | (show drawK _ 23 _ _ _ _ _ _; (refine draw_quiet tabOk mixed (by kernel_rfl) ?_)) | (show Wp _ _ _ _ _ _ _; (refine Wp.go tabOk rfl ?_)) | (show @cmpK _ _ _; (first | refine cmp_yes (by omega) ?_ | refine cmp_no (by omega) ?_ | (refine cmp_both ?_ ?_ <;> intro _))) | (show wrapK _ _ _; (refine wrap_i64 (by omega) (by omega) ?_)) | (show leK _ _ _; (refine le_of (by first | exact Nat.le_refl _ | omega) ?_)) | (show roomK _ _ _; (refine room_of (by first | omega | (dsimp only; omega)) ?_)) | (show ltK _ _ _; (refine lt_of (by omega) ?_)) | (show _ ∧ _; (refine ⟨?_, ?_⟩)) | (show keepK _ _ _ _ _; (refine keep_of (by first | exact List.Sublist.refl _ | exact List.Sublist.cons _ (List.Sublist.refl _) | exact List.Sublist.cons _ (List.Sublist.cons _ (List.Sublist.refl _)) | exact List.Sublist.cons _ (List.Sublist.cons _ (List.Sublist.cons _ (List.Sublist.refl _)))) (by first | exact (fun _ _ h => h) | exact (fun _ _ h => h.1) | exact (fun _ _ h => h.1.1)) ?_)) | (show ownK _ _ _ _ _; (refine own_keep ?_))))
    all_goals (conv => whnf)
    all_goals exact ⟨i + 1, [], hlt, by omega, rfl, ⟨rfl, rfl, rfl, rfl, rfl, rfl, rfl, trivial⟩, ⟨by rw [hsucc]; exact List.mem_cons_of_mem _ (List.mem_cons_of_mem _ (List.mem_cons_of_mem _ List.mem_cons_self)), trivial⟩, fun _ _ h => h⟩
  · obtain rfl : i = v.l.length := by omega
    have hlt : v.l.length - 1 < c.l.length := by omega
    have hx : s.out[v.l.length - 1]? = some c.l[v.l.length - 1] := by rw [← hc]; exact List.getElem?_eq_getElem hlt
    have ho := out_ok hs hI (List.getElem?_eq_getElem (show v.l.length - 1 < v.l.length by omega)) hx
    have hrc : (instrRows c.l)[v.l.length - 1]? = some c.l[v.l.length - 1].cells := instrRows_get hlt
    refine Wp.know (p := ∃ b, c.base = some b) (fun ρ w' hw => (holds_of_abs hw fun R h => (hok _ _ h.2).at hlt)) ?_
    rintro ⟨b, hb⟩
    have hcr : ∀ R w', ((baseA w).and ((codeD c).past w.heap.size)).holds R w' → RowsI w' (some b) 5 (instrRows c.l) := fun R w' h => hb ▸ (hok _ _ h.2).rows
    have hlast := held_last hs hI
    rw [← ho.to] at hlast
    have hHl := holdsAt_length s.reg s.cnt v.l.length
    have hto := ho.toB
    generalize c.l[v.l.length - 1] = x at *
    rw [hb]
    (repeat' ((conv => whnf) <;> first | (show idxK _ _ _ _ _; (refine idx_of b (v.l.length - 1) rfl (by omega) hlt ?_)) | (show roK _ _ _; (refine ro_row (f := 1) hcr _ _ hrc rfl ?_)) | (show idxRowK _ _ _ _ _ _; (refine idxRow_of x.to.toNat (by omega) (by omega) (by rw [ints_length, hHl]; exact Nat.le_refl _) ?_)) | (show rowK _ _ _ _; (refine row_of _ _ (ints_getD (k := x.to.toNat) (by omega)) rfl ?_)) | (show drawK _ 23 _ _ _ _ _ _; (refine draw_quiet tabOk mixed (by kernel_rfl) ?_)) | (show Wp _ _ _ _ _ _ _; (refine Wp.go tabOk rfl ?_)) | (show @cmpK _ _ _; (first | refine cmp_yes (by omega) ?_ | refine cmp_no (by omega) ?_ | (refine cmp_both ?_ ?_ <;> intro _))) | (show wrapK _ _ _; (refine wrap_i64 (by omega) (by omega) ?_)) | (show leK _ _ _; (refine le_of (by first | exact Nat.le_refl _ | omega) ?_)) | (show roomK _ _ _; (refine room_of (by first | omega | (dsimp only; omega)) ?_)) | (show ltK _ _ _; (refine lt_of (by omega) ?_)) | (show _ ∧ _; (refine ⟨?_, ?_⟩)) | (show keepK _ _ _ _ _; (refine keep_of (by first | exact List.Sublist.refl _ | exact List.Sublist.cons _ (List.Sublist.refl _) | exact List.Sublist.cons _ (List.Sublist.cons _ (List.Sublist.refl _)) | exact List.Sublist.cons _ (List.Sublist.cons _ (List.Sublist.cons _ (List.Sublist.refl _)))) (by first | exact (fun _ _ h => h) | exact (fun _ _ h => h.1) | exact (fun _ _ h => h.1.1)) ?_)) | (show ownK _ _ _ _ _; (refine own_keep ?_))))
    conv => whnf
    exact ends_bool (fun R w' h => h.1) rfl rfl
end Go.Proofs.Ytlcikmddmcdeeaa
