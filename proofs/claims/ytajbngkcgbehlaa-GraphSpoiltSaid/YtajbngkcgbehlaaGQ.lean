import Derived.Test.YtajbngkcgbehlaaGP
namespace Go.Proofs.Ytajbngkcgbehlaa
open Go.SX Go.RowKit
/-! ### graphs as they come in -/
structure IntsV.raw (w : World) (v : IntsV) : Prop where
  rows : RowsI w v.base 1 (ints v.xs)
  fits : ∀ x ∈ v.xs, -9223372036854775808 ≤ x ∧ x ≤ 9223372036854775807
  room : v.xs.length ≤ v.cap
structure NodeV.raw (w : World) (n : NodeV) : Prop where
  shape : n.shape.raw w
  data : n.data.raw w
  bias : n.bias.raw w
  kindFits : i64 n.kind
  aFits : i64 n.a
  bFits : i64 n.b
  loFits : i64 n.lo
  hiFits : i64 n.hi
  sizeFits : i64 n.size
structure GraphV.raw (w : World) (g : GraphV) : Prop where
  rows : RowsI w g.base 9 (nodeRows g.l)
  each : ∀ n ∈ g.l, n.raw w
  outFits : i64 g.out
theorem IntsV.raw.later {w w' : World} {R : Nat → Prop} {v : IntsV} (h : v.raw w) (hb : (baseA w).holds R w') : v.raw w' := ⟨rows_base hb h.rows, h.fits, h.room⟩
theorem NodeV.raw.later {w w' : World} {R : Nat → Prop} {n : NodeV} (h : n.raw w) (hb : (baseA w).holds R w') : n.raw w' :=
  ⟨h.shape.later hb, h.data.later hb, h.bias.later hb, h.kindFits, h.aFits, h.bFits, h.loFits, h.hiFits, h.sizeFits⟩
theorem GraphV.raw.later {w w' : World} {R : Nat → Prop} {g : GraphV} (h : g.raw w) (hb : (baseA w).holds R w') : g.raw w' := ⟨rows_base hb h.rows, fun n hn => (h.each n hn).later hb, h.outFits⟩
def fewN (n : NodeV) : Bool := decide (n.data.xs.length ≤ 5000 ∧ n.bias.xs.length ≤ 200 ∧ n.shape.xs.length ≤ 20)
def fewB (g : GraphV) : Bool := decide (g.l.length ≤ 40) && g.l.all fewN
theorem IntsV.raw.ok {w : World} {v : IntsV} (h : v.raw w) (hf : v.xs.length ≤ 1000000) : v.ok w := ⟨h.rows, h.fits, h.room, hf⟩
theorem raw_ok {w : World} {g : GraphV} (h : g.raw w) (hf : fewB g = true) : g.ok w := by
  unfold fewB at hf
  simp only [Bool.and_eq_true, decide_eq_true_eq, List.all_eq_true] at hf
  have hn : ∀ n ∈ g.l, n.data.xs.length ≤ 5000 ∧ n.bias.xs.length ≤ 200 ∧ n.shape.xs.length ≤ 20 := fun n hn => by simpa [fewN] using hf.2 n hn
  exact ⟨h.rows, fun n hm => by
    have h1 := h.each n hm
    have h2 := hn n hm
    exact ⟨h1.shape.ok (by omega), h1.data.ok (by omega), h1.bias.ok (by omega), h1.kindFits, h1.aFits, h1.bFits, h1.loFits, h1.hiFits, h1.sizeFits⟩, fun n hm => by have := hn n hm; exact ⟨by omega, by omega⟩, by omega, h.outFits⟩
set_option maxHeartbeats 1000000 in
theorem few_any (w : World) (g : GraphV) (hg : g.raw w) : Calls Try.prog 16 #[g.val] w fun e w' => e = .returned (.bool (fewB g)) ∧ Ext w w' := by
  by_cases hc : g.l.length ≤ 40
  · have hs : fewB g = g.l.all fewN := by unfold fewB; rw [decide_eq_true hc, Bool.true_and]
    rw [hs]
    refine calls_of tab tabOk Try.func16 rfl rfl rfl [] (fun _ => ⟨none, 0⟩) [.agg [.c (.slice g.base g.l.length g.cap), .c (.int .i64 g.out)]] [] (baseA w) 0 rfl rfl (by show 1 ≤ _; decide) (abs_base w) ?_
    (repeat' ((conv => whnf) <;> first | (show Wp _ _ _ _ _ _ _; (refine Wp.go tabOk rfl ?_)) | (show @cmpK _ _ _; (first | refine cmp_yes (by omega) ?_ | refine cmp_no (by omega) ?_ | (refine cmp_both ?_ ?_ <;> intro _))) | (show wrapK _ _ _; (refine wrap_i64 (by omega) (by omega) ?_)) | (show leK _ _ _; (refine le_of (by first | exact Nat.le_refl _ | omega) ?_)) | (show roomK _ _ _; (refine room_of (by first | omega | (dsimp only; omega)) ?_)) | (show ltK _ _ _; (refine lt_of (by omega) ?_)) | (show _ ∧ _; (refine ⟨?_, ?_⟩)) | (show keepK _ _ _ _ _; (refine keep_of (by first | exact List.Sublist.refl _ | exact List.Sublist.cons _ (List.Sublist.refl _) | exact List.Sublist.cons _ (List.Sublist.cons _ (List.Sublist.refl _)) | exact List.Sublist.cons _ (List.Sublist.cons _ (List.Sublist.cons _ (List.Sublist.refl _)))) (by first | exact (fun _ _ h => h) | exact (fun _ _ h => h.1) | exact (fun _ _ h => h.1.1)) ?_)) | (show ownK _ _ _ _ _; (refine own_keep ?_))))
    refine Wp.loop (σ := Nat) 1 (fun k => [(10, .c (.slice g.base g.l.length g.cap)), (11, .c (.int .i64 g.l.length)), (12, .c (.int .i64 k))]) (fun _ => []) (fun _ => baseA w)
      (fun k => k ≤ g.l.length ∧ g.l.all fewN = (g.l.drop k).all fewN) (fun k => g.l.length - k) 0 [] (by decide) (fun s => ⟨rfl, rfl⟩) ⟨by simp, rfl⟩ ⟨rfl, ⟨rfl, rfl, rfl, trivial⟩, trivial, fun R w' h => h⟩ ?_
    rintro k ⟨hk, he⟩
    by_cases hlt : k < g.l.length
    · obtain ⟨a, ha⟩ : ∃ a, g.base = some a := base_some (j := k) hg.rows (by rw [nodeRows_length]; omega)
      rw [drop_at hlt, List.all_cons] at he
      generalize hnk : g.l[k] = n at *
      have hrow : (nodeRows g.l)[k]? = some n.cells := by rw [nodeRows_get hlt, hnk]
      (repeat' ((conv => whnf) <;> first | (show idxK _ _ _ _ _; (refine idx_of a k ha rfl hlt ?_)) | (show roAggK _ _ _ _; (refine roAgg_row (fun R w' h => by rw [← ha]; exact rows_base h hg.rows) _ hrow rfl ?_)) | (show Wp _ _ _ _ _ _ _; (refine Wp.go tabOk rfl ?_)) | (show @cmpK _ _ _; (first | refine cmp_yes (by omega) ?_ | refine cmp_no (by omega) ?_ | (refine cmp_both ?_ ?_ <;> intro _))) | (show wrapK _ _ _; (refine wrap_i64 (by omega) (by omega) ?_)) | (show leK _ _ _; (refine le_of (by first | exact Nat.le_refl _ | omega) ?_)) | (show roomK _ _ _; (refine room_of (by first | omega | (dsimp only; omega)) ?_)) | (show ltK _ _ _; (refine lt_of (by omega) ?_)) | (show _ ∧ _; (refine ⟨?_, ?_⟩)) | (show keepK _ _ _ _ _; (refine keep_of (by first | exact List.Sublist.refl _ | exact List.Sublist.cons _ (List.Sublist.refl _) | exact List.Sublist.cons _ (List.Sublist.cons _ (List.Sublist.refl _)) | exact List.Sublist.cons _ (List.Sublist.cons _ (List.Sublist.cons _ (List.Sublist.refl _)))) (by first | exact (fun _ _ h => h) | exact (fun _ _ h => h.1) | exact (fun _ _ h => h.1.1)) ?_)) | (show ownK _ _ _ _ _; (refine own_keep ?_))))
      all_goals first
        | exact ends_bool (fun _ _ h => h) rfl (by rw [he, show fewN n = false from decide_eq_false (by omega), Bool.false_and])
        | exact ⟨k + 1, [], ⟨hlt, by rw [he, show fewN n = true from decide_eq_true (by omega), Bool.true_and]⟩, by omega, rfl, ⟨rfl, rfl, rfl, trivial⟩, trivial, fun R w' h => h⟩
    · rw [List.drop_of_length_le (by omega)] at he
      (repeat' ((conv => whnf) <;> first | (show Wp _ _ _ _ _ _ _; (refine Wp.go tabOk rfl ?_)) | (show @cmpK _ _ _; (first | refine cmp_yes (by omega) ?_ | refine cmp_no (by omega) ?_ | (refine cmp_both ?_ ?_ <;> intro _))) | (show wrapK _ _ _; (refine wrap_i64 (by omega) (by omega) ?_)) | (show leK _ _ _; (refine le_of (by first | exact Nat.le_refl _ | omega) ?_)) | (show roomK _ _ _; (refine room_of (by first | omega | (dsimp only; omega)) ?_)) | (show ltK _ _ _; (refine lt_of (by omega) ?_)) | (show _ ∧ _; (refine ⟨?_, ?_⟩)) | (show keepK _ _ _ _ _; (refine keep_of (by first | exact List.Sublist.refl _ | exact List.Sublist.cons _ (List.Sublist.refl _) | exact List.Sublist.cons _ (List.Sublist.cons _ (List.Sublist.refl _)) | exact List.Sublist.cons _ (List.Sublist.cons _ (List.Sublist.cons _ (List.Sublist.refl _)))) (by first | exact (fun _ _ h => h) | exact (fun _ _ h => h.1) | exact (fun _ _ h => h.1.1)) ?_)) | (show ownK _ _ _ _ _; (refine own_keep ?_))))
      exact ends_bool (fun _ _ h => h) rfl (by rw [he]; rfl)
  · have hs : fewB g = false := by unfold fewB; rw [decide_eq_false hc, Bool.false_and]
    rw [hs]
    refine calls_of tab tabOk Try.func16 rfl rfl rfl [] (fun _ => ⟨none, 0⟩) [.agg [.c (.slice g.base g.l.length g.cap), .c (.int .i64 g.out)]] [] (baseA w) 0 rfl rfl (by show 1 ≤ _; decide) (abs_base w) ?_
    (repeat' ((conv => whnf) <;> first | (show Wp _ _ _ _ _ _ _; (refine Wp.go tabOk rfl ?_)) | (show @cmpK _ _ _; (first | refine cmp_yes (by omega) ?_ | refine cmp_no (by omega) ?_ | (refine cmp_both ?_ ?_ <;> intro _))) | (show wrapK _ _ _; (refine wrap_i64 (by omega) (by omega) ?_)) | (show leK _ _ _; (refine le_of (by first | exact Nat.le_refl _ | omega) ?_)) | (show roomK _ _ _; (refine room_of (by first | omega | (dsimp only; omega)) ?_)) | (show ltK _ _ _; (refine lt_of (by omega) ?_)) | (show _ ∧ _; (refine ⟨?_, ?_⟩)) | (show keepK _ _ _ _ _; (refine keep_of (by first | exact List.Sublist.refl _ | exact List.Sublist.cons _ (List.Sublist.refl _) | exact List.Sublist.cons _ (List.Sublist.cons _ (List.Sublist.refl _)) | exact List.Sublist.cons _ (List.Sublist.cons _ (List.Sublist.cons _ (List.Sublist.refl _)))) (by first | exact (fun _ _ h => h) | exact (fun _ _ h => h.1) | exact (fun _ _ h => h.1.1)) ?_)) | (show ownK _ _ _ _ _; (refine own_keep ?_))))
    exact ends_bool (fun _ _ h => h) rfl rfl

theorem sameShapes_any (w : World) (x y : ShapesV) (hx : x.ok w) (hy : y.ok w) (he : x.l.map (·.xs) = y.l.map (·.xs)) : Calls Try.prog 19 #[x.val, y.val] w fun e w' => e = .returned (.bool true) ∧ Ext w w' := by
  have hl : x.l.length = y.l.length := by simpa using congrArg List.length he
  have hfew := hx.few
  refine calls_of tab tabOk Try.func19 rfl rfl rfl [] (fun _ => ⟨none, 0⟩) [.c x.val, .c y.val] [] (baseA w) 0 rfl rfl (by show 2 ≤ _; decide) (abs_base w) ?_
  (repeat' ((conv => whnf) <;> first | (show drawK _ 6 _ _ _ _ _ _; (refine draw_quiet tabOk mixed (by kernel_rfl) ?_)) | (show Wp _ _ _ _ _ _ _; (refine Wp.go tabOk rfl ?_)) | (show @cmpK _ _ _; (first | refine cmp_yes (by omega) ?_ | refine cmp_no (by omega) ?_ | (refine cmp_both ?_ ?_ <;> intro _))) | (show wrapK _ _ _; (refine wrap_i64 (by omega) (by omega) ?_)) | (show leK _ _ _; (refine le_of (by first | exact Nat.le_refl _ | omega) ?_)) | (show roomK _ _ _; (refine room_of (by first | omega | (dsimp only; omega)) ?_)) | (show ltK _ _ _; (refine lt_of (by omega) ?_)) | (show _ ∧ _; (refine ⟨?_, ?_⟩)) | (show keepK _ _ _ _ _; (refine keep_of (by first | exact List.Sublist.refl _ | exact List.Sublist.cons _ (List.Sublist.refl _) | exact List.Sublist.cons _ (List.Sublist.cons _ (List.Sublist.refl _)) | exact List.Sublist.cons _ (List.Sublist.cons _ (List.Sublist.cons _ (List.Sublist.refl _)))) (by first | exact (fun _ _ h => h) | exact (fun _ _ h => h.1) | exact (fun _ _ h => h.1.1)) ?_)) | (show ownK _ _ _ _ _; (refine own_keep ?_))))
  refine Wp.loop (σ := Nat) 0 (fun k => [(0, .c x.val), (1, .c y.val), (12, .c (.int .i64 x.l.length)), (13, .c (.int .i64 k))]) (fun _ => []) (fun _ => baseA w)
    (fun k => k ≤ x.l.length) (fun k => x.l.length - k) 0 [] (by decide) (fun s => ⟨rfl, rfl⟩) (by simp) ⟨rfl, ⟨rfl, rfl, rfl, rfl, trivial⟩, trivial, fun R w' h => h⟩ ?_
  rintro k hk
  by_cases hlt : k < x.l.length
  · obtain ⟨a, ha⟩ : ∃ a, x.base = some a := base_some (j := k) hx.rows (by rw [shRows_length]; omega)
    obtain ⟨b, hb⟩ : ∃ a, y.base = some a := base_some (j := k) hy.rows (by rw [shRows_length]; omega)
    have hly : k < y.l.length := by omega
    have hxy : x.l[k].xs = y.l[k].xs := by
      have := congrArg (fun l => l[k]?) he
      simpa [hlt, hly] using this
    have hxk := hx.each _ (List.getElem_mem hlt)
    have hyk := hy.each _ (List.getElem_mem hly)
    (repeat' ((conv => whnf) <;> first | (show idxK _ _ _ _ _; (first | refine idx_of a k ha rfl hlt ?_ | refine idx_of b k hb rfl hly ?_)) | (show roK _ _ _; (first | refine ro_row0 (fun R w' h => by rw [← ha]; exact rows_base h hx.rows) _ _ (shRows_get hlt) rfl ?_ | refine ro_row0 (fun R w' h => by rw [← hb]; exact rows_base h hy.rows) _ _ (shRows_get hly) rfl ?_)) | (show callQ _ 39 _ _ _ _ _; (refine callQ_of (f := 39) Try.call39 (.bool true) (fun ρ w' hw => by have := same_any w' x.l[k] y.l[k] (holds_of_abs hw fun R h => hxk.later h) (holds_of_abs hw fun R h => hyk.later h); rw [decide_eq_true hxy] at this; exact this) ?_)) | (show drawK _ 6 _ _ _ _ _ _; (refine draw_quiet tabOk mixed (by kernel_rfl) ?_)) | (show Wp _ _ _ _ _ _ _; (refine Wp.go tabOk rfl ?_)) | (show @cmpK _ _ _; (first | refine cmp_yes (by omega) ?_ | refine cmp_no (by omega) ?_ | (refine cmp_both ?_ ?_ <;> intro _))) | (show wrapK _ _ _; (refine wrap_i64 (by omega) (by omega) ?_)) | (show leK _ _ _; (refine le_of (by first | exact Nat.le_refl _ | omega) ?_)) | (show roomK _ _ _; (refine room_of (by first | omega | (dsimp only; omega)) ?_)) | (show ltK _ _ _; (refine lt_of (by omega) ?_)) | (show _ ∧ _; (refine ⟨?_, ?_⟩)) | (show keepK _ _ _ _ _; (refine keep_of (by first | exact List.Sublist.refl _ | exact List.Sublist.cons _ (List.Sublist.refl _) | exact List.Sublist.cons _ (List.Sublist.cons _ (List.Sublist.refl _)) | exact List.Sublist.cons _ (List.Sublist.cons _ (List.Sublist.cons _ (List.Sublist.refl _)))) (by first | exact (fun _ _ h => h) | exact (fun _ _ h => h.1) | exact (fun _ _ h => h.1.1)) ?_)) | (show ownK _ _ _ _ _; (refine own_keep ?_))))
    exact ⟨k + 1, [], hlt, by omega, rfl, ⟨rfl, rfl, rfl, rfl, trivial⟩, trivial, fun R w' h => h⟩
  · (repeat' ((conv => whnf) <;> first | (show drawK _ 6 _ _ _ _ _ _; (refine draw_quiet tabOk mixed (by kernel_rfl) ?_)) | (show Wp _ _ _ _ _ _ _; (refine Wp.go tabOk rfl ?_)) | (show @cmpK _ _ _; (first | refine cmp_yes (by omega) ?_ | refine cmp_no (by omega) ?_ | (refine cmp_both ?_ ?_ <;> intro _))) | (show wrapK _ _ _; (refine wrap_i64 (by omega) (by omega) ?_)) | (show leK _ _ _; (refine le_of (by first | exact Nat.le_refl _ | omega) ?_)) | (show roomK _ _ _; (refine room_of (by first | omega | (dsimp only; omega)) ?_)) | (show ltK _ _ _; (refine lt_of (by omega) ?_)) | (show _ ∧ _; (refine ⟨?_, ?_⟩)) | (show keepK _ _ _ _ _; (refine keep_of (by first | exact List.Sublist.refl _ | exact List.Sublist.cons _ (List.Sublist.refl _) | exact List.Sublist.cons _ (List.Sublist.cons _ (List.Sublist.refl _)) | exact List.Sublist.cons _ (List.Sublist.cons _ (List.Sublist.cons _ (List.Sublist.refl _)))) (by first | exact (fun _ _ h => h) | exact (fun _ _ h => h.1) | exact (fun _ _ h => h.1.1)) ?_)) | (show ownK _ _ _ _ _; (refine own_keep ?_))))
    exact ends_bool (fun _ _ h => h) rfl rfl

theorem checkR_len : ∀ (l : List NodeV) (sh : List (List Int)), (checkR l sh).1 = 0 → (checkR l sh).2.length = sh.length + l.length
  | [], sh, _ => by simp [checkR]
  | n :: r, sh, h => by
    by_cases hf : formB n sh.length = false
    · rw [checkR_form hf] at h; simp at h
    have hf : formB n sh.length = true := by simpa using hf
    cases hs : shapeO n sh with
    | none => rw [checkR_shape hf hs] at h; simp at h
    | some s =>
      by_cases hn : nearB n = false
      · rw [checkR_near hf hs hn] at h; simp at h
      have hn : nearB n = true := by simpa using hn
      rw [checkR_next hf hs hn] at h ⊢
      rw [checkR_len r _ h]
      simp; omega
theorem check_len {g : GraphV} (h : (check g).1 = 0) : (check g).2.length ≤ 24 := by
  unfold check at h ⊢
  by_cases hc : g.l.length < 1 ∨ 24 < g.l.length ∨ g.out < 0 ∨ (g.l.length : Int) ≤ g.out
  · rw [if_pos hc] at h; simp at h
  · rw [if_neg hc] at h ⊢
    rw [checkR_len _ _ h]; simp; omega
theorem shapesD_ok {sv : ShapesV} {g : GraphV} {R : Nat → Prop} {w : World} {N : Nat} (he : (check g).1 = 0) (hm : sv.l.map (·.xs) = (check g).2) (hs : ∀ u ∈ sv.l, u.sane) (h : ((shapesD sv).past N).holds R w) : sv.ok w :=
  ⟨rowsA_in h.1, fun u hu => intsA_ok (hs u hu) (h.2 u hu), by have := check_len he; rw [← hm] at this; simpa using this⟩
theorem call_check2 {cx : Cx} {f : FuncId} {args : List SV} {H : Heap} {S : Asn} {nx : Nat} {K : SV → Heap → Asn → Nat → Prop} (r : Int × List (List Int)) (hf : ∀ ar w, (callFunc f ar).run cx.P w = .ok (.enter f ar) w)
    (hc : ∀ ρ w', Abs cx.B ρ nx H S w' → Calls cx.P f (SV.rfs ρ args).toArray w' (CheckPost w' r))
    (h0 : r.1 ≠ 0 → K (.c (.tuple #[.slice none 0 0, .int .i64 r.1])) H S nx)
    (h1 : r.1 = 0 → ∀ sv : ShapesV, sv.l.map (·.xs) = r.2 → (∀ u ∈ sv.l, u.sane) → sv.l.length ≤ sv.cap → K (.c (.tuple #[sv.val, .int .i64 0])) H (S.and ((shapesD sv).past cx.B.w0.heap.size)) nx) : callK cx f args H S nx K := by
  rw [callK_def]
  refine ⟨hf, fun ρ w hw => (hc ρ w hw).mono ?_⟩
  rintro e w' ⟨v, rfl, he, hbad, hgood⟩
  by_cases hr : r.1 = 0
  · obtain ⟨sv, rfl, hm, hs, hd, hcap⟩ := hgood hr
    rw [hr]
    exact ⟨.c (.tuple #[sv.val, .int .i64 0]), ρ, H, _, nx, rfl, fun _ _ => rfl, Nat.le_refl _, SV.lt_c _, hw.grow he hd, h1 hr sv hm hs hcap⟩
  · rw [hbad hr]
    exact ⟨.c (.tuple #[.slice none 0 0, .int .i64 r.1]), ρ, H, S, nx, rfl, fun _ _ => rfl, Nat.le_refl _, SV.lt_c _, hw.ext he, h0 hr⟩
theorem call_check {cx : Cx} {f : FuncId} {args : List SV} {H : Heap} {S : Asn} {nx : Nat} {K : SV → Heap → Asn → Nat → Prop} (r : Int × List (List Int)) (hf : ∀ ar w, (callFunc f ar).run cx.P w = .ok (.enter f ar) w)
    (hc : ∀ ρ w', Abs cx.B ρ nx H S w' → Calls cx.P f (SV.rfs ρ args).toArray w' (CheckPost w' r))
    (h0 : r.1 ≠ 0 → K (.c (.tuple #[.slice none 0 0, .int .i64 r.1])) H S nx)
    (h1 : r.1 = 0 → ∀ sv : ShapesV, sv.l.map (·.xs) = r.2 → (∀ u ∈ sv.l, u.sane) → K (.c (.tuple #[sv.val, .int .i64 0])) H (S.and ((shapesD sv).past cx.B.w0.heap.size)) nx) : callK cx f args H S nx K :=
  call_check2 r hf hc h0 (fun e sv hm hs _ => h1 e sv hm hs)
end Go.Proofs.Ytajbngkcgbehlaa
