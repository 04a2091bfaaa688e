import Derived.Test.YtdmkdogakbipbaaRows
import Derived.Test.YtdmkdogakbipbaaKLinearSums5
/- MA -/
namespace Go.Proofs.Ytdmkdogakbipbaa
open Go.RowKit Go.SX
def eachL (N : Nat) (l : List IntsV) : Asn where
  holds R w := ∀ u ∈ l, ((intsA u).past N).holds R w
  stable := fun hR hw h u hu => ((intsA u).past N).stable hR hw (h u hu)
theorem eachL_snoc {N : Nat} {l : List IntsV} {u : IntsV} {R : Nat → Prop} {w : World} (h : (eachL N l).holds R w) (hu : ((intsA u).past N).holds R w) : (eachL N (l ++ [u])).holds R w := by
  intro v hv
  rcases List.mem_append.1 hv with hv | hv
  · exact h v hv
  · rw [List.mem_singleton.1 hv]; exact hu
theorem ints_storeL {r : List Int} {k : Nat} {v : Int} {K : List (List Value) → Prop} (hk : k < r.length) (h : K (ints (r.set k v))) : rowStoreK (ints r) k 0 [.int .i64 v] K := by
  refine rowStore_of _ (ints_get hk) (by show 0 + 1 ≤ 1; omega) ?_
  have e : (ints r).set k (setFrom [Value.int .i64 r[k]] 0 [.int .i64 v]) = ints (r.set k v) := by
    have e2 : setFrom [Value.int .i64 r[k]] 0 [.int .i64 v] = [Value.int .i64 v] := rfl
    rw [e2]
    simp [ints, List.map_set]
  rw [e]; exact h
theorem rows_snocL (us : List IntsV) (base : Option Addr) (cap : Nat) (xs : List Int) {m k : Nat} (hm : m = us.length) (hk : k = xs.length) {i : Nat} {T : TypeId} {H : Heap} : (i, Ent.rows (shRows (us ++ [IntsV.mk base cap xs])) 1 T) ∈ (i, Ent.rows (List.take m (shRows us) ++ [[.slice base k cap]]) 1 T) :: H := by
  subst hm hk
  rw [show shRows (us ++ [IntsV.mk base cap xs]) = List.take us.length (shRows us) ++ [[.slice base xs.length cap]] by rw [List.take_of_length_le (by rw [shRows_length]; exact Nat.le_refl _)]; simp [shRows, IntsV.val]]
  exact List.mem_cons_self
theorem stepR_fits {n : Nat} {d : Int} {r : List Int × Bool} {s f x : Int} (h : r.1.length = n ∧ ∀ y ∈ r.1, i64 y) (hx : i64 x) : (stepR n d r s f x).1.length = n ∧ ∀ y ∈ (stepR n d r s f x).1, i64 y := by
  unfold stepR
  split
  · exact ⟨by rw [List.length_set]; exact h.1, set_fits h.2 hx⟩
  · exact h
theorem diag_end2 {w : World} {B : Base} {H : Heap} {S : Asn} {nx i m : Nat} {us : List IntsV} {D : List (List Int)} (hb : ∀ R w', S.holds R w' → (baseA B.w0).holds R w' ∧ (eachL B.w0.heap.size us).holds R w') (hw0 : B.w0 = w) (hD : us.map IntsV.xs = D) (hs : ∀ u ∈ us, u.sane) (hm : m = us.length) (hi : (i, Ent.rows (shRows us) 1 33) ∈ H) :
    finK B (.tup [.os i m, .c (.int .i64 0)]) H S nx (DiagPost w D 0) := by
  subst hw0 hm
  refine fin_of fun ρ w' hw => ?_
  have hn1 := new_of_abs hw (fun R w' h => (hb R w' h).1) hi
  obtain ⟨base, cap, e, h1, h2⟩ : ∃ base cap, (SV.os i (shRows us).length).rf ρ = .slice base us.length cap ∧ us.length ≤ cap ∧ (rowsA base 1 (shRows us)).holds (fun b => B.w0.heap.size ≤ b ∧ b < w'.heap.size) w' := by
    obtain ⟨base, cap, e, h1⟩ := newRows_data hn1
    obtain ⟨lc, e2, F, hF, hr, hcap, _⟩ := hn1
    rw [e2] at e
    simp only [Value.slice.injEq] at e
    obtain ⟨e3, _, e4⟩ := e
    refine ⟨base, cap, ?_, ?_, h1⟩
    · rw [e2, e3, e4, shRows_length]
    · rw [← e4]; simpa [shRows_length] using hcap
  rw [shRows_length] at e
  refine ⟨⟨base, cap, us⟩, ⟨hD, hs, h1⟩, ?_, ext_of_abs hw (fun R w' h => (hb R w' h).1), h2, fun u hu => past_new hw (fun R w' h => (hb R w' h).2 u hu)⟩
  have : (SV.tup [.os i us.length, .c (.int .i64 0)]).rf ρ = .tuple #[(SV.os i us.length).rf ρ, .int .i64 0] := rfl
  rw [this, e]; rfl
set_option maxHeartbeats 2000000 in
theorem refDiag_any (w : World) (rv : ShapesV) (hr : rv.okB w) (fv tv : IntsV) (hfv : fv.ok w) (htv : tv.ok w) (slots : Int) (hs : i64 slots) :
    Calls Try.prog 32 #[rv.val, fv.val, tv.val, .int .i64 slots] w (DiagPost w (diagL (rv.l.map IntsV.xs) fv.xs tv.xs slots).1 (diagL (rv.l.map IntsV.xs) fv.xs tv.xs slots).2) := by
  have hr1 := hr.few
  have hf1 := hfv.few
  have ht1 := htv.few
  by_cases hok : diagOk (rv.l.map IntsV.xs) fv.xs tv.xs slots
  · rw [diagL, if_pos hok]
    have hchk : chkL (rv.l.map IntsV.xs) fv.xs tv.xs slots = 0 := by rw [chkL, if_pos hok]
    obtain ⟨hs1, hs2, hrl, hp1, hp2, hlen⟩ := id hok
    rw [List.length_map] at hrl
    obtain ⟨n, hn⟩ : ∃ n : Nat, slots = n := ⟨slots.toNat, by omega⟩
    subst hn
    rw [Int.toNat_natCast, ← rows_same (placesL_of hp1) (placesL_of hp2)]
    have hfr := (placesL_of hp1).1
    have hto := (placesL_of hp2).1
    refine calls_of tab tabOk Try.func32 rfl rfl rfl [] (fun _ => ⟨none, 0⟩) [.c rv.val, .c fv.val, .c tv.val, .c (.int .i64 n)] [] (baseA w) 0 rfl rfl (by show 4 ≤ _; decide) (abs_base w) ?_
    (repeat' ((conv => whnf) <;> first | (show callK _ 63 _ _ _ _ _; (refine call_pure (f := 63) Try.call63 (.int .i64 0) (fun ρ w' hw => by have := refCheckDiag_any w' rv (holds_of_abs hw fun R h => hr.later h) fv tv (holds_of_abs hw fun R h => hfv.later h) (holds_of_abs hw fun R h => htv.later h) n hs; rw [hchk] at this; exact this) ?_)) | (show Wp _ _ _ _ _ _ _; (refine Wp.go tabOk rfl ?_)) | (show @cmpK _ _ _; (first | refine cmp_yes (by omega) ?_ | refine cmp_no (by omega) ?_ | (refine cmp_both ?_ ?_ <;> intro _))) | (show wrapK _ _ _; (refine wrap_i64 (by omega) (by omega) ?_)) | (show leK _ _ _; (refine le_of (by first | exact Nat.le_refl _ | omega) ?_)) | (show roomK _ _ _; (refine room_of (by first | omega | (dsimp only; omega)) ?_)) | (show ltK _ _ _; (refine lt_of (by omega) ?_)) | (show _ ∧ _; (refine ⟨?_, ?_⟩)) | (show keepK _ _ _ _ _; (refine keep_of (by first | exact List.Sublist.refl _ | exact List.Sublist.cons _ (List.Sublist.refl _) | exact List.Sublist.cons _ (List.Sublist.cons _ (List.Sublist.refl _)) | exact List.Sublist.cons _ (List.Sublist.cons _ (List.Sublist.cons _ (List.Sublist.refl _)))) (by first | exact (fun _ _ h => h) | exact (fun _ _ h => h.1) | exact (fun _ _ h => h.1.1)) ?_)) | (show ownK _ _ _ _ _; (refine own_keep ?_))))
    all_goals (conv => whnf)
    refine Wp.loop (σ := Nat × List IntsV) 2 (fun x => [(0, .c rv.val), (1, .c fv.val), (2, .c tv.val), (3, .c (.int .i64 n)), (11, .os 1 x.1), (12, .c (.int .i64 x.1))])
      (fun x => [(1, .rows (shRows x.2) 1 33)]) (fun x => (baseA w).and (eachL w.heap.size x.2))
      (fun x => x.1 ≤ n ∧ x.2.map IntsV.xs = (List.range x.1).map (rowR n (rv.l.map IntsV.xs) fv.xs tv.xs) ∧ (∀ u ∈ x.2, u.sane)) (fun x => n - x.1) (0, []) [(1, none)] (by decide) (fun _ => ⟨rfl, rfl⟩)
      ⟨Nat.zero_le _, rfl, fun u hu => by cases hu⟩ ⟨rfl, ⟨rfl, rfl, rfl, rfl, rfl, rfl, trivial⟩, ⟨rfl, trivial⟩, fun _ _ h => ⟨h, fun u hu => by cases hu⟩⟩ ?_
    rintro ⟨d, us⟩ ⟨hd, hus, hsane⟩
    dsimp only at hd hus hsane
    have hul : us.length = d := by have := congrArg List.length hus; simpa using this
    by_cases hdn : d < n
    · (repeat' ((conv => whnf) <;> first | (show makeK _ _ _ _; (refine make_of n rfl rfl (by show 8 * _ ≤ _; omega) (by omega) ?_)) | (show Wp _ _ _ _ _ _ _; (refine Wp.go tabOk rfl ?_)) | (show @cmpK _ _ _; (first | refine cmp_yes (by omega) ?_ | refine cmp_no (by omega) ?_ | (refine cmp_both ?_ ?_ <;> intro _))) | (show wrapK _ _ _; (refine wrap_i64 (by omega) (by omega) ?_)) | (show leK _ _ _; (refine le_of (by first | exact Nat.le_refl _ | omega) ?_)) | (show roomK _ _ _; (refine room_of (by first | omega | (dsimp only; omega)) ?_)) | (show ltK _ _ _; (refine lt_of (by omega) ?_)) | (show _ ∧ _; (refine ⟨?_, ?_⟩)) | (show keepK _ _ _ _ _; (refine keep_of (by first | exact List.Sublist.refl _ | exact List.Sublist.cons _ (List.Sublist.refl _) | exact List.Sublist.cons _ (List.Sublist.cons _ (List.Sublist.refl _)) | exact List.Sublist.cons _ (List.Sublist.cons _ (List.Sublist.cons _ (List.Sublist.refl _)))) (by first | exact (fun _ _ h => h) | exact (fun _ _ h => h.1) | exact (fun _ _ h => h.1.1)) ?_)) | (show ownK _ _ _ _ _; (refine own_keep ?_))))
      all_goals (conv => whnf)
      refine Wp.loop (σ := Nat × (List Int × Bool)) 3 (fun x => [(0, .c rv.val), (1, .c fv.val), (2, .c tv.val), (3, .c (.int .i64 n)), (11, .os 1 d), (12, .c (.int .i64 d)), (13, .os 2 n), (14, .c (.bool x.2.2)), (34, .c tv.val), (35, .c (.int .i64 tv.xs.length)), (36, .c (.int .i64 x.1))])
        (fun x => [(2, .rows (ints x.2.1) 1 3), (1, .rows (shRows us) 1 33)]) (fun x => (baseA w).and (eachL w.heap.size us))
        (fun x => x.1 ≤ tv.xs.length ∧ x.2 = outerR n d (rv.l.map IntsV.xs) fv.xs tv.xs x.1 ∧ (x.2.1.length = n ∧ ∀ y ∈ x.2.1, i64 y)) (fun x => tv.xs.length - x.1) (0, (List.replicate n 0, false)) [] (by decide) (fun _ => ⟨rfl, rfl⟩)
        ⟨Nat.zero_le _, rfl, by simp, fun y hy => by rw [(List.mem_replicate.1 hy).2]; exact ⟨by decide, by decide⟩⟩ ⟨rfl, ⟨rfl, rfl, rfl, rfl, rfl, rfl, rfl, rfl, rfl, rfl, rfl, trivial⟩, ⟨?_, (by repeat (first | exact List.mem_cons_self | apply List.mem_cons_of_mem)), trivial⟩, fun _ _ h => h⟩ ?_
      · show (2, Ent.rows (ints (List.replicate n 0)) 1 3) ∈ _
        rw [show ints (List.replicate n 0) = List.replicate n [Value.int .i64 0] by simp [ints]]
        exact List.mem_cons_self
      rintro ⟨o, r⟩ ⟨ho, hro, hrf⟩
      dsimp only at ho hro hrf
      by_cases hlt : o < tv.xs.length
      · obtain ⟨ta, hta⟩ := htv.base (by omega)
        have htr : ∀ (R : Nat → Prop) w', ((baseA w).and (eachL w.heap.size us)).holds R w' → RowsI w' (some ta) 1 (ints tv.xs) := fun R w' h => by rw [← hta]; exact rows_base h.1 htv.rows
        have hrlt : o < rv.l.length := by omega
        have hsb : 0 ≤ tv.xs.getD o 0 ∧ tv.xs.getD o 0 < n := by
          rw [getD_at hlt]; exact hto _ (List.getElem_mem hlt)
        obtain ⟨sv, hsv⟩ : ∃ sv, tv.xs.getD o 0 = sv := ⟨_, rfl⟩
        (repeat' ((conv => whnf) <;> first | (show idxK _ _ _ _ _; (refine idx_of ta o hta rfl hlt ?_)) | (show roK _ _ _; (refine ro_int htr (j := o) hlt ?_)) | (show Wp _ _ _ _ _ _ _; (refine Wp.go tabOk rfl ?_)) | (show @cmpK _ _ _; (first | refine cmp_yes (by omega) ?_ | refine cmp_no (by omega) ?_ | (refine cmp_both ?_ ?_ <;> intro _))) | (show wrapK _ _ _; (refine wrap_i64 (by omega) (by omega) ?_)) | (show leK _ _ _; (refine le_of (by first | exact Nat.le_refl _ | omega) ?_)) | (show roomK _ _ _; (refine room_of (by first | omega | (dsimp only; omega)) ?_)) | (show ltK _ _ _; (refine lt_of (by omega) ?_)) | (show _ ∧ _; (refine ⟨?_, ?_⟩)) | (show keepK _ _ _ _ _; (refine keep_of (by first | exact List.Sublist.refl _ | exact List.Sublist.cons _ (List.Sublist.refl _) | exact List.Sublist.cons _ (List.Sublist.cons _ (List.Sublist.refl _)) | exact List.Sublist.cons _ (List.Sublist.cons _ (List.Sublist.cons _ (List.Sublist.refl _)))) (by first | exact (fun _ _ h => h) | exact (fun _ _ h => h.1) | exact (fun _ _ h => h.1.1)) ?_)) | (show ownK _ _ _ _ _; (refine own_keep ?_))))
        all_goals (conv => whnf)
        have hrow : (rv.l.map IntsV.xs).getD o [] = rv.l[o].xs := by simp [List.getD, hrlt]
        have hrlen : rv.l[o].xs.length = fv.xs.length := hlen _ (List.mem_map.2 ⟨_, List.getElem_mem hrlt, rfl⟩)
        have hroo := hr.each rv.l[o] (List.getElem_mem hrlt)
        obtain ⟨ra, hra⟩ : ∃ a, rv.base = some a := base_some (j := o) hr.rows (by rw [shRows_length]; exact hrlt)
        rw [hsv] at hsb ⊢
        obtain ⟨sn, hsn⟩ : ∃ k : Nat, sv = k := ⟨sv.toNat, by omega⟩
        have hsn2 : sv.toNat = sn := by omega
        have hsnn : sn < n := by omega
        refine Wp.loop (σ := Nat × (List Int × Bool)) 3 (fun x => [(0, .c rv.val), (1, .c fv.val), (2, .c tv.val), (3, .c (.int .i64 n)), (11, .os 1 d), (12, .c (.int .i64 d)), (13, .os 2 n), (14, .c (.bool x.2.2)), (34, .c tv.val), (35, .c (.int .i64 tv.xs.length)), (36, .c (.int .i64 o)), (15, .c (.int .i64 o)), (16, .c (.int .i64 sv)), (41, .c fv.val), (42, .c (.int .i64 fv.xs.length)), (43, .c (.int .i64 x.1))])
          (fun x => [(2, .rows (ints x.2.1) 1 3), (1, .rows (shRows us) 1 33)]) (fun x => (baseA w).and (eachL w.heap.size us))
          (fun x => x.1 ≤ fv.xs.length ∧ x.2 = innerR n d fv.xs rv.l[o].xs sv r x.1 ∧ (x.2.1.length = n ∧ ∀ y ∈ x.2.1, i64 y)) (fun x => fv.xs.length - x.1) (0, r) [] (by decide) (fun _ => ⟨rfl, rfl⟩)
          ⟨Nat.zero_le _, rfl, hrf⟩ ⟨rfl, ⟨rfl, rfl, rfl, rfl, rfl, rfl, rfl, rfl, rfl, rfl, rfl, rfl, rfl, rfl, rfl, rfl, trivial⟩, ⟨(by repeat (first | exact List.mem_cons_self | apply List.mem_cons_of_mem)), (by repeat (first | exact List.mem_cons_self | apply List.mem_cons_of_mem)), trivial⟩, fun _ _ h => h⟩ ?_
        rintro ⟨i, l, b⟩ ⟨hi, hli0, hl1, hl2⟩
        dsimp only at hi hli0 hl1 hl2
        by_cases hli : i < fv.xs.length
        · obtain ⟨fa, hfa⟩ := hfv.base (by omega)
          have hfr' : ∀ (R : Nat → Prop) w', ((baseA w).and (eachL w.heap.size us)).holds R w' → RowsI w' (some fa) 1 (ints fv.xs) := fun R w' h => by rw [← hfa]; exact rows_base h.1 hfv.rows
          obtain ⟨wa, hwa⟩ := hroo.base (by omega)
          have hwr : ∀ (R : Nat → Prop) w', ((baseA w).and (eachL w.heap.size us)).holds R w' → RowsI w' (some wa) 1 (ints rv.l[o].xs) := fun R w' h => by rw [← hwa]; exact rows_base h.1 hroo.rows
          have hfb : 0 ≤ fv.xs.getD i 0 ∧ fv.xs.getD i 0 < n := by
            rw [getD_at hli]; exact hfr _ (List.getElem_mem hli)
          have hwf := getD_fits hroo.fits i
          have hstep := innerR_succ n d fv.xs rv.l[o].xs sv r i
          rw [← hli0] at hstep
          obtain ⟨fi, hfi⟩ : ∃ x, fv.xs.getD i 0 = x := ⟨_, rfl⟩
          obtain ⟨wi, hwi⟩ : ∃ x, rv.l[o].xs.getD i 0 = x := ⟨_, rfl⟩
          rw [hfi] at hfb hstep
          rw [hwi] at hwf hstep
          have hnf := stepR_fits (n := n) (d := d) (r := (l, b)) (s := sv) (f := fi) (x := wi) ⟨hl1, hl2⟩ hwf
          rw [← hstep] at hnf
          by_cases hc : (sv + (d : Int)) % n = fi
          · rw [stepR, if_pos hc, hsn2] at hstep
            by_cases hw0 : wi = 0
            · have hdec : decide (wi ≠ 0) = false := by simp [hw0]
              rw [hdec] at hstep
              cases b with
              | true =>
                (repeat' ((conv => whnf) <;> first | (show idxK _ _ _ _ _; (first | refine idx_of fa i hfa rfl hli ?_ | refine idx_of ra o hra rfl hrlt ?_ | refine idx_of wa i hwa rfl (by omega) ?_)) | (show roK _ _ _; (first | refine ro_iv hfr' (j := i) hli hfi ?_ | refine ro_row0 (fun R w' h => by rw [← hra]; exact rows_base h.1 hr.rows) _ _ (shRows_get hrlt) rfl ?_ | refine ro_iv hwr (j := i) (by omega) hwi ?_)) | (show remK _ _ _; (refine rem_pos (by omega) (by omega) ?_)) | (show idxRowK _ _ _ _ _ _; (refine idxRow_of sn hsn hsnn (Nat.le_of_eq (by rw [ints_length]; exact hl1.symm)) ?_)) | (show rowStoreK _ _ _ _ _; (refine ints_storeL (Nat.lt_of_lt_of_eq hsnn hl1.symm) ?_)) | (show @cmpK _ _ _; (first | refine cmp_yes hc ?_ | refine cmp_yes (by omega) ?_ | refine cmp_no (by omega) ?_)) | (show Wp _ _ _ _ _ _ _; (refine Wp.go tabOk rfl ?_)) | (show @cmpK _ _ _; (first | refine cmp_yes (by omega) ?_ | refine cmp_no (by omega) ?_ | (refine cmp_both ?_ ?_ <;> intro _))) | (show wrapK _ _ _; (refine wrap_i64 (by omega) (by omega) ?_)) | (show leK _ _ _; (refine le_of (by first | exact Nat.le_refl _ | omega) ?_)) | (show roomK _ _ _; (refine room_of (by first | omega | (dsimp only; omega)) ?_)) | (show ltK _ _ _; (refine lt_of (by omega) ?_)) | (show _ ∧ _; (refine ⟨?_, ?_⟩)) | (show keepK _ _ _ _ _; (refine keep_of (by first | exact List.Sublist.refl _ | exact List.Sublist.cons _ (List.Sublist.refl _) | exact List.Sublist.cons _ (List.Sublist.cons _ (List.Sublist.refl _)) | exact List.Sublist.cons _ (List.Sublist.cons _ (List.Sublist.cons _ (List.Sublist.refl _)))) (by first | exact (fun _ _ h => h) | exact (fun _ _ h => h.1) | exact (fun _ _ h => h.1.1)) ?_)) | (show ownK _ _ _ _ _; (refine own_keep ?_))))
                all_goals (conv => whnf)
                exact ⟨(i + 1, (l.set sn wi, true)), [], ⟨hli, hstep.symm, by rw [hstep] at hnf; exact hnf⟩, by show fv.xs.length - (i + 1) < fv.xs.length - i; omega, rfl, ⟨rfl, rfl, rfl, rfl, rfl, rfl, rfl, rfl, rfl, rfl, rfl, rfl, rfl, rfl, rfl, rfl, trivial⟩, ⟨(by repeat (first | exact List.mem_cons_self | apply List.mem_cons_of_mem)), (by repeat (first | exact List.mem_cons_self | apply List.mem_cons_of_mem)), trivial⟩, fun _ _ h => h⟩
              | false =>
                (repeat' ((conv => whnf) <;> first | (show idxK _ _ _ _ _; (first | refine idx_of fa i hfa rfl hli ?_ | refine idx_of ra o hra rfl hrlt ?_ | refine idx_of wa i hwa rfl (by omega) ?_)) | (show roK _ _ _; (first | refine ro_iv hfr' (j := i) hli hfi ?_ | refine ro_row0 (fun R w' h => by rw [← hra]; exact rows_base h.1 hr.rows) _ _ (shRows_get hrlt) rfl ?_ | refine ro_iv hwr (j := i) (by omega) hwi ?_)) | (show remK _ _ _; (refine rem_pos (by omega) (by omega) ?_)) | (show idxRowK _ _ _ _ _ _; (refine idxRow_of sn hsn hsnn (Nat.le_of_eq (by rw [ints_length]; exact hl1.symm)) ?_)) | (show rowStoreK _ _ _ _ _; (refine ints_storeL (Nat.lt_of_lt_of_eq hsnn hl1.symm) ?_)) | (show @cmpK _ _ _; (first | refine cmp_yes hc ?_ | refine cmp_no (fun h => h hw0) ?_ | refine cmp_yes (by omega) ?_ | refine cmp_no (by omega) ?_)) | (show Wp _ _ _ _ _ _ _; (refine Wp.go tabOk rfl ?_)) | (show @cmpK _ _ _; (first | refine cmp_yes (by omega) ?_ | refine cmp_no (by omega) ?_ | (refine cmp_both ?_ ?_ <;> intro _))) | (show wrapK _ _ _; (refine wrap_i64 (by omega) (by omega) ?_)) | (show leK _ _ _; (refine le_of (by first | exact Nat.le_refl _ | omega) ?_)) | (show roomK _ _ _; (refine room_of (by first | omega | (dsimp only; omega)) ?_)) | (show ltK _ _ _; (refine lt_of (by omega) ?_)) | (show _ ∧ _; (refine ⟨?_, ?_⟩)) | (show keepK _ _ _ _ _; (refine keep_of (by first | exact List.Sublist.refl _ | exact List.Sublist.cons _ (List.Sublist.refl _) | exact List.Sublist.cons _ (List.Sublist.cons _ (List.Sublist.refl _)) | exact List.Sublist.cons _ (List.Sublist.cons _ (List.Sublist.cons _ (List.Sublist.refl _)))) (by first | exact (fun _ _ h => h) | exact (fun _ _ h => h.1) | exact (fun _ _ h => h.1.1)) ?_)) | (show ownK _ _ _ _ _; (refine own_keep ?_))))
                all_goals (conv => whnf)
                exact ⟨(i + 1, (l.set sn wi, false)), [], ⟨hli, hstep.symm, by rw [hstep] at hnf; exact hnf⟩, by show fv.xs.length - (i + 1) < fv.xs.length - i; omega, rfl, ⟨rfl, rfl, rfl, rfl, rfl, rfl, rfl, rfl, rfl, rfl, rfl, rfl, rfl, rfl, rfl, rfl, trivial⟩, ⟨(by repeat (first | exact List.mem_cons_self | apply List.mem_cons_of_mem)), (by repeat (first | exact List.mem_cons_self | apply List.mem_cons_of_mem)), trivial⟩, fun _ _ h => h⟩
            · have hdec : decide (wi ≠ 0) = true := by simp [hw0]
              rw [hdec] at hstep
              cases b with
              | true =>
                (repeat' ((conv => whnf) <;> first | (show idxK _ _ _ _ _; (first | refine idx_of fa i hfa rfl hli ?_ | refine idx_of ra o hra rfl hrlt ?_ | refine idx_of wa i hwa rfl (by omega) ?_)) | (show roK _ _ _; (first | refine ro_iv hfr' (j := i) hli hfi ?_ | refine ro_row0 (fun R w' h => by rw [← hra]; exact rows_base h.1 hr.rows) _ _ (shRows_get hrlt) rfl ?_ | refine ro_iv hwr (j := i) (by omega) hwi ?_)) | (show remK _ _ _; (refine rem_pos (by omega) (by omega) ?_)) | (show idxRowK _ _ _ _ _ _; (refine idxRow_of sn hsn hsnn (Nat.le_of_eq (by rw [ints_length]; exact hl1.symm)) ?_)) | (show rowStoreK _ _ _ _ _; (refine ints_storeL (Nat.lt_of_lt_of_eq hsnn hl1.symm) ?_)) | (show @cmpK _ _ _; (first | refine cmp_yes hc ?_ | refine cmp_yes hw0 ?_ | refine cmp_yes (by omega) ?_ | refine cmp_no (by omega) ?_)) | (show Wp _ _ _ _ _ _ _; (refine Wp.go tabOk rfl ?_)) | (show @cmpK _ _ _; (first | refine cmp_yes (by omega) ?_ | refine cmp_no (by omega) ?_ | (refine cmp_both ?_ ?_ <;> intro _))) | (show wrapK _ _ _; (refine wrap_i64 (by omega) (by omega) ?_)) | (show leK _ _ _; (refine le_of (by first | exact Nat.le_refl _ | omega) ?_)) | (show roomK _ _ _; (refine room_of (by first | omega | (dsimp only; omega)) ?_)) | (show ltK _ _ _; (refine lt_of (by omega) ?_)) | (show _ ∧ _; (refine ⟨?_, ?_⟩)) | (show keepK _ _ _ _ _; (refine keep_of (by first | exact List.Sublist.refl _ | exact List.Sublist.cons _ (List.Sublist.refl _) | exact List.Sublist.cons _ (List.Sublist.cons _ (List.Sublist.refl _)) | exact List.Sublist.cons _ (List.Sublist.cons _ (List.Sublist.cons _ (List.Sublist.refl _)))) (by first | exact (fun _ _ h => h) | exact (fun _ _ h => h.1) | exact (fun _ _ h => h.1.1)) ?_)) | (show ownK _ _ _ _ _; (refine own_keep ?_))))
                all_goals (conv => whnf)
                exact ⟨(i + 1, (l.set sn wi, true)), [], ⟨hli, hstep.symm, by rw [hstep] at hnf; exact hnf⟩, by show fv.xs.length - (i + 1) < fv.xs.length - i; omega, rfl, ⟨rfl, rfl, rfl, rfl, rfl, rfl, rfl, rfl, rfl, rfl, rfl, rfl, rfl, rfl, rfl, rfl, trivial⟩, ⟨(by repeat (first | exact List.mem_cons_self | apply List.mem_cons_of_mem)), (by repeat (first | exact List.mem_cons_self | apply List.mem_cons_of_mem)), trivial⟩, fun _ _ h => h⟩
              | false =>
                (repeat' ((conv => whnf) <;> first | (show idxK _ _ _ _ _; (first | refine idx_of fa i hfa rfl hli ?_ | refine idx_of ra o hra rfl hrlt ?_ | refine idx_of wa i hwa rfl (by omega) ?_)) | (show roK _ _ _; (first | refine ro_iv hfr' (j := i) hli hfi ?_ | refine ro_row0 (fun R w' h => by rw [← hra]; exact rows_base h.1 hr.rows) _ _ (shRows_get hrlt) rfl ?_ | refine ro_iv hwr (j := i) (by omega) hwi ?_)) | (show remK _ _ _; (refine rem_pos (by omega) (by omega) ?_)) | (show idxRowK _ _ _ _ _ _; (refine idxRow_of sn hsn hsnn (Nat.le_of_eq (by rw [ints_length]; exact hl1.symm)) ?_)) | (show rowStoreK _ _ _ _ _; (refine ints_storeL (Nat.lt_of_lt_of_eq hsnn hl1.symm) ?_)) | (show @cmpK _ _ _; (first | refine cmp_yes hc ?_ | refine cmp_yes hw0 ?_ | refine cmp_yes (by omega) ?_ | refine cmp_no (by omega) ?_)) | (show Wp _ _ _ _ _ _ _; (refine Wp.go tabOk rfl ?_)) | (show @cmpK _ _ _; (first | refine cmp_yes (by omega) ?_ | refine cmp_no (by omega) ?_ | (refine cmp_both ?_ ?_ <;> intro _))) | (show wrapK _ _ _; (refine wrap_i64 (by omega) (by omega) ?_)) | (show leK _ _ _; (refine le_of (by first | exact Nat.le_refl _ | omega) ?_)) | (show roomK _ _ _; (refine room_of (by first | omega | (dsimp only; omega)) ?_)) | (show ltK _ _ _; (refine lt_of (by omega) ?_)) | (show _ ∧ _; (refine ⟨?_, ?_⟩)) | (show keepK _ _ _ _ _; (refine keep_of (by first | exact List.Sublist.refl _ | exact List.Sublist.cons _ (List.Sublist.refl _) | exact List.Sublist.cons _ (List.Sublist.cons _ (List.Sublist.refl _)) | exact List.Sublist.cons _ (List.Sublist.cons _ (List.Sublist.cons _ (List.Sublist.refl _)))) (by first | exact (fun _ _ h => h) | exact (fun _ _ h => h.1) | exact (fun _ _ h => h.1.1)) ?_)) | (show ownK _ _ _ _ _; (refine own_keep ?_))))
                all_goals (conv => whnf)
                exact ⟨(i + 1, (l.set sn wi, true)), [], ⟨hli, hstep.symm, by rw [hstep] at hnf; exact hnf⟩, by show fv.xs.length - (i + 1) < fv.xs.length - i; omega, rfl, ⟨rfl, rfl, rfl, rfl, rfl, rfl, rfl, rfl, rfl, rfl, rfl, rfl, rfl, rfl, rfl, rfl, trivial⟩, ⟨(by repeat (first | exact List.mem_cons_self | apply List.mem_cons_of_mem)), (by repeat (first | exact List.mem_cons_self | apply List.mem_cons_of_mem)), trivial⟩, fun _ _ h => h⟩
          · rw [stepR, if_neg hc] at hstep
            (repeat' ((conv => whnf) <;> first | (show idxK _ _ _ _ _; (first | refine idx_of fa i hfa rfl hli ?_ | refine idx_of ra o hra rfl hrlt ?_ | refine idx_of wa i hwa rfl (by omega) ?_)) | (show roK _ _ _; (first | refine ro_iv hfr' (j := i) hli hfi ?_ | refine ro_row0 (fun R w' h => by rw [← hra]; exact rows_base h.1 hr.rows) _ _ (shRows_get hrlt) rfl ?_ | refine ro_iv hwr (j := i) (by omega) hwi ?_)) | (show remK _ _ _; (refine rem_pos (by omega) (by omega) ?_)) | (show idxRowK _ _ _ _ _ _; (refine idxRow_of sn hsn hsnn (Nat.le_of_eq (by rw [ints_length]; exact hl1.symm)) ?_)) | (show rowStoreK _ _ _ _ _; (refine ints_storeL (Nat.lt_of_lt_of_eq hsnn hl1.symm) ?_)) | (show @cmpK _ _ _; (first | refine cmp_no hc ?_ | refine cmp_yes (by omega) ?_ | refine cmp_no (by omega) ?_)) | (show Wp _ _ _ _ _ _ _; (refine Wp.go tabOk rfl ?_)) | (show @cmpK _ _ _; (first | refine cmp_yes (by omega) ?_ | refine cmp_no (by omega) ?_ | (refine cmp_both ?_ ?_ <;> intro _))) | (show wrapK _ _ _; (refine wrap_i64 (by omega) (by omega) ?_)) | (show leK _ _ _; (refine le_of (by first | exact Nat.le_refl _ | omega) ?_)) | (show roomK _ _ _; (refine room_of (by first | omega | (dsimp only; omega)) ?_)) | (show ltK _ _ _; (refine lt_of (by omega) ?_)) | (show _ ∧ _; (refine ⟨?_, ?_⟩)) | (show keepK _ _ _ _ _; (refine keep_of (by first | exact List.Sublist.refl _ | exact List.Sublist.cons _ (List.Sublist.refl _) | exact List.Sublist.cons _ (List.Sublist.cons _ (List.Sublist.refl _)) | exact List.Sublist.cons _ (List.Sublist.cons _ (List.Sublist.cons _ (List.Sublist.refl _)))) (by first | exact (fun _ _ h => h) | exact (fun _ _ h => h.1) | exact (fun _ _ h => h.1.1)) ?_)) | (show ownK _ _ _ _ _; (refine own_keep ?_))))
            all_goals (conv => whnf)
            exact ⟨(i + 1, (l, b)), [], ⟨hli, hstep.symm, by rw [hstep] at hnf; exact hnf⟩, by show fv.xs.length - (i + 1) < fv.xs.length - i; omega, rfl, ⟨rfl, rfl, rfl, rfl, rfl, rfl, rfl, rfl, rfl, rfl, rfl, rfl, rfl, rfl, rfl, rfl, trivial⟩, ⟨(by repeat (first | exact List.mem_cons_self | apply List.mem_cons_of_mem)), (by repeat (first | exact List.mem_cons_self | apply List.mem_cons_of_mem)), trivial⟩, fun _ _ h => h⟩
        · (repeat' ((conv => whnf) <;> first | (show Wp _ _ _ _ _ _ _; (refine Wp.go tabOk rfl ?_)) | (show @cmpK _ _ _; (first | refine cmp_yes (by omega) ?_ | refine cmp_no (by omega) ?_ | (refine cmp_both ?_ ?_ <;> intro _))) | (show wrapK _ _ _; (refine wrap_i64 (by omega) (by omega) ?_)) | (show leK _ _ _; (refine le_of (by first | exact Nat.le_refl _ | omega) ?_)) | (show roomK _ _ _; (refine room_of (by first | omega | (dsimp only; omega)) ?_)) | (show ltK _ _ _; (refine lt_of (by omega) ?_)) | (show _ ∧ _; (refine ⟨?_, ?_⟩)) | (show keepK _ _ _ _ _; (refine keep_of (by first | exact List.Sublist.refl _ | exact List.Sublist.cons _ (List.Sublist.refl _) | exact List.Sublist.cons _ (List.Sublist.cons _ (List.Sublist.refl _)) | exact List.Sublist.cons _ (List.Sublist.cons _ (List.Sublist.cons _ (List.Sublist.refl _)))) (by first | exact (fun _ _ h => h) | exact (fun _ _ h => h.1) | exact (fun _ _ h => h.1.1)) ?_)) | (show ownK _ _ _ _ _; (refine own_keep ?_))))
          all_goals (conv => whnf)
          have hif : i = fv.xs.length := by omega
          exact ⟨(o + 1, (l, b)), [], ⟨hlt, by rw [hli0, hif, hro, outerR_succ, hrow, hsv], hl1, hl2⟩, by show tv.xs.length - (o + 1) < tv.xs.length - o; omega, rfl, ⟨rfl, rfl, rfl, rfl, rfl, rfl, rfl, rfl, rfl, rfl, rfl, trivial⟩, ⟨(by repeat (first | exact List.mem_cons_self | apply List.mem_cons_of_mem)), (by repeat (first | exact List.mem_cons_self | apply List.mem_cons_of_mem)), trivial⟩, fun _ _ h => h⟩
      · have hol : o = tv.xs.length := by omega
        obtain ⟨l, b⟩ := r
        rw [hol] at hro
        have hrow : rowR n (rv.l.map IntsV.xs) fv.xs tv.xs d = if b then l else [] := by rw [rowR, ← hro]
        have hnext : ∀ u : IntsV, u.xs = (if b then l else []) → (us ++ [u]).map IntsV.xs = (List.range (d + 1)).map (rowR n (rv.l.map IntsV.xs) fv.xs tv.xs) := fun u hu => by
          rw [List.map_append, hus, List.range_succ, List.map_append, List.map_cons, List.map_nil, List.map_cons, List.map_nil, hu, hrow]
        have hsn : ∀ u : IntsV, u.sane → ∀ v ∈ us ++ [u], v.sane := fun u hu v hv => by
          rcases List.mem_append.1 hv with hv | hv
          · exact hsane v hv
          · rw [List.mem_singleton.1 hv]; exact hu
        refine Wp.freezeN 2 w.heap.size (k := 1) (xs := ints l) (T := 3) (by repeat (first | exact List.mem_cons_self | apply List.mem_cons_of_mem)) (fun R w' h b hb => (h.1 b hb).1) (fun l1 hl1 => ?_)
        rw [ints_length, hrf.1] at hl1
        cases b with
        | true =>
          (repeat' ((conv => whnf) <;> first | (show leK _ _ _; (refine le_of (Nat.le_of_eq (by rw [shRows_length, hul])) ?_)) | (show roomK _ _ _; (refine room_of (by show (d + 1) * 24 ≤ 140737488355328; omega) ?_)) | (show Wp _ _ _ _ _ _ _; (refine Wp.go tabOk rfl ?_)) | (show @cmpK _ _ _; (first | refine cmp_yes (by omega) ?_ | refine cmp_no (by omega) ?_ | (refine cmp_both ?_ ?_ <;> intro _))) | (show wrapK _ _ _; (refine wrap_i64 (by omega) (by omega) ?_)) | (show leK _ _ _; (refine le_of (by first | exact Nat.le_refl _ | omega) ?_)) | (show roomK _ _ _; (refine room_of (by first | omega | (dsimp only; omega)) ?_)) | (show ltK _ _ _; (refine lt_of (by omega) ?_)) | (show _ ∧ _; (refine ⟨?_, ?_⟩)) | (show keepK _ _ _ _ _; (refine keep_of (by first | exact List.Sublist.refl _ | exact List.Sublist.cons _ (List.Sublist.refl _) | exact List.Sublist.cons _ (List.Sublist.cons _ (List.Sublist.refl _)) | exact List.Sublist.cons _ (List.Sublist.cons _ (List.Sublist.cons _ (List.Sublist.refl _)))) (by first | exact (fun _ _ h => h) | exact (fun _ _ h => h.1) | exact (fun _ _ h => h.1.1)) ?_)) | (show ownK _ _ _ _ _; (refine own_keep ?_))))
          all_goals (conv => whnf)
          exact ⟨(d + 1, us ++ [IntsV.mk l1.base l1.cap l]), [(1, some 4)], ⟨hdn, hnext _ rfl, hsn _ ⟨hrf.2, by show l.length ≤ l1.cap; rw [hrf.1]; exact hl1, by show l.length ≤ 1000000; rw [hrf.1]; omega⟩⟩, by show n - (d + 1) < n - d; omega, rfl, ⟨rfl, rfl, rfl, rfl, rfl, rfl, trivial⟩, ⟨rows_snocL us l1.base l1.cap l hul.symm hrf.1.symm, trivial⟩, fun R w' h => ⟨h.1.1, eachL_snoc h.1.2 h.2⟩⟩
        | false =>
          (repeat' ((conv => whnf) <;> first | (show leK _ _ _; (refine le_of (Nat.le_of_eq (by rw [shRows_length, hul])) ?_)) | (show roomK _ _ _; (refine room_of (by show (d + 1) * 24 ≤ 140737488355328; omega) ?_)) | (show Wp _ _ _ _ _ _ _; (refine Wp.go tabOk rfl ?_)) | (show @cmpK _ _ _; (first | refine cmp_yes (by omega) ?_ | refine cmp_no (by omega) ?_ | (refine cmp_both ?_ ?_ <;> intro _))) | (show wrapK _ _ _; (refine wrap_i64 (by omega) (by omega) ?_)) | (show leK _ _ _; (refine le_of (by first | exact Nat.le_refl _ | omega) ?_)) | (show roomK _ _ _; (refine room_of (by first | omega | (dsimp only; omega)) ?_)) | (show ltK _ _ _; (refine lt_of (by omega) ?_)) | (show _ ∧ _; (refine ⟨?_, ?_⟩)) | (show keepK _ _ _ _ _; (refine keep_of (by first | exact List.Sublist.refl _ | exact List.Sublist.cons _ (List.Sublist.refl _) | exact List.Sublist.cons _ (List.Sublist.cons _ (List.Sublist.refl _)) | exact List.Sublist.cons _ (List.Sublist.cons _ (List.Sublist.cons _ (List.Sublist.refl _)))) (by first | exact (fun _ _ h => h) | exact (fun _ _ h => h.1) | exact (fun _ _ h => h.1.1)) ?_)) | (show ownK _ _ _ _ _; (refine own_keep ?_))))
          all_goals (conv => whnf)
          exact ⟨(d + 1, us ++ [IntsV.mk none 0 []]), [(1, some 4)], ⟨hdn, hnext _ rfl, hsn _ ⟨fun x hx => (by cases hx), Nat.le_refl _, by decide⟩⟩, by show n - (d + 1) < n - d; omega, rfl, ⟨rfl, rfl, rfl, rfl, rfl, rfl, trivial⟩, ⟨rows_snocL us none 0 [] hul.symm rfl, trivial⟩, fun R w' h => ⟨h.1.1, eachL_snoc h.1.2 ⟨fun r hr => (by cases hr), .inl rfl⟩⟩⟩
    · (repeat' ((conv => whnf) <;> first | (show Wp _ _ _ _ _ _ _; (refine Wp.go tabOk rfl ?_)) | (show @cmpK _ _ _; (first | refine cmp_yes (by omega) ?_ | refine cmp_no (by omega) ?_ | (refine cmp_both ?_ ?_ <;> intro _))) | (show wrapK _ _ _; (refine wrap_i64 (by omega) (by omega) ?_)) | (show leK _ _ _; (refine le_of (by first | exact Nat.le_refl _ | omega) ?_)) | (show roomK _ _ _; (refine room_of (by first | omega | (dsimp only; omega)) ?_)) | (show ltK _ _ _; (refine lt_of (by omega) ?_)) | (show _ ∧ _; (refine ⟨?_, ?_⟩)) | (show keepK _ _ _ _ _; (refine keep_of (by first | exact List.Sublist.refl _ | exact List.Sublist.cons _ (List.Sublist.refl _) | exact List.Sublist.cons _ (List.Sublist.cons _ (List.Sublist.refl _)) | exact List.Sublist.cons _ (List.Sublist.cons _ (List.Sublist.cons _ (List.Sublist.refl _)))) (by first | exact (fun _ _ h => h) | exact (fun _ _ h => h.1) | exact (fun _ _ h => h.1.1)) ?_)) | (show ownK _ _ _ _ _; (refine own_keep ?_))))
      all_goals (conv => whnf)
      obtain rfl : d = n := by omega
      exact diag_end2 (i := 1) (us := us) (fun _ _ h => h) rfl hus hsane hul.symm (by repeat (first | exact List.mem_cons_self | apply List.mem_cons_of_mem))
  · rw [diagL, if_neg hok]
    have hchk : chkL (rv.l.map IntsV.xs) fv.xs tv.xs slots = 3 := by rw [chkL, if_neg hok]
    refine calls_of tab tabOk Try.func32 rfl rfl rfl [] (fun _ => ⟨none, 0⟩) [.c rv.val, .c fv.val, .c tv.val, .c (.int .i64 slots)] [] (baseA w) 0 rfl rfl (by show 4 ≤ _; decide) (abs_base w) ?_
    (repeat' ((conv => whnf) <;> first | (show callK _ 63 _ _ _ _ _; (refine call_pure (f := 63) Try.call63 (.int .i64 3) (fun ρ w' hw => by have := refCheckDiag_any w' rv (holds_of_abs hw fun R h => hr.later h) fv tv (holds_of_abs hw fun R h => hfv.later h) (holds_of_abs hw fun R h => htv.later h) slots hs; rw [hchk] at this; exact this) ?_)) | (show Wp _ _ _ _ _ _ _; (refine Wp.go tabOk rfl ?_)) | (show @cmpK _ _ _; (first | refine cmp_yes (by omega) ?_ | refine cmp_no (by omega) ?_ | (refine cmp_both ?_ ?_ <;> intro _))) | (show wrapK _ _ _; (refine wrap_i64 (by omega) (by omega) ?_)) | (show leK _ _ _; (refine le_of (by first | exact Nat.le_refl _ | omega) ?_)) | (show roomK _ _ _; (refine room_of (by first | omega | (dsimp only; omega)) ?_)) | (show ltK _ _ _; (refine lt_of (by omega) ?_)) | (show _ ∧ _; (refine ⟨?_, ?_⟩)) | (show keepK _ _ _ _ _; (refine keep_of (by first | exact List.Sublist.refl _ | exact List.Sublist.cons _ (List.Sublist.refl _) | exact List.Sublist.cons _ (List.Sublist.cons _ (List.Sublist.refl _)) | exact List.Sublist.cons _ (List.Sublist.cons _ (List.Sublist.cons _ (List.Sublist.refl _)))) (by first | exact (fun _ _ h => h) | exact (fun _ _ h => h.1) | exact (fun _ _ h => h.1.1)) ?_)) | (show ownK _ _ _ _ _; (refine own_keep ?_))))
    all_goals (conv => whnf)
    exact diag_fail (fun _ _ h => h) rfl
end Go.Proofs.Ytdmkdogakbipbaa
/- MD -/
namespace Go.Proofs.Ytdmkdogakbipbaa
open Go.RowKit Go.SX
/-! the sum over the diagonals (plain) -/
def W64 (z : Int) : Int := IntKind.i64.wrap z
theorem W64_eq (z : Int) : W64 z = if z % 18446744073709551616 ≥ 9223372036854775808 then z % 18446744073709551616 - 18446744073709551616 else z % 18446744073709551616 := by
  unfold W64 IntKind.wrap
  simp [IntKind.signed, IntKind.bits]
theorem W64_i64 (z : Int) : i64 (W64 z) := by
  rw [W64_eq]
  constructor <;> split <;> omega
theorem W64_add (a b : Int) : W64 (W64 a + W64 b) = W64 (a + b) := by
  rw [W64_eq (W64 a + W64 b), W64_eq (a + b), W64_eq a, W64_eq b]
  split <;> split <;> split <;> split <;> omega
theorem W64_0 : W64 0 = 0 := by rw [W64_eq]; decide
/-- an entry of the diagonals -/
def DE (D : List (List Int)) (k s : Nat) : Int := (D.getD k []).getD s 0
structure DLen (n : Nat) (D : List (List Int)) : Prop where
  len : D.length = n
  each : ∀ k, D.getD k [] = [] ∨ (D.getD k []).length = n
theorem getD_out {α : Type} {l : List α} {k : Nat} {y : α} (h : l.length ≤ k) : l.getD k y = y := by simp [List.getD, h]
theorem getD_repl {n s : Nat} : (List.replicate n (0 : Int)).getD s 0 = 0 := by
  simp only [List.getD, List.getElem?_replicate]; split <;> rfl
theorem getD_repl2 {n s : Nat} : (List.replicate n ([] : List Int)).getD s [] = [] := by
  simp only [List.getD, List.getElem?_replicate]; split <;> rfl
/-- what a step does to an entry -/
theorem stepP_entry {n d s0 : Nat} {D : List (List Int)} {s f w : Int} (h : DLen n D) (hd : ((f - s + n) % n).toNat = d) (hdn : d < n) (hs : s.toNat = s0) (hsn : s0 < n) (hz : DE D d s0 = 0) :
    DLen n (stepP n D s f w) ∧ ∀ k j, DE (stepP n D s f w) k j = if k = d ∧ j = s0 then w else DE D k j := by
  unfold stepP
  by_cases hw : w = 0
  · rw [if_pos hw]
    refine ⟨h, fun k j => ?_⟩
    split
    · rename_i g; rw [g.1, g.2, hz, hw]
    · rfl
  · rw [if_neg hw, hd, hs]
    obtain ⟨l0, hl0⟩ : ∃ l, (if D.getD d [] = [] then List.replicate n 0 else D.getD d []) = l := ⟨_, rfl⟩
    have hl : l0.length = n ∧ ∀ j, l0.getD j 0 = DE D d j := by
      rw [← hl0]
      split
      · rename_i g
        refine ⟨List.length_replicate, fun j => ?_⟩
        rw [getD_repl, DE, g]; rfl
      · rename_i g
        exact ⟨(h.each d).resolve_left g, fun j => rfl⟩
    rw [hl0]
    refine ⟨⟨by rw [List.length_set]; exact h.len, fun k => ?_⟩, fun k j => ?_⟩
    · by_cases e : d = k
      · subst e
        rw [getD_set_eq (by rw [h.len]; exact hdn), List.length_set]; exact .inr hl.1
      · rw [getD_set_ne e]; exact h.each k
    · unfold DE
      by_cases e : d = k
      · subst e
        rw [getD_set_eq (by rw [h.len]; exact hdn)]
        by_cases e2 : s0 = j
        · subst e2
          rw [getD_set_eq (by rw [hl.1]; exact hsn), if_pos ⟨rfl, rfl⟩]
        · rw [getD_set_ne e2, if_neg (fun g => e2 g.2.symm), hl.2]; rfl
      · rw [getD_set_ne e, if_neg (fun g => e g.1.symm)]
theorem sum_one (g h : Nat → Int) (d : Nat) : ∀ n : Nat, (∀ k, k ≠ d → h k = g k) → ((List.range n).map h).sum = ((List.range n).map g).sum + (if d < n then h d - g d else 0)
  | 0, _ => by simp
  | n + 1, he => by
    rw [List.range_succ, List.map_append, List.map_append, List.sum_append, List.sum_append, sum_one g h d n he]
    simp only [List.map_cons, List.map_nil, List.sum_cons, List.sum_nil]
    by_cases e : n = d
    · subst e
      simp only [Nat.lt_irrefl, if_false, Nat.lt_succ_self, if_true]; omega
    · rw [he n e]
      by_cases e2 : d < n
      · rw [if_pos e2, if_pos (by omega)]; omega
      · rw [if_neg e2, if_neg (by omega)]; omega
/-- the sum over the first m diagonals, at a slot -/
def sumK (D : List (List Int)) (X : Nat → Int) (n m s : Nat) : Int := ((List.range m).map fun k => DE D k s * X ((s + k) % n)).sum
/-- what the rows make, at a slot -/
def wantE (X : Nat → Int) (T : List Trip) (s : Nat) : Int := (T.map fun t => if t.1.toNat = s then t.2.2 * X t.2.1.toNat else 0).sum
theorem sums_all {n : Nat} (X : Nat → Int) : ∀ (T : List Trip) (D : List (List Int)), T.Pairwise (fun a b => ¬ (a.1 = b.1 ∧ a.2.1 = b.2.1)) → (∀ t ∈ T, (0 ≤ t.1 ∧ t.1 < n) ∧ 0 ≤ t.2.1 ∧ t.2.1 < n) → DLen n D → (∀ t ∈ T, DE D ((t.2.1 - t.1 + n) % n).toNat t.1.toNat = 0) →
    ∀ s, sumK (T.foldl (fun D t => stepP n D t.1 t.2.1 t.2.2) D) X n n s = sumK D X n n s + wantE X T s
  | [], D, _, _, _, _, s => by simp [wantE]
  | t :: T, D, hp, hin, hD, hz, s => by
    obtain ⟨hp1, hp2⟩ := List.pairwise_cons.1 hp
    have ht := hin t List.mem_cons_self
    have hn0 : (0 : Int) < n := by omega
    obtain ⟨d, hd⟩ : ∃ d, ((t.2.1 - t.1 + n) % n).toNat = d := ⟨_, rfl⟩
    have hdn : d < n := by
      have := Int.emod_nonneg (t.2.1 - t.1 + n) (show (n : Int) ≠ 0 by omega)
      have := Int.emod_lt_of_pos (t.2.1 - t.1 + n) hn0
      omega
    have hz0 := hz t List.mem_cons_self
    rw [hd] at hz0
    obtain ⟨hD', hent⟩ := stepP_entry (w := t.2.2) hD hd hdn rfl (by omega) hz0
    rw [List.foldl_cons]
    have ih := sums_all X T (stepP n D t.1 t.2.1 t.2.2) hp2 (fun u hu => hin u (List.mem_cons_of_mem _ hu)) hD' (fun u hu => by
      rw [hent, if_neg, hz u (List.mem_cons_of_mem _ hu)]
      rintro ⟨g1, g2⟩
      have hu' := hin u (List.mem_cons_of_mem _ hu)
      have e1 : t.1 = u.1 := by omega
      refine hp1 u hu ⟨e1, ?_⟩
      have c1 := (cond_iff ht.1 ht.2 hdn).2 hd
      have c2 := (cond_iff hu'.1 hu'.2 hdn).2 g1
      rw [← c1, ← c2, e1]) s
    rw [ih]
    have hw : wantE X (t :: T) s = (if t.1.toNat = s then t.2.2 * X t.2.1.toNat else 0) + wantE X T s := by simp [wantE]
    rw [hw]
    have hs1 : sumK (stepP n D t.1 t.2.1 t.2.2) X n n s = sumK D X n n s + (if t.1.toNat = s then t.2.2 * X t.2.1.toNat else 0) := by
      unfold sumK
      rw [sum_one (fun k => DE D k s * X ((s + k) % n)) _ d n (fun k hk => by rw [hent, if_neg (fun g => hk g.1)]), if_pos hdn, hent]
      by_cases e : t.1.toNat = s
      · rw [if_pos ⟨rfl, e.symm⟩, if_pos e, ← e, hz0]
        have hc := (cond_iff ht.1 ht.2 hdn).2 hd
        have e2 : (t.1.toNat + d) % n = t.2.1.toNat := by
          have h1 : t.1 = (t.1.toNat : Int) := by omega
          rw [h1] at hc
          have h2 : (((t.1.toNat + d) % n : Nat) : Int) = t.2.1 := by rw [Int.natCast_emod, Int.natCast_add]; exact hc
          omega
        rw [e2]; omega
      · rw [if_neg (fun g => e g.2.symm), if_neg e]; omega
    rw [hs1]; omega
/-- the sum over all diagonals is what the rows make -/
theorem diag_sums {n : Nat} {rows : List (List Int)} {fr to : List Int} (hf : (∀ x ∈ fr, 0 ≤ x ∧ x < n) ∧ fr.Nodup) (ht : (∀ x ∈ to, 0 ≤ x ∧ x < n) ∧ to.Nodup) (X : Nat → Int) (s : Nat) :
    sumK (outerD n rows fr to to.length) X n n s = wantE X (trips rows fr to to.length) s := by
  have hD0 : DLen n (List.replicate n ([] : List Int)) := ⟨by simp, fun k => .inl getD_repl2⟩
  have hz : ∀ k j, DE (List.replicate n ([] : List Int)) k j = 0 := fun k j => by rw [DE, getD_repl2]; rfl
  rw [outerD_trips, sums_all X _ _ (trips_apart hf.2 ht.2 _ (Nat.le_refl _)) (trips_in hf.1 ht.1 (Nat.le_refl _)) hD0 (fun t _ => hz _ _)]
  have : ∀ m, ((List.range m).map fun k => DE (List.replicate n ([] : List Int)) k s * X ((s + k) % n)).sum = 0 := fun m => by
    induction m with
    | zero => rfl
    | succ m ih => rw [List.range_succ, List.map_append, List.sum_append, ih]; simp [hz]
  rw [sumK, this]; omega
theorem sumK_succ (D : List (List Int)) (X : Nat → Int) (n m s : Nat) : sumK D X n (m + 1) s = sumK D X n m s + DE D m s * X ((s + m) % n) := by
  simp [sumK, List.range_succ, List.sum_append]
theorem outerD_len {n : Nat} {rows : List (List Int)} {fr to : List Int} (hf : (∀ x ∈ fr, 0 ≤ x ∧ x < n) ∧ fr.Nodup) (ht : (∀ x ∈ to, 0 ≤ x ∧ x < n) ∧ to.Nodup) (hn : 0 < n) : DLen n (outerD n rows fr to to.length) := by
  have key : ∀ d, d < n → DRel n d (outerD n rows fr to to.length) (outerR n d rows fr to to.length) := fun d hd => by
    rw [outerD_trips, outerR_trips]
    refine drel_all hd _ _ _ (trips_apart hf.2 ht.2 _ (Nat.le_refl _)) (trips_in hf.1 ht.1 (Nat.le_refl _)) ⟨by simp, by simp, by simp [List.getD, hd], fun _ => rfl⟩ fun t _ _ => getD_repl
  refine ⟨(key 0 hn).lenD, fun k => ?_⟩
  rcases Nat.lt_or_ge k n with g | g
  · have h := key k g
    rw [h.is]
    split
    · exact .inr h.len
    · exact .inl rfl
  · exact .inl (getD_out (by rw [(key 0 hn).lenD]; exact g))
def tripsIn (rows : List (List Int)) (fr to : List Int) (o i : Nat) : List Trip := trips rows fr to o ++ (List.range i).map fun i => (to.getD o 0, fr.getD i 0, (rows.getD o []).getD i 0)
theorem tripsIn_zero (rows : List (List Int)) (fr to : List Int) (o : Nat) : tripsIn rows fr to o 0 = trips rows fr to o := by simp [tripsIn]
theorem tripsIn_full (rows : List (List Int)) (fr to : List Int) (o : Nat) : tripsIn rows fr to o fr.length = trips rows fr to (o + 1) := by simp [tripsIn, trips, List.range_succ]
theorem wantE_succ (X : Nat → Int) (rows : List (List Int)) (fr to : List Int) (o i s : Nat) : wantE X (tripsIn rows fr to o (i + 1)) s = wantE X (tripsIn rows fr to o i) s + (if (to.getD o 0).toNat = s then (rows.getD o []).getD i 0 * X (fr.getD i 0).toNat else 0) := by
  simp [wantE, tripsIn, List.range_succ, List.sum_append, Int.add_assoc]
/-- wrapped lists that keep to an exact one -/
structure Keeps (n : Nat) (E : Nat → Int) (l : List Int) : Prop where
  len : l.length = n
  at_ : ∀ s, s < n → l.getD s 0 = W64 (E s)
theorem Keeps.fits {n : Nat} {E : Nat → Int} {l : List Int} (h : Keeps n E l) : ∀ x ∈ l, i64 x := fun x hx => by
  obtain ⟨k, hk, rfl⟩ := List.mem_iff_getElem.1 hx
  have := h.at_ k (by rw [← h.len]; exact hk)
  rw [getD_at hk] at this
  rw [this]; exact W64_i64 _
theorem Keeps.eq {n : Nat} {E E' : Nat → Int} {l l' : List Int} (h : Keeps n E l) (h' : Keeps n E' l') (he : ∀ s, s < n → E s = E' s) : l = l' := by
  apply List.ext_getElem
  · rw [h.len, h'.len]
  · intro k h1 h2
    have a1 := h.at_ k (by rw [← h.len]; exact h1)
    have a2 := h'.at_ k (by rw [← h.len]; exact h1)
    rw [getD_at h1] at a1
    rw [getD_at h2] at a2
    rw [a1, a2, he k (by rw [← h.len]; exact h1)]
theorem Keeps.step {n : Nat} {E E' : Nat → Int} {l : List Int} (h : Keeps n E l) {s : Nat} (hs : s < n) {p : Int} (he : E' s = E s + p) (hne : ∀ j, j ≠ s → E' j = E j) : Keeps n E' (l.set s (W64 (l.getD s 0 + W64 p))) := by
  refine ⟨by rw [List.length_set]; exact h.len, fun j hj => ?_⟩
  by_cases e : s = j
  · subst e
    rw [getD_set_eq (by rw [h.len]; exact hs), h.at_ s hs, W64_add, he]
  · rw [getD_set_ne e, h.at_ j hj, hne j (fun g => e g.symm)]
theorem keeps_zero (n : Nat) {E : Nat → Int} (hE : ∀ s, s < n → E s = 0) : Keeps n E (List.replicate n 0) := ⟨List.length_replicate, fun s hs => by rw [getD_repl, hE s hs, W64_0]⟩
end Go.Proofs.Ytdmkdogakbipbaa
/- LV -/
namespace Go.Proofs.Ytdmkdogakbipbaa
open Go.SX Go.ChangeShapes Go.WideShapes Go.ChangeAt Go.RowKit
theorem ownL : ownKnob Try.prog.godebug = none := by kernel_rfl
theorem laidOutL : laidOutB Try.prog = true := by kernel_rfl
theorem wf_i64L {x : Int} (h : (Lit.int .i64 x).wf = true) : -9223372036854775808 ≤ x ∧ x ≤ 9223372036854775807 := by
  simp [Lit.wf, IntKind.min, IntKind.max, IntKind.signed, IntKind.bits] at h
  omega
theorem opens_ofL {H : Type} {enc : TypeId × Value → H} {P : Program} {w : World} {t : TypeId} {Q : List Value → Prop} {base : Nat} {sp : Nat → Bool} {held : Bool} {v : Value} {d : DataW H} {ps : List MemPlace} (h : Opens P w t Q) (ht : DataW.Trod enc P w base sp held t v d ps) : Q v.cells.toList := by
  obtain ⟨n, hn⟩ := ht
  exact h.out enc base sp held n _ _ hn
/-- numbers as they come in -/
structure IntsV.rawL (w : World) (v : IntsV) : Prop where
  rows : RowsI w v.base 1 (ints v.xs)
  fits : ∀ x ∈ v.xs, -9223372036854775808 ≤ x ∧ x ≤ 9223372036854775807
  room : v.xs.length ≤ v.cap
theorem IntsV.rawL.ok {w : World} {v : IntsV} (h : v.rawL w) (hf : v.xs.length ≤ 1000000) : v.ok w := ⟨h.rows, h.fits, h.room, hf⟩
theorem intsV_ofL {w : World} {v : Value} {base : Option Addr} {cap : Nat} {xs : List Int} (h : IntsQ w v base cap xs) : ∃ u : IntsV, v = u.val ∧ u.rawL w := by
  obtain ⟨rfl, h1, h2, h3, h4, h5⟩ := h
  exact ⟨⟨base, cap, xs⟩, rfl, h1, fun x hx => wf_i64L (h2 x hx), h3⟩
theorem opens_intsL (w : World) : Opens Try.prog w 33 fun cs => ∃ u : IntsV, cs = [u.val] ∧ u.rawL w := by
  refine Opens.mono (opens_ints (e := 3) Try.underlying33 Try.underlying3 (by kernel_rfl)) ?_
  rintro cs ⟨v, base, cap, xs, rfl, h⟩
  obtain ⟨u, rfl, hu⟩ := intsV_ofL h
  exact ⟨u, rfl, hu⟩
theorem trodAll_twoL {H : Type} {enc : TypeId × Value → H} {P : Program} {w : World} {base : Nat} {spare : Nat → Bool} {held : Bool} {t0 t1 : TypeId} {args : Array Value} {ds : List (DataW H)} {ps : List MemPlace} (h : DataW.TrodAll enc P w base spare held [t0, t1] args.toList ds ps) :
    ∃ v0 v1 d0 d1 p0 p1, args = #[v0, v1] ∧ ds = [d0, d1] ∧ DataW.Trod enc P w base spare held t0 v0 d0 p0 ∧ DataW.Trod enc P w base spare held t1 v1 d1 p1 := by
  obtain ⟨v0, vs0, d0, ds0, p0, q0, e0, rfl, rfl, h0, r0⟩ := trodAll_cons h
  obtain ⟨v1, vs1, d1, ds1, p1, q1, rfl, rfl, rfl, h1, r1⟩ := trodAll_cons r0
  obtain ⟨rfl, rfl, rfl⟩ := trodAll_nil r1
  exact ⟨v0, v1, d0, d1, p0, p1, by cases args; simp_all, rfl, h0, h1⟩
theorem trodAll_threeL {H : Type} {enc : TypeId × Value → H} {P : Program} {w : World} {base : Nat} {spare : Nat → Bool} {held : Bool} {t0 t1 t2 : TypeId} {args : Array Value} {ds : List (DataW H)} {ps : List MemPlace} (h : DataW.TrodAll enc P w base spare held [t0, t1, t2] args.toList ds ps) :
    ∃ v0 v1 v2 d0 d1 d2 p0 p1 p2, args = #[v0, v1, v2] ∧ ds = [d0, d1, d2] ∧ DataW.Trod enc P w base spare held t0 v0 d0 p0 ∧ DataW.Trod enc P w base spare held t1 v1 d1 p1 ∧ DataW.Trod enc P w base spare held t2 v2 d2 p2 := by
  obtain ⟨v0, vs0, d0, ds0, p0, q0, e0, rfl, rfl, h0, r0⟩ := trodAll_cons h
  obtain ⟨v1, vs1, d1, ds1, p1, q1, rfl, rfl, rfl, h1, r1⟩ := trodAll_cons r0
  obtain ⟨v2, vs2, d2, ds2, p2, q2, rfl, rfl, rfl, h2, r2⟩ := trodAll_cons r1
  obtain ⟨rfl, rfl, rfl⟩ := trodAll_nil r2
  exact ⟨v0, v1, v2, d0, d1, d2, p0, p1, p2, by cases args; simp_all, rfl, h0, h1, h2⟩
end Go.Proofs.Ytdmkdogakbipbaa
/- MB -/
namespace Go.Proofs.Ytdmkdogakbipbaa
open Go.SX Go.ChangeShapes Go.WideShapes Go.ChangeAt Go.RowKit
/-- rows as they come in -/
structure ShapesV.rawL (w : World) (v : ShapesV) : Prop where
  rows : RowsI w v.base 1 (shRows v.l)
  each : ∀ s ∈ v.l, s.rawL w
theorem opens_rowsL (w : World) : Opens Try.prog w 31 fun cs => ∃ v : ShapesV, cs = [v.val] ∧ v.rawL w := by
  have h := opens_slice (P := Try.prog) (w := w) (k := 1) Try.underlying31 (by kernel_rfl) (opens_intsL w)
  refine Opens.mono h ?_
  rintro cs ⟨base, cap, xs, rfl, h1, h2, h3, h4, h5⟩
  obtain ⟨l, rfl, hl⟩ := list_map_of (f := fun u : IntsV => [u.val]) (p := fun u => u.rawL w) fun r hr => by
    obtain ⟨u, hu, hu'⟩ := (h2 r hr).2
    exact ⟨u, hu', hu⟩
  exact ⟨⟨base, cap, l⟩, by simp [ShapesV.val], h1, hl⟩
theorem IntsV.rawL.later {w w' : World} {R : Nat → Prop} {v : IntsV} (h : v.rawL w) (hb : (baseA w).holds R w') : v.rawL w' := ⟨rows_base hb h.rows, h.fits, h.room⟩
theorem ShapesV.rawL.later {w w' : World} {R : Nat → Prop} {v : ShapesV} (h : v.rawL w) (hb : (baseA w).holds R w') : v.rawL w' := ⟨rows_base hb h.rows, fun s hs => (h.each s hs).later hb⟩
/-- short: not too much -/
def shortL (rv : ShapesV) (fr to : List Int) (slots : Int) : Bool := decide (rv.l.length ≤ 70 ∧ fr.length ≤ 70 ∧ to.length ≤ 70 ∧ slots ≤ 200 ∧ ∀ u ∈ rv.l, u.xs.length ≤ 70)
theorem shortL_no {w : World} {B : Base} {H : Heap} {S : Asn} {nx : Nat} {rv : ShapesV} {fr to : List Int} {slots : Int} (h : ¬ (rv.l.length ≤ 70 ∧ fr.length ≤ 70 ∧ to.length ≤ 70 ∧ slots ≤ 200 ∧ ∀ u ∈ rv.l, u.xs.length ≤ 70)) (hb : ∀ R w', S.holds R w' → (baseA B.w0).holds R w') (hw0 : B.w0 = w) : finK B (.c (.bool false)) H S nx (fun e w' => e = .returned (.bool (shortL rv fr to slots)) ∧ Ext w w') :=
  ends_bool hb hw0 (decide_eq_false h)
set_option maxHeartbeats 1000000 in
theorem short_any (w : World) (rv : ShapesV) (hr : rv.rawL w) (fv tv : IntsV) (hx1 : fv.xs.length ≤ fv.cap) (slots : Int) : Calls Try.prog 30 #[rv.val, fv.val, tv.val, .int .i64 slots] w fun e w' => e = .returned (.bool (shortL rv fv.xs tv.xs slots)) ∧ Ext w w' := by
  refine calls_of tab tabOk Try.func30 rfl rfl rfl [] (fun _ => ⟨none, 0⟩) [.c rv.val, .c fv.val, .c tv.val, .c (.int .i64 slots)] [] (baseA w) 0 rfl rfl (by show 4 ≤ _; decide) (abs_base w) ?_
  (repeat' ((conv => whnf) <;> first | (show Wp _ _ _ _ _ _ _; (refine Wp.go tabOk rfl ?_)) | (show @cmpK _ _ _; (first | refine cmp_yes (by omega) ?_ | refine cmp_no (by omega) ?_ | (refine cmp_both ?_ ?_ <;> intro _))) | (show wrapK _ _ _; (refine wrap_i64 (by omega) (by omega) ?_)) | (show leK _ _ _; (refine le_of (by first | exact Nat.le_refl _ | omega) ?_)) | (show roomK _ _ _; (refine room_of (by first | omega | (dsimp only; omega)) ?_)) | (show ltK _ _ _; (refine lt_of (by omega) ?_)) | (show _ ∧ _; (refine ⟨?_, ?_⟩)) | (show keepK _ _ _ _ _; (refine keep_of (by first | exact List.Sublist.refl _ | exact List.Sublist.cons _ (List.Sublist.refl _) | exact List.Sublist.cons _ (List.Sublist.cons _ (List.Sublist.refl _)) | exact List.Sublist.cons _ (List.Sublist.cons _ (List.Sublist.cons _ (List.Sublist.refl _)))) (by first | exact (fun _ _ h => h) | exact (fun _ _ h => h.1) | exact (fun _ _ h => h.1.1)) ?_)) | (show ownK _ _ _ _ _; (refine own_keep ?_))))
  all_goals (conv => whnf)
  all_goals first | exact shortL_no (fun h => by have := h.1; have := h.2.1; have := h.2.2.1; have := h.2.2.2.1; omega) (fun _ _ h => h) rfl | skip
  refine Wp.loop (σ := Nat) 0 (fun i => [(28, .c rv.val), (29, .c (.int .i64 rv.l.length)), (30, .c (.int .i64 i))]) (fun _ => []) (fun _ => baseA w)
    (fun i => i ≤ rv.l.length ∧ ∀ k, k < i → ∀ h : k < rv.l.length, rv.l[k].xs.length ≤ 70) (fun i => rv.l.length - i) 0 [] (by decide) (fun _ => ⟨rfl, rfl⟩) ⟨Nat.zero_le _, fun k hk => absurd hk (Nat.not_lt_zero k)⟩ ⟨rfl, ⟨rfl, rfl, rfl, trivial⟩, trivial, fun _ _ h => h⟩ ?_
  rintro i ⟨hi, hpre⟩
  by_cases hlt : i < rv.l.length
  · obtain ⟨ra, hra⟩ : ∃ a, rv.base = some a := base_some (j := i) hr.rows (by rw [shRows_length]; exact hlt)
    by_cases hne : rv.l[i].xs.length ≤ 70
    · (repeat' ((conv => whnf) <;> first | (show idxK _ _ _ _ _; (refine idx_of ra i hra rfl hlt ?_)) | (show roK _ _ _; (refine ro_row0 (fun R w' h => by rw [← hra]; exact rows_base h hr.rows) _ _ (shRows_get hlt) rfl ?_)) | (show Wp _ _ _ _ _ _ _; (refine Wp.go tabOk rfl ?_)) | (show @cmpK _ _ _; (first | refine cmp_yes (by omega) ?_ | refine cmp_no (by omega) ?_ | (refine cmp_both ?_ ?_ <;> intro _))) | (show wrapK _ _ _; (refine wrap_i64 (by omega) (by omega) ?_)) | (show leK _ _ _; (refine le_of (by first | exact Nat.le_refl _ | omega) ?_)) | (show roomK _ _ _; (refine room_of (by first | omega | (dsimp only; omega)) ?_)) | (show ltK _ _ _; (refine lt_of (by omega) ?_)) | (show _ ∧ _; (refine ⟨?_, ?_⟩)) | (show keepK _ _ _ _ _; (refine keep_of (by first | exact List.Sublist.refl _ | exact List.Sublist.cons _ (List.Sublist.refl _) | exact List.Sublist.cons _ (List.Sublist.cons _ (List.Sublist.refl _)) | exact List.Sublist.cons _ (List.Sublist.cons _ (List.Sublist.cons _ (List.Sublist.refl _)))) (by first | exact (fun _ _ h => h) | exact (fun _ _ h => h.1) | exact (fun _ _ h => h.1.1)) ?_)) | (show ownK _ _ _ _ _; (refine own_keep ?_))))
      all_goals (conv => whnf)
      refine ⟨i + 1, [], ⟨hlt, fun k hk h => ?_⟩, by omega, rfl, ⟨rfl, rfl, rfl, trivial⟩, trivial, fun _ _ h => h⟩
      rcases Nat.lt_or_ge k i with g | g
      · exact hpre k g h
      · obtain rfl : k = i := by omega
        exact hne
    · (repeat' ((conv => whnf) <;> first | (show idxK _ _ _ _ _; (refine idx_of ra i hra rfl hlt ?_)) | (show roK _ _ _; (refine ro_row0 (fun R w' h => by rw [← hra]; exact rows_base h hr.rows) _ _ (shRows_get hlt) rfl ?_)) | (show Wp _ _ _ _ _ _ _; (refine Wp.go tabOk rfl ?_)) | (show @cmpK _ _ _; (first | refine cmp_yes (by omega) ?_ | refine cmp_no (by omega) ?_ | (refine cmp_both ?_ ?_ <;> intro _))) | (show wrapK _ _ _; (refine wrap_i64 (by omega) (by omega) ?_)) | (show leK _ _ _; (refine le_of (by first | exact Nat.le_refl _ | omega) ?_)) | (show roomK _ _ _; (refine room_of (by first | omega | (dsimp only; omega)) ?_)) | (show ltK _ _ _; (refine lt_of (by omega) ?_)) | (show _ ∧ _; (refine ⟨?_, ?_⟩)) | (show keepK _ _ _ _ _; (refine keep_of (by first | exact List.Sublist.refl _ | exact List.Sublist.cons _ (List.Sublist.refl _) | exact List.Sublist.cons _ (List.Sublist.cons _ (List.Sublist.refl _)) | exact List.Sublist.cons _ (List.Sublist.cons _ (List.Sublist.cons _ (List.Sublist.refl _)))) (by first | exact (fun _ _ h => h) | exact (fun _ _ h => h.1) | exact (fun _ _ h => h.1.1)) ?_)) | (show ownK _ _ _ _ _; (refine own_keep ?_))))
      all_goals (conv => whnf)
      exact shortL_no (fun h => hne (h.2.2.2.2 _ (List.getElem_mem hlt))) (fun _ _ h => h) rfl
  · (repeat' ((conv => whnf) <;> first | (show Wp _ _ _ _ _ _ _; (refine Wp.go tabOk rfl ?_)) | (show @cmpK _ _ _; (first | refine cmp_yes (by omega) ?_ | refine cmp_no (by omega) ?_ | (refine cmp_both ?_ ?_ <;> intro _))) | (show wrapK _ _ _; (refine wrap_i64 (by omega) (by omega) ?_)) | (show leK _ _ _; (refine le_of (by first | exact Nat.le_refl _ | omega) ?_)) | (show roomK _ _ _; (refine room_of (by first | omega | (dsimp only; omega)) ?_)) | (show ltK _ _ _; (refine lt_of (by omega) ?_)) | (show _ ∧ _; (refine ⟨?_, ?_⟩)) | (show keepK _ _ _ _ _; (refine keep_of (by first | exact List.Sublist.refl _ | exact List.Sublist.cons _ (List.Sublist.refl _) | exact List.Sublist.cons _ (List.Sublist.cons _ (List.Sublist.refl _)) | exact List.Sublist.cons _ (List.Sublist.cons _ (List.Sublist.cons _ (List.Sublist.refl _)))) (by first | exact (fun _ _ h => h) | exact (fun _ _ h => h.1) | exact (fun _ _ h => h.1.1)) ?_)) | (show ownK _ _ _ _ _; (refine own_keep ?_))))
    all_goals (conv => whnf)
    obtain rfl : i = rv.l.length := by omega
    refine ends_bool (fun _ _ h => h) rfl (decide_eq_true ⟨by omega, by omega, by omega, by omega, fun u hu => ?_⟩)
    obtain ⟨k, hk, rfl⟩ := List.mem_iff_getElem.1 hu
    exact hpre k hk hk
def samePre (x y : List IntsV) (i : Nat) : Prop := ∀ k, k < i → ∀ (h : k < x.length) (h2 : k < y.length), x[k].xs = y[k].xs
theorem map_xs_eq {x y : List IntsV} (hl : x.length = y.length) (h : samePre x y x.length) : x.map IntsV.xs = y.map IntsV.xs := by
  apply List.ext_getElem
  · simp [hl]
  · intro k h1 h2
    rw [List.getElem_map, List.getElem_map]
    rw [List.length_map] at h1 h2
    exact h k h1 h1 h2
set_option maxHeartbeats 1000000 in
theorem sameRows_any (w : World) (x y : ShapesV) (hx : x.okB w) (hy : y.okB w) (he : x.l.map IntsV.xs = y.l.map IntsV.xs) : Calls Try.prog 33 #[x.val, y.val] w fun e w' => e = .returned (.bool true) ∧ Ext w w' := by
  have hl : x.l.length = y.l.length := by have := congrArg List.length he; simpa using this
  have hx1 := hx.few
  have hy1 := hy.few
  refine calls_of tab tabOk Try.func33 rfl rfl rfl [] (fun _ => ⟨none, 0⟩) [.c x.val, .c y.val] [] (baseA w) 0 rfl rfl (by show 2 ≤ _; decide) (abs_base w) ?_
  (repeat' ((conv => whnf) <;> first | (show drawK _ 6 _ _ _ _ _ _; (refine draw_quiet tabOk mixed (by kernel_rfl) ?_)) | (show Wp _ _ _ _ _ _ _; (refine Wp.go tabOk rfl ?_)) | (show @cmpK _ _ _; (first | refine cmp_yes (by omega) ?_ | refine cmp_no (by omega) ?_ | (refine cmp_both ?_ ?_ <;> intro _))) | (show wrapK _ _ _; (refine wrap_i64 (by omega) (by omega) ?_)) | (show leK _ _ _; (refine le_of (by first | exact Nat.le_refl _ | omega) ?_)) | (show roomK _ _ _; (refine room_of (by first | omega | (dsimp only; omega)) ?_)) | (show ltK _ _ _; (refine lt_of (by omega) ?_)) | (show _ ∧ _; (refine ⟨?_, ?_⟩)) | (show keepK _ _ _ _ _; (refine keep_of (by first | exact List.Sublist.refl _ | exact List.Sublist.cons _ (List.Sublist.refl _) | exact List.Sublist.cons _ (List.Sublist.cons _ (List.Sublist.refl _)) | exact List.Sublist.cons _ (List.Sublist.cons _ (List.Sublist.cons _ (List.Sublist.refl _)))) (by first | exact (fun _ _ h => h) | exact (fun _ _ h => h.1) | exact (fun _ _ h => h.1.1)) ?_)) | (show ownK _ _ _ _ _; (refine own_keep ?_))))
  all_goals (conv => whnf)
  all_goals first | (exfalso; omega) | skip
  refine Wp.loop (σ := Nat) 0 (fun i => [(0, .c x.val), (1, .c y.val), (12, .c (.int .i64 x.l.length)), (13, .c (.int .i64 i))]) (fun _ => []) (fun _ => baseA w)
    (fun i => i ≤ x.l.length) (fun i => x.l.length - i) 0 [] (by decide) (fun _ => ⟨rfl, rfl⟩) (Nat.zero_le _) ⟨rfl, ⟨rfl, rfl, rfl, rfl, trivial⟩, trivial, fun _ _ h => h⟩ ?_
  intro i hi
  by_cases hlt : i < x.l.length
  · have hlt2 : i < y.l.length := by omega
    obtain ⟨xa, hxa⟩ : ∃ a, x.base = some a := base_some (j := i) hx.rows (by rw [shRows_length]; exact hlt)
    obtain ⟨ya, hya⟩ : ∃ a, y.base = some a := base_some (j := i) hy.rows (by rw [shRows_length]; exact hlt2)
    have hxy : x.l[i].xs = y.l[i].xs := by
      have := congrArg (fun l : List (List Int) => l[i]?) he
      simpa [hlt, hlt2] using this
    (repeat' ((conv => whnf) <;> first | (show idxK _ _ _ _ _; (first | refine idx_of xa i hxa rfl hlt ?_ | refine idx_of ya i hya rfl hlt2 ?_)) | (show roK _ _ _; (first | refine ro_row0 (xs := shRows x.l) (fun R w' h => by rw [← hxa]; exact rows_base h hx.rows) _ _ (shRows_get hlt) rfl ?_ | refine ro_row0 (xs := shRows y.l) (fun R w' h => by rw [← hya]; exact rows_base h hy.rows) _ _ (shRows_get hlt2) rfl ?_)) | (show callQ _ 26 _ _ _ _ _; (refine callQ_of (f := 26) Try.call26 (.bool true) (fun ρ w' hw => by have := same_any w' x.l[i] y.l[i] (holds_of_abs hw fun R h => (hx.each _ (List.getElem_mem hlt)).later h) (holds_of_abs hw fun R h => (hy.each _ (List.getElem_mem hlt2)).later h); rw [decide_eq_true hxy] at this; exact this) ?_)) | (show callK _ 26 _ _ _ _ _; (refine call_pure (f := 26) Try.call26 (.bool true) (fun ρ w' hw => by have := same_any w' x.l[i] y.l[i] (holds_of_abs hw fun R h => (hx.each _ (List.getElem_mem hlt)).later h) (holds_of_abs hw fun R h => (hy.each _ (List.getElem_mem hlt2)).later h); rw [decide_eq_true hxy] at this; exact this) ?_)) | (show drawK _ 6 _ _ _ _ _ _; (refine draw_quiet tabOk mixed (by kernel_rfl) ?_)) | (show Wp _ _ _ _ _ _ _; (refine Wp.go tabOk rfl ?_)) | (show @cmpK _ _ _; (first | refine cmp_yes (by omega) ?_ | refine cmp_no (by omega) ?_ | (refine cmp_both ?_ ?_ <;> intro _))) | (show wrapK _ _ _; (refine wrap_i64 (by omega) (by omega) ?_)) | (show leK _ _ _; (refine le_of (by first | exact Nat.le_refl _ | omega) ?_)) | (show roomK _ _ _; (refine room_of (by first | omega | (dsimp only; omega)) ?_)) | (show ltK _ _ _; (refine lt_of (by omega) ?_)) | (show _ ∧ _; (refine ⟨?_, ?_⟩)) | (show keepK _ _ _ _ _; (refine keep_of (by first | exact List.Sublist.refl _ | exact List.Sublist.cons _ (List.Sublist.refl _) | exact List.Sublist.cons _ (List.Sublist.cons _ (List.Sublist.refl _)) | exact List.Sublist.cons _ (List.Sublist.cons _ (List.Sublist.cons _ (List.Sublist.refl _)))) (by first | exact (fun _ _ h => h) | exact (fun _ _ h => h.1) | exact (fun _ _ h => h.1.1)) ?_)) | (show ownK _ _ _ _ _; (refine own_keep ?_))))
    all_goals (conv => whnf)
    exact ⟨i + 1, [], hlt, by omega, rfl, ⟨rfl, rfl, rfl, rfl, trivial⟩, trivial, fun _ _ h => h⟩
  · (repeat' ((conv => whnf) <;> first | (show drawK _ 6 _ _ _ _ _ _; (refine draw_quiet tabOk mixed (by kernel_rfl) ?_)) | (show Wp _ _ _ _ _ _ _; (refine Wp.go tabOk rfl ?_)) | (show @cmpK _ _ _; (first | refine cmp_yes (by omega) ?_ | refine cmp_no (by omega) ?_ | (refine cmp_both ?_ ?_ <;> intro _))) | (show wrapK _ _ _; (refine wrap_i64 (by omega) (by omega) ?_)) | (show leK _ _ _; (refine le_of (by first | exact Nat.le_refl _ | omega) ?_)) | (show roomK _ _ _; (refine room_of (by first | omega | (dsimp only; omega)) ?_)) | (show ltK _ _ _; (refine lt_of (by omega) ?_)) | (show _ ∧ _; (refine ⟨?_, ?_⟩)) | (show keepK _ _ _ _ _; (refine keep_of (by first | exact List.Sublist.refl _ | exact List.Sublist.cons _ (List.Sublist.refl _) | exact List.Sublist.cons _ (List.Sublist.cons _ (List.Sublist.refl _)) | exact List.Sublist.cons _ (List.Sublist.cons _ (List.Sublist.cons _ (List.Sublist.refl _)))) (by first | exact (fun _ _ h => h) | exact (fun _ _ h => h.1) | exact (fun _ _ h => h.1.1)) ?_)) | (show ownK _ _ _ _ _; (refine own_keep ?_))))
    all_goals (conv => whnf)
    exact ends_bool (fun _ _ h => h) rfl rfl
theorem shortL_ok {w : World} {rv : ShapesV} {fv tv : IntsV} {slots : Int} (h : shortL rv fv.xs tv.xs slots = true) (hr : rv.rawL w) (hf : fv.rawL w) (ht : tv.rawL w) : rv.okB w ∧ fv.ok w ∧ tv.ok w ∧ slots ≤ 200 := by
  have h' := of_decide_eq_true h
  exact ⟨⟨hr.rows, fun s hs => (hr.each s hs).ok (by have := h'.2.2.2.2 s hs; omega), by omega⟩, hf.ok (by omega), ht.ok (by omega), h'.2.2.2.1⟩
theorem diagL_len {rows : List (List Int)} {fr to : List Int} {slots : Int} : (diagL rows fr to slots).1.length ≤ 1000000 := by
  unfold diagL
  split
  · rename_i h
    have h2 := h.2.1
    have : (outerD slots.toNat rows fr to to.length).length = slots.toNat := by
      rw [outerD_trips]
      have : ∀ (T : List Trip) (D : List (List Int)), (T.foldl (fun D t => stepP slots.toNat D t.1 t.2.1 t.2.2) D).length = D.length := by
        intro T
        induction T with
        | nil => intro D; rfl
        | cons t T ih => intro D; rw [List.foldl_cons, ih]; unfold stepP; split <;> simp
      rw [this]; simp
    simp only [this]; omega
  · simp
set_option maxHeartbeats 1000000 in
theorem lawDiagonals_any (w : World) (rv : ShapesV) (hr : rv.rawL w) (fv tv : IntsV) (hf : fv.rawL w) (ht : tv.rawL w) (slots : Int) (hs : i64 slots) : Calls Try.prog 10 #[rv.val, fv.val, tv.val, .int .i64 slots] w fun e w' => e = .returned (.bool true) ∧ Ext w w' := by
  by_cases hsh : shortL rv fv.xs tv.xs slots = true
  · obtain ⟨hr', hf', ht', hs'⟩ := shortL_ok hsh hr hf ht
    refine calls_of tab tabOk Try.func10 rfl rfl rfl [] (fun _ => ⟨none, 0⟩) [.c rv.val, .c fv.val, .c tv.val, .c (.int .i64 slots)] [] (baseA w) 0 rfl rfl (by show 4 ≤ _; decide) (abs_base w) ?_
    (repeat' ((conv => whnf) <;> first | (show callK _ 27 _ _ _ _ _; (refine call_pure (f := 27) Try.call27 (.bool true) (fun ρ w' hw => fixed19_any w') ?_)) | (show callK _ 30 _ _ _ _ _; (refine call_pure (f := 30) Try.call30 (.bool true) (fun ρ w' hw => by have := short_any w' rv (holds_of_abs hw fun R h => hr.later h) fv tv hf.room slots; rw [hsh] at this; exact this) ?_)) | (show callK _ 31 _ _ _ _ _; (refine call_diag (diagL (rv.l.map IntsV.xs) fv.xs tv.xs slots) Try.call31 (fun ρ w' hw => diag_any w' rv (holds_of_abs hw fun R h => hr'.later h) fv tv (holds_of_abs hw fun R h => hf'.later h) (holds_of_abs hw fun R h => ht'.later h) slots hs) (fun x hx hxb => ?_))) | (show callK _ 32 _ _ _ _ _; (refine call_diag (diagL (rv.l.map IntsV.xs) fv.xs tv.xs slots) Try.call32 (fun ρ w' hw => refDiag_any w' rv (holds_of_abs hw fun R h => hr'.later h.1) fv tv (holds_of_abs hw fun R h => hf'.later h.1) (holds_of_abs hw fun R h => ht'.later h.1) slots hs) (fun y hy hyb => ?_))) | (show @cmpK _ _ _; (refine cmp_yes rfl ?_)) | (show callK _ 33 _ _ _ _ _; (refine call_pure (f := 33) Try.call33 (.bool true) (fun ρ w' hw => sameRows_any w' x y (holds_of_abs hw fun R h => diagP_ok hx diagL_len h.1.2) (holds_of_abs hw fun R h => diagP_ok hy diagL_len h.2) (hx.rows.trans hy.rows.symm)) ?_)) | (show Wp _ _ _ _ _ _ _; (refine Wp.go tabOk rfl ?_)) | (show @cmpK _ _ _; (first | refine cmp_yes (by omega) ?_ | refine cmp_no (by omega) ?_ | (refine cmp_both ?_ ?_ <;> intro _))) | (show wrapK _ _ _; (refine wrap_i64 (by omega) (by omega) ?_)) | (show leK _ _ _; (refine le_of (by first | exact Nat.le_refl _ | omega) ?_)) | (show roomK _ _ _; (refine room_of (by first | omega | (dsimp only; omega)) ?_)) | (show ltK _ _ _; (refine lt_of (by omega) ?_)) | (show _ ∧ _; (refine ⟨?_, ?_⟩)) | (show keepK _ _ _ _ _; (refine keep_of (by first | exact List.Sublist.refl _ | exact List.Sublist.cons _ (List.Sublist.refl _) | exact List.Sublist.cons _ (List.Sublist.cons _ (List.Sublist.refl _)) | exact List.Sublist.cons _ (List.Sublist.cons _ (List.Sublist.cons _ (List.Sublist.refl _)))) (by first | exact (fun _ _ h => h) | exact (fun _ _ h => h.1) | exact (fun _ _ h => h.1.1)) ?_)) | (show ownK _ _ _ _ _; (refine own_keep ?_))))
    all_goals (conv => whnf)
    all_goals exact ends_bool (B := ⟨w, []⟩) (fun R w' h => h.1.1) rfl rfl
  · refine calls_of tab tabOk Try.func10 rfl rfl rfl [] (fun _ => ⟨none, 0⟩) [.c rv.val, .c fv.val, .c tv.val, .c (.int .i64 slots)] [] (baseA w) 0 rfl rfl (by show 4 ≤ _; decide) (abs_base w) ?_
    (repeat' ((conv => whnf) <;> first | (show callK _ 27 _ _ _ _ _; (refine call_pure (f := 27) Try.call27 (.bool true) (fun ρ w' hw => fixed19_any w') ?_)) | (show callK _ 30 _ _ _ _ _; (refine call_pure (f := 30) Try.call30 (.bool false) (fun ρ w' hw => by have := short_any w' rv (holds_of_abs hw fun R h => hr.later h) fv tv hf.room slots; rw [Bool.eq_false_iff.2 hsh] at this; exact this) ?_)) | (show Wp _ _ _ _ _ _ _; (refine Wp.go tabOk rfl ?_)) | (show @cmpK _ _ _; (first | refine cmp_yes (by omega) ?_ | refine cmp_no (by omega) ?_ | (refine cmp_both ?_ ?_ <;> intro _))) | (show wrapK _ _ _; (refine wrap_i64 (by omega) (by omega) ?_)) | (show leK _ _ _; (refine le_of (by first | exact Nat.le_refl _ | omega) ?_)) | (show roomK _ _ _; (refine room_of (by first | omega | (dsimp only; omega)) ?_)) | (show ltK _ _ _; (refine lt_of (by omega) ?_)) | (show _ ∧ _; (refine ⟨?_, ?_⟩)) | (show keepK _ _ _ _ _; (refine keep_of (by first | exact List.Sublist.refl _ | exact List.Sublist.cons _ (List.Sublist.refl _) | exact List.Sublist.cons _ (List.Sublist.cons _ (List.Sublist.refl _)) | exact List.Sublist.cons _ (List.Sublist.cons _ (List.Sublist.cons _ (List.Sublist.refl _)))) (by first | exact (fun _ _ h => h) | exact (fun _ _ h => h.1) | exact (fun _ _ h => h.1.1)) ?_)) | (show ownK _ _ _ _ _; (refine own_keep ?_))))
    all_goals (conv => whnf)
    all_goals exact ends_bool (fun R w' h => h) rfl rfl
end Go.Proofs.Ytdmkdogakbipbaa
/- ME -/
namespace Go.Proofs.Ytdmkdogakbipbaa
open Go.SX Go.RowKit
def XF (v : List Int) (k : Nat) : Int := if k < v.length then (v.getD k 0).tmod 1000 else 0
theorem XF_bd (v : List Int) (k : Nat) : -999 ≤ XF v k ∧ XF v k ≤ 999 := by
  unfold XF
  split
  · have h1 := Int.tmod_lt_of_pos (v.getD k 0) (show (0 : Int) < 1000 by decide)
    have h2 : -1000 < (v.getD k 0).tmod 1000 := Int.lt_tmod_of_pos _ (by decide)
    omega
  · omega
structure XPre (n : Nat) (v : List Int) (i : Nat) (l : List Int) : Prop where
  len : l.length = n
  at_ : ∀ k, k < n → l.getD k 0 = if k < i then XF v k else 0
theorem XPre.fits {n : Nat} {v : List Int} {i : Nat} {l : List Int} (h : XPre n v i l) : ∀ x ∈ l, i64 x := fun x hx => by
  obtain ⟨k, hk, rfl⟩ := List.mem_iff_getElem.1 hx
  have := h.at_ k (by rw [← h.len]; exact hk)
  rw [getD_at hk] at this
  rw [this]
  have := XF_bd v k
  split <;> exact ⟨by omega, by omega⟩
theorem XPre.set {n : Nat} {v : List Int} {i : Nat} {l : List Int} (h : XPre n v i l) (hi : i < n) : XPre n v (i + 1) (l.set i (XF v i)) := by
  refine ⟨by rw [List.length_set]; exact h.len, fun k hk => ?_⟩
  by_cases e : i = k
  · subst e
    rw [getD_set_eq (by rw [h.len]; exact hi), if_pos (by omega)]
  · rw [getD_set_ne e, h.at_ k hk]
    by_cases g : k < i
    · rw [if_pos g, if_pos (by omega)]
    · rw [if_neg g, if_neg (by omega)]
theorem XPre.skip {n : Nat} {v : List Int} {i : Nat} {l : List Int} (h : XPre n v i l) (hi : ¬ i < v.length) : XPre n v (i + 1) l := by
  refine ⟨h.len, fun k hk => ?_⟩
  rw [h.at_ k hk]
  by_cases g : k < i
  · rw [if_pos g, if_pos (by omega)]
  · rw [if_neg g]
    split
    · have : k = i := by omega
      rw [this, XF, if_neg hi]
    · rfl
theorem diagL_err {rows : List (List Int)} {fr to : List Int} {slots : Int} (h : (diagL rows fr to slots).2 ≠ 0) : (diagL rows fr to slots).1 = [] := by
  unfold diagL at h ⊢
  split
  · rename_i g; rw [if_pos g] at h; exact absurd rfl h
  · rfl
theorem diagL_ok {rows : List (List Int)} {fr to : List Int} {slots : Int} (h : (diagL rows fr to slots).2 = 0) : diagOk rows fr to slots := by
  unfold diagL at h
  split at h
  · assumption
  · cases h
theorem rows_zero (n : Nat) : List.replicate n [Value.int .i64 0] = ints (List.replicate n 0) := by simp [ints]
theorem rem_isX {x y q : Int} {K : Int → Prop} (hy : y ≠ 0) (e : x.tmod y = q) (h : K q) : remK x y K := rem_any hy (by rw [e]; exact h)
theorem Keeps.congr {n : Nat} {E E' : Nat → Int} {l : List Int} (h : Keeps n E l) (he : ∀ s, s < n → E' s = E s) : Keeps n E' l := ⟨h.len, fun s hs => by rw [he s hs]; exact h.at_ s hs⟩
theorem wrap_W {z : Int} {K : Int → Prop} (h : K (W64 z)) : wrapK .i64 z K := wrap_any h
theorem own_two {B : Base} {ρ : Nat → SX.Loc} {nx : Nat} {H : Heap} {S : Asn} {w : World} {i j m : Nat} {xs ys : List Int} (hw : Abs B ρ nx H S w) (hi : (i, Ent.rows (ints xs) 1 3) ∈ H) (hj : (j, Ent.rows (ints ys) 1 3) ∈ H) (hm : m = xs.length) (hm2 : m = ys.length) (hf : ∀ x ∈ xs, i64 x) (hf2 : ∀ x ∈ ys, i64 x) (hl : m ≤ 1000000) (e : xs = ys) :
    Calls Try.prog 26 (SV.rfs ρ [.os i m, .os j m]).toArray w fun e w' => e = .returned (.bool true) ∧ Ext w w' := by
  obtain ⟨a, e1, e2, e3⟩ := own_ints hw hi rfl hm hf (by omega)
  obtain ⟨b, g1, g2, g3⟩ := own_ints hw hj rfl hm2 hf2 (by omega)
  have ha : (SV.rfs ρ [.os i m, .os j m]).toArray = #[a.val, b.val] := by
    have h1 := congrArg (fun x : Array Value => x[0]?) e1
    have h2 := congrArg (fun x : Array Value => x[0]?) g1
    simp [SV.rfs] at h1 h2
    simp [SV.rfs, h1, h2]
  rw [ha]
  have := same_any w a b e3 g3
  rw [decide_eq_true (e2.trans (e.trans g2.symm))] at this
  exact this
set_option maxHeartbeats 4000000 in
theorem lawSums_any (w : World) (rv : ShapesV) (hr : rv.rawL w) (fv tv : IntsV) (hf : fv.rawL w) (ht : tv.rawL w) (slots : Int) (hs : i64 slots) (v : IntsV) (hv : v.rawL w) : Calls Try.prog 11 #[rv.val, fv.val, tv.val, .int .i64 slots, v.val] w fun e w' => e = .returned (.bool true) ∧ Ext w w' := by
  by_cases hsh : shortL rv fv.xs tv.xs slots = true
  · obtain ⟨hr', hf', ht', hs'⟩ := shortL_ok hsh hr hf ht
    have hf1 := hf'.few
    have ht1 := ht'.few
    by_cases hvl : v.xs.length ≤ 200
    · by_cases her : (diagL (rv.l.map IntsV.xs) fv.xs tv.xs slots).2 = 0
      · have hok := diagL_ok her
        obtain ⟨hs1, hs2, hrl, hp1, hp2, hlen⟩ := id hok
        rw [List.length_map] at hrl
        obtain ⟨n, hn⟩ : ∃ n : Nat, slots = n := ⟨slots.toNat, by omega⟩
        subst hn
        have hdl : diagL (rv.l.map IntsV.xs) fv.xs tv.xs n = (outerD n (rv.l.map IntsV.xs) fv.xs tv.xs tv.xs.length, 0) := by rw [diagL, if_pos hok, Int.toNat_natCast]
        obtain ⟨D, hD⟩ : ∃ D, outerD n (rv.l.map IntsV.xs) fv.xs tv.xs tv.xs.length = D := ⟨_, rfl⟩
        have hDl := outerD_len (n := n) (rows := rv.l.map IntsV.xs) (placesL_of hp1) (placesL_of hp2) (by omega)
        have hsum := diag_sums (n := n) (rows := rv.l.map IntsV.xs) (placesL_of hp1) (placesL_of hp2) (XF v.xs)
        rw [hD] at hdl hDl hsum
        have hfr := (placesL_of hp1).1
        have hto := (placesL_of hp2).1
        refine calls_of tab tabOk Try.func11 rfl rfl rfl [] (fun _ => ⟨none, 0⟩) [.c rv.val, .c fv.val, .c tv.val, .c (.int .i64 n), .c v.val] [] (baseA w) 0 rfl rfl (by show 5 ≤ _; decide) (abs_base w) ?_
        (repeat' ((conv => whnf) <;> first | (show callK _ 27 _ _ _ _ _; (refine call_pure (f := 27) Try.call27 (.bool true) (fun ρ w' hw => fixed19_any w') ?_)) | (show callK _ 30 _ _ _ _ _; (refine call_pure (f := 30) Try.call30 (.bool true) (fun ρ w' hw => by have := short_any w' rv (holds_of_abs hw fun R h => hr.later h) fv tv hf.room n; rw [hsh] at this; exact this) ?_)) | (show callK _ 31 _ _ _ _ _; (refine call_diag (D, 0) Try.call31 (fun ρ w' hw => by rw [← hdl]; exact diag_any w' rv (holds_of_abs hw fun R h => hr'.later h) fv tv (holds_of_abs hw fun R h => hf'.later h) (holds_of_abs hw fun R h => ht'.later h) n hs) (fun x hx hxb => ?_))) | (show @cmpK _ _ _; (first | refine cmp_no (fun h => h rfl) ?_ | refine cmp_no (by omega) ?_)) | (show makeK _ _ _ _; (refine make_of n rfl rfl (by show 8 * _ ≤ _; omega) (by omega) ?_)) | (show drawK _ 22 _ _ _ _ _ _; (refine draw_tree tabOk mixed [19] _ (.take 0 (.take 1 (.take 2 (.take 3 (.take 4 (.take 5 (.take 6 (.take 7 (.take 8 (.take 9 (.take 10 (.take 11 (.take 12 (.take 13 (.take 14 (.take 15 (.take 16 (.take 17 (.take 18 (.one 19 (.done))))))))))))))))))))) (by kernel_rfl) (by kernel_rfl) (by kernel_rfl) (List.Sublist.refl _) ?_)) | (show drawK _ 32 _ _ _ _ _ _; (refine draw_tree tabOk mixed [18] _ (.take 0 (.take 1 (.take 2 (.take 3 (.take 4 (.take 5 (.take 6 (.take 7 (.take 8 (.take 9 (.take 10 (.take 11 (.take 12 (.take 13 (.take 14 (.take 15 (.take 16 (.take 17 (.one 18 (.done)))))))))))))))))))) (by kernel_rfl) (by kernel_rfl) (by kernel_rfl) (List.Sublist.refl _) ?_)) | (show Wp _ _ _ _ _ _ _; (refine Wp.go tabOk rfl ?_)) | (show @cmpK _ _ _; (first | refine cmp_yes (by omega) ?_ | refine cmp_no (by omega) ?_ | (refine cmp_both ?_ ?_ <;> intro _))) | (show wrapK _ _ _; (refine wrap_i64 (by omega) (by omega) ?_)) | (show leK _ _ _; (refine le_of (by first | exact Nat.le_refl _ | omega) ?_)) | (show roomK _ _ _; (refine room_of (by first | omega | (dsimp only; omega)) ?_)) | (show ltK _ _ _; (refine lt_of (by omega) ?_)) | (show _ ∧ _; (refine ⟨?_, ?_⟩)) | (show keepK _ _ _ _ _; (refine keep_of (by first | exact List.Sublist.refl _ | exact List.Sublist.cons _ (List.Sublist.refl _) | exact List.Sublist.cons _ (List.Sublist.cons _ (List.Sublist.refl _)) | exact List.Sublist.cons _ (List.Sublist.cons _ (List.Sublist.cons _ (List.Sublist.refl _)))) (by first | exact (fun _ _ h => h) | exact (fun _ _ h => h.1) | exact (fun _ _ h => h.1.1)) ?_)) | (show ownK _ _ _ _ _; (refine own_keep ?_))))
        all_goals (conv => whnf)
        have hxl : x.l.length = n := by have := congrArg List.length hx.rows; rw [List.length_map] at this; rw [this]; exact hDl.len
        obtain ⟨xb, hxb'⟩ := hxb (by omega)
        have hxok : ∀ {R : Nat → Prop} {w' : World}, ((baseA w).and ((diagA x).past w.heap.size)).holds R w' → x.okB w' := fun h => diagP_ok hx (by rw [hDl.len]; omega) h.2
        refine Wp.loop (σ := Nat × List Int) 1 (fun y => [(0, .c rv.val), (1, .c fv.val), (2, .c tv.val), (3, .c (.int .i64 n)), (4, .c v.val), (11, .c x.val), (13, .os 0 n), (53, .c (.int .i64 n)), (54, .c (.int .i64 y.1))])
          (fun y => [(0, .rows (ints y.2) 1 3)]) (fun _ => (baseA w).and ((diagA x).past w.heap.size))
          (fun y => y.1 ≤ n ∧ XPre n v.xs y.1 y.2) (fun y => n - y.1) (0, List.replicate n 0) [] (by decide) (fun _ => ⟨rfl, rfl⟩)
          ⟨Nat.zero_le _, List.length_replicate, fun k hk => by rw [getD_repl]; rfl⟩ ⟨rfl, ⟨rfl, rfl, rfl, rfl, rfl, rfl, rfl, rfl, rfl, trivial⟩, ⟨by show (0, Ent.rows (ints (List.replicate n 0)) 1 3) ∈ _; rw [← rows_zero]; exact List.mem_cons_self, trivial⟩, fun _ _ h => h⟩ ?_
        rintro ⟨i, l⟩ ⟨hi, hl⟩
        dsimp only at hi hl
        by_cases hin : i < n
        · by_cases hiv : i < v.xs.length
          · obtain ⟨va, hva⟩ : ∃ a, v.base = some a := base_some (j := i) hv.rows (by rw [ints_length]; exact hiv)
            have hvr : ∀ (R : Nat → Prop) w', ((baseA w).and ((diagA x).past w.heap.size)).holds R w' → RowsI w' (some va) 1 (ints v.xs) := fun R w' h => by rw [← hva]; exact rows_base h.1 hv.rows
            have hxf : (v.xs.getD i 0).tmod 1000 = XF v.xs i := by rw [XF, if_pos hiv]
            (repeat' ((conv => whnf) <;> first | (show idxK _ _ _ _ _; (refine idx_of va i hva rfl hiv ?_)) | (show roK _ _ _; (refine ro_int hvr (j := i) hiv ?_)) | (show remK _ _ _; (refine rem_isX (by decide) hxf ?_)) | (show idxRowK _ _ _ _ _ _; (refine idxRow_of i rfl hin (Nat.le_of_eq (by rw [ints_length]; exact hl.len.symm)) ?_)) | (show rowStoreK _ _ _ _ _; (refine ints_storeL (Nat.lt_of_lt_of_eq hin hl.len.symm) ?_)) | (show drawK _ 22 _ _ _ _ _ _; (refine draw_tree tabOk mixed [19] _ (.take 0 (.take 1 (.take 2 (.take 3 (.take 4 (.take 5 (.take 6 (.take 7 (.take 8 (.take 9 (.take 10 (.take 11 (.take 12 (.take 13 (.take 14 (.take 15 (.take 16 (.take 17 (.take 18 (.one 19 (.done))))))))))))))))))))) (by kernel_rfl) (by kernel_rfl) (by kernel_rfl) (List.Sublist.refl _) ?_)) | (show drawK _ 32 _ _ _ _ _ _; (refine draw_tree tabOk mixed [18] _ (.take 0 (.take 1 (.take 2 (.take 3 (.take 4 (.take 5 (.take 6 (.take 7 (.take 8 (.take 9 (.take 10 (.take 11 (.take 12 (.take 13 (.take 14 (.take 15 (.take 16 (.take 17 (.one 18 (.done)))))))))))))))))))) (by kernel_rfl) (by kernel_rfl) (by kernel_rfl) (List.Sublist.refl _) ?_)) | (show Wp _ _ _ _ _ _ _; (refine Wp.go tabOk rfl ?_)) | (show @cmpK _ _ _; (first | refine cmp_yes (by omega) ?_ | refine cmp_no (by omega) ?_ | (refine cmp_both ?_ ?_ <;> intro _))) | (show wrapK _ _ _; (refine wrap_i64 (by omega) (by omega) ?_)) | (show leK _ _ _; (refine le_of (by first | exact Nat.le_refl _ | omega) ?_)) | (show roomK _ _ _; (refine room_of (by first | omega | (dsimp only; omega)) ?_)) | (show ltK _ _ _; (refine lt_of (by omega) ?_)) | (show _ ∧ _; (refine ⟨?_, ?_⟩)) | (show keepK _ _ _ _ _; (refine keep_of (by first | exact List.Sublist.refl _ | exact List.Sublist.cons _ (List.Sublist.refl _) | exact List.Sublist.cons _ (List.Sublist.cons _ (List.Sublist.refl _)) | exact List.Sublist.cons _ (List.Sublist.cons _ (List.Sublist.cons _ (List.Sublist.refl _)))) (by first | exact (fun _ _ h => h) | exact (fun _ _ h => h.1) | exact (fun _ _ h => h.1.1)) ?_)) | (show ownK _ _ _ _ _; (refine own_keep ?_))))
            all_goals (conv => whnf)
            exact ⟨(i + 1, l.set i (XF v.xs i)), [], ⟨hin, hl.set hin⟩, by show n - (i + 1) < n - i; omega, rfl, ⟨rfl, rfl, rfl, rfl, rfl, rfl, rfl, rfl, rfl, trivial⟩, ⟨(by repeat (first | exact List.mem_cons_self | apply List.mem_cons_of_mem)), trivial⟩, fun _ _ h => h⟩
          · (repeat' ((conv => whnf) <;> first | (show drawK _ 22 _ _ _ _ _ _; (refine draw_tree tabOk mixed [19] _ (.take 0 (.take 1 (.take 2 (.take 3 (.take 4 (.take 5 (.take 6 (.take 7 (.take 8 (.take 9 (.take 10 (.take 11 (.take 12 (.take 13 (.take 14 (.take 15 (.take 16 (.take 17 (.take 18 (.one 19 (.done))))))))))))))))))))) (by kernel_rfl) (by kernel_rfl) (by kernel_rfl) (List.Sublist.refl _) ?_)) | (show drawK _ 32 _ _ _ _ _ _; (refine draw_tree tabOk mixed [18] _ (.take 0 (.take 1 (.take 2 (.take 3 (.take 4 (.take 5 (.take 6 (.take 7 (.take 8 (.take 9 (.take 10 (.take 11 (.take 12 (.take 13 (.take 14 (.take 15 (.take 16 (.take 17 (.one 18 (.done)))))))))))))))))))) (by kernel_rfl) (by kernel_rfl) (by kernel_rfl) (List.Sublist.refl _) ?_)) | (show Wp _ _ _ _ _ _ _; (refine Wp.go tabOk rfl ?_)) | (show @cmpK _ _ _; (first | refine cmp_yes (by omega) ?_ | refine cmp_no (by omega) ?_ | (refine cmp_both ?_ ?_ <;> intro _))) | (show wrapK _ _ _; (refine wrap_i64 (by omega) (by omega) ?_)) | (show leK _ _ _; (refine le_of (by first | exact Nat.le_refl _ | omega) ?_)) | (show roomK _ _ _; (refine room_of (by first | omega | (dsimp only; omega)) ?_)) | (show ltK _ _ _; (refine lt_of (by omega) ?_)) | (show _ ∧ _; (refine ⟨?_, ?_⟩)) | (show keepK _ _ _ _ _; (refine keep_of (by first | exact List.Sublist.refl _ | exact List.Sublist.cons _ (List.Sublist.refl _) | exact List.Sublist.cons _ (List.Sublist.cons _ (List.Sublist.refl _)) | exact List.Sublist.cons _ (List.Sublist.cons _ (List.Sublist.cons _ (List.Sublist.refl _)))) (by first | exact (fun _ _ h => h) | exact (fun _ _ h => h.1) | exact (fun _ _ h => h.1.1)) ?_)) | (show ownK _ _ _ _ _; (refine own_keep ?_))))
            all_goals (conv => whnf)
            exact ⟨(i + 1, l), [], ⟨hin, hl.skip hiv⟩, by show n - (i + 1) < n - i; omega, rfl, ⟨rfl, rfl, rfl, rfl, rfl, rfl, rfl, rfl, rfl, trivial⟩, ⟨(by repeat (first | exact List.mem_cons_self | apply List.mem_cons_of_mem)), trivial⟩, fun _ _ h => h⟩
        have hi' : n = i := by omega
        subst hi'
        clear hi hin
        obtain ⟨xl, hxL⟩ : ∃ xl, l = xl := ⟨_, rfl⟩
        rw [hxL] at hl ⊢
        clear hxL
        (repeat' ((conv => whnf) <;> first | (show makeK _ _ _ _; (refine make_of n rfl rfl (by show 8 * _ ≤ _; omega) (by omega) ?_)) | (show drawK _ 22 _ _ _ _ _ _; (refine draw_tree tabOk mixed [19] _ (.take 0 (.take 1 (.take 2 (.take 3 (.take 4 (.take 5 (.take 6 (.take 7 (.take 8 (.take 9 (.take 10 (.take 11 (.take 12 (.take 13 (.take 14 (.take 15 (.take 16 (.take 17 (.take 18 (.one 19 (.done))))))))))))))))))))) (by kernel_rfl) (by kernel_rfl) (by kernel_rfl) (List.Sublist.refl _) ?_)) | (show drawK _ 32 _ _ _ _ _ _; (refine draw_tree tabOk mixed [18] _ (.take 0 (.take 1 (.take 2 (.take 3 (.take 4 (.take 5 (.take 6 (.take 7 (.take 8 (.take 9 (.take 10 (.take 11 (.take 12 (.take 13 (.take 14 (.take 15 (.take 16 (.take 17 (.one 18 (.done)))))))))))))))))))) (by kernel_rfl) (by kernel_rfl) (by kernel_rfl) (List.Sublist.refl _) ?_)) | (show Wp _ _ _ _ _ _ _; (refine Wp.go tabOk rfl ?_)) | (show @cmpK _ _ _; (first | refine cmp_yes (by omega) ?_ | refine cmp_no (by omega) ?_ | (refine cmp_both ?_ ?_ <;> intro _))) | (show wrapK _ _ _; (refine wrap_i64 (by omega) (by omega) ?_)) | (show leK _ _ _; (refine le_of (by first | exact Nat.le_refl _ | omega) ?_)) | (show roomK _ _ _; (refine room_of (by first | omega | (dsimp only; omega)) ?_)) | (show ltK _ _ _; (refine lt_of (by omega) ?_)) | (show _ ∧ _; (refine ⟨?_, ?_⟩)) | (show keepK _ _ _ _ _; (refine keep_of (by first | exact List.Sublist.refl _ | exact List.Sublist.cons _ (List.Sublist.refl _) | exact List.Sublist.cons _ (List.Sublist.cons _ (List.Sublist.refl _)) | exact List.Sublist.cons _ (List.Sublist.cons _ (List.Sublist.cons _ (List.Sublist.refl _)))) (by first | exact (fun _ _ h => h) | exact (fun _ _ h => h.1) | exact (fun _ _ h => h.1.1)) ?_)) | (show ownK _ _ _ _ _; (refine own_keep ?_))))
        all_goals (conv => whnf)
        refine Wp.loop (σ := Nat × List Int) 2 (fun y => [(0, .c rv.val), (1, .c fv.val), (2, .c tv.val), (3, .c (.int .i64 n)), (11, .c x.val), (13, .os 0 n), (15, .os 1 n), (72, .c x.val), (73, .c (.int .i64 x.l.length)), (74, .c (.int .i64 y.1))])
          (fun y => [(0, .rows (ints xl) 1 3), (1, .rows (ints y.2) 1 3)]) (fun _ => (baseA w).and ((diagA x).past w.heap.size))
          (fun y => y.1 ≤ n ∧ Keeps n (fun s => sumK D (XF v.xs) n y.1 s) y.2) (fun y => n - y.1) (0, List.replicate n 0) [] (by decide) (fun _ => ⟨rfl, rfl⟩)
          ⟨Nat.zero_le _, keeps_zero n (fun s _ => rfl)⟩ ⟨rfl, ⟨rfl, rfl, rfl, rfl, rfl, rfl, rfl, rfl, rfl, rfl, trivial⟩, ⟨(by repeat (first | exact List.mem_cons_self | apply List.mem_cons_of_mem)), by show (1, Ent.rows (ints (List.replicate n 0)) 1 3) ∈ _; rw [← rows_zero]; exact (by repeat (first | exact List.mem_cons_self | apply List.mem_cons_of_mem)), trivial⟩, fun _ _ h => h⟩ ?_
        rintro ⟨k, l⟩ ⟨hk, hk2⟩
        dsimp only at hk hk2
        by_cases hkn : k < n
        · have hkx : k < x.l.length := by omega
          have hxr : ∀ (R : Nat → Prop) w', ((baseA w).and ((diagA x).past w.heap.size)).holds R w' → RowsI w' (some xb) 1 (shRows x.l) := fun R w' h => by rw [← hxb']; exact (hxok h).rows
          obtain ⟨u, hu⟩ : ∃ u, x.l[k] = u := ⟨_, rfl⟩
          have hum : u ∈ x.l := by rw [← hu]; exact List.getElem_mem hkx
          have hget : (shRows x.l)[k]? = some [u.val] := by rw [← hu]; exact shRows_get hkx
          have huD : u.xs = D.getD k [] := by
            have := congrArg (fun l : List (List Int) => l[k]?) hx.rows
            simp only [List.getElem?_map, List.getElem?_eq_getElem hkx, Option.map_some, hu] at this
            rw [List.getD, ← this]; rfl
          have huok : ∀ {R : Nat → Prop} {w' : World}, ((baseA w).and ((diagA x).past w.heap.size)).holds R w' → u.ok w' := fun h => (hxok h).each u hum
          have husane := hx.sane u hum
          have hul : u.xs.length = 0 ∨ u.xs.length = n := by
            rw [huD]
            rcases hDl.each k with g | g
            · exact .inl (by rw [g]; rfl)
            · exact .inr g
          (repeat' ((conv => whnf) <;> first | (show idxK _ _ _ _ _; (refine idx_of xb k hxb' rfl hkx ?_)) | (show roK _ _ _; (refine ro_row0 hxr _ _ hget rfl ?_)) | (show drawK _ 22 _ _ _ _ _ _; (refine draw_tree tabOk mixed [19] _ (.take 0 (.take 1 (.take 2 (.take 3 (.take 4 (.take 5 (.take 6 (.take 7 (.take 8 (.take 9 (.take 10 (.take 11 (.take 12 (.take 13 (.take 14 (.take 15 (.take 16 (.take 17 (.take 18 (.one 19 (.done))))))))))))))))))))) (by kernel_rfl) (by kernel_rfl) (by kernel_rfl) (List.Sublist.refl _) ?_)) | (show drawK _ 32 _ _ _ _ _ _; (refine draw_tree tabOk mixed [18] _ (.take 0 (.take 1 (.take 2 (.take 3 (.take 4 (.take 5 (.take 6 (.take 7 (.take 8 (.take 9 (.take 10 (.take 11 (.take 12 (.take 13 (.take 14 (.take 15 (.take 16 (.take 17 (.one 18 (.done)))))))))))))))))))) (by kernel_rfl) (by kernel_rfl) (by kernel_rfl) (List.Sublist.refl _) ?_)) | (show Wp _ _ _ _ _ _ _; (refine Wp.go tabOk rfl ?_)) | (show @cmpK _ _ _; (first | refine cmp_yes (by omega) ?_ | refine cmp_no (by omega) ?_ | (refine cmp_both ?_ ?_ <;> intro _))) | (show wrapK _ _ _; (refine wrap_i64 (by omega) (by omega) ?_)) | (show leK _ _ _; (refine le_of (by first | exact Nat.le_refl _ | omega) ?_)) | (show roomK _ _ _; (refine room_of (by first | omega | (dsimp only; omega)) ?_)) | (show ltK _ _ _; (refine lt_of (by omega) ?_)) | (show _ ∧ _; (refine ⟨?_, ?_⟩)) | (show keepK _ _ _ _ _; (refine keep_of (by first | exact List.Sublist.refl _ | exact List.Sublist.cons _ (List.Sublist.refl _) | exact List.Sublist.cons _ (List.Sublist.cons _ (List.Sublist.refl _)) | exact List.Sublist.cons _ (List.Sublist.cons _ (List.Sublist.cons _ (List.Sublist.refl _)))) (by first | exact (fun _ _ h => h) | exact (fun _ _ h => h.1) | exact (fun _ _ h => h.1.1)) ?_)) | (show ownK _ _ _ _ _; (refine own_keep ?_))))
          all_goals (conv => whnf)
          refine Wp.loop (σ := Nat × List Int) 2 (fun y => [(0, .c rv.val), (1, .c fv.val), (2, .c tv.val), (3, .c (.int .i64 n)), (11, .c x.val), (13, .os 0 n), (15, .os 1 n), (72, .c x.val), (73, .c (.int .i64 x.l.length)), (74, .c (.int .i64 k)), (16, .c (.int .i64 k)), (17, .c u.val), (80, .c (.int .i64 u.xs.length)), (81, .c (.int .i64 y.1))])
            (fun y => [(0, .rows (ints xl) 1 3), (1, .rows (ints y.2) 1 3)]) (fun _ => (baseA w).and ((diagA x).past w.heap.size))
            (fun y => y.1 ≤ u.xs.length ∧ Keeps n (fun j => if j < y.1 then sumK D (XF v.xs) n (k + 1) j else sumK D (XF v.xs) n k j) y.2) (fun y => u.xs.length - y.1) (0, l) [] (by decide) (fun _ => ⟨rfl, rfl⟩)
            ⟨Nat.zero_le _, hk2.congr fun s _ => if_neg (Nat.not_lt_zero s)⟩ ⟨rfl, ⟨rfl, rfl, rfl, rfl, rfl, rfl, rfl, rfl, rfl, rfl, rfl, rfl, rfl, rfl, trivial⟩, ⟨(by repeat (first | exact List.mem_cons_self | apply List.mem_cons_of_mem)), (by repeat (first | exact List.mem_cons_self | apply List.mem_cons_of_mem)), trivial⟩, fun _ _ h => h⟩ ?_
          clear hk2
          rintro ⟨s, m⟩ ⟨hs0, hm⟩
          dsimp only at hs0 hm
          by_cases hsl : s < u.xs.length
          · have hun : u.xs.length = n := by omega
            have hsn : s < n := by omega
            refine Wp.know (p := ∃ a, u.base = some a) (fun ρ w' hw => holds_of_abs hw fun R h => (huok h).base (by omega)) ?_
            rintro ⟨ua, hua⟩
            have hur : ∀ (R : Nat → Prop) w', ((baseA w).and ((diagA x).past w.heap.size)).holds R w' → RowsI w' (some ua) 1 (ints u.xs) := fun R w' h => by rw [← hua]; exact (huok h).rows
            have hDE : u.xs.getD s 0 = DE D k s := by rw [DE, huD]
            have hjn : (s + k) % n < n := Nat.mod_lt _ (by omega)
            have hxj : xl.getD ((s + k) % n) 0 = XF v.xs ((s + k) % n) := by rw [hl.at_ _ hjn, if_pos hjn]
            have hmod : ((s : Int) + (k : Int)) % (n : Int) = (((s + k) % n : Nat) : Int) := by rw [Int.natCast_emod, Int.natCast_add]
            (repeat' ((conv => whnf) <;> first | (show idxK _ _ _ _ _; (refine idx_of ua s hua rfl hsl ?_)) | (show roK _ _ _; (refine ro_iv hur (j := s) hsl hDE ?_)) | (show remK _ _ _; (refine rem_isS (by omega) (by omega) hmod ?_)) | (show idxRowK _ _ _ _ _ _; (first | refine idxRow_of s rfl hsn (Nat.le_of_eq (by rw [ints_length]; exact hm.len.symm)) ?_ | refine idxRow_of ((s + k) % n) rfl hjn (Nat.le_of_eq (by rw [ints_length]; exact hl.len.symm)) ?_)) | (show rowK _ _ _ _; (first | refine ro_own (xs := m) (j := s) (Nat.lt_of_lt_of_eq hsn hm.len.symm) ?_ | refine ro_own (xs := xl) (j := (s + k) % n) (Nat.lt_of_lt_of_eq hjn hl.len.symm) ?_)) | (show rowStoreK _ _ _ _ _; (refine ints_storeL (Nat.lt_of_lt_of_eq hsn hm.len.symm) ?_)) | (show wrapK _ _ _; (first | refine wrap_i64 (by omega) (by omega) ?_ | refine wrap_W ?_)) | (show drawK _ 22 _ _ _ _ _ _; (refine draw_tree tabOk mixed [19] _ (.take 0 (.take 1 (.take 2 (.take 3 (.take 4 (.take 5 (.take 6 (.take 7 (.take 8 (.take 9 (.take 10 (.take 11 (.take 12 (.take 13 (.take 14 (.take 15 (.take 16 (.take 17 (.take 18 (.one 19 (.done))))))))))))))))))))) (by kernel_rfl) (by kernel_rfl) (by kernel_rfl) (List.Sublist.refl _) ?_)) | (show drawK _ 32 _ _ _ _ _ _; (refine draw_tree tabOk mixed [18] _ (.take 0 (.take 1 (.take 2 (.take 3 (.take 4 (.take 5 (.take 6 (.take 7 (.take 8 (.take 9 (.take 10 (.take 11 (.take 12 (.take 13 (.take 14 (.take 15 (.take 16 (.take 17 (.one 18 (.done)))))))))))))))))))) (by kernel_rfl) (by kernel_rfl) (by kernel_rfl) (List.Sublist.refl _) ?_)) | (show Wp _ _ _ _ _ _ _; (refine Wp.go tabOk rfl ?_)) | (show @cmpK _ _ _; (first | refine cmp_yes (by omega) ?_ | refine cmp_no (by omega) ?_ | (refine cmp_both ?_ ?_ <;> intro _))) | (show wrapK _ _ _; (refine wrap_i64 (by omega) (by omega) ?_)) | (show leK _ _ _; (refine le_of (by first | exact Nat.le_refl _ | omega) ?_)) | (show roomK _ _ _; (refine room_of (by first | omega | (dsimp only; omega)) ?_)) | (show ltK _ _ _; (refine lt_of (by omega) ?_)) | (show _ ∧ _; (refine ⟨?_, ?_⟩)) | (show keepK _ _ _ _ _; (refine keep_of (by first | exact List.Sublist.refl _ | exact List.Sublist.cons _ (List.Sublist.refl _) | exact List.Sublist.cons _ (List.Sublist.cons _ (List.Sublist.refl _)) | exact List.Sublist.cons _ (List.Sublist.cons _ (List.Sublist.cons _ (List.Sublist.refl _)))) (by first | exact (fun _ _ h => h) | exact (fun _ _ h => h.1) | exact (fun _ _ h => h.1.1)) ?_)) | (show ownK _ _ _ _ _; (refine own_keep ?_))))
            all_goals (conv => whnf)
            rw [hxj]
            have hstep : Keeps n (fun j => if j < s + 1 then sumK D (XF v.xs) n (k + 1) j else sumK D (XF v.xs) n k j) (m.set s (W64 (m.getD s 0 + W64 (DE D k s * XF v.xs ((s + k) % n))))) := by
              refine hm.step hsn ?_ fun j hj => ?_
              · show (if s < s + 1 then sumK D (XF v.xs) n (k + 1) s else sumK D (XF v.xs) n k s) = (if s < s then sumK D (XF v.xs) n (k + 1) s else sumK D (XF v.xs) n k s) + DE D k s * XF v.xs ((s + k) % n)
                rw [if_pos (Nat.lt_succ_self s), if_neg (Nat.lt_irrefl s), sumK_succ]
              · show (if j < s + 1 then sumK D (XF v.xs) n (k + 1) j else sumK D (XF v.xs) n k j) = (if j < s then sumK D (XF v.xs) n (k + 1) j else sumK D (XF v.xs) n k j)
                by_cases g : j < s
                · rw [if_pos g, if_pos (by omega)]
                · rw [if_neg g, if_neg (by omega)]
            exact ⟨(s + 1, m.set s (W64 (m.getD s 0 + W64 (DE D k s * XF v.xs ((s + k) % n))))), [], ⟨hsl, hstep⟩, by show u.xs.length - (s + 1) < u.xs.length - s; omega, rfl, ⟨rfl, rfl, rfl, rfl, rfl, rfl, rfl, rfl, rfl, rfl, rfl, rfl, rfl, rfl, trivial⟩, ⟨(by repeat (first | exact List.mem_cons_self | apply List.mem_cons_of_mem)), (by repeat (first | exact List.mem_cons_self | apply List.mem_cons_of_mem)), trivial⟩, fun _ _ h => h⟩
          · (repeat' ((conv => whnf) <;> first | (show drawK _ 22 _ _ _ _ _ _; (refine draw_tree tabOk mixed [19] _ (.take 0 (.take 1 (.take 2 (.take 3 (.take 4 (.take 5 (.take 6 (.take 7 (.take 8 (.take 9 (.take 10 (.take 11 (.take 12 (.take 13 (.take 14 (.take 15 (.take 16 (.take 17 (.take 18 (.one 19 (.done))))))))))))))))))))) (by kernel_rfl) (by kernel_rfl) (by kernel_rfl) (List.Sublist.refl _) ?_)) | (show drawK _ 32 _ _ _ _ _ _; (refine draw_tree tabOk mixed [18] _ (.take 0 (.take 1 (.take 2 (.take 3 (.take 4 (.take 5 (.take 6 (.take 7 (.take 8 (.take 9 (.take 10 (.take 11 (.take 12 (.take 13 (.take 14 (.take 15 (.take 16 (.take 17 (.one 18 (.done)))))))))))))))))))) (by kernel_rfl) (by kernel_rfl) (by kernel_rfl) (List.Sublist.refl _) ?_)) | (show Wp _ _ _ _ _ _ _; (refine Wp.go tabOk rfl ?_)) | (show @cmpK _ _ _; (first | refine cmp_yes (by omega) ?_ | refine cmp_no (by omega) ?_ | (refine cmp_both ?_ ?_ <;> intro _))) | (show wrapK _ _ _; (refine wrap_i64 (by omega) (by omega) ?_)) | (show leK _ _ _; (refine le_of (by first | exact Nat.le_refl _ | omega) ?_)) | (show roomK _ _ _; (refine room_of (by first | omega | (dsimp only; omega)) ?_)) | (show ltK _ _ _; (refine lt_of (by omega) ?_)) | (show _ ∧ _; (refine ⟨?_, ?_⟩)) | (show keepK _ _ _ _ _; (refine keep_of (by first | exact List.Sublist.refl _ | exact List.Sublist.cons _ (List.Sublist.refl _) | exact List.Sublist.cons _ (List.Sublist.cons _ (List.Sublist.refl _)) | exact List.Sublist.cons _ (List.Sublist.cons _ (List.Sublist.cons _ (List.Sublist.refl _)))) (by first | exact (fun _ _ h => h) | exact (fun _ _ h => h.1) | exact (fun _ _ h => h.1.1)) ?_)) | (show ownK _ _ _ _ _; (refine own_keep ?_))))
            all_goals (conv => whnf)
            have hsu : s = u.xs.length := by omega
            have hnext : Keeps n (fun j => sumK D (XF v.xs) n (k + 1) j) m := hm.congr fun j hj => by
              rcases hul with g | g
              · have g2 : D.getD k [] = [] := by rw [← huD]; exact List.eq_nil_of_length_eq_zero g
                rw [if_neg (by omega), sumK_succ, DE, g2]
                simp
              · rw [if_pos (by omega)]
            exact ⟨(k + 1, m), [], ⟨hkn, hnext⟩, by show n - (k + 1) < n - k; omega, rfl, ⟨rfl, rfl, rfl, rfl, rfl, rfl, rfl, rfl, rfl, rfl, trivial⟩, ⟨(by repeat (first | exact List.mem_cons_self | apply List.mem_cons_of_mem)), (by repeat (first | exact List.mem_cons_self | apply List.mem_cons_of_mem)), trivial⟩, fun _ _ h => h⟩
        have hk' : n = k := by omega
        subst hk'
        clear hk hkn
        obtain ⟨sl, hsL⟩ : ∃ sl, l = sl := ⟨_, rfl⟩
        rw [hsL] at hk2 ⊢
        clear hsL
        obtain ⟨rows, hrows⟩ : ∃ rows, rv.l.map IntsV.xs = rows := ⟨_, rfl⟩
        rw [hrows] at hsum hlen
        (repeat' ((conv => whnf) <;> first | (show makeK _ _ _ _; (refine make_of n rfl rfl (by show 8 * _ ≤ _; omega) (by omega) ?_)) | (show drawK _ 22 _ _ _ _ _ _; (refine draw_tree tabOk mixed [19] _ (.take 0 (.take 1 (.take 2 (.take 3 (.take 4 (.take 5 (.take 6 (.take 7 (.take 8 (.take 9 (.take 10 (.take 11 (.take 12 (.take 13 (.take 14 (.take 15 (.take 16 (.take 17 (.take 18 (.one 19 (.done))))))))))))))))))))) (by kernel_rfl) (by kernel_rfl) (by kernel_rfl) (List.Sublist.refl _) ?_)) | (show drawK _ 32 _ _ _ _ _ _; (refine draw_tree tabOk mixed [18] _ (.take 0 (.take 1 (.take 2 (.take 3 (.take 4 (.take 5 (.take 6 (.take 7 (.take 8 (.take 9 (.take 10 (.take 11 (.take 12 (.take 13 (.take 14 (.take 15 (.take 16 (.take 17 (.one 18 (.done)))))))))))))))))))) (by kernel_rfl) (by kernel_rfl) (by kernel_rfl) (List.Sublist.refl _) ?_)) | (show Wp _ _ _ _ _ _ _; (refine Wp.go tabOk rfl ?_)) | (show @cmpK _ _ _; (first | refine cmp_yes (by omega) ?_ | refine cmp_no (by omega) ?_ | (refine cmp_both ?_ ?_ <;> intro _))) | (show wrapK _ _ _; (refine wrap_i64 (by omega) (by omega) ?_)) | (show leK _ _ _; (refine le_of (by first | exact Nat.le_refl _ | omega) ?_)) | (show roomK _ _ _; (refine room_of (by first | omega | (dsimp only; omega)) ?_)) | (show ltK _ _ _; (refine lt_of (by omega) ?_)) | (show _ ∧ _; (refine ⟨?_, ?_⟩)) | (show keepK _ _ _ _ _; (refine keep_of (by first | exact List.Sublist.refl _ | exact List.Sublist.cons _ (List.Sublist.refl _) | exact List.Sublist.cons _ (List.Sublist.cons _ (List.Sublist.refl _)) | exact List.Sublist.cons _ (List.Sublist.cons _ (List.Sublist.cons _ (List.Sublist.refl _)))) (by first | exact (fun _ _ h => h) | exact (fun _ _ h => h.1) | exact (fun _ _ h => h.1.1)) ?_)) | (show ownK _ _ _ _ _; (refine own_keep ?_))))
        all_goals (conv => whnf)
        refine Wp.loop (σ := Nat × List Int) 3 (fun y => [(0, .c rv.val), (1, .c fv.val), (2, .c tv.val), (3, .c (.int .i64 n)), (11, .c x.val), (13, .os 0 n), (15, .os 1 n), (19, .os 2 n), (107, .c tv.val), (108, .c (.int .i64 tv.xs.length)), (109, .c (.int .i64 y.1))])
          (fun y => [(0, .rows (ints xl) 1 3), (1, .rows (ints sl) 1 3), (2, .rows (ints y.2) 1 3)]) (fun _ => (baseA w).and ((diagA x).past w.heap.size))
          (fun y => y.1 ≤ tv.xs.length ∧ Keeps n (wantE (XF v.xs) (trips rows fv.xs tv.xs y.1)) y.2) (fun y => tv.xs.length - y.1) (0, List.replicate n 0) [] (by decide) (fun _ => ⟨rfl, rfl⟩)
          ⟨Nat.zero_le _, keeps_zero n (fun s _ => rfl)⟩ ⟨rfl, ⟨rfl, rfl, rfl, rfl, rfl, rfl, rfl, rfl, rfl, rfl, rfl, trivial⟩, ⟨(by repeat (first | exact List.mem_cons_self | apply List.mem_cons_of_mem)), (by repeat (first | exact List.mem_cons_self | apply List.mem_cons_of_mem)), by show (2, Ent.rows (ints (List.replicate n 0)) 1 3) ∈ _; rw [← rows_zero]; exact (by repeat (first | exact List.mem_cons_self | apply List.mem_cons_of_mem)), trivial⟩, fun _ _ h => h⟩ ?_
        rintro ⟨o, l⟩ ⟨ho, ho2⟩
        dsimp only at ho ho2
        by_cases hlt : o < tv.xs.length
        · obtain ⟨ta, hta⟩ := ht'.base (by omega)
          have htr : ∀ (R : Nat → Prop) w', ((baseA w).and ((diagA x).past w.heap.size)).holds R w' → RowsI w' (some ta) 1 (ints tv.xs) := fun R w' h => by rw [← hta]; exact rows_base h.1 ht'.rows
          have hrlt : o < rv.l.length := by omega
          have hsb : 0 ≤ tv.xs.getD o 0 ∧ tv.xs.getD o 0 < n := by
            rw [getD_at hlt]; exact hto _ (List.getElem_mem hlt)
          obtain ⟨sv, hsv⟩ : ∃ sv : Nat, tv.xs.getD o 0 = sv := ⟨(tv.xs.getD o 0).toNat, by omega⟩
          have hsvn : sv < n := by omega
          (repeat' ((conv => whnf) <;> first | (show idxK _ _ _ _ _; (refine idx_of ta o hta rfl hlt ?_)) | (show roK _ _ _; (refine ro_iv htr (j := o) hlt hsv ?_)) | (show drawK _ 22 _ _ _ _ _ _; (refine draw_tree tabOk mixed [19] _ (.take 0 (.take 1 (.take 2 (.take 3 (.take 4 (.take 5 (.take 6 (.take 7 (.take 8 (.take 9 (.take 10 (.take 11 (.take 12 (.take 13 (.take 14 (.take 15 (.take 16 (.take 17 (.take 18 (.one 19 (.done))))))))))))))))))))) (by kernel_rfl) (by kernel_rfl) (by kernel_rfl) (List.Sublist.refl _) ?_)) | (show drawK _ 32 _ _ _ _ _ _; (refine draw_tree tabOk mixed [18] _ (.take 0 (.take 1 (.take 2 (.take 3 (.take 4 (.take 5 (.take 6 (.take 7 (.take 8 (.take 9 (.take 10 (.take 11 (.take 12 (.take 13 (.take 14 (.take 15 (.take 16 (.take 17 (.one 18 (.done)))))))))))))))))))) (by kernel_rfl) (by kernel_rfl) (by kernel_rfl) (List.Sublist.refl _) ?_)) | (show Wp _ _ _ _ _ _ _; (refine Wp.go tabOk rfl ?_)) | (show @cmpK _ _ _; (first | refine cmp_yes (by omega) ?_ | refine cmp_no (by omega) ?_ | (refine cmp_both ?_ ?_ <;> intro _))) | (show wrapK _ _ _; (refine wrap_i64 (by omega) (by omega) ?_)) | (show leK _ _ _; (refine le_of (by first | exact Nat.le_refl _ | omega) ?_)) | (show roomK _ _ _; (refine room_of (by first | omega | (dsimp only; omega)) ?_)) | (show ltK _ _ _; (refine lt_of (by omega) ?_)) | (show _ ∧ _; (refine ⟨?_, ?_⟩)) | (show keepK _ _ _ _ _; (refine keep_of (by first | exact List.Sublist.refl _ | exact List.Sublist.cons _ (List.Sublist.refl _) | exact List.Sublist.cons _ (List.Sublist.cons _ (List.Sublist.refl _)) | exact List.Sublist.cons _ (List.Sublist.cons _ (List.Sublist.cons _ (List.Sublist.refl _)))) (by first | exact (fun _ _ h => h) | exact (fun _ _ h => h.1) | exact (fun _ _ h => h.1.1)) ?_)) | (show ownK _ _ _ _ _; (refine own_keep ?_))))
          all_goals (conv => whnf)
          have hrow : rows.getD o [] = rv.l[o].xs := by rw [← hrows]; simp [List.getD, hrlt]
          have hrlen : rv.l[o].xs.length = fv.xs.length := hlen _ (by rw [← hrows]; exact List.mem_map.2 ⟨_, List.getElem_mem hrlt, rfl⟩)
          have hroo := hr'.each rv.l[o] (List.getElem_mem hrlt)
          obtain ⟨ra, hra⟩ : ∃ a, rv.base = some a := base_some (j := o) hr'.rows (by rw [shRows_length]; exact hrlt)
          refine Wp.loop (σ := Nat × List Int) 3 (fun y => [(0, .c rv.val), (1, .c fv.val), (2, .c tv.val), (3, .c (.int .i64 n)), (11, .c x.val), (13, .os 0 n), (15, .os 1 n), (19, .os 2 n), (107, .c tv.val), (108, .c (.int .i64 tv.xs.length)), (109, .c (.int .i64 o)), (20, .c (.int .i64 o)), (21, .c (.int .i64 sv)), (114, .c fv.val), (115, .c (.int .i64 fv.xs.length)), (116, .c (.int .i64 y.1))])
            (fun y => [(0, .rows (ints xl) 1 3), (1, .rows (ints sl) 1 3), (2, .rows (ints y.2) 1 3)]) (fun _ => (baseA w).and ((diagA x).past w.heap.size))
            (fun y => y.1 ≤ fv.xs.length ∧ Keeps n (wantE (XF v.xs) (tripsIn rows fv.xs tv.xs o y.1)) y.2) (fun y => fv.xs.length - y.1) (0, l) [] (by decide) (fun _ => ⟨rfl, rfl⟩)
            ⟨Nat.zero_le _, by show Keeps n (wantE (XF v.xs) (tripsIn rows fv.xs tv.xs o 0)) l; rw [tripsIn_zero]; exact ho2⟩ ⟨rfl, ⟨rfl, rfl, rfl, rfl, rfl, rfl, rfl, rfl, rfl, rfl, rfl, rfl, rfl, rfl, rfl, rfl, trivial⟩, ⟨(by repeat (first | exact List.mem_cons_self | apply List.mem_cons_of_mem)), (by repeat (first | exact List.mem_cons_self | apply List.mem_cons_of_mem)), (by repeat (first | exact List.mem_cons_self | apply List.mem_cons_of_mem)), trivial⟩, fun _ _ h => h⟩ ?_
          clear ho2
          rintro ⟨i, m⟩ ⟨hi, hm⟩
          dsimp only at hi hm
          by_cases hli : i < fv.xs.length
          · obtain ⟨fa, hfa⟩ := hf'.base (by omega)
            have hfr' : ∀ (R : Nat → Prop) w', ((baseA w).and ((diagA x).past w.heap.size)).holds R w' → RowsI w' (some fa) 1 (ints fv.xs) := fun R w' h => by rw [← hfa]; exact rows_base h.1 hf'.rows
            obtain ⟨wa, hwa⟩ := hroo.base (by omega)
            have hwr : ∀ (R : Nat → Prop) w', ((baseA w).and ((diagA x).past w.heap.size)).holds R w' → RowsI w' (some wa) 1 (ints rv.l[o].xs) := fun R w' h => by rw [← hwa]; exact rows_base h.1 hroo.rows
            have hfb : 0 ≤ fv.xs.getD i 0 ∧ fv.xs.getD i 0 < n := by
              rw [getD_at hli]; exact hfr _ (List.getElem_mem hli)
            obtain ⟨fi, hfi⟩ : ∃ x : Nat, fv.xs.getD i 0 = x := ⟨(fv.xs.getD i 0).toNat, by omega⟩
            have hfin : fi < n := by omega
            obtain ⟨wi, hwi⟩ : ∃ x, rv.l[o].xs.getD i 0 = x := ⟨_, rfl⟩
            have hxj : xl.getD fi 0 = XF v.xs fi := by rw [hl.at_ _ hfin, if_pos hfin]
            (repeat' ((conv => whnf) <;> first | (show idxK _ _ _ _ _; (first | refine idx_of fa i hfa rfl hli ?_ | refine idx_of ra o hra rfl hrlt ?_ | refine idx_of wa i hwa rfl (by omega) ?_)) | (show roK _ _ _; (first | refine ro_iv hfr' (j := i) hli hfi ?_ | refine ro_row0 (fun R w' h => by rw [← hra]; exact rows_base h.1 hr'.rows) _ _ (shRows_get hrlt) rfl ?_ | refine ro_iv hwr (j := i) (by omega) hwi ?_)) | (show idxRowK _ _ _ _ _ _; (first | refine idxRow_of sv rfl hsvn (Nat.le_of_eq (by rw [ints_length]; exact hm.len.symm)) ?_ | refine idxRow_of fi rfl hfin (Nat.le_of_eq (by rw [ints_length]; exact hl.len.symm)) ?_)) | (show rowK _ _ _ _; (first | refine ro_own (xs := m) (j := sv) (Nat.lt_of_lt_of_eq hsvn hm.len.symm) ?_ | refine ro_own (xs := xl) (j := fi) (Nat.lt_of_lt_of_eq hfin hl.len.symm) ?_)) | (show rowStoreK _ _ _ _ _; (refine ints_storeL (Nat.lt_of_lt_of_eq hsvn hm.len.symm) ?_)) | (show wrapK _ _ _; (first | refine wrap_i64 (by omega) (by omega) ?_ | refine wrap_W ?_)) | (show drawK _ 22 _ _ _ _ _ _; (refine draw_tree tabOk mixed [19] _ (.take 0 (.take 1 (.take 2 (.take 3 (.take 4 (.take 5 (.take 6 (.take 7 (.take 8 (.take 9 (.take 10 (.take 11 (.take 12 (.take 13 (.take 14 (.take 15 (.take 16 (.take 17 (.take 18 (.one 19 (.done))))))))))))))))))))) (by kernel_rfl) (by kernel_rfl) (by kernel_rfl) (List.Sublist.refl _) ?_)) | (show drawK _ 32 _ _ _ _ _ _; (refine draw_tree tabOk mixed [18] _ (.take 0 (.take 1 (.take 2 (.take 3 (.take 4 (.take 5 (.take 6 (.take 7 (.take 8 (.take 9 (.take 10 (.take 11 (.take 12 (.take 13 (.take 14 (.take 15 (.take 16 (.take 17 (.one 18 (.done)))))))))))))))))))) (by kernel_rfl) (by kernel_rfl) (by kernel_rfl) (List.Sublist.refl _) ?_)) | (show Wp _ _ _ _ _ _ _; (refine Wp.go tabOk rfl ?_)) | (show @cmpK _ _ _; (first | refine cmp_yes (by omega) ?_ | refine cmp_no (by omega) ?_ | (refine cmp_both ?_ ?_ <;> intro _))) | (show wrapK _ _ _; (refine wrap_i64 (by omega) (by omega) ?_)) | (show leK _ _ _; (refine le_of (by first | exact Nat.le_refl _ | omega) ?_)) | (show roomK _ _ _; (refine room_of (by first | omega | (dsimp only; omega)) ?_)) | (show ltK _ _ _; (refine lt_of (by omega) ?_)) | (show _ ∧ _; (refine ⟨?_, ?_⟩)) | (show keepK _ _ _ _ _; (refine keep_of (by first | exact List.Sublist.refl _ | exact List.Sublist.cons _ (List.Sublist.refl _) | exact List.Sublist.cons _ (List.Sublist.cons _ (List.Sublist.refl _)) | exact List.Sublist.cons _ (List.Sublist.cons _ (List.Sublist.cons _ (List.Sublist.refl _)))) (by first | exact (fun _ _ h => h) | exact (fun _ _ h => h.1) | exact (fun _ _ h => h.1.1)) ?_)) | (show ownK _ _ _ _ _; (refine own_keep ?_))))
            all_goals (conv => whnf)
            rw [hxj]
            have hstep : Keeps n (wantE (XF v.xs) (tripsIn rows fv.xs tv.xs o (i + 1))) (m.set sv (W64 (m.getD sv 0 + W64 (wi * XF v.xs fi)))) := by
              refine hm.step hsvn ?_ fun j hj => ?_
              · rw [wantE_succ, hsv, hrow, hwi, hfi, Int.toNat_natCast, Int.toNat_natCast, if_pos rfl]
              · rw [wantE_succ, hsv, Int.toNat_natCast, if_neg (fun g => hj g.symm), Int.add_zero]
            exact ⟨(i + 1, m.set sv (W64 (m.getD sv 0 + W64 (wi * XF v.xs fi)))), [], ⟨hli, hstep⟩, by show fv.xs.length - (i + 1) < fv.xs.length - i; omega, rfl, ⟨rfl, rfl, rfl, rfl, rfl, rfl, rfl, rfl, rfl, rfl, rfl, rfl, rfl, rfl, rfl, rfl, trivial⟩, ⟨(by repeat (first | exact List.mem_cons_self | apply List.mem_cons_of_mem)), (by repeat (first | exact List.mem_cons_self | apply List.mem_cons_of_mem)), (by repeat (first | exact List.mem_cons_self | apply List.mem_cons_of_mem)), trivial⟩, fun _ _ h => h⟩
          · (repeat' ((conv => whnf) <;> first | (show drawK _ 22 _ _ _ _ _ _; (refine draw_tree tabOk mixed [19] _ (.take 0 (.take 1 (.take 2 (.take 3 (.take 4 (.take 5 (.take 6 (.take 7 (.take 8 (.take 9 (.take 10 (.take 11 (.take 12 (.take 13 (.take 14 (.take 15 (.take 16 (.take 17 (.take 18 (.one 19 (.done))))))))))))))))))))) (by kernel_rfl) (by kernel_rfl) (by kernel_rfl) (List.Sublist.refl _) ?_)) | (show drawK _ 32 _ _ _ _ _ _; (refine draw_tree tabOk mixed [18] _ (.take 0 (.take 1 (.take 2 (.take 3 (.take 4 (.take 5 (.take 6 (.take 7 (.take 8 (.take 9 (.take 10 (.take 11 (.take 12 (.take 13 (.take 14 (.take 15 (.take 16 (.take 17 (.one 18 (.done)))))))))))))))))))) (by kernel_rfl) (by kernel_rfl) (by kernel_rfl) (List.Sublist.refl _) ?_)) | (show Wp _ _ _ _ _ _ _; (refine Wp.go tabOk rfl ?_)) | (show @cmpK _ _ _; (first | refine cmp_yes (by omega) ?_ | refine cmp_no (by omega) ?_ | (refine cmp_both ?_ ?_ <;> intro _))) | (show wrapK _ _ _; (refine wrap_i64 (by omega) (by omega) ?_)) | (show leK _ _ _; (refine le_of (by first | exact Nat.le_refl _ | omega) ?_)) | (show roomK _ _ _; (refine room_of (by first | omega | (dsimp only; omega)) ?_)) | (show ltK _ _ _; (refine lt_of (by omega) ?_)) | (show _ ∧ _; (refine ⟨?_, ?_⟩)) | (show keepK _ _ _ _ _; (refine keep_of (by first | exact List.Sublist.refl _ | exact List.Sublist.cons _ (List.Sublist.refl _) | exact List.Sublist.cons _ (List.Sublist.cons _ (List.Sublist.refl _)) | exact List.Sublist.cons _ (List.Sublist.cons _ (List.Sublist.cons _ (List.Sublist.refl _)))) (by first | exact (fun _ _ h => h) | exact (fun _ _ h => h.1) | exact (fun _ _ h => h.1.1)) ?_)) | (show ownK _ _ _ _ _; (refine own_keep ?_))))
            all_goals (conv => whnf)
            have hif : i = fv.xs.length := by omega
            rw [hif, tripsIn_full] at hm
            exact ⟨(o + 1, m), [], ⟨hlt, hm⟩, by show tv.xs.length - (o + 1) < tv.xs.length - o; omega, rfl, ⟨rfl, rfl, rfl, rfl, rfl, rfl, rfl, rfl, rfl, rfl, rfl, trivial⟩, ⟨(by repeat (first | exact List.mem_cons_self | apply List.mem_cons_of_mem)), (by repeat (first | exact List.mem_cons_self | apply List.mem_cons_of_mem)), (by repeat (first | exact List.mem_cons_self | apply List.mem_cons_of_mem)), trivial⟩, fun _ _ h => h⟩
        · have hot : o = tv.xs.length := by omega
          rw [hot] at ho2
          have hsame : sl = l := hk2.eq ho2 fun s _ => hsum s
          (repeat' ((conv => whnf) <;> first | (show @cmpK _ _ _; (refine cmp_yes (congrArg Int.ofNat hxl) ?_)) | (show callK _ 26 _ _ _ _ _; (refine call_pure (f := 26) Try.call26 (.bool true) (fun ρ w' hw => own_two hw (xs := sl) (ys := l) (by repeat (first | exact List.mem_cons_self | apply List.mem_cons_of_mem)) (by repeat (first | exact List.mem_cons_self | apply List.mem_cons_of_mem)) hk2.len.symm ho2.len.symm hk2.fits ho2.fits (by omega) hsame) ?_)) | (show drawK _ 22 _ _ _ _ _ _; (refine draw_tree tabOk mixed [19] _ (.take 0 (.take 1 (.take 2 (.take 3 (.take 4 (.take 5 (.take 6 (.take 7 (.take 8 (.take 9 (.take 10 (.take 11 (.take 12 (.take 13 (.take 14 (.take 15 (.take 16 (.take 17 (.take 18 (.one 19 (.done))))))))))))))))))))) (by kernel_rfl) (by kernel_rfl) (by kernel_rfl) (List.Sublist.refl _) ?_)) | (show drawK _ 32 _ _ _ _ _ _; (refine draw_tree tabOk mixed [18] _ (.take 0 (.take 1 (.take 2 (.take 3 (.take 4 (.take 5 (.take 6 (.take 7 (.take 8 (.take 9 (.take 10 (.take 11 (.take 12 (.take 13 (.take 14 (.take 15 (.take 16 (.take 17 (.one 18 (.done)))))))))))))))))))) (by kernel_rfl) (by kernel_rfl) (by kernel_rfl) (List.Sublist.refl _) ?_)) | (show Wp _ _ _ _ _ _ _; (refine Wp.go tabOk rfl ?_)) | (show @cmpK _ _ _; (first | refine cmp_yes (by omega) ?_ | refine cmp_no (by omega) ?_ | (refine cmp_both ?_ ?_ <;> intro _))) | (show wrapK _ _ _; (refine wrap_i64 (by omega) (by omega) ?_)) | (show leK _ _ _; (refine le_of (by first | exact Nat.le_refl _ | omega) ?_)) | (show roomK _ _ _; (refine room_of (by first | omega | (dsimp only; omega)) ?_)) | (show ltK _ _ _; (refine lt_of (by omega) ?_)) | (show _ ∧ _; (refine ⟨?_, ?_⟩)) | (show keepK _ _ _ _ _; (refine keep_of (by first | exact List.Sublist.refl _ | exact List.Sublist.cons _ (List.Sublist.refl _) | exact List.Sublist.cons _ (List.Sublist.cons _ (List.Sublist.refl _)) | exact List.Sublist.cons _ (List.Sublist.cons _ (List.Sublist.cons _ (List.Sublist.refl _)))) (by first | exact (fun _ _ h => h) | exact (fun _ _ h => h.1) | exact (fun _ _ h => h.1.1)) ?_)) | (show ownK _ _ _ _ _; (refine own_keep ?_))))
          all_goals (conv => whnf)
          exact ends_bool (B := ⟨w, []⟩) (fun R w' h => h.1) rfl rfl
      · obtain ⟨r, hr2⟩ : ∃ r, diagL (rv.l.map IntsV.xs) fv.xs tv.xs slots = r := ⟨_, rfl⟩
        rw [hr2] at her
        have hr1 : r.1 = [] := by rw [← hr2]; exact diagL_err (by rw [hr2]; exact her)
        refine calls_of tab tabOk Try.func11 rfl rfl rfl [] (fun _ => ⟨none, 0⟩) [.c rv.val, .c fv.val, .c tv.val, .c (.int .i64 slots), .c v.val] [] (baseA w) 0 rfl rfl (by show 5 ≤ _; decide) (abs_base w) ?_
        (repeat' ((conv => whnf) <;> first | (show callK _ 27 _ _ _ _ _; (refine call_pure (f := 27) Try.call27 (.bool true) (fun ρ w' hw => fixed19_any w') ?_)) | (show callK _ 30 _ _ _ _ _; (refine call_pure (f := 30) Try.call30 (.bool true) (fun ρ w' hw => by have := short_any w' rv (holds_of_abs hw fun R h => hr.later h) fv tv hf.room slots; rw [hsh] at this; exact this) ?_)) | (show callK _ 31 _ _ _ _ _; (refine call_diag r Try.call31 (fun ρ w' hw => by rw [← hr2]; exact diag_any w' rv (holds_of_abs hw fun R h => hr'.later h) fv tv (holds_of_abs hw fun R h => hf'.later h) (holds_of_abs hw fun R h => ht'.later h) slots hs) (fun x hx hxb => ?_))) | (show @cmpK _ _ _; (first | refine cmp_no (by omega) ?_ | refine cmp_yes her ?_ | refine cmp_yes (by have := congrArg List.length hx.rows; rw [hr1, List.length_map] at this; simp only [List.length_nil] at this; omega) ?_)) | (show drawK _ 22 _ _ _ _ _ _; (refine draw_tree tabOk mixed [19] _ (.take 0 (.take 1 (.take 2 (.take 3 (.take 4 (.take 5 (.take 6 (.take 7 (.take 8 (.take 9 (.take 10 (.take 11 (.take 12 (.take 13 (.take 14 (.take 15 (.take 16 (.take 17 (.take 18 (.one 19 (.done))))))))))))))))))))) (by kernel_rfl) (by kernel_rfl) (by kernel_rfl) (List.Sublist.refl _) ?_)) | (show drawK _ 32 _ _ _ _ _ _; (refine draw_tree tabOk mixed [18] _ (.take 0 (.take 1 (.take 2 (.take 3 (.take 4 (.take 5 (.take 6 (.take 7 (.take 8 (.take 9 (.take 10 (.take 11 (.take 12 (.take 13 (.take 14 (.take 15 (.take 16 (.take 17 (.one 18 (.done)))))))))))))))))))) (by kernel_rfl) (by kernel_rfl) (by kernel_rfl) (List.Sublist.refl _) ?_)) | (show Wp _ _ _ _ _ _ _; (refine Wp.go tabOk rfl ?_)) | (show @cmpK _ _ _; (first | refine cmp_yes (by omega) ?_ | refine cmp_no (by omega) ?_ | (refine cmp_both ?_ ?_ <;> intro _))) | (show wrapK _ _ _; (refine wrap_i64 (by omega) (by omega) ?_)) | (show leK _ _ _; (refine le_of (by first | exact Nat.le_refl _ | omega) ?_)) | (show roomK _ _ _; (refine room_of (by first | omega | (dsimp only; omega)) ?_)) | (show ltK _ _ _; (refine lt_of (by omega) ?_)) | (show _ ∧ _; (refine ⟨?_, ?_⟩)) | (show keepK _ _ _ _ _; (refine keep_of (by first | exact List.Sublist.refl _ | exact List.Sublist.cons _ (List.Sublist.refl _) | exact List.Sublist.cons _ (List.Sublist.cons _ (List.Sublist.refl _)) | exact List.Sublist.cons _ (List.Sublist.cons _ (List.Sublist.cons _ (List.Sublist.refl _)))) (by first | exact (fun _ _ h => h) | exact (fun _ _ h => h.1) | exact (fun _ _ h => h.1.1)) ?_)) | (show ownK _ _ _ _ _; (refine own_keep ?_))))
        all_goals (conv => whnf)
        exact ends_bool (B := ⟨w, []⟩) (fun R w' h => h.1) rfl rfl
    · refine calls_of tab tabOk Try.func11 rfl rfl rfl [] (fun _ => ⟨none, 0⟩) [.c rv.val, .c fv.val, .c tv.val, .c (.int .i64 slots), .c v.val] [] (baseA w) 0 rfl rfl (by show 5 ≤ _; decide) (abs_base w) ?_
      (repeat' ((conv => whnf) <;> first | (show callK _ 27 _ _ _ _ _; (refine call_pure (f := 27) Try.call27 (.bool true) (fun ρ w' hw => fixed19_any w') ?_)) | (show callK _ 30 _ _ _ _ _; (refine call_pure (f := 30) Try.call30 (.bool true) (fun ρ w' hw => by have := short_any w' rv (holds_of_abs hw fun R h => hr.later h) fv tv hf.room slots; rw [hsh] at this; exact this) ?_)) | (show drawK _ 22 _ _ _ _ _ _; (refine draw_tree tabOk mixed [19] _ (.take 0 (.take 1 (.take 2 (.take 3 (.take 4 (.take 5 (.take 6 (.take 7 (.take 8 (.take 9 (.take 10 (.take 11 (.take 12 (.take 13 (.take 14 (.take 15 (.take 16 (.take 17 (.take 18 (.one 19 (.done))))))))))))))))))))) (by kernel_rfl) (by kernel_rfl) (by kernel_rfl) (List.Sublist.refl _) ?_)) | (show drawK _ 32 _ _ _ _ _ _; (refine draw_tree tabOk mixed [18] _ (.take 0 (.take 1 (.take 2 (.take 3 (.take 4 (.take 5 (.take 6 (.take 7 (.take 8 (.take 9 (.take 10 (.take 11 (.take 12 (.take 13 (.take 14 (.take 15 (.take 16 (.take 17 (.one 18 (.done)))))))))))))))))))) (by kernel_rfl) (by kernel_rfl) (by kernel_rfl) (List.Sublist.refl _) ?_)) | (show Wp _ _ _ _ _ _ _; (refine Wp.go tabOk rfl ?_)) | (show @cmpK _ _ _; (first | refine cmp_yes (by omega) ?_ | refine cmp_no (by omega) ?_ | (refine cmp_both ?_ ?_ <;> intro _))) | (show wrapK _ _ _; (refine wrap_i64 (by omega) (by omega) ?_)) | (show leK _ _ _; (refine le_of (by first | exact Nat.le_refl _ | omega) ?_)) | (show roomK _ _ _; (refine room_of (by first | omega | (dsimp only; omega)) ?_)) | (show ltK _ _ _; (refine lt_of (by omega) ?_)) | (show _ ∧ _; (refine ⟨?_, ?_⟩)) | (show keepK _ _ _ _ _; (refine keep_of (by first | exact List.Sublist.refl _ | exact List.Sublist.cons _ (List.Sublist.refl _) | exact List.Sublist.cons _ (List.Sublist.cons _ (List.Sublist.refl _)) | exact List.Sublist.cons _ (List.Sublist.cons _ (List.Sublist.cons _ (List.Sublist.refl _)))) (by first | exact (fun _ _ h => h) | exact (fun _ _ h => h.1) | exact (fun _ _ h => h.1.1)) ?_)) | (show ownK _ _ _ _ _; (refine own_keep ?_))))
      all_goals (conv => whnf)
      all_goals exact ends_bool (fun R w' h => h) rfl rfl
  · refine calls_of tab tabOk Try.func11 rfl rfl rfl [] (fun _ => ⟨none, 0⟩) [.c rv.val, .c fv.val, .c tv.val, .c (.int .i64 slots), .c v.val] [] (baseA w) 0 rfl rfl (by show 5 ≤ _; decide) (abs_base w) ?_
    (repeat' ((conv => whnf) <;> first | (show callK _ 27 _ _ _ _ _; (refine call_pure (f := 27) Try.call27 (.bool true) (fun ρ w' hw => fixed19_any w') ?_)) | (show callK _ 30 _ _ _ _ _; (refine call_pure (f := 30) Try.call30 (.bool false) (fun ρ w' hw => by have := short_any w' rv (holds_of_abs hw fun R h => hr.later h) fv tv hf.room slots; rw [Bool.eq_false_iff.2 hsh] at this; exact this) ?_)) | (show drawK _ 22 _ _ _ _ _ _; (refine draw_tree tabOk mixed [19] _ (.take 0 (.take 1 (.take 2 (.take 3 (.take 4 (.take 5 (.take 6 (.take 7 (.take 8 (.take 9 (.take 10 (.take 11 (.take 12 (.take 13 (.take 14 (.take 15 (.take 16 (.take 17 (.take 18 (.one 19 (.done))))))))))))))))))))) (by kernel_rfl) (by kernel_rfl) (by kernel_rfl) (List.Sublist.refl _) ?_)) | (show drawK _ 32 _ _ _ _ _ _; (refine draw_tree tabOk mixed [18] _ (.take 0 (.take 1 (.take 2 (.take 3 (.take 4 (.take 5 (.take 6 (.take 7 (.take 8 (.take 9 (.take 10 (.take 11 (.take 12 (.take 13 (.take 14 (.take 15 (.take 16 (.take 17 (.one 18 (.done)))))))))))))))))))) (by kernel_rfl) (by kernel_rfl) (by kernel_rfl) (List.Sublist.refl _) ?_)) | (show Wp _ _ _ _ _ _ _; (refine Wp.go tabOk rfl ?_)) | (show @cmpK _ _ _; (first | refine cmp_yes (by omega) ?_ | refine cmp_no (by omega) ?_ | (refine cmp_both ?_ ?_ <;> intro _))) | (show wrapK _ _ _; (refine wrap_i64 (by omega) (by omega) ?_)) | (show leK _ _ _; (refine le_of (by first | exact Nat.le_refl _ | omega) ?_)) | (show roomK _ _ _; (refine room_of (by first | omega | (dsimp only; omega)) ?_)) | (show ltK _ _ _; (refine lt_of (by omega) ?_)) | (show _ ∧ _; (refine ⟨?_, ?_⟩)) | (show keepK _ _ _ _ _; (refine keep_of (by first | exact List.Sublist.refl _ | exact List.Sublist.cons _ (List.Sublist.refl _) | exact List.Sublist.cons _ (List.Sublist.cons _ (List.Sublist.refl _)) | exact List.Sublist.cons _ (List.Sublist.cons _ (List.Sublist.cons _ (List.Sublist.refl _)))) (by first | exact (fun _ _ h => h) | exact (fun _ _ h => h.1) | exact (fun _ _ h => h.1.1)) ?_)) | (show ownK _ _ _ _ _; (refine own_keep ?_))))
    all_goals (conv => whnf)
    all_goals exact ends_bool (fun R w' h => h) rfl rfl
end Go.Proofs.Ytdmkdogakbipbaa
