import Derived.Test.YtdmkdogakbipbaaRows
import Derived.Test.YtdmkdogakbipbaaKLinearDiagonals5
/- MA -/
namespace Go.Proofs.Ytdmkdogakbipbaa
open Go.RowKit Go.SX
def eachL (N : Nat) (l : List IntsV) : Asn where
  holds R w := ∀ u ∈ l, ((intsA u).past N).holds R w
  stable := fun hR hw h u hu => ((intsA u).past N).stable hR hw (h u hu)
theorem eachL_snoc {N : Nat} {l : List IntsV} {u : IntsV} {R : Nat → Prop} {w : World} (h : (eachL N l).holds R w) (hu : ((intsA u).past N).holds R w) : (eachL N (l ++ [u])).holds R w := by
  intro v hv
  rcases List.mem_append.1 hv with hv | hv
  · exact h v hv
  · rw [List.mem_singleton.1 hv]; exact hu
theorem ints_storeL {r : List Int} {k : Nat} {v : Int} {K : List (List Value) → Prop} (hk : k < r.length) (h : K (ints (r.set k v))) : rowStoreK (ints r) k 0 [.int .i64 v] K := by
  refine rowStore_of _ (ints_get hk) (by show 0 + 1 ≤ 1; omega) ?_
  have e : (ints r).set k (setFrom [Value.int .i64 r[k]] 0 [.int .i64 v]) = ints (r.set k v) := by
    have e2 : setFrom [Value.int .i64 r[k]] 0 [.int .i64 v] = [Value.int .i64 v] := rfl
    rw [e2]
    simp [ints, List.map_set]
  rw [e]; exact h
theorem rows_snocL (us : List IntsV) (base : Option Addr) (cap : Nat) (xs : List Int) {m k : Nat} (hm : m = us.length) (hk : k = xs.length) {i : Nat} {T : TypeId} {H : Heap} : (i, Ent.rows (shRows (us ++ [IntsV.mk base cap xs])) 1 T) ∈ (i, Ent.rows (List.take m (shRows us) ++ [[.slice base k cap]]) 1 T) :: H := by
  subst hm hk
  rw [show shRows (us ++ [IntsV.mk base cap xs]) = List.take us.length (shRows us) ++ [[.slice base xs.length cap]] by rw [List.take_of_length_le (by rw [shRows_length]; exact Nat.le_refl _)]; simp [shRows, IntsV.val]]
  exact List.mem_cons_self
theorem stepR_fits {n : Nat} {d : Int} {r : List Int × Bool} {s f x : Int} (h : r.1.length = n ∧ ∀ y ∈ r.1, i64 y) (hx : i64 x) : (stepR n d r s f x).1.length = n ∧ ∀ y ∈ (stepR n d r s f x).1, i64 y := by
  unfold stepR
  split
  · exact ⟨by rw [List.length_set]; exact h.1, set_fits h.2 hx⟩
  · exact h
theorem diag_end2 {w : World} {B : Base} {H : Heap} {S : Asn} {nx i m : Nat} {us : List IntsV} {D : List (List Int)} (hb : ∀ R w', S.holds R w' → (baseA B.w0).holds R w' ∧ (eachL B.w0.heap.size us).holds R w') (hw0 : B.w0 = w) (hD : us.map IntsV.xs = D) (hs : ∀ u ∈ us, u.sane) (hm : m = us.length) (hi : (i, Ent.rows (shRows us) 1 33) ∈ H) :
    finK B (.tup [.os i m, .c (.int .i64 0)]) H S nx (DiagPost w D 0) := by
  subst hw0 hm
  refine fin_of fun ρ w' hw => ?_
  have hn1 := new_of_abs hw (fun R w' h => (hb R w' h).1) hi
  obtain ⟨base, cap, e, h1, h2⟩ : ∃ base cap, (SV.os i (shRows us).length).rf ρ = .slice base us.length cap ∧ us.length ≤ cap ∧ (rowsA base 1 (shRows us)).holds (fun b => B.w0.heap.size ≤ b ∧ b < w'.heap.size) w' := by
    obtain ⟨base, cap, e, h1⟩ := newRows_data hn1
    obtain ⟨lc, e2, F, hF, hr, hcap, _⟩ := hn1
    rw [e2] at e
    simp only [Value.slice.injEq] at e
    obtain ⟨e3, _, e4⟩ := e
    refine ⟨base, cap, ?_, ?_, h1⟩
    · rw [e2, e3, e4, shRows_length]
    · rw [← e4]; simpa [shRows_length] using hcap
  rw [shRows_length] at e
  refine ⟨⟨base, cap, us⟩, ⟨hD, hs, h1⟩, ?_, ext_of_abs hw (fun R w' h => (hb R w' h).1), h2, fun u hu => past_new hw (fun R w' h => (hb R w' h).2 u hu)⟩
  have : (SV.tup [.os i us.length, .c (.int .i64 0)]).rf ρ = .tuple #[(SV.os i us.length).rf ρ, .int .i64 0] := rfl
  rw [this, e]; rfl
set_option maxHeartbeats 2000000 in
theorem refDiag_any (w : World) (rv : ShapesV) (hr : rv.okB w) (fv tv : IntsV) (hfv : fv.ok w) (htv : tv.ok w) (slots : Int) (hs : i64 slots) :
    Calls Try.prog 32 #[rv.val, fv.val, tv.val, .int .i64 slots] w (DiagPost w (diagL (rv.l.map IntsV.xs) fv.xs tv.xs slots).1 (diagL (rv.l.map IntsV.xs) fv.xs tv.xs slots).2) := by
  have hr1 := hr.few
  have hf1 := hfv.few
  have ht1 := htv.few
  by_cases hok : diagOk (rv.l.map IntsV.xs) fv.xs tv.xs slots
  · rw [diagL, if_pos hok]
    have hchk : chkL (rv.l.map IntsV.xs) fv.xs tv.xs slots = 0 := by rw [chkL, if_pos hok]
    obtain ⟨hs1, hs2, hrl, hp1, hp2, hlen⟩ := id hok
    rw [List.length_map] at hrl
    obtain ⟨n, hn⟩ : ∃ n : Nat, slots = n := ⟨slots.toNat, by omega⟩
    subst hn
    rw [Int.toNat_natCast, ← rows_same (placesL_of hp1) (placesL_of hp2)]
    have hfr := (placesL_of hp1).1
    have hto := (placesL_of hp2).1
    refine calls_of tab tabOk Try.func32 rfl rfl rfl [] (fun _ => ⟨none, 0⟩) [.c rv.val, .c fv.val, .c tv.val, .c (.int .i64 n)] [] (baseA w) 0 rfl rfl (by show 4 ≤ _; decide) (abs_base w) ?_
    (repeat' ((conv => whnf) <;> first | (show callK _ 63 _ _ _ _ _; (refine call_pure (f := 63) Try.call63 (.int .i64 0) (fun ρ w' hw => by have := refCheckDiag_any w' rv (holds_of_abs hw fun R h => hr.later h) fv tv (holds_of_abs hw fun R h => hfv.later h) (holds_of_abs hw fun R h => htv.later h) n hs; rw [hchk] at this; exact this) ?_)) | (show Wp _ _ _ _ _ _ _; (refine Wp.go tabOk rfl ?_)) | (show @cmpK _ _ _; (first | refine cmp_yes (by omega) ?_ | refine cmp_no (by omega) ?_ | (refine cmp_both ?_ ?_ <;> intro _))) | (show wrapK _ _ _; (refine wrap_i64 (by omega) (by omega) ?_)) | (show leK _ _ _; (refine le_of (by first | exact Nat.le_refl _ | omega) ?_)) | (show roomK _ _ _; (refine room_of (by first | omega | (dsimp only; omega)) ?_)) | (show ltK _ _ _; (refine lt_of (by omega) ?_)) | (show _ ∧ _; (refine ⟨?_, ?_⟩)) | (show keepK _ _ _ _ _; (refine keep_of (by first | exact List.Sublist.refl _ | exact List.Sublist.cons _ (List.Sublist.refl _) | exact List.Sublist.cons _ (List.Sublist.cons _ (List.Sublist.refl _)) | exact List.Sublist.cons _ (List.Sublist.cons _ (List.Sublist.cons _ (List.Sublist.refl _)))) (by first | exact (fun _ _ h => h) | exact (fun _ _ h => h.1) | exact (fun _ _ h => h.1.1)) ?_)) | (show ownK _ _ _ _ _; (refine own_keep ?_))))
    all_goals (conv => whnf)
    refine Wp.loop (σ := Nat × List IntsV) 2 (fun x => [(0, .c rv.val), (1, .c fv.val), (2, .c tv.val), (3, .c (.int .i64 n)), (11, .os 1 x.1), (12, .c (.int .i64 x.1))])
      (fun x => [(1, .rows (shRows x.2) 1 33)]) (fun x => (baseA w).and (eachL w.heap.size x.2))
      (fun x => x.1 ≤ n ∧ x.2.map IntsV.xs = (List.range x.1).map (rowR n (rv.l.map IntsV.xs) fv.xs tv.xs) ∧ (∀ u ∈ x.2, u.sane)) (fun x => n - x.1) (0, []) [(1, none)] (by decide) (fun _ => ⟨rfl, rfl⟩)
      ⟨Nat.zero_le _, rfl, fun u hu => by cases hu⟩ ⟨rfl, ⟨rfl, rfl, rfl, rfl, rfl, rfl, trivial⟩, ⟨rfl, trivial⟩, fun _ _ h => ⟨h, fun u hu => by cases hu⟩⟩ ?_
    rintro ⟨d, us⟩ ⟨hd, hus, hsane⟩
    dsimp only at hd hus hsane
    have hul : us.length = d := by have := congrArg List.length hus; simpa using this
    by_cases hdn : d < n
    · (repeat' ((conv => whnf) <;> first | (show makeK _ _ _ _; (refine make_of n rfl rfl (by show 8 * _ ≤ _; omega) (by omega) ?_)) | (show Wp _ _ _ _ _ _ _; (refine Wp.go tabOk rfl ?_)) | (show @cmpK _ _ _; (first | refine cmp_yes (by omega) ?_ | refine cmp_no (by omega) ?_ | (refine cmp_both ?_ ?_ <;> intro _))) | (show wrapK _ _ _; (refine wrap_i64 (by omega) (by omega) ?_)) | (show leK _ _ _; (refine le_of (by first | exact Nat.le_refl _ | omega) ?_)) | (show roomK _ _ _; (refine room_of (by first | omega | (dsimp only; omega)) ?_)) | (show ltK _ _ _; (refine lt_of (by omega) ?_)) | (show _ ∧ _; (refine ⟨?_, ?_⟩)) | (show keepK _ _ _ _ _; (refine keep_of (by first | exact List.Sublist.refl _ | exact List.Sublist.cons _ (List.Sublist.refl _) | exact List.Sublist.cons _ (List.Sublist.cons _ (List.Sublist.refl _)) | exact List.Sublist.cons _ (List.Sublist.cons _ (List.Sublist.cons _ (List.Sublist.refl _)))) (by first | exact (fun _ _ h => h) | exact (fun _ _ h => h.1) | exact (fun _ _ h => h.1.1)) ?_)) | (show ownK _ _ _ _ _; (refine own_keep ?_))))
      all_goals (conv => whnf)
      refine Wp.loop (σ := Nat × (List Int × Bool)) 3 (fun x => [(0, .c rv.val), (1, .c fv.val), (2, .c tv.val), (3, .c (.int .i64 n)), (11, .os 1 d), (12, .c (.int .i64 d)), (13, .os 2 n), (14, .c (.bool x.2.2)), (34, .c tv.val), (35, .c (.int .i64 tv.xs.length)), (36, .c (.int .i64 x.1))])
        (fun x => [(2, .rows (ints x.2.1) 1 3), (1, .rows (shRows us) 1 33)]) (fun x => (baseA w).and (eachL w.heap.size us))
        (fun x => x.1 ≤ tv.xs.length ∧ x.2 = outerR n d (rv.l.map IntsV.xs) fv.xs tv.xs x.1 ∧ (x.2.1.length = n ∧ ∀ y ∈ x.2.1, i64 y)) (fun x => tv.xs.length - x.1) (0, (List.replicate n 0, false)) [] (by decide) (fun _ => ⟨rfl, rfl⟩)
        ⟨Nat.zero_le _, rfl, by simp, fun y hy => by rw [(List.mem_replicate.1 hy).2]; exact ⟨by decide, by decide⟩⟩ ⟨rfl, ⟨rfl, rfl, rfl, rfl, rfl, rfl, rfl, rfl, rfl, rfl, rfl, trivial⟩, ⟨?_, (by repeat (first | exact List.mem_cons_self | apply List.mem_cons_of_mem)), trivial⟩, fun _ _ h => h⟩ ?_
      · show (2, Ent.rows (ints (List.replicate n 0)) 1 3) ∈ _
        rw [show ints (List.replicate n 0) = List.replicate n [Value.int .i64 0] by simp [ints]]
        exact List.mem_cons_self
      rintro ⟨o, r⟩ ⟨ho, hro, hrf⟩
      dsimp only at ho hro hrf
      by_cases hlt : o < tv.xs.length
      · obtain ⟨ta, hta⟩ := htv.base (by omega)
        have htr : ∀ (R : Nat → Prop) w', ((baseA w).and (eachL w.heap.size us)).holds R w' → RowsI w' (some ta) 1 (ints tv.xs) := fun R w' h => by rw [← hta]; exact rows_base h.1 htv.rows
        have hrlt : o < rv.l.length := by omega
        have hsb : 0 ≤ tv.xs.getD o 0 ∧ tv.xs.getD o 0 < n := by
          rw [getD_at hlt]; exact hto _ (List.getElem_mem hlt)
        obtain ⟨sv, hsv⟩ : ∃ sv, tv.xs.getD o 0 = sv := ⟨_, rfl⟩
        (repeat' ((conv => whnf) <;> first | (show idxK _ _ _ _ _; (refine idx_of ta o hta rfl hlt ?_)) | (show roK _ _ _; (refine ro_int htr (j := o) hlt ?_)) | (show Wp _ _ _ _ _ _ _; (refine Wp.go tabOk rfl ?_)) | (show @cmpK _ _ _; (first | refine cmp_yes (by omega) ?_ | refine cmp_no (by omega) ?_ | (refine cmp_both ?_ ?_ <;> intro _))) | (show wrapK _ _ _; (refine wrap_i64 (by omega) (by omega) ?_)) | (show leK _ _ _; (refine le_of (by first | exact Nat.le_refl _ | omega) ?_)) | (show roomK _ _ _; (refine room_of (by first | omega | (dsimp only; omega)) ?_)) | (show ltK _ _ _; (refine lt_of (by omega) ?_)) | (show _ ∧ _; (refine ⟨?_, ?_⟩)) | (show keepK _ _ _ _ _; (refine keep_of (by first | exact List.Sublist.refl _ | exact List.Sublist.cons _ (List.Sublist.refl _) | exact List.Sublist.cons _ (List.Sublist.cons _ (List.Sublist.refl _)) | exact List.Sublist.cons _ (List.Sublist.cons _ (List.Sublist.cons _ (List.Sublist.refl _)))) (by first | exact (fun _ _ h => h) | exact (fun _ _ h => h.1) | exact (fun _ _ h => h.1.1)) ?_)) | (show ownK _ _ _ _ _; (refine own_keep ?_))))
        all_goals (conv => whnf)
        have hrow : (rv.l.map IntsV.xs).getD o [] = rv.l[o].xs := by simp [List.getD, hrlt]
        have hrlen : rv.l[o].xs.length = fv.xs.length := hlen _ (List.mem_map.2 ⟨_, List.getElem_mem hrlt, rfl⟩)
        have hroo := hr.each rv.l[o] (List.getElem_mem hrlt)
        obtain ⟨ra, hra⟩ : ∃ a, rv.base = some a := base_some (j := o) hr.rows (by rw [shRows_length]; exact hrlt)
        rw [hsv] at hsb ⊢
        obtain ⟨sn, hsn⟩ : ∃ k : Nat, sv = k := ⟨sv.toNat, by omega⟩
        have hsn2 : sv.toNat = sn := by omega
        have hsnn : sn < n := by omega
        refine Wp.loop (σ := Nat × (List Int × Bool)) 3 (fun x => [(0, .c rv.val), (1, .c fv.val), (2, .c tv.val), (3, .c (.int .i64 n)), (11, .os 1 d), (12, .c (.int .i64 d)), (13, .os 2 n), (14, .c (.bool x.2.2)), (34, .c tv.val), (35, .c (.int .i64 tv.xs.length)), (36, .c (.int .i64 o)), (15, .c (.int .i64 o)), (16, .c (.int .i64 sv)), (41, .c fv.val), (42, .c (.int .i64 fv.xs.length)), (43, .c (.int .i64 x.1))])
          (fun x => [(2, .rows (ints x.2.1) 1 3), (1, .rows (shRows us) 1 33)]) (fun x => (baseA w).and (eachL w.heap.size us))
          (fun x => x.1 ≤ fv.xs.length ∧ x.2 = innerR n d fv.xs rv.l[o].xs sv r x.1 ∧ (x.2.1.length = n ∧ ∀ y ∈ x.2.1, i64 y)) (fun x => fv.xs.length - x.1) (0, r) [] (by decide) (fun _ => ⟨rfl, rfl⟩)
          ⟨Nat.zero_le _, rfl, hrf⟩ ⟨rfl, ⟨rfl, rfl, rfl, rfl, rfl, rfl, rfl, rfl, rfl, rfl, rfl, rfl, rfl, rfl, rfl, rfl, trivial⟩, ⟨(by repeat (first | exact List.mem_cons_self | apply List.mem_cons_of_mem)), (by repeat (first | exact List.mem_cons_self | apply List.mem_cons_of_mem)), trivial⟩, fun _ _ h => h⟩ ?_
        rintro ⟨i, l, b⟩ ⟨hi, hli0, hl1, hl2⟩
        dsimp only at hi hli0 hl1 hl2
        by_cases hli : i < fv.xs.length
        · obtain ⟨fa, hfa⟩ := hfv.base (by omega)
          have hfr' : ∀ (R : Nat → Prop) w', ((baseA w).and (eachL w.heap.size us)).holds R w' → RowsI w' (some fa) 1 (ints fv.xs) := fun R w' h => by rw [← hfa]; exact rows_base h.1 hfv.rows
          obtain ⟨wa, hwa⟩ := hroo.base (by omega)
          have hwr : ∀ (R : Nat → Prop) w', ((baseA w).and (eachL w.heap.size us)).holds R w' → RowsI w' (some wa) 1 (ints rv.l[o].xs) := fun R w' h => by rw [← hwa]; exact rows_base h.1 hroo.rows
          have hfb : 0 ≤ fv.xs.getD i 0 ∧ fv.xs.getD i 0 < n := by
            rw [getD_at hli]; exact hfr _ (List.getElem_mem hli)
          have hwf := getD_fits hroo.fits i
          have hstep := innerR_succ n d fv.xs rv.l[o].xs sv r i
          rw [← hli0] at hstep
          obtain ⟨fi, hfi⟩ : ∃ x, fv.xs.getD i 0 = x := ⟨_, rfl⟩
          obtain ⟨wi, hwi⟩ : ∃ x, rv.l[o].xs.getD i 0 = x := ⟨_, rfl⟩
          rw [hfi] at hfb hstep
          rw [hwi] at hwf hstep
          have hnf := stepR_fits (n := n) (d := d) (r := (l, b)) (s := sv) (f := fi) (x := wi) ⟨hl1, hl2⟩ hwf
          rw [← hstep] at hnf
          by_cases hc : (sv + (d : Int)) % n = fi
          · rw [stepR, if_pos hc, hsn2] at hstep
            by_cases hw0 : wi = 0
            · have hdec : decide (wi ≠ 0) = false := by simp [hw0]
              rw [hdec] at hstep
              cases b with
              | true =>
                (repeat' ((conv => whnf) <;> first | (show idxK _ _ _ _ _; (first | refine idx_of fa i hfa rfl hli ?_ | refine idx_of ra o hra rfl hrlt ?_ | refine idx_of wa i hwa rfl (by omega) ?_)) | (show roK _ _ _; (first | refine ro_iv hfr' (j := i) hli hfi ?_ | refine ro_row0 (fun R w' h => by rw [← hra]; exact rows_base h.1 hr.rows) _ _ (shRows_get hrlt) rfl ?_ | refine ro_iv hwr (j := i) (by omega) hwi ?_)) | (show remK _ _ _; (refine rem_pos (by omega) (by omega) ?_)) | (show idxRowK _ _ _ _ _ _; (refine idxRow_of sn hsn hsnn (Nat.le_of_eq (by rw [ints_length]; exact hl1.symm)) ?_)) | (show rowStoreK _ _ _ _ _; (refine ints_storeL (Nat.lt_of_lt_of_eq hsnn hl1.symm) ?_)) | (show @cmpK _ _ _; (first | refine cmp_yes hc ?_ | refine cmp_yes (by omega) ?_ | refine cmp_no (by omega) ?_)) | (show Wp _ _ _ _ _ _ _; (refine Wp.go tabOk rfl ?_)) | (show @cmpK _ _ _; (first | refine cmp_yes (by omega) ?_ | refine cmp_no (by omega) ?_ | (refine cmp_both ?_ ?_ <;> intro _))) | (show wrapK _ _ _; (refine wrap_i64 (by omega) (by omega) ?_)) | (show leK _ _ _; (refine le_of (by first | exact Nat.le_refl _ | omega) ?_)) | (show roomK _ _ _; (refine room_of (by first | omega | (dsimp only; omega)) ?_)) | (show ltK _ _ _; (refine lt_of (by omega) ?_)) | (show _ ∧ _; (refine ⟨?_, ?_⟩)) | (show keepK _ _ _ _ _; (refine keep_of (by first | exact List.Sublist.refl _ | exact List.Sublist.cons _ (List.Sublist.refl _) | exact List.Sublist.cons _ (List.Sublist.cons _ (List.Sublist.refl _)) | exact List.Sublist.cons _ (List.Sublist.cons _ (List.Sublist.cons _ (List.Sublist.refl _)))) (by first | exact (fun _ _ h => h) | exact (fun _ _ h => h.1) | exact (fun _ _ h => h.1.1)) ?_)) | (show ownK _ _ _ _ _; (refine own_keep ?_))))
                all_goals (conv => whnf)
                exact ⟨(i + 1, (l.set sn wi, true)), [], ⟨hli, hstep.symm, by rw [hstep] at hnf; exact hnf⟩, by show fv.xs.length - (i + 1) < fv.xs.length - i; omega, rfl, ⟨rfl, rfl, rfl, rfl, rfl, rfl, rfl, rfl, rfl, rfl, rfl, rfl, rfl, rfl, rfl, rfl, trivial⟩, ⟨(by repeat (first | exact List.mem_cons_self | apply List.mem_cons_of_mem)), (by repeat (first | exact List.mem_cons_self | apply List.mem_cons_of_mem)), trivial⟩, fun _ _ h => h⟩
              | false =>
                (repeat' ((conv => whnf) <;> first | (show idxK _ _ _ _ _; (first | refine idx_of fa i hfa rfl hli ?_ | refine idx_of ra o hra rfl hrlt ?_ | refine idx_of wa i hwa rfl (by omega) ?_)) | (show roK _ _ _; (first | refine ro_iv hfr' (j := i) hli hfi ?_ | refine ro_row0 (fun R w' h => by rw [← hra]; exact rows_base h.1 hr.rows) _ _ (shRows_get hrlt) rfl ?_ | refine ro_iv hwr (j := i) (by omega) hwi ?_)) | (show remK _ _ _; (refine rem_pos (by omega) (by omega) ?_)) | (show idxRowK _ _ _ _ _ _; (refine idxRow_of sn hsn hsnn (Nat.le_of_eq (by rw [ints_length]; exact hl1.symm)) ?_)) | (show rowStoreK _ _ _ _ _; (refine ints_storeL (Nat.lt_of_lt_of_eq hsnn hl1.symm) ?_)) | (show @cmpK _ _ _; (first | refine cmp_yes hc ?_ | refine cmp_no (fun h => h hw0) ?_ | refine cmp_yes (by omega) ?_ | refine cmp_no (by omega) ?_)) | (show Wp _ _ _ _ _ _ _; (refine Wp.go tabOk rfl ?_)) | (show @cmpK _ _ _; (first | refine cmp_yes (by omega) ?_ | refine cmp_no (by omega) ?_ | (refine cmp_both ?_ ?_ <;> intro _))) | (show wrapK _ _ _; (refine wrap_i64 (by omega) (by omega) ?_)) | (show leK _ _ _; (refine le_of (by first | exact Nat.le_refl _ | omega) ?_)) | (show roomK _ _ _; (refine room_of (by first | omega | (dsimp only; omega)) ?_)) | (show ltK _ _ _; (refine lt_of (by omega) ?_)) | (show _ ∧ _; (refine ⟨?_, ?_⟩)) | (show keepK _ _ _ _ _; (refine keep_of (by first | exact List.Sublist.refl _ | exact List.Sublist.cons _ (List.Sublist.refl _) | exact List.Sublist.cons _ (List.Sublist.cons _ (List.Sublist.refl _)) | exact List.Sublist.cons _ (List.Sublist.cons _ (List.Sublist.cons _ (List.Sublist.refl _)))) (by first | exact (fun _ _ h => h) | exact (fun _ _ h => h.1) | exact (fun _ _ h => h.1.1)) ?_)) | (show ownK _ _ _ _ _; (refine own_keep ?_))))
                all_goals (conv => whnf)
                exact ⟨(i + 1, (l.set sn wi, false)), [], ⟨hli, hstep.symm, by rw [hstep] at hnf; exact hnf⟩, by show fv.xs.length - (i + 1) < fv.xs.length - i; omega, rfl, ⟨rfl, rfl, rfl, rfl, rfl, rfl, rfl, rfl, rfl, rfl, rfl, rfl, rfl, rfl, rfl, rfl, trivial⟩, ⟨(by repeat (first | exact List.mem_cons_self | apply List.mem_cons_of_mem)), (by repeat (first | exact List.mem_cons_self | apply List.mem_cons_of_mem)), trivial⟩, fun _ _ h => h⟩
            · have hdec : decide (wi ≠ 0) = true := by simp [hw0]
              rw [hdec] at hstep
              cases b with
              | true =>
                (repeat' ((conv => whnf) <;> first | (show idxK _ _ _ _ _; (first | refine idx_of fa i hfa rfl hli ?_ | refine idx_of ra o hra rfl hrlt ?_ | refine idx_of wa i hwa rfl (by omega) ?_)) | (show roK _ _ _; (first | refine ro_iv hfr' (j := i) hli hfi ?_ | refine ro_row0 (fun R w' h => by rw [← hra]; exact rows_base h.1 hr.rows) _ _ (shRows_get hrlt) rfl ?_ | refine ro_iv hwr (j := i) (by omega) hwi ?_)) | (show remK _ _ _; (refine rem_pos (by omega) (by omega) ?_)) | (show idxRowK _ _ _ _ _ _; (refine idxRow_of sn hsn hsnn (Nat.le_of_eq (by rw [ints_length]; exact hl1.symm)) ?_)) | (show rowStoreK _ _ _ _ _; (refine ints_storeL (Nat.lt_of_lt_of_eq hsnn hl1.symm) ?_)) | (show @cmpK _ _ _; (first | refine cmp_yes hc ?_ | refine cmp_yes hw0 ?_ | refine cmp_yes (by omega) ?_ | refine cmp_no (by omega) ?_)) | (show Wp _ _ _ _ _ _ _; (refine Wp.go tabOk rfl ?_)) | (show @cmpK _ _ _; (first | refine cmp_yes (by omega) ?_ | refine cmp_no (by omega) ?_ | (refine cmp_both ?_ ?_ <;> intro _))) | (show wrapK _ _ _; (refine wrap_i64 (by omega) (by omega) ?_)) | (show leK _ _ _; (refine le_of (by first | exact Nat.le_refl _ | omega) ?_)) | (show roomK _ _ _; (refine room_of (by first | omega | (dsimp only; omega)) ?_)) | (show ltK _ _ _; (refine lt_of (by omega) ?_)) | (show _ ∧ _; (refine ⟨?_, ?_⟩)) | (show keepK _ _ _ _ _; (refine keep_of (by first | exact List.Sublist.refl _ | exact List.Sublist.cons _ (List.Sublist.refl _) | exact List.Sublist.cons _ (List.Sublist.cons _ (List.Sublist.refl _)) | exact List.Sublist.cons _ (List.Sublist.cons _ (List.Sublist.cons _ (List.Sublist.refl _)))) (by first | exact (fun _ _ h => h) | exact (fun _ _ h => h.1) | exact (fun _ _ h => h.1.1)) ?_)) | (show ownK _ _ _ _ _; (refine own_keep ?_))))
                all_goals (conv => whnf)
                exact ⟨(i + 1, (l.set sn wi, true)), [], ⟨hli, hstep.symm, by rw [hstep] at hnf; exact hnf⟩, by show fv.xs.length - (i + 1) < fv.xs.length - i; omega, rfl, ⟨rfl, rfl, rfl, rfl, rfl, rfl, rfl, rfl, rfl, rfl, rfl, rfl, rfl, rfl, rfl, rfl, trivial⟩, ⟨(by repeat (first | exact List.mem_cons_self | apply List.mem_cons_of_mem)), (by repeat (first | exact List.mem_cons_self | apply List.mem_cons_of_mem)), trivial⟩, fun _ _ h => h⟩
              | false =>
                (repeat' ((conv => whnf) <;> first | (show idxK _ _ _ _ _; (first | refine idx_of fa i hfa rfl hli ?_ | refine idx_of ra o hra rfl hrlt ?_ | refine idx_of wa i hwa rfl (by omega) ?_)) | (show roK _ _ _; (first | refine ro_iv hfr' (j := i) hli hfi ?_ | refine ro_row0 (fun R w' h => by rw [← hra]; exact rows_base h.1 hr.rows) _ _ (shRows_get hrlt) rfl ?_ | refine ro_iv hwr (j := i) (by omega) hwi ?_)) | (show remK _ _ _; (refine rem_pos (by omega) (by omega) ?_)) | (show idxRowK _ _ _ _ _ _; (refine idxRow_of sn hsn hsnn (Nat.le_of_eq (by rw [ints_length]; exact hl1.symm)) ?_)) | (show rowStoreK _ _ _ _ _; (refine ints_storeL (Nat.lt_of_lt_of_eq hsnn hl1.symm) ?_)) | (show @cmpK _ _ _; (first | refine cmp_yes hc ?_ | refine cmp_yes hw0 ?_ | refine cmp_yes (by omega) ?_ | refine cmp_no (by omega) ?_)) | (show Wp _ _ _ _ _ _ _; (refine Wp.go tabOk rfl ?_)) | (show @cmpK _ _ _; (first | refine cmp_yes (by omega) ?_ | refine cmp_no (by omega) ?_ | (refine cmp_both ?_ ?_ <;> intro _))) | (show wrapK _ _ _; (refine wrap_i64 (by omega) (by omega) ?_)) | (show leK _ _ _; (refine le_of (by first | exact Nat.le_refl _ | omega) ?_)) | (show roomK _ _ _; (refine room_of (by first | omega | (dsimp only; omega)) ?_)) | (show ltK _ _ _; (refine lt_of (by omega) ?_)) | (show _ ∧ _; (refine ⟨?_, ?_⟩)) | (show keepK _ _ _ _ _; (refine keep_of (by first | exact List.Sublist.refl _ | exact List.Sublist.cons _ (List.Sublist.refl _) | exact List.Sublist.cons _ (List.Sublist.cons _ (List.Sublist.refl _)) | exact List.Sublist.cons _ (List.Sublist.cons _ (List.Sublist.cons _ (List.Sublist.refl _)))) (by first | exact (fun _ _ h => h) | exact (fun _ _ h => h.1) | exact (fun _ _ h => h.1.1)) ?_)) | (show ownK _ _ _ _ _; (refine own_keep ?_))))
                all_goals (conv => whnf)
                exact ⟨(i + 1, (l.set sn wi, true)), [], ⟨hli, hstep.symm, by rw [hstep] at hnf; exact hnf⟩, by show fv.xs.length - (i + 1) < fv.xs.length - i; omega, rfl, ⟨rfl, rfl, rfl, rfl, rfl, rfl, rfl, rfl, rfl, rfl, rfl, rfl, rfl, rfl, rfl, rfl, trivial⟩, ⟨(by repeat (first | exact List.mem_cons_self | apply List.mem_cons_of_mem)), (by repeat (first | exact List.mem_cons_self | apply List.mem_cons_of_mem)), trivial⟩, fun _ _ h => h⟩
          · rw [stepR, if_neg hc] at hstep
            (repeat' ((conv => whnf) <;> first | (show idxK _ _ _ _ _; (first | refine idx_of fa i hfa rfl hli ?_ | refine idx_of ra o hra rfl hrlt ?_ | refine idx_of wa i hwa rfl (by omega) ?_)) | (show roK _ _ _; (first | refine ro_iv hfr' (j := i) hli hfi ?_ | refine ro_row0 (fun R w' h => by rw [← hra]; exact rows_base h.1 hr.rows) _ _ (shRows_get hrlt) rfl ?_ | refine ro_iv hwr (j := i) (by omega) hwi ?_)) | (show remK _ _ _; (refine rem_pos (by omega) (by omega) ?_)) | (show idxRowK _ _ _ _ _ _; (refine idxRow_of sn hsn hsnn (Nat.le_of_eq (by rw [ints_length]; exact hl1.symm)) ?_)) | (show rowStoreK _ _ _ _ _; (refine ints_storeL (Nat.lt_of_lt_of_eq hsnn hl1.symm) ?_)) | (show @cmpK _ _ _; (first | refine cmp_no hc ?_ | refine cmp_yes (by omega) ?_ | refine cmp_no (by omega) ?_)) | (show Wp _ _ _ _ _ _ _; (refine Wp.go tabOk rfl ?_)) | (show @cmpK _ _ _; (first | refine cmp_yes (by omega) ?_ | refine cmp_no (by omega) ?_ | (refine cmp_both ?_ ?_ <;> intro _))) | (show wrapK _ _ _; (refine wrap_i64 (by omega) (by omega) ?_)) | (show leK _ _ _; (refine le_of (by first | exact Nat.le_refl _ | omega) ?_)) | (show roomK _ _ _; (refine room_of (by first | omega | (dsimp only; omega)) ?_)) | (show ltK _ _ _; (refine lt_of (by omega) ?_)) | (show _ ∧ _; (refine ⟨?_, ?_⟩)) | (show keepK _ _ _ _ _; (refine keep_of (by first | exact List.Sublist.refl _ | exact List.Sublist.cons _ (List.Sublist.refl _) | exact List.Sublist.cons _ (List.Sublist.cons _ (List.Sublist.refl _)) | exact List.Sublist.cons _ (List.Sublist.cons _ (List.Sublist.cons _ (List.Sublist.refl _)))) (by first | exact (fun _ _ h => h) | exact (fun _ _ h => h.1) | exact (fun _ _ h => h.1.1)) ?_)) | (show ownK _ _ _ _ _; (refine own_keep ?_))))
            all_goals (conv => whnf)
            exact ⟨(i + 1, (l, b)), [], ⟨hli, hstep.symm, by rw [hstep] at hnf; exact hnf⟩, by show fv.xs.length - (i + 1) < fv.xs.length - i; omega, rfl, ⟨rfl, rfl, rfl, rfl, rfl, rfl, rfl, rfl, rfl, rfl, rfl, rfl, rfl, rfl, rfl, rfl, trivial⟩, ⟨(by repeat (first | exact List.mem_cons_self | apply List.mem_cons_of_mem)), (by repeat (first | exact List.mem_cons_self | apply List.mem_cons_of_mem)), trivial⟩, fun _ _ h => h⟩
        · (repeat' ((conv => whnf) <;> first | (show Wp _ _ _ _ _ _ _; (refine Wp.go tabOk rfl ?_)) | (show @cmpK _ _ _; (first | refine cmp_yes (by omega) ?_ | refine cmp_no (by omega) ?_ | (refine cmp_both ?_ ?_ <;> intro _))) | (show wrapK _ _ _; (refine wrap_i64 (by omega) (by omega) ?_)) | (show leK _ _ _; (refine le_of (by first | exact Nat.le_refl _ | omega) ?_)) | (show roomK _ _ _; (refine room_of (by first | omega | (dsimp only; omega)) ?_)) | (show ltK _ _ _; (refine lt_of (by omega) ?_)) | (show _ ∧ _; (refine ⟨?_, ?_⟩)) | (show keepK _ _ _ _ _; (refine keep_of (by first | exact List.Sublist.refl _ | exact List.Sublist.cons _ (List.Sublist.refl _) | exact List.Sublist.cons _ (List.Sublist.cons _ (List.Sublist.refl _)) | exact List.Sublist.cons _ (List.Sublist.cons _ (List.Sublist.cons _ (List.Sublist.refl _)))) (by first | exact (fun _ _ h => h) | exact (fun _ _ h => h.1) | exact (fun _ _ h => h.1.1)) ?_)) | (show ownK _ _ _ _ _; (refine own_keep ?_))))
          all_goals (conv => whnf)
          have hif : i = fv.xs.length := by omega
          exact ⟨(o + 1, (l, b)), [], ⟨hlt, by rw [hli0, hif, hro, outerR_succ, hrow, hsv], hl1, hl2⟩, by show tv.xs.length - (o + 1) < tv.xs.length - o; omega, rfl, ⟨rfl, rfl, rfl, rfl, rfl, rfl, rfl, rfl, rfl, rfl, rfl, trivial⟩, ⟨(by repeat (first | exact List.mem_cons_self | apply List.mem_cons_of_mem)), (by repeat (first | exact List.mem_cons_self | apply List.mem_cons_of_mem)), trivial⟩, fun _ _ h => h⟩
      · have hol : o = tv.xs.length := by omega
        obtain ⟨l, b⟩ := r
        rw [hol] at hro
        have hrow : rowR n (rv.l.map IntsV.xs) fv.xs tv.xs d = if b then l else [] := by rw [rowR, ← hro]
        have hnext : ∀ u : IntsV, u.xs = (if b then l else []) → (us ++ [u]).map IntsV.xs = (List.range (d + 1)).map (rowR n (rv.l.map IntsV.xs) fv.xs tv.xs) := fun u hu => by
          rw [List.map_append, hus, List.range_succ, List.map_append, List.map_cons, List.map_nil, List.map_cons, List.map_nil, hu, hrow]
        have hsn : ∀ u : IntsV, u.sane → ∀ v ∈ us ++ [u], v.sane := fun u hu v hv => by
          rcases List.mem_append.1 hv with hv | hv
          · exact hsane v hv
          · rw [List.mem_singleton.1 hv]; exact hu
        refine Wp.freezeN 2 w.heap.size (k := 1) (xs := ints l) (T := 3) (by repeat (first | exact List.mem_cons_self | apply List.mem_cons_of_mem)) (fun R w' h b hb => (h.1 b hb).1) (fun l1 hl1 => ?_)
        rw [ints_length, hrf.1] at hl1
        cases b with
        | true =>
          (repeat' ((conv => whnf) <;> first | (show leK _ _ _; (refine le_of (Nat.le_of_eq (by rw [shRows_length, hul])) ?_)) | (show roomK _ _ _; (refine room_of (by show (d + 1) * 24 ≤ 140737488355328; omega) ?_)) | (show Wp _ _ _ _ _ _ _; (refine Wp.go tabOk rfl ?_)) | (show @cmpK _ _ _; (first | refine cmp_yes (by omega) ?_ | refine cmp_no (by omega) ?_ | (refine cmp_both ?_ ?_ <;> intro _))) | (show wrapK _ _ _; (refine wrap_i64 (by omega) (by omega) ?_)) | (show leK _ _ _; (refine le_of (by first | exact Nat.le_refl _ | omega) ?_)) | (show roomK _ _ _; (refine room_of (by first | omega | (dsimp only; omega)) ?_)) | (show ltK _ _ _; (refine lt_of (by omega) ?_)) | (show _ ∧ _; (refine ⟨?_, ?_⟩)) | (show keepK _ _ _ _ _; (refine keep_of (by first | exact List.Sublist.refl _ | exact List.Sublist.cons _ (List.Sublist.refl _) | exact List.Sublist.cons _ (List.Sublist.cons _ (List.Sublist.refl _)) | exact List.Sublist.cons _ (List.Sublist.cons _ (List.Sublist.cons _ (List.Sublist.refl _)))) (by first | exact (fun _ _ h => h) | exact (fun _ _ h => h.1) | exact (fun _ _ h => h.1.1)) ?_)) | (show ownK _ _ _ _ _; (refine own_keep ?_))))
          all_goals (conv => whnf)
          exact ⟨(d + 1, us ++ [IntsV.mk l1.base l1.cap l]), [(1, some 4)], ⟨hdn, hnext _ rfl, hsn _ ⟨hrf.2, by show l.length ≤ l1.cap; rw [hrf.1]; exact hl1, by show l.length ≤ 1000000; rw [hrf.1]; omega⟩⟩, by show n - (d + 1) < n - d; omega, rfl, ⟨rfl, rfl, rfl, rfl, rfl, rfl, trivial⟩, ⟨rows_snocL us l1.base l1.cap l hul.symm hrf.1.symm, trivial⟩, fun R w' h => ⟨h.1.1, eachL_snoc h.1.2 h.2⟩⟩
        | false =>
          (repeat' ((conv => whnf) <;> first | (show leK _ _ _; (refine le_of (Nat.le_of_eq (by rw [shRows_length, hul])) ?_)) | (show roomK _ _ _; (refine room_of (by show (d + 1) * 24 ≤ 140737488355328; omega) ?_)) | (show Wp _ _ _ _ _ _ _; (refine Wp.go tabOk rfl ?_)) | (show @cmpK _ _ _; (first | refine cmp_yes (by omega) ?_ | refine cmp_no (by omega) ?_ | (refine cmp_both ?_ ?_ <;> intro _))) | (show wrapK _ _ _; (refine wrap_i64 (by omega) (by omega) ?_)) | (show leK _ _ _; (refine le_of (by first | exact Nat.le_refl _ | omega) ?_)) | (show roomK _ _ _; (refine room_of (by first | omega | (dsimp only; omega)) ?_)) | (show ltK _ _ _; (refine lt_of (by omega) ?_)) | (show _ ∧ _; (refine ⟨?_, ?_⟩)) | (show keepK _ _ _ _ _; (refine keep_of (by first | exact List.Sublist.refl _ | exact List.Sublist.cons _ (List.Sublist.refl _) | exact List.Sublist.cons _ (List.Sublist.cons _ (List.Sublist.refl _)) | exact List.Sublist.cons _ (List.Sublist.cons _ (List.Sublist.cons _ (List.Sublist.refl _)))) (by first | exact (fun _ _ h => h) | exact (fun _ _ h => h.1) | exact (fun _ _ h => h.1.1)) ?_)) | (show ownK _ _ _ _ _; (refine own_keep ?_))))
          all_goals (conv => whnf)
          exact ⟨(d + 1, us ++ [IntsV.mk none 0 []]), [(1, some 4)], ⟨hdn, hnext _ rfl, hsn _ ⟨fun x hx => (by cases hx), Nat.le_refl _, by decide⟩⟩, by show n - (d + 1) < n - d; omega, rfl, ⟨rfl, rfl, rfl, rfl, rfl, rfl, trivial⟩, ⟨rows_snocL us none 0 [] hul.symm rfl, trivial⟩, fun R w' h => ⟨h.1.1, eachL_snoc h.1.2 ⟨fun r hr => (by cases hr), .inl rfl⟩⟩⟩
    · (repeat' ((conv => whnf) <;> first | (show Wp _ _ _ _ _ _ _; (refine Wp.go tabOk rfl ?_)) | (show @cmpK _ _ _; (first | refine cmp_yes (by omega) ?_ | refine cmp_no (by omega) ?_ | (refine cmp_both ?_ ?_ <;> intro _))) | (show wrapK _ _ _; (refine wrap_i64 (by omega) (by omega) ?_)) | (show leK _ _ _; (refine le_of (by first | exact Nat.le_refl _ | omega) ?_)) | (show roomK _ _ _; (refine room_of (by first | omega | (dsimp only; omega)) ?_)) | (show ltK _ _ _; (refine lt_of (by omega) ?_)) | (show _ ∧ _; (refine ⟨?_, ?_⟩)) | (show keepK _ _ _ _ _; (refine keep_of (by first | exact List.Sublist.refl _ | exact List.Sublist.cons _ (List.Sublist.refl _) | exact List.Sublist.cons _ (List.Sublist.cons _ (List.Sublist.refl _)) | exact List.Sublist.cons _ (List.Sublist.cons _ (List.Sublist.cons _ (List.Sublist.refl _)))) (by first | exact (fun _ _ h => h) | exact (fun _ _ h => h.1) | exact (fun _ _ h => h.1.1)) ?_)) | (show ownK _ _ _ _ _; (refine own_keep ?_))))
      all_goals (conv => whnf)
      obtain rfl : d = n := by omega
      exact diag_end2 (i := 1) (us := us) (fun _ _ h => h) rfl hus hsane hul.symm (by repeat (first | exact List.mem_cons_self | apply List.mem_cons_of_mem))
  · rw [diagL, if_neg hok]
    have hchk : chkL (rv.l.map IntsV.xs) fv.xs tv.xs slots = 3 := by rw [chkL, if_neg hok]
    refine calls_of tab tabOk Try.func32 rfl rfl rfl [] (fun _ => ⟨none, 0⟩) [.c rv.val, .c fv.val, .c tv.val, .c (.int .i64 slots)] [] (baseA w) 0 rfl rfl (by show 4 ≤ _; decide) (abs_base w) ?_
    (repeat' ((conv => whnf) <;> first | (show callK _ 63 _ _ _ _ _; (refine call_pure (f := 63) Try.call63 (.int .i64 3) (fun ρ w' hw => by have := refCheckDiag_any w' rv (holds_of_abs hw fun R h => hr.later h) fv tv (holds_of_abs hw fun R h => hfv.later h) (holds_of_abs hw fun R h => htv.later h) slots hs; rw [hchk] at this; exact this) ?_)) | (show Wp _ _ _ _ _ _ _; (refine Wp.go tabOk rfl ?_)) | (show @cmpK _ _ _; (first | refine cmp_yes (by omega) ?_ | refine cmp_no (by omega) ?_ | (refine cmp_both ?_ ?_ <;> intro _))) | (show wrapK _ _ _; (refine wrap_i64 (by omega) (by omega) ?_)) | (show leK _ _ _; (refine le_of (by first | exact Nat.le_refl _ | omega) ?_)) | (show roomK _ _ _; (refine room_of (by first | omega | (dsimp only; omega)) ?_)) | (show ltK _ _ _; (refine lt_of (by omega) ?_)) | (show _ ∧ _; (refine ⟨?_, ?_⟩)) | (show keepK _ _ _ _ _; (refine keep_of (by first | exact List.Sublist.refl _ | exact List.Sublist.cons _ (List.Sublist.refl _) | exact List.Sublist.cons _ (List.Sublist.cons _ (List.Sublist.refl _)) | exact List.Sublist.cons _ (List.Sublist.cons _ (List.Sublist.cons _ (List.Sublist.refl _)))) (by first | exact (fun _ _ h => h) | exact (fun _ _ h => h.1) | exact (fun _ _ h => h.1.1)) ?_)) | (show ownK _ _ _ _ _; (refine own_keep ?_))))
    all_goals (conv => whnf)
    exact diag_fail (fun _ _ h => h) rfl
end Go.Proofs.Ytdmkdogakbipbaa
/- LV -/
namespace Go.Proofs.Ytdmkdogakbipbaa
open Go.SX Go.ChangeShapes Go.WideShapes Go.ChangeAt Go.RowKit
theorem ownL : ownKnob Try.prog.godebug = none := by kernel_rfl
theorem laidOutL : laidOutB Try.prog = true := by kernel_rfl
theorem wf_i64L {x : Int} (h : (Lit.int .i64 x).wf = true) : -9223372036854775808 ≤ x ∧ x ≤ 9223372036854775807 := by
  simp [Lit.wf, IntKind.min, IntKind.max, IntKind.signed, IntKind.bits] at h
  omega
theorem opens_ofL {H : Type} {enc : TypeId × Value → H} {P : Program} {w : World} {t : TypeId} {Q : List Value → Prop} {base : Nat} {sp : Nat → Bool} {held : Bool} {v : Value} {d : DataW H} {ps : List MemPlace} (h : Opens P w t Q) (ht : DataW.Trod enc P w base sp held t v d ps) : Q v.cells.toList := by
  obtain ⟨n, hn⟩ := ht
  exact h.out enc base sp held n _ _ hn
/-- numbers as they come in -/
structure IntsV.rawL (w : World) (v : IntsV) : Prop where
  rows : RowsI w v.base 1 (ints v.xs)
  fits : ∀ x ∈ v.xs, -9223372036854775808 ≤ x ∧ x ≤ 9223372036854775807
  room : v.xs.length ≤ v.cap
theorem IntsV.rawL.ok {w : World} {v : IntsV} (h : v.rawL w) (hf : v.xs.length ≤ 1000000) : v.ok w := ⟨h.rows, h.fits, h.room, hf⟩
theorem intsV_ofL {w : World} {v : Value} {base : Option Addr} {cap : Nat} {xs : List Int} (h : IntsQ w v base cap xs) : ∃ u : IntsV, v = u.val ∧ u.rawL w := by
  obtain ⟨rfl, h1, h2, h3, h4, h5⟩ := h
  exact ⟨⟨base, cap, xs⟩, rfl, h1, fun x hx => wf_i64L (h2 x hx), h3⟩
theorem opens_intsL (w : World) : Opens Try.prog w 33 fun cs => ∃ u : IntsV, cs = [u.val] ∧ u.rawL w := by
  refine Opens.mono (opens_ints (e := 3) Try.underlying33 Try.underlying3 (by kernel_rfl)) ?_
  rintro cs ⟨v, base, cap, xs, rfl, h⟩
  obtain ⟨u, rfl, hu⟩ := intsV_ofL h
  exact ⟨u, rfl, hu⟩
theorem trodAll_twoL {H : Type} {enc : TypeId × Value → H} {P : Program} {w : World} {base : Nat} {spare : Nat → Bool} {held : Bool} {t0 t1 : TypeId} {args : Array Value} {ds : List (DataW H)} {ps : List MemPlace} (h : DataW.TrodAll enc P w base spare held [t0, t1] args.toList ds ps) :
    ∃ v0 v1 d0 d1 p0 p1, args = #[v0, v1] ∧ ds = [d0, d1] ∧ DataW.Trod enc P w base spare held t0 v0 d0 p0 ∧ DataW.Trod enc P w base spare held t1 v1 d1 p1 := by
  obtain ⟨v0, vs0, d0, ds0, p0, q0, e0, rfl, rfl, h0, r0⟩ := trodAll_cons h
  obtain ⟨v1, vs1, d1, ds1, p1, q1, rfl, rfl, rfl, h1, r1⟩ := trodAll_cons r0
  obtain ⟨rfl, rfl, rfl⟩ := trodAll_nil r1
  exact ⟨v0, v1, d0, d1, p0, p1, by cases args; simp_all, rfl, h0, h1⟩
theorem trodAll_threeL {H : Type} {enc : TypeId × Value → H} {P : Program} {w : World} {base : Nat} {spare : Nat → Bool} {held : Bool} {t0 t1 t2 : TypeId} {args : Array Value} {ds : List (DataW H)} {ps : List MemPlace} (h : DataW.TrodAll enc P w base spare held [t0, t1, t2] args.toList ds ps) :
    ∃ v0 v1 v2 d0 d1 d2 p0 p1 p2, args = #[v0, v1, v2] ∧ ds = [d0, d1, d2] ∧ DataW.Trod enc P w base spare held t0 v0 d0 p0 ∧ DataW.Trod enc P w base spare held t1 v1 d1 p1 ∧ DataW.Trod enc P w base spare held t2 v2 d2 p2 := by
  obtain ⟨v0, vs0, d0, ds0, p0, q0, e0, rfl, rfl, h0, r0⟩ := trodAll_cons h
  obtain ⟨v1, vs1, d1, ds1, p1, q1, rfl, rfl, rfl, h1, r1⟩ := trodAll_cons r0
  obtain ⟨v2, vs2, d2, ds2, p2, q2, rfl, rfl, rfl, h2, r2⟩ := trodAll_cons r1
  obtain ⟨rfl, rfl, rfl⟩ := trodAll_nil r2
  exact ⟨v0, v1, v2, d0, d1, d2, p0, p1, p2, by cases args; simp_all, rfl, h0, h1, h2⟩
end Go.Proofs.Ytdmkdogakbipbaa
/- MB -/
namespace Go.Proofs.Ytdmkdogakbipbaa
open Go.SX Go.ChangeShapes Go.WideShapes Go.ChangeAt Go.RowKit
/-- rows as they come in -/
structure ShapesV.rawL (w : World) (v : ShapesV) : Prop where
  rows : RowsI w v.base 1 (shRows v.l)
  each : ∀ s ∈ v.l, s.rawL w
theorem opens_rowsL (w : World) : Opens Try.prog w 31 fun cs => ∃ v : ShapesV, cs = [v.val] ∧ v.rawL w := by
  have h := opens_slice (P := Try.prog) (w := w) (k := 1) Try.underlying31 (by kernel_rfl) (opens_intsL w)
  refine Opens.mono h ?_
  rintro cs ⟨base, cap, xs, rfl, h1, h2, h3, h4, h5⟩
  obtain ⟨l, rfl, hl⟩ := list_map_of (f := fun u : IntsV => [u.val]) (p := fun u => u.rawL w) fun r hr => by
    obtain ⟨u, hu, hu'⟩ := (h2 r hr).2
    exact ⟨u, hu', hu⟩
  exact ⟨⟨base, cap, l⟩, by simp [ShapesV.val], h1, hl⟩
theorem IntsV.rawL.later {w w' : World} {R : Nat → Prop} {v : IntsV} (h : v.rawL w) (hb : (baseA w).holds R w') : v.rawL w' := ⟨rows_base hb h.rows, h.fits, h.room⟩
theorem ShapesV.rawL.later {w w' : World} {R : Nat → Prop} {v : ShapesV} (h : v.rawL w) (hb : (baseA w).holds R w') : v.rawL w' := ⟨rows_base hb h.rows, fun s hs => (h.each s hs).later hb⟩
/-- short: not too much -/
def shortL (rv : ShapesV) (fr to : List Int) (slots : Int) : Bool := decide (rv.l.length ≤ 70 ∧ fr.length ≤ 70 ∧ to.length ≤ 70 ∧ slots ≤ 200 ∧ ∀ u ∈ rv.l, u.xs.length ≤ 70)
theorem shortL_no {w : World} {B : Base} {H : Heap} {S : Asn} {nx : Nat} {rv : ShapesV} {fr to : List Int} {slots : Int} (h : ¬ (rv.l.length ≤ 70 ∧ fr.length ≤ 70 ∧ to.length ≤ 70 ∧ slots ≤ 200 ∧ ∀ u ∈ rv.l, u.xs.length ≤ 70)) (hb : ∀ R w', S.holds R w' → (baseA B.w0).holds R w') (hw0 : B.w0 = w) : finK B (.c (.bool false)) H S nx (fun e w' => e = .returned (.bool (shortL rv fr to slots)) ∧ Ext w w') :=
  ends_bool hb hw0 (decide_eq_false h)
set_option maxHeartbeats 1000000 in
theorem short_any (w : World) (rv : ShapesV) (hr : rv.rawL w) (fv tv : IntsV) (hx1 : fv.xs.length ≤ fv.cap) (slots : Int) : Calls Try.prog 30 #[rv.val, fv.val, tv.val, .int .i64 slots] w fun e w' => e = .returned (.bool (shortL rv fv.xs tv.xs slots)) ∧ Ext w w' := by
  refine calls_of tab tabOk Try.func30 rfl rfl rfl [] (fun _ => ⟨none, 0⟩) [.c rv.val, .c fv.val, .c tv.val, .c (.int .i64 slots)] [] (baseA w) 0 rfl rfl (by show 4 ≤ _; decide) (abs_base w) ?_
  (repeat' ((conv => whnf) <;> first | (show Wp _ _ _ _ _ _ _; (refine Wp.go tabOk rfl ?_)) | (show @cmpK _ _ _; (first | refine cmp_yes (by omega) ?_ | refine cmp_no (by omega) ?_ | (refine cmp_both ?_ ?_ <;> intro _))) | (show wrapK _ _ _; (refine wrap_i64 (by omega) (by omega) ?_)) | (show leK _ _ _; (refine le_of (by first | exact Nat.le_refl _ | omega) ?_)) | (show roomK _ _ _; (refine room_of (by first | omega | (dsimp only; omega)) ?_)) | (show ltK _ _ _; (refine lt_of (by omega) ?_)) | (show _ ∧ _; (refine ⟨?_, ?_⟩)) | (show keepK _ _ _ _ _; (refine keep_of (by first | exact List.Sublist.refl _ | exact List.Sublist.cons _ (List.Sublist.refl _) | exact List.Sublist.cons _ (List.Sublist.cons _ (List.Sublist.refl _)) | exact List.Sublist.cons _ (List.Sublist.cons _ (List.Sublist.cons _ (List.Sublist.refl _)))) (by first | exact (fun _ _ h => h) | exact (fun _ _ h => h.1) | exact (fun _ _ h => h.1.1)) ?_)) | (show ownK _ _ _ _ _; (refine own_keep ?_))))
  all_goals (conv => whnf)
  all_goals first | exact shortL_no (fun h => by have := h.1; have := h.2.1; have := h.2.2.1; have := h.2.2.2.1; omega) (fun _ _ h => h) rfl | skip
  refine Wp.loop (σ := Nat) 0 (fun i => [(28, .c rv.val), (29, .c (.int .i64 rv.l.length)), (30, .c (.int .i64 i))]) (fun _ => []) (fun _ => baseA w)
    (fun i => i ≤ rv.l.length ∧ ∀ k, k < i → ∀ h : k < rv.l.length, rv.l[k].xs.length ≤ 70) (fun i => rv.l.length - i) 0 [] (by decide) (fun _ => ⟨rfl, rfl⟩) ⟨Nat.zero_le _, fun k hk => absurd hk (Nat.not_lt_zero k)⟩ ⟨rfl, ⟨rfl, rfl, rfl, trivial⟩, trivial, fun _ _ h => h⟩ ?_
  rintro i ⟨hi, hpre⟩
  by_cases hlt : i < rv.l.length
  · obtain ⟨ra, hra⟩ : ∃ a, rv.base = some a := base_some (j := i) hr.rows (by rw [shRows_length]; exact hlt)
    by_cases hne : rv.l[i].xs.length ≤ 70
    · (repeat' ((conv => whnf) <;> first | (show idxK _ _ _ _ _; (refine idx_of ra i hra rfl hlt ?_)) | (show roK _ _ _; (refine ro_row0 (fun R w' h => by rw [← hra]; exact rows_base h hr.rows) _ _ (shRows_get hlt) rfl ?_)) | (show Wp _ _ _ _ _ _ _; (refine Wp.go tabOk rfl ?_)) | (show @cmpK _ _ _; (first | refine cmp_yes (by omega) ?_ | refine cmp_no (by omega) ?_ | (refine cmp_both ?_ ?_ <;> intro _))) | (show wrapK _ _ _; (refine wrap_i64 (by omega) (by omega) ?_)) | (show leK _ _ _; (refine le_of (by first | exact Nat.le_refl _ | omega) ?_)) | (show roomK _ _ _; (refine room_of (by first | omega | (dsimp only; omega)) ?_)) | (show ltK _ _ _; (refine lt_of (by omega) ?_)) | (show _ ∧ _; (refine ⟨?_, ?_⟩)) | (show keepK _ _ _ _ _; (refine keep_of (by first | exact List.Sublist.refl _ | exact List.Sublist.cons _ (List.Sublist.refl _) | exact List.Sublist.cons _ (List.Sublist.cons _ (List.Sublist.refl _)) | exact List.Sublist.cons _ (List.Sublist.cons _ (List.Sublist.cons _ (List.Sublist.refl _)))) (by first | exact (fun _ _ h => h) | exact (fun _ _ h => h.1) | exact (fun _ _ h => h.1.1)) ?_)) | (show ownK _ _ _ _ _; (refine own_keep ?_))))
      all_goals (conv => whnf)
      refine ⟨i + 1, [], ⟨hlt, fun k hk h => ?_⟩, by omega, rfl, ⟨rfl, rfl, rfl, trivial⟩, trivial, fun _ _ h => h⟩
      rcases Nat.lt_or_ge k i with g | g
      · exact hpre k g h
      · obtain rfl : k = i := by omega
        exact hne
    · (repeat' ((conv => whnf) <;> first | (show idxK _ _ _ _ _; (refine idx_of ra i hra rfl hlt ?_)) | (show roK _ _ _; (refine ro_row0 (fun R w' h => by rw [← hra]; exact rows_base h hr.rows) _ _ (shRows_get hlt) rfl ?_)) | (show Wp _ _ _ _ _ _ _; (refine Wp.go tabOk rfl ?_)) | (show @cmpK _ _ _; (first | refine cmp_yes (by omega) ?_ | refine cmp_no (by omega) ?_ | (refine cmp_both ?_ ?_ <;> intro _))) | (show wrapK _ _ _; (refine wrap_i64 (by omega) (by omega) ?_)) | (show leK _ _ _; (refine le_of (by first | exact Nat.le_refl _ | omega) ?_)) | (show roomK _ _ _; (refine room_of (by first | omega | (dsimp only; omega)) ?_)) | (show ltK _ _ _; (refine lt_of (by omega) ?_)) | (show _ ∧ _; (refine ⟨?_, ?_⟩)) | (show keepK _ _ _ _ _; (refine keep_of (by first | exact List.Sublist.refl _ | exact List.Sublist.cons _ (List.Sublist.refl _) | exact List.Sublist.cons _ (List.Sublist.cons _ (List.Sublist.refl _)) | exact List.Sublist.cons _ (List.Sublist.cons _ (List.Sublist.cons _ (List.Sublist.refl _)))) (by first | exact (fun _ _ h => h) | exact (fun _ _ h => h.1) | exact (fun _ _ h => h.1.1)) ?_)) | (show ownK _ _ _ _ _; (refine own_keep ?_))))
      all_goals (conv => whnf)
      exact shortL_no (fun h => hne (h.2.2.2.2 _ (List.getElem_mem hlt))) (fun _ _ h => h) rfl
  · (repeat' ((conv => whnf) <;> first | (show Wp _ _ _ _ _ _ _; (refine Wp.go tabOk rfl ?_)) | (show @cmpK _ _ _; (first | refine cmp_yes (by omega) ?_ | refine cmp_no (by omega) ?_ | (refine cmp_both ?_ ?_ <;> intro _))) | (show wrapK _ _ _; (refine wrap_i64 (by omega) (by omega) ?_)) | (show leK _ _ _; (refine le_of (by first | exact Nat.le_refl _ | omega) ?_)) | (show roomK _ _ _; (refine room_of (by first | omega | (dsimp only; omega)) ?_)) | (show ltK _ _ _; (refine lt_of (by omega) ?_)) | (show _ ∧ _; (refine ⟨?_, ?_⟩)) | (show keepK _ _ _ _ _; (refine keep_of (by first | exact List.Sublist.refl _ | exact List.Sublist.cons _ (List.Sublist.refl _) | exact List.Sublist.cons _ (List.Sublist.cons _ (List.Sublist.refl _)) | exact List.Sublist.cons _ (List.Sublist.cons _ (List.Sublist.cons _ (List.Sublist.refl _)))) (by first | exact (fun _ _ h => h) | exact (fun _ _ h => h.1) | exact (fun _ _ h => h.1.1)) ?_)) | (show ownK _ _ _ _ _; (refine own_keep ?_))))
    all_goals (conv => whnf)
    obtain rfl : i = rv.l.length := by omega
    refine ends_bool (fun _ _ h => h) rfl (decide_eq_true ⟨by omega, by omega, by omega, by omega, fun u hu => ?_⟩)
    obtain ⟨k, hk, rfl⟩ := List.mem_iff_getElem.1 hu
    exact hpre k hk hk
def samePre (x y : List IntsV) (i : Nat) : Prop := ∀ k, k < i → ∀ (h : k < x.length) (h2 : k < y.length), x[k].xs = y[k].xs
theorem map_xs_eq {x y : List IntsV} (hl : x.length = y.length) (h : samePre x y x.length) : x.map IntsV.xs = y.map IntsV.xs := by
  apply List.ext_getElem
  · simp [hl]
  · intro k h1 h2
    rw [List.getElem_map, List.getElem_map]
    rw [List.length_map] at h1 h2
    exact h k h1 h1 h2
set_option maxHeartbeats 1000000 in
theorem sameRows_any (w : World) (x y : ShapesV) (hx : x.okB w) (hy : y.okB w) (he : x.l.map IntsV.xs = y.l.map IntsV.xs) : Calls Try.prog 33 #[x.val, y.val] w fun e w' => e = .returned (.bool true) ∧ Ext w w' := by
  have hl : x.l.length = y.l.length := by have := congrArg List.length he; simpa using this
  have hx1 := hx.few
  have hy1 := hy.few
  refine calls_of tab tabOk Try.func33 rfl rfl rfl [] (fun _ => ⟨none, 0⟩) [.c x.val, .c y.val] [] (baseA w) 0 rfl rfl (by show 2 ≤ _; decide) (abs_base w) ?_
  (repeat' ((conv => whnf) <;> first | (show drawK _ 6 _ _ _ _ _ _; (refine draw_quiet tabOk mixed (by kernel_rfl) ?_)) | (show Wp _ _ _ _ _ _ _; (refine Wp.go tabOk rfl ?_)) | (show @cmpK _ _ _; (first | refine cmp_yes (by omega) ?_ | refine cmp_no (by omega) ?_ | (refine cmp_both ?_ ?_ <;> intro _))) | (show wrapK _ _ _; (refine wrap_i64 (by omega) (by omega) ?_)) | (show leK _ _ _; (refine le_of (by first | exact Nat.le_refl _ | omega) ?_)) | (show roomK _ _ _; (refine room_of (by first | omega | (dsimp only; omega)) ?_)) | (show ltK _ _ _; (refine lt_of (by omega) ?_)) | (show _ ∧ _; (refine ⟨?_, ?_⟩)) | (show keepK _ _ _ _ _; (refine keep_of (by first | exact List.Sublist.refl _ | exact List.Sublist.cons _ (List.Sublist.refl _) | exact List.Sublist.cons _ (List.Sublist.cons _ (List.Sublist.refl _)) | exact List.Sublist.cons _ (List.Sublist.cons _ (List.Sublist.cons _ (List.Sublist.refl _)))) (by first | exact (fun _ _ h => h) | exact (fun _ _ h => h.1) | exact (fun _ _ h => h.1.1)) ?_)) | (show ownK _ _ _ _ _; (refine own_keep ?_))))
  all_goals (conv => whnf)
  all_goals first | (exfalso; omega) | skip
  refine Wp.loop (σ := Nat) 0 (fun i => [(0, .c x.val), (1, .c y.val), (12, .c (.int .i64 x.l.length)), (13, .c (.int .i64 i))]) (fun _ => []) (fun _ => baseA w)
    (fun i => i ≤ x.l.length) (fun i => x.l.length - i) 0 [] (by decide) (fun _ => ⟨rfl, rfl⟩) (Nat.zero_le _) ⟨rfl, ⟨rfl, rfl, rfl, rfl, trivial⟩, trivial, fun _ _ h => h⟩ ?_
  intro i hi
  by_cases hlt : i < x.l.length
  · have hlt2 : i < y.l.length := by omega
    obtain ⟨xa, hxa⟩ : ∃ a, x.base = some a := base_some (j := i) hx.rows (by rw [shRows_length]; exact hlt)
    obtain ⟨ya, hya⟩ : ∃ a, y.base = some a := base_some (j := i) hy.rows (by rw [shRows_length]; exact hlt2)
    have hxy : x.l[i].xs = y.l[i].xs := by
      have := congrArg (fun l : List (List Int) => l[i]?) he
      simpa [hlt, hlt2] using this
    (repeat' ((conv => whnf) <;> first | (show idxK _ _ _ _ _; (first | refine idx_of xa i hxa rfl hlt ?_ | refine idx_of ya i hya rfl hlt2 ?_)) | (show roK _ _ _; (first | refine ro_row0 (xs := shRows x.l) (fun R w' h => by rw [← hxa]; exact rows_base h hx.rows) _ _ (shRows_get hlt) rfl ?_ | refine ro_row0 (xs := shRows y.l) (fun R w' h => by rw [← hya]; exact rows_base h hy.rows) _ _ (shRows_get hlt2) rfl ?_)) | (show callQ _ 26 _ _ _ _ _; (refine callQ_of (f := 26) Try.call26 (.bool true) (fun ρ w' hw => by have := same_any w' x.l[i] y.l[i] (holds_of_abs hw fun R h => (hx.each _ (List.getElem_mem hlt)).later h) (holds_of_abs hw fun R h => (hy.each _ (List.getElem_mem hlt2)).later h); rw [decide_eq_true hxy] at this; exact this) ?_)) | (show callK _ 26 _ _ _ _ _; (refine call_pure (f := 26) Try.call26 (.bool true) (fun ρ w' hw => by have := same_any w' x.l[i] y.l[i] (holds_of_abs hw fun R h => (hx.each _ (List.getElem_mem hlt)).later h) (holds_of_abs hw fun R h => (hy.each _ (List.getElem_mem hlt2)).later h); rw [decide_eq_true hxy] at this; exact this) ?_)) | (show drawK _ 6 _ _ _ _ _ _; (refine draw_quiet tabOk mixed (by kernel_rfl) ?_)) | (show Wp _ _ _ _ _ _ _; (refine Wp.go tabOk rfl ?_)) | (show @cmpK _ _ _; (first | refine cmp_yes (by omega) ?_ | refine cmp_no (by omega) ?_ | (refine cmp_both ?_ ?_ <;> intro _))) | (show wrapK _ _ _; (refine wrap_i64 (by omega) (by omega) ?_)) | (show leK _ _ _; (refine le_of (by first | exact Nat.le_refl _ | omega) ?_)) | (show roomK _ _ _; (refine room_of (by first | omega | (dsimp only; omega)) ?_)) | (show ltK _ _ _; (refine lt_of (by omega) ?_)) | (show _ ∧ _; (refine ⟨?_, ?_⟩)) | (show keepK _ _ _ _ _; (refine keep_of (by first | exact List.Sublist.refl _ | exact List.Sublist.cons _ (List.Sublist.refl _) | exact List.Sublist.cons _ (List.Sublist.cons _ (List.Sublist.refl _)) | exact List.Sublist.cons _ (List.Sublist.cons _ (List.Sublist.cons _ (List.Sublist.refl _)))) (by first | exact (fun _ _ h => h) | exact (fun _ _ h => h.1) | exact (fun _ _ h => h.1.1)) ?_)) | (show ownK _ _ _ _ _; (refine own_keep ?_))))
    all_goals (conv => whnf)
    exact ⟨i + 1, [], hlt, by omega, rfl, ⟨rfl, rfl, rfl, rfl, trivial⟩, trivial, fun _ _ h => h⟩
  · (repeat' ((conv => whnf) <;> first | (show drawK _ 6 _ _ _ _ _ _; (refine draw_quiet tabOk mixed (by kernel_rfl) ?_)) | (show Wp _ _ _ _ _ _ _; (refine Wp.go tabOk rfl ?_)) | (show @cmpK _ _ _; (first | refine cmp_yes (by omega) ?_ | refine cmp_no (by omega) ?_ | (refine cmp_both ?_ ?_ <;> intro _))) | (show wrapK _ _ _; (refine wrap_i64 (by omega) (by omega) ?_)) | (show leK _ _ _; (refine le_of (by first | exact Nat.le_refl _ | omega) ?_)) | (show roomK _ _ _; (refine room_of (by first | omega | (dsimp only; omega)) ?_)) | (show ltK _ _ _; (refine lt_of (by omega) ?_)) | (show _ ∧ _; (refine ⟨?_, ?_⟩)) | (show keepK _ _ _ _ _; (refine keep_of (by first | exact List.Sublist.refl _ | exact List.Sublist.cons _ (List.Sublist.refl _) | exact List.Sublist.cons _ (List.Sublist.cons _ (List.Sublist.refl _)) | exact List.Sublist.cons _ (List.Sublist.cons _ (List.Sublist.cons _ (List.Sublist.refl _)))) (by first | exact (fun _ _ h => h) | exact (fun _ _ h => h.1) | exact (fun _ _ h => h.1.1)) ?_)) | (show ownK _ _ _ _ _; (refine own_keep ?_))))
    all_goals (conv => whnf)
    exact ends_bool (fun _ _ h => h) rfl rfl
theorem shortL_ok {w : World} {rv : ShapesV} {fv tv : IntsV} {slots : Int} (h : shortL rv fv.xs tv.xs slots = true) (hr : rv.rawL w) (hf : fv.rawL w) (ht : tv.rawL w) : rv.okB w ∧ fv.ok w ∧ tv.ok w ∧ slots ≤ 200 := by
  have h' := of_decide_eq_true h
  exact ⟨⟨hr.rows, fun s hs => (hr.each s hs).ok (by have := h'.2.2.2.2 s hs; omega), by omega⟩, hf.ok (by omega), ht.ok (by omega), h'.2.2.2.1⟩
theorem diagL_len {rows : List (List Int)} {fr to : List Int} {slots : Int} : (diagL rows fr to slots).1.length ≤ 1000000 := by
  unfold diagL
  split
  · rename_i h
    have h2 := h.2.1
    have : (outerD slots.toNat rows fr to to.length).length = slots.toNat := by
      rw [outerD_trips]
      have : ∀ (T : List Trip) (D : List (List Int)), (T.foldl (fun D t => stepP slots.toNat D t.1 t.2.1 t.2.2) D).length = D.length := by
        intro T
        induction T with
        | nil => intro D; rfl
        | cons t T ih => intro D; rw [List.foldl_cons, ih]; unfold stepP; split <;> simp
      rw [this]; simp
    simp only [this]; omega
  · simp
set_option maxHeartbeats 1000000 in
theorem lawDiagonals_any (w : World) (rv : ShapesV) (hr : rv.rawL w) (fv tv : IntsV) (hf : fv.rawL w) (ht : tv.rawL w) (slots : Int) (hs : i64 slots) : Calls Try.prog 10 #[rv.val, fv.val, tv.val, .int .i64 slots] w fun e w' => e = .returned (.bool true) ∧ Ext w w' := by
  by_cases hsh : shortL rv fv.xs tv.xs slots = true
  · obtain ⟨hr', hf', ht', hs'⟩ := shortL_ok hsh hr hf ht
    refine calls_of tab tabOk Try.func10 rfl rfl rfl [] (fun _ => ⟨none, 0⟩) [.c rv.val, .c fv.val, .c tv.val, .c (.int .i64 slots)] [] (baseA w) 0 rfl rfl (by show 4 ≤ _; decide) (abs_base w) ?_
    (repeat' ((conv => whnf) <;> first | (show callK _ 27 _ _ _ _ _; (refine call_pure (f := 27) Try.call27 (.bool true) (fun ρ w' hw => fixed19_any w') ?_)) | (show callK _ 30 _ _ _ _ _; (refine call_pure (f := 30) Try.call30 (.bool true) (fun ρ w' hw => by have := short_any w' rv (holds_of_abs hw fun R h => hr.later h) fv tv hf.room slots; rw [hsh] at this; exact this) ?_)) | (show callK _ 31 _ _ _ _ _; (refine call_diag (diagL (rv.l.map IntsV.xs) fv.xs tv.xs slots) Try.call31 (fun ρ w' hw => diag_any w' rv (holds_of_abs hw fun R h => hr'.later h) fv tv (holds_of_abs hw fun R h => hf'.later h) (holds_of_abs hw fun R h => ht'.later h) slots hs) (fun x hx hxb => ?_))) | (show callK _ 32 _ _ _ _ _; (refine call_diag (diagL (rv.l.map IntsV.xs) fv.xs tv.xs slots) Try.call32 (fun ρ w' hw => refDiag_any w' rv (holds_of_abs hw fun R h => hr'.later h.1) fv tv (holds_of_abs hw fun R h => hf'.later h.1) (holds_of_abs hw fun R h => ht'.later h.1) slots hs) (fun y hy hyb => ?_))) | (show @cmpK _ _ _; (refine cmp_yes rfl ?_)) | (show callK _ 33 _ _ _ _ _; (refine call_pure (f := 33) Try.call33 (.bool true) (fun ρ w' hw => sameRows_any w' x y (holds_of_abs hw fun R h => diagP_ok hx diagL_len h.1.2) (holds_of_abs hw fun R h => diagP_ok hy diagL_len h.2) (hx.rows.trans hy.rows.symm)) ?_)) | (show Wp _ _ _ _ _ _ _; (refine Wp.go tabOk rfl ?_)) | (show @cmpK _ _ _; (first | refine cmp_yes (by omega) ?_ | refine cmp_no (by omega) ?_ | (refine cmp_both ?_ ?_ <;> intro _))) | (show wrapK _ _ _; (refine wrap_i64 (by omega) (by omega) ?_)) | (show leK _ _ _; (refine le_of (by first | exact Nat.le_refl _ | omega) ?_)) | (show roomK _ _ _; (refine room_of (by first | omega | (dsimp only; omega)) ?_)) | (show ltK _ _ _; (refine lt_of (by omega) ?_)) | (show _ ∧ _; (refine ⟨?_, ?_⟩)) | (show keepK _ _ _ _ _; (refine keep_of (by first | exact List.Sublist.refl _ | exact List.Sublist.cons _ (List.Sublist.refl _) | exact List.Sublist.cons _ (List.Sublist.cons _ (List.Sublist.refl _)) | exact List.Sublist.cons _ (List.Sublist.cons _ (List.Sublist.cons _ (List.Sublist.refl _)))) (by first | exact (fun _ _ h => h) | exact (fun _ _ h => h.1) | exact (fun _ _ h => h.1.1)) ?_)) | (show ownK _ _ _ _ _; (refine own_keep ?_))))
    all_goals (conv => whnf)
    all_goals exact ends_bool (B := ⟨w, []⟩) (fun R w' h => h.1.1) rfl rfl
  · refine calls_of tab tabOk Try.func10 rfl rfl rfl [] (fun _ => ⟨none, 0⟩) [.c rv.val, .c fv.val, .c tv.val, .c (.int .i64 slots)] [] (baseA w) 0 rfl rfl (by show 4 ≤ _; decide) (abs_base w) ?_
    (repeat' ((conv => whnf) <;> first | (show callK _ 27 _ _ _ _ _; (refine call_pure (f := 27) Try.call27 (.bool true) (fun ρ w' hw => fixed19_any w') ?_)) | (show callK _ 30 _ _ _ _ _; (refine call_pure (f := 30) Try.call30 (.bool false) (fun ρ w' hw => by have := short_any w' rv (holds_of_abs hw fun R h => hr.later h) fv tv hf.room slots; rw [Bool.eq_false_iff.2 hsh] at this; exact this) ?_)) | (show Wp _ _ _ _ _ _ _; (refine Wp.go tabOk rfl ?_)) | (show @cmpK _ _ _; (first | refine cmp_yes (by omega) ?_ | refine cmp_no (by omega) ?_ | (refine cmp_both ?_ ?_ <;> intro _))) | (show wrapK _ _ _; (refine wrap_i64 (by omega) (by omega) ?_)) | (show leK _ _ _; (refine le_of (by first | exact Nat.le_refl _ | omega) ?_)) | (show roomK _ _ _; (refine room_of (by first | omega | (dsimp only; omega)) ?_)) | (show ltK _ _ _; (refine lt_of (by omega) ?_)) | (show _ ∧ _; (refine ⟨?_, ?_⟩)) | (show keepK _ _ _ _ _; (refine keep_of (by first | exact List.Sublist.refl _ | exact List.Sublist.cons _ (List.Sublist.refl _) | exact List.Sublist.cons _ (List.Sublist.cons _ (List.Sublist.refl _)) | exact List.Sublist.cons _ (List.Sublist.cons _ (List.Sublist.cons _ (List.Sublist.refl _)))) (by first | exact (fun _ _ h => h) | exact (fun _ _ h => h.1) | exact (fun _ _ h => h.1.1)) ?_)) | (show ownK _ _ _ _ _; (refine own_keep ?_))))
    all_goals (conv => whnf)
    all_goals exact ends_bool (fun R w' h => h) rfl rfl
end Go.Proofs.Ytdmkdogakbipbaa
