import Derived.Test.YtdmkdogakbipbaaRows
import Derived.Test.YtdmkdogakbipbaaKLinearRows10
/- LS -/
namespace Go.Proofs.Ytdmkdogakbipbaa
open Go.RowKit Go.SX
def SlotsPost (w : World) (r : List Int × Int) : Ending → World → Prop := fun e w' => ∃ x : IntsV, (x.xs = r.1 ∧ x.sane) ∧ e = .returned (.tuple #[x.val, .int .i64 r.2]) ∧ Ext w w' ∧ (intsA x).holds (fun b => w.heap.size ≤ b ∧ b < w'.heap.size) w'
theorem slots_fail {w : World} {B : Base} {H : Heap} {S : Asn} {nx : Nat} {er : Int} {r : List Int × Int} (hb : ∀ R w', S.holds R w' → (baseA B.w0).holds R w') (hw0 : B.w0 = w) (hr : r = ([], er)) : finK B (.tup [.c (.slice none 0 0), .c (.int .i64 er)]) H S nx (SlotsPost w r) := by
  subst hw0 hr
  refine fin_of fun ρ w' hw => ⟨⟨none, 0, []⟩, ⟨rfl, ⟨fun _ h => (by cases h), Nat.le_refl _, by decide⟩⟩, rfl, ext_of_abs hw hb, ⟨fun _ h => (by cases h), .inl rfl⟩⟩
theorem slots_end {w : World} {B : Base} {H : Heap} {S : Asn} {nx i m : Nat} {l : List Int} {r : List Int × Int} (hb : ∀ R w', S.holds R w' → (baseA B.w0).holds R w') (hw0 : B.w0 = w) (hm : m = l.length) (hf : ∀ x ∈ l, i64 x) (hl : l.length ≤ 1000000) (hi : (i, Ent.rows (ints l) 1 3) ∈ H) (hr : r = (l, 0)) :
    finK B (.tup [.os i m, .c (.int .i64 0)]) H S nx (SlotsPost w r) := by
  subst hw0 hm hr
  refine fin_of fun ρ w' hw => ?_
  have hn := new_of_abs hw hb hi
  rw [ints_length] at hn
  obtain ⟨u, e, h1, h2, h3⟩ := newInts hn hf hl
  refine ⟨u, ⟨h1, h2⟩, ?_, ext_of_abs hw hb, h3⟩
  have : (SV.tup [.os i l.length, .c (.int .i64 0)]).rf ρ = .tuple #[(SV.os i l.length).rf ρ, .int .i64 0] := rfl
  rw [this, e]
theorem wrap_isS {z : Int} (y : Int) {K : Int → Prop} (h : z = y) (h1 : -9223372036854775808 ≤ y) (h2 : y ≤ 9223372036854775807) (hk : K y) : wrapK .i64 z K := by
  subst h; exact wrap_i64 h1 h2 hk
theorem div_isS {x y q : Int} {K : Int → Prop} (e : x / y = q) (h0 : 0 ≤ x) (h1 : x ≤ 9223372036854775807) (hy : 0 < y) (h : K q) : divK .i64 x y K := div_pos rfl h0 h1 hy (by rw [e]; exact h)
theorem ints_snocS (xs : List Int) (x : Int) {m i : Nat} (hm : m = xs.length) {T : TypeId} {H : Heap} : (i, Ent.rows (ints (xs ++ [x])) 1 T) ∈ (i, Ent.rows (List.take m (ints xs) ++ [[.int .i64 x]]) 1 T) :: H := by
  subst hm
  rw [show ints (xs ++ [x]) = List.take xs.length (ints xs) ++ [[.int .i64 x]] by rw [List.take_of_length_le (by rw [ints_length]; exact Nat.le_refl _)]; simp [ints]]
  exact List.mem_cons_self
theorem range_fits {s p n : Nat} (hs : 1 ≤ s) (hp : s ≤ p) (hn : n ≤ 64) (hp2 : p ≤ 128) : ∀ x ∈ rangeL s p n, i64 x := fun x hx => by
  obtain ⟨i, hi, rfl⟩ := List.mem_map.1 hx
  have := placeL_bd hs hp (List.mem_range.1 hi) hn hp2
  exact ⟨by omega, by omega⟩
theorem up_stop {k : Nat} {size q : Int} (h : ¬ q < size) : up k size q = q := by cases k <;> simp [up, h]
theorem up_step {k : Nat} {size q : Int} (h : q < size) (h64 : size ≤ 64) (e : q * 2 ^ k = 128) : ∃ k', k = k' + 1 ∧ up k size q = up k' size (q * 2) ∧ q * 2 * 2 ^ k' = 128 := by
  cases k with
  | zero => simp at e; omega
  | succ k => exact ⟨k, rfl, by simp [up, h], by rw [Int.mul_assoc, ← Int.pow_succ']; exact e⟩
set_option maxHeartbeats 2000000 in
theorem slots_any (w : World) (u : IntsV) (hx : RowsI w u.base 1 (ints u.xs)) (layout slots : Int) : Calls Try.prog 28 #[u.val, .int .i64 layout, .int .i64 slots] w (SlotsPost w (slotsL u.xs layout slots)) := by
  by_cases hA : entries u.xs = 0 ∨ layout < 0 ∨ 1 < layout
  · refine calls_of tab tabOk Try.func28 rfl rfl rfl [] (fun _ => ⟨none, 0⟩) [.c u.val, .c (.int .i64 layout), .c (.int .i64 slots)] [] (baseA w) 0 rfl rfl (by show 3 ≤ _; decide) (abs_base w) ?_
    (repeat' ((conv => whnf) <;> first | (show callK _ 59 _ _ _ _ _; (refine call_pure (f := 59) Try.call59 (.int .i64 (entries u.xs)) (fun ρ w' hw => entries_any w' u.base u.cap u.xs (holds_of_abs hw fun R h => rows_base h hx)) ?_)) | (show drawK _ 6 _ _ _ _ _ _; (refine draw_quiet tabOk mixed (by kernel_rfl) ?_)) | (show Wp _ _ _ _ _ _ _; (refine Wp.go tabOk rfl ?_)) | (show @cmpK _ _ _; (first | refine cmp_yes (by omega) ?_ | refine cmp_no (by omega) ?_ | (refine cmp_both ?_ ?_ <;> intro _))) | (show wrapK _ _ _; (refine wrap_i64 (by omega) (by omega) ?_)) | (show leK _ _ _; (refine le_of (by first | exact Nat.le_refl _ | omega) ?_)) | (show roomK _ _ _; (refine room_of (by first | omega | (dsimp only; omega)) ?_)) | (show ltK _ _ _; (refine lt_of (by omega) ?_)) | (show _ ∧ _; (refine ⟨?_, ?_⟩)) | (show keepK _ _ _ _ _; (refine keep_of (by first | exact List.Sublist.refl _ | exact List.Sublist.cons _ (List.Sublist.refl _) | exact List.Sublist.cons _ (List.Sublist.cons _ (List.Sublist.refl _)) | exact List.Sublist.cons _ (List.Sublist.cons _ (List.Sublist.cons _ (List.Sublist.refl _)))) (by first | exact (fun _ _ h => h) | exact (fun _ _ h => h.1) | exact (fun _ _ h => h.1.1)) ?_)) | (show ownK _ _ _ _ _; (refine own_keep ?_)) | (show apK _ _; (refine ap_old ?_))))
    all_goals (conv => whnf)
    all_goals first | (exfalso; omega) | skip
    all_goals exact slots_fail (fun _ _ h => h) rfl (by rw [slotsL, if_pos hA])
  · obtain ⟨c, s, p, hcs, hs, hp, hc1, hs1, hsp, hp2, hn64, hc64, hs64, hel⟩ := slots_geo (xs := u.xs) (layout := layout) (by omega)
    have hdef : slotsL u.xs layout slots = if slots ≤ placeL s p (c * s - 1) then ([], 7) else (rangeL s p (c * s), 0) := by
      rw [slotsL, if_neg hA, hs, hp, hcs, Int.toNat_natCast]
    obtain ⟨n, hn⟩ : ∃ n, c * s = n := ⟨_, rfl⟩
    have hn1 : 1 ≤ n := by rw [← hn]; exact Nat.mul_pos hc1 hs1
    rw [hn] at hdef hcs hn64
    have hq : ((n : Nat) : Int) / (s : Int) = c := by rw [← hn, ← Int.natCast_ediv, Nat.mul_div_cancel _ (by omega)]
    rw [hdef]
    have hent : ∀ {ρ : Nat → SX.Loc} {w' : World} {nx : Nat} {H : Heap}, Abs ⟨w, []⟩ ρ nx H (baseA w) w' → Calls Try.prog 59 #[u.val] w' fun e w2 => e = .returned (.int .i64 (n : Nat)) ∧ Ext w' w2 := fun hw => by
      have := entries_any _ u.base u.cap u.xs (holds_of_abs hw fun R h => rows_base h hx)
      rw [hcs] at this; exact this
    by_cases h1 : layout = 1 ∧ u.xs.length = 3
    · obtain ⟨ua, hua⟩ : ∃ a, u.base = some a := base_some (j := 0) hx (by rw [ints_length]; omega)
      have hur : ∀ (R : Nat → Prop) w', (baseA w).holds R w' → RowsI w' (some ua) 1 (ints u.xs) := fun R w' h => by rw [← hua]; exact rows_base h hx
      rw [sizeL, if_pos h1] at hs
      rw [pitchL, if_pos h1, hs] at hp
      refine calls_of tab tabOk Try.func28 rfl rfl rfl [] (fun _ => ⟨none, 0⟩) [.c u.val, .c (.int .i64 layout), .c (.int .i64 slots)] [] (baseA w) 0 rfl rfl (by show 3 ≤ _; decide) (abs_base w) ?_
      (repeat' ((conv => whnf) <;> first | (show callK _ 59 _ _ _ _ _; (refine call_pure (f := 59) Try.call59 (.int .i64 (n : Nat)) (fun ρ w' hw => hent hw) ?_)) | (show idxK _ _ _ _ _; (first | refine idx_of ua 1 hua rfl (by omega) ?_ | refine idx_of ua 2 hua rfl (by omega) ?_)) | (show roK _ _ _; (first | refine ro_int hur (j := 1) (by omega) ?_ | refine ro_int hur (j := 2) (by omega) ?_)) | (show wrapK _ _ _; (refine wrap_isS (s : Int) hs (by omega) (by omega) ?_)) | (show drawK _ 6 _ _ _ _ _ _; (refine draw_quiet tabOk mixed (by kernel_rfl) ?_)) | (show Wp _ _ _ _ _ _ _; (refine Wp.go tabOk rfl ?_)) | (show @cmpK _ _ _; (first | refine cmp_yes (by omega) ?_ | refine cmp_no (by omega) ?_ | (refine cmp_both ?_ ?_ <;> intro _))) | (show wrapK _ _ _; (refine wrap_i64 (by omega) (by omega) ?_)) | (show leK _ _ _; (refine le_of (by first | exact Nat.le_refl _ | omega) ?_)) | (show roomK _ _ _; (refine room_of (by first | omega | (dsimp only; omega)) ?_)) | (show ltK _ _ _; (refine lt_of (by omega) ?_)) | (show _ ∧ _; (refine ⟨?_, ?_⟩)) | (show keepK _ _ _ _ _; (refine keep_of (by first | exact List.Sublist.refl _ | exact List.Sublist.cons _ (List.Sublist.refl _) | exact List.Sublist.cons _ (List.Sublist.cons _ (List.Sublist.refl _)) | exact List.Sublist.cons _ (List.Sublist.cons _ (List.Sublist.cons _ (List.Sublist.refl _)))) (by first | exact (fun _ _ h => h) | exact (fun _ _ h => h.1) | exact (fun _ _ h => h.1.1)) ?_)) | (show ownK _ _ _ _ _; (refine own_keep ?_)) | (show apK _ _; (refine ap_old ?_))))
      all_goals (conv => whnf)
      refine Wp.loop (σ := Nat × Nat) 0 (fun ⟨q, k⟩ => [(2, .c (.int .i64 slots)), (8, .c (.int .i64 (n : Nat))), (9, .c (.int .i64 (s : Nat))), (10, .c (.int .i64 q))]) (fun _ => []) (fun _ => baseA w)
        (fun ⟨q, k⟩ => (q : Int) * 2 ^ k = 128 ∧ 1 ≤ q ∧ up k s q = p) (fun x => x.2) (1, 7) [] (by decide) (fun s => ⟨rfl, rfl⟩) ⟨by decide, by decide, hp⟩ ⟨rfl, ⟨rfl, rfl, rfl, rfl, trivial⟩, trivial, fun _ _ h => h⟩ ?_
      rintro ⟨q, k⟩ ⟨hq1, hq2, hq3⟩
      by_cases hqs : (q : Int) < s
      · obtain ⟨k', rfl, hk2, hk3⟩ := up_step hqs (by omega) hq1
        (repeat' ((conv => whnf) <;> first | (show wrapK _ _ _; (refine wrap_isS ((q * 2 : Nat) : Int) (by simp) (by omega) (by omega) ?_)) | (show drawK _ 6 _ _ _ _ _ _; (refine draw_quiet tabOk mixed (by kernel_rfl) ?_)) | (show Wp _ _ _ _ _ _ _; (refine Wp.go tabOk rfl ?_)) | (show @cmpK _ _ _; (first | refine cmp_yes (by omega) ?_ | refine cmp_no (by omega) ?_ | (refine cmp_both ?_ ?_ <;> intro _))) | (show wrapK _ _ _; (refine wrap_i64 (by omega) (by omega) ?_)) | (show leK _ _ _; (refine le_of (by first | exact Nat.le_refl _ | omega) ?_)) | (show roomK _ _ _; (refine room_of (by first | omega | (dsimp only; omega)) ?_)) | (show ltK _ _ _; (refine lt_of (by omega) ?_)) | (show _ ∧ _; (refine ⟨?_, ?_⟩)) | (show keepK _ _ _ _ _; (refine keep_of (by first | exact List.Sublist.refl _ | exact List.Sublist.cons _ (List.Sublist.refl _) | exact List.Sublist.cons _ (List.Sublist.cons _ (List.Sublist.refl _)) | exact List.Sublist.cons _ (List.Sublist.cons _ (List.Sublist.cons _ (List.Sublist.refl _)))) (by first | exact (fun _ _ h => h) | exact (fun _ _ h => h.1) | exact (fun _ _ h => h.1.1)) ?_)) | (show ownK _ _ _ _ _; (refine own_keep ?_)) | (show apK _ _; (refine ap_old ?_))))
        all_goals (conv => whnf)
        exact ⟨(q * 2, k'), [], ⟨by simpa using hk3, by show 1 ≤ q * 2; omega, by rw [← hq3, hk2]; simp⟩, Nat.lt_succ_self _, rfl, ⟨rfl, rfl, rfl, rfl, trivial⟩, trivial, fun _ _ h => h⟩
      · rw [up_stop hqs] at hq3
        have hqp : p = q := by omega
        subst hqp
        (repeat' ((conv => whnf) <;> first | (show makeK _ _ _ _; (refine make_cap 0 n rfl rfl (Nat.zero_le _) (by show 8 * _ ≤ _; omega) (by omega) ?_)) | (show divK _ _ _ _; (refine div_isS hq (by omega) (by omega) (by omega) ?_)) | (show drawK _ 6 _ _ _ _ _ _; (refine draw_quiet tabOk mixed (by kernel_rfl) ?_)) | (show Wp _ _ _ _ _ _ _; (refine Wp.go tabOk rfl ?_)) | (show @cmpK _ _ _; (first | refine cmp_yes (by omega) ?_ | refine cmp_no (by omega) ?_ | (refine cmp_both ?_ ?_ <;> intro _))) | (show wrapK _ _ _; (refine wrap_i64 (by omega) (by omega) ?_)) | (show leK _ _ _; (refine le_of (by first | exact Nat.le_refl _ | omega) ?_)) | (show roomK _ _ _; (refine room_of (by first | omega | (dsimp only; omega)) ?_)) | (show ltK _ _ _; (refine lt_of (by omega) ?_)) | (show _ ∧ _; (refine ⟨?_, ?_⟩)) | (show keepK _ _ _ _ _; (refine keep_of (by first | exact List.Sublist.refl _ | exact List.Sublist.cons _ (List.Sublist.refl _) | exact List.Sublist.cons _ (List.Sublist.cons _ (List.Sublist.refl _)) | exact List.Sublist.cons _ (List.Sublist.cons _ (List.Sublist.cons _ (List.Sublist.refl _)))) (by first | exact (fun _ _ h => h) | exact (fun _ _ h => h.1) | exact (fun _ _ h => h.1.1)) ?_)) | (show ownK _ _ _ _ _; (refine own_keep ?_)) | (show apK _ _; (refine ap_old ?_))))
        all_goals (conv => whnf)
        refine Wp.loop (σ := Nat × Nat) 2 (fun x => [(2, .c (.int .i64 slots)), (8, .c (.int .i64 (n : Nat))), (9, .c (.int .i64 (s : Nat))), (10, .c (.int .i64 (p : Nat))), (11, .os 1 x.2), (51, .c (.int .i64 (c : Nat))), (52, .c (.int .i64 x.1))]) (fun x => [(1, .rows (ints (rangeL s p x.2)) 1 3)]) (fun _ => baseA w)
          (fun x => x.1 ≤ c ∧ x.2 = x.1 * s) (fun x => c - x.1) (0, 0) [(1, some 0)] (by decide) (fun _ => ⟨rfl, rfl⟩) ⟨Nat.zero_le _, (Nat.zero_mul s).symm⟩ ⟨rfl, ⟨rfl, rfl, rfl, rfl, rfl, rfl, rfl, trivial⟩, ⟨List.mem_cons_self, trivial⟩, fun _ _ h => h⟩ ?_
        rintro ⟨cc, m⟩ ⟨hcc, hm⟩
        dsimp only at hcc hm
        by_cases hlt : cc < c
        · (repeat' ((conv => whnf) <;> first | (show drawK _ 6 _ _ _ _ _ _; (refine draw_quiet tabOk mixed (by kernel_rfl) ?_)) | (show Wp _ _ _ _ _ _ _; (refine Wp.go tabOk rfl ?_)) | (show @cmpK _ _ _; (first | refine cmp_yes (by omega) ?_ | refine cmp_no (by omega) ?_ | (refine cmp_both ?_ ?_ <;> intro _))) | (show wrapK _ _ _; (refine wrap_i64 (by omega) (by omega) ?_)) | (show leK _ _ _; (refine le_of (by first | exact Nat.le_refl _ | omega) ?_)) | (show roomK _ _ _; (refine room_of (by first | omega | (dsimp only; omega)) ?_)) | (show ltK _ _ _; (refine lt_of (by omega) ?_)) | (show _ ∧ _; (refine ⟨?_, ?_⟩)) | (show keepK _ _ _ _ _; (refine keep_of (by first | exact List.Sublist.refl _ | exact List.Sublist.cons _ (List.Sublist.refl _) | exact List.Sublist.cons _ (List.Sublist.cons _ (List.Sublist.refl _)) | exact List.Sublist.cons _ (List.Sublist.cons _ (List.Sublist.cons _ (List.Sublist.refl _)))) (by first | exact (fun _ _ h => h) | exact (fun _ _ h => h.1) | exact (fun _ _ h => h.1.1)) ?_)) | (show ownK _ _ _ _ _; (refine own_keep ?_)) | (show apK _ _; (refine ap_old ?_))))
          all_goals (conv => whnf)
          have hcp : cc * p ≤ 64 * 128 := Nat.mul_le_mul (by omega) hp2
          have hms : cc * s + s ≤ c * s := by rw [← Nat.succ_mul]; exact Nat.mul_le_mul_right s hlt
          refine Wp.loop (σ := Nat × Nat) 3 (fun x => [(2, .c (.int .i64 slots)), (8, .c (.int .i64 (n : Nat))), (9, .c (.int .i64 (s : Nat))), (10, .c (.int .i64 (p : Nat))), (11, .os 2 x.2), (51, .c (.int .i64 (c : Nat))), (52, .c (.int .i64 cc)), (12, .c (.int .i64 cc)), (55, .c (.int .i64 (s : Nat))), (56, .c (.int .i64 x.1))]) (fun x => [(2, .rows (ints (rangeL s p x.2)) 1 3)]) (fun _ => baseA w)
            (fun x => x.1 ≤ s ∧ x.2 = cc * s + x.1) (fun x => s - x.1) (0, m) [(2, some 1)] (by decide) (fun _ => ⟨rfl, rfl⟩) ⟨Nat.zero_le _, hm⟩ ⟨rfl, ⟨rfl, rfl, rfl, rfl, rfl, rfl, rfl, rfl, rfl, rfl, trivial⟩, ⟨List.mem_cons_self, trivial⟩, fun _ _ h => h⟩ ?_
          rintro ⟨i, k⟩ ⟨hi, hk⟩
          dsimp only at hi hk
          by_cases hli : i < s
          · have hpl : (((cc * p : Nat) : Int) + (i : Int)) = placeL s p k := by rw [hk, placeL_at hli]; simp
            have hrl := rangeL_length s p k
            (repeat' ((conv => whnf) <;> first | (show wrapK _ _ _; (first | refine wrap_isS ((cc * p : Nat) : Int) (Int.natCast_mul cc p).symm (by omega) (by omega) ?_ | refine wrap_isS (placeL s p k) hpl (by omega) (by omega) ?_ | refine wrap_i64 (by omega) (by omega) ?_)) | (show leK _ _ _; (refine le_of (Nat.le_of_eq (by rw [ints_length, rangeL_length])) ?_)) | (show roomK _ _ _; (refine room_of (by show (k + 1) * 8 ≤ 140737488355328; omega) ?_)) | (show drawK _ 6 _ _ _ _ _ _; (refine draw_quiet tabOk mixed (by kernel_rfl) ?_)) | (show Wp _ _ _ _ _ _ _; (refine Wp.go tabOk rfl ?_)) | (show @cmpK _ _ _; (first | refine cmp_yes (by omega) ?_ | refine cmp_no (by omega) ?_ | (refine cmp_both ?_ ?_ <;> intro _))) | (show wrapK _ _ _; (refine wrap_i64 (by omega) (by omega) ?_)) | (show leK _ _ _; (refine le_of (by first | exact Nat.le_refl _ | omega) ?_)) | (show roomK _ _ _; (refine room_of (by first | omega | (dsimp only; omega)) ?_)) | (show ltK _ _ _; (refine lt_of (by omega) ?_)) | (show _ ∧ _; (refine ⟨?_, ?_⟩)) | (show keepK _ _ _ _ _; (refine keep_of (by first | exact List.Sublist.refl _ | exact List.Sublist.cons _ (List.Sublist.refl _) | exact List.Sublist.cons _ (List.Sublist.cons _ (List.Sublist.refl _)) | exact List.Sublist.cons _ (List.Sublist.cons _ (List.Sublist.cons _ (List.Sublist.refl _)))) (by first | exact (fun _ _ h => h) | exact (fun _ _ h => h.1) | exact (fun _ _ h => h.1.1)) ?_)) | (show ownK _ _ _ _ _; (refine own_keep ?_)) | (show apK _ _; (refine ap_old ?_))))
            all_goals (conv => whnf)
            exact ⟨(i + 1, k + 1), [(2, some 4)], ⟨hli, by show k + 1 = cc * s + (i + 1); omega⟩, by show s - (i + 1) < s - i; omega, rfl, ⟨rfl, rfl, rfl, rfl, rfl, rfl, rfl, rfl, rfl, rfl, trivial⟩, ⟨by show (4, Ent.rows (ints (rangeL s p (k + 1))) 1 3) ∈ _; rw [rangeL_succ]; exact ints_snocS _ _ (rangeL_length s p k).symm, trivial⟩, fun _ _ h => h⟩
          · (repeat' ((conv => whnf) <;> first | (show drawK _ 6 _ _ _ _ _ _; (refine draw_quiet tabOk mixed (by kernel_rfl) ?_)) | (show Wp _ _ _ _ _ _ _; (refine Wp.go tabOk rfl ?_)) | (show @cmpK _ _ _; (first | refine cmp_yes (by omega) ?_ | refine cmp_no (by omega) ?_ | (refine cmp_both ?_ ?_ <;> intro _))) | (show wrapK _ _ _; (refine wrap_i64 (by omega) (by omega) ?_)) | (show leK _ _ _; (refine le_of (by first | exact Nat.le_refl _ | omega) ?_)) | (show roomK _ _ _; (refine room_of (by first | omega | (dsimp only; omega)) ?_)) | (show ltK _ _ _; (refine lt_of (by omega) ?_)) | (show _ ∧ _; (refine ⟨?_, ?_⟩)) | (show keepK _ _ _ _ _; (refine keep_of (by first | exact List.Sublist.refl _ | exact List.Sublist.cons _ (List.Sublist.refl _) | exact List.Sublist.cons _ (List.Sublist.cons _ (List.Sublist.refl _)) | exact List.Sublist.cons _ (List.Sublist.cons _ (List.Sublist.cons _ (List.Sublist.refl _)))) (by first | exact (fun _ _ h => h) | exact (fun _ _ h => h.1) | exact (fun _ _ h => h.1.1)) ?_)) | (show ownK _ _ _ _ _; (refine own_keep ?_)) | (show apK _ _; (refine ap_old ?_))))
            all_goals (conv => whnf)
            exact ⟨(cc + 1, k), [(1, some 2)], ⟨hlt, by show k = (cc + 1) * s; rw [Nat.succ_mul]; omega⟩, by show c - (cc + 1) < c - cc; omega, rfl, ⟨rfl, rfl, rfl, rfl, rfl, rfl, rfl, trivial⟩, ⟨List.mem_cons_self, trivial⟩, fun _ _ h => h⟩
        · have hcc2 : cc = c := by omega
          rw [hcc2, hn] at hm
          have hpb := placeL_bd (i := n - 1) (n := n) hs1 hsp (by omega) hn64 hp2
          have hlast := rangeL_getD s p (k := n) (i := n - 1) (by omega)
          have hll := rangeL_length s p n
          have hm' := hm.symm
          subst hm'
          (repeat' ((conv => whnf) <;> first | (show idxRowK _ _ _ _ _ _; (refine idxRow_of (n - 1) (by omega) (by omega) (Nat.le_of_eq (by rw [ints_length, rangeL_length])) ?_)) | (show rowK _ _ _ _; (refine ro_own (xs := rangeL s p n) (j := n - 1) (by omega) ?_)) | (show drawK _ 6 _ _ _ _ _ _; (refine draw_quiet tabOk mixed (by kernel_rfl) ?_)) | (show Wp _ _ _ _ _ _ _; (refine Wp.go tabOk rfl ?_)) | (show @cmpK _ _ _; (first | refine cmp_yes (by omega) ?_ | refine cmp_no (by omega) ?_ | (refine cmp_both ?_ ?_ <;> intro _))) | (show wrapK _ _ _; (refine wrap_i64 (by omega) (by omega) ?_)) | (show leK _ _ _; (refine le_of (by first | exact Nat.le_refl _ | omega) ?_)) | (show roomK _ _ _; (refine room_of (by first | omega | (dsimp only; omega)) ?_)) | (show ltK _ _ _; (refine lt_of (by omega) ?_)) | (show _ ∧ _; (refine ⟨?_, ?_⟩)) | (show keepK _ _ _ _ _; (refine keep_of (by first | exact List.Sublist.refl _ | exact List.Sublist.cons _ (List.Sublist.refl _) | exact List.Sublist.cons _ (List.Sublist.cons _ (List.Sublist.refl _)) | exact List.Sublist.cons _ (List.Sublist.cons _ (List.Sublist.cons _ (List.Sublist.refl _)))) (by first | exact (fun _ _ h => h) | exact (fun _ _ h => h.1) | exact (fun _ _ h => h.1.1)) ?_)) | (show ownK _ _ _ _ _; (refine own_keep ?_)) | (show apK _ _; (refine ap_old ?_))))
          all_goals (conv => whnf)
          · exact slots_fail (fun _ _ h => h) rfl (if_pos (by omega))
          · exact slots_end (i := 1) (fun _ _ h => h) rfl hll.symm (range_fits hs1 hsp hn64 hp2) (by omega) (by repeat (first | exact List.mem_cons_self | apply List.mem_cons_of_mem)) (if_neg (by omega))
    · obtain ⟨hc, hsp'⟩ := hel h1
      have hns : n = s := by rw [← hn, hc, Nat.one_mul]
      subst hsp'
      subst hns
      refine calls_of tab tabOk Try.func28 rfl rfl rfl [] (fun _ => ⟨none, 0⟩) [.c u.val, .c (.int .i64 layout), .c (.int .i64 slots)] [] (baseA w) 0 rfl rfl (by show 3 ≤ _; decide) (abs_base w) ?_
      (repeat' ((conv => whnf) <;> first | (show callK _ 59 _ _ _ _ _; (refine call_pure (f := 59) Try.call59 (.int .i64 (n : Nat)) (fun ρ w' hw => hent hw) ?_)) | (show makeK _ _ _ _; (refine make_cap 0 n rfl rfl (Nat.zero_le _) (by show 8 * _ ≤ _; omega) (by omega) ?_)) | (show divK _ _ _ _; (refine div_isS (q := (c : Int)) hq (by omega) (by omega) (by omega) ?_)) | (show drawK _ 6 _ _ _ _ _ _; (refine draw_quiet tabOk mixed (by kernel_rfl) ?_)) | (show Wp _ _ _ _ _ _ _; (refine Wp.go tabOk rfl ?_)) | (show @cmpK _ _ _; (first | refine cmp_yes (by omega) ?_ | refine cmp_no (by omega) ?_ | (refine cmp_both ?_ ?_ <;> intro _))) | (show wrapK _ _ _; (refine wrap_i64 (by omega) (by omega) ?_)) | (show leK _ _ _; (refine le_of (by first | exact Nat.le_refl _ | omega) ?_)) | (show roomK _ _ _; (refine room_of (by first | omega | (dsimp only; omega)) ?_)) | (show ltK _ _ _; (refine lt_of (by omega) ?_)) | (show _ ∧ _; (refine ⟨?_, ?_⟩)) | (show keepK _ _ _ _ _; (refine keep_of (by first | exact List.Sublist.refl _ | exact List.Sublist.cons _ (List.Sublist.refl _) | exact List.Sublist.cons _ (List.Sublist.cons _ (List.Sublist.refl _)) | exact List.Sublist.cons _ (List.Sublist.cons _ (List.Sublist.cons _ (List.Sublist.refl _)))) (by first | exact (fun _ _ h => h) | exact (fun _ _ h => h.1) | exact (fun _ _ h => h.1.1)) ?_)) | (show ownK _ _ _ _ _; (refine own_keep ?_)) | (show apK _ _; (refine ap_old ?_))))
      all_goals (conv => whnf)
      · skip
        refine Wp.loop (σ := Nat × Nat) 2 (fun x => [(2, .c (.int .i64 slots)), (8, .c (.int .i64 (n : Nat))), (9, .c (.int .i64 (n : Nat))), (10, .c (.int .i64 (n : Nat))), (11, .os 1 x.2), (51, .c (.int .i64 (c : Nat))), (52, .c (.int .i64 x.1))]) (fun x => [(1, .rows (ints (rangeL n n x.2)) 1 3)]) (fun _ => baseA w)
          (fun x => x.1 ≤ c ∧ x.2 = x.1 * n) (fun x => c - x.1) (0, 0) [(1, some 0)] (by decide) (fun _ => ⟨rfl, rfl⟩) ⟨Nat.zero_le _, (Nat.zero_mul n).symm⟩ ⟨rfl, ⟨rfl, rfl, rfl, rfl, rfl, rfl, rfl, trivial⟩, ⟨List.mem_cons_self, trivial⟩, fun _ _ h => h⟩ ?_
        rintro ⟨cc, m⟩ ⟨hcc, hm⟩
        dsimp only at hcc hm
        by_cases hlt : cc < c
        · (repeat' ((conv => whnf) <;> first | (show drawK _ 6 _ _ _ _ _ _; (refine draw_quiet tabOk mixed (by kernel_rfl) ?_)) | (show Wp _ _ _ _ _ _ _; (refine Wp.go tabOk rfl ?_)) | (show @cmpK _ _ _; (first | refine cmp_yes (by omega) ?_ | refine cmp_no (by omega) ?_ | (refine cmp_both ?_ ?_ <;> intro _))) | (show wrapK _ _ _; (refine wrap_i64 (by omega) (by omega) ?_)) | (show leK _ _ _; (refine le_of (by first | exact Nat.le_refl _ | omega) ?_)) | (show roomK _ _ _; (refine room_of (by first | omega | (dsimp only; omega)) ?_)) | (show ltK _ _ _; (refine lt_of (by omega) ?_)) | (show _ ∧ _; (refine ⟨?_, ?_⟩)) | (show keepK _ _ _ _ _; (refine keep_of (by first | exact List.Sublist.refl _ | exact List.Sublist.cons _ (List.Sublist.refl _) | exact List.Sublist.cons _ (List.Sublist.cons _ (List.Sublist.refl _)) | exact List.Sublist.cons _ (List.Sublist.cons _ (List.Sublist.cons _ (List.Sublist.refl _)))) (by first | exact (fun _ _ h => h) | exact (fun _ _ h => h.1) | exact (fun _ _ h => h.1.1)) ?_)) | (show ownK _ _ _ _ _; (refine own_keep ?_)) | (show apK _ _; (refine ap_old ?_))))
          all_goals (conv => whnf)
          have hcp : cc * n ≤ 64 * 128 := Nat.mul_le_mul (by omega) hp2
          have hms : cc * n + n ≤ c * n := by rw [← Nat.succ_mul]; exact Nat.mul_le_mul_right n hlt
          refine Wp.loop (σ := Nat × Nat) 3 (fun x => [(2, .c (.int .i64 slots)), (8, .c (.int .i64 (n : Nat))), (9, .c (.int .i64 (n : Nat))), (10, .c (.int .i64 (n : Nat))), (11, .os 2 x.2), (51, .c (.int .i64 (c : Nat))), (52, .c (.int .i64 cc)), (12, .c (.int .i64 cc)), (55, .c (.int .i64 (n : Nat))), (56, .c (.int .i64 x.1))]) (fun x => [(2, .rows (ints (rangeL n n x.2)) 1 3)]) (fun _ => baseA w)
            (fun x => x.1 ≤ n ∧ x.2 = cc * n + x.1) (fun x => n - x.1) (0, m) [(2, some 1)] (by decide) (fun _ => ⟨rfl, rfl⟩) ⟨Nat.zero_le _, hm⟩ ⟨rfl, ⟨rfl, rfl, rfl, rfl, rfl, rfl, rfl, rfl, rfl, rfl, trivial⟩, ⟨List.mem_cons_self, trivial⟩, fun _ _ h => h⟩ ?_
          rintro ⟨i, k⟩ ⟨hi, hk⟩
          dsimp only at hi hk
          by_cases hli : i < n
          · have hpl : (((cc * n : Nat) : Int) + (i : Int)) = placeL n n k := by rw [hk, placeL_at hli]; simp
            have hrl := rangeL_length n n k
            (repeat' ((conv => whnf) <;> first | (show wrapK _ _ _; (first | refine wrap_isS ((cc * n : Nat) : Int) (Int.natCast_mul cc n).symm (by omega) (by omega) ?_ | refine wrap_isS (placeL n n k) hpl (by omega) (by omega) ?_ | refine wrap_i64 (by omega) (by omega) ?_)) | (show leK _ _ _; (refine le_of (Nat.le_of_eq (by rw [ints_length, rangeL_length])) ?_)) | (show roomK _ _ _; (refine room_of (by show (k + 1) * 8 ≤ 140737488355328; omega) ?_)) | (show drawK _ 6 _ _ _ _ _ _; (refine draw_quiet tabOk mixed (by kernel_rfl) ?_)) | (show Wp _ _ _ _ _ _ _; (refine Wp.go tabOk rfl ?_)) | (show @cmpK _ _ _; (first | refine cmp_yes (by omega) ?_ | refine cmp_no (by omega) ?_ | (refine cmp_both ?_ ?_ <;> intro _))) | (show wrapK _ _ _; (refine wrap_i64 (by omega) (by omega) ?_)) | (show leK _ _ _; (refine le_of (by first | exact Nat.le_refl _ | omega) ?_)) | (show roomK _ _ _; (refine room_of (by first | omega | (dsimp only; omega)) ?_)) | (show ltK _ _ _; (refine lt_of (by omega) ?_)) | (show _ ∧ _; (refine ⟨?_, ?_⟩)) | (show keepK _ _ _ _ _; (refine keep_of (by first | exact List.Sublist.refl _ | exact List.Sublist.cons _ (List.Sublist.refl _) | exact List.Sublist.cons _ (List.Sublist.cons _ (List.Sublist.refl _)) | exact List.Sublist.cons _ (List.Sublist.cons _ (List.Sublist.cons _ (List.Sublist.refl _)))) (by first | exact (fun _ _ h => h) | exact (fun _ _ h => h.1) | exact (fun _ _ h => h.1.1)) ?_)) | (show ownK _ _ _ _ _; (refine own_keep ?_)) | (show apK _ _; (refine ap_old ?_))))
            all_goals (conv => whnf)
            exact ⟨(i + 1, k + 1), [(2, some 4)], ⟨hli, by show k + 1 = cc * n + (i + 1); omega⟩, by show n - (i + 1) < n - i; omega, rfl, ⟨rfl, rfl, rfl, rfl, rfl, rfl, rfl, rfl, rfl, rfl, trivial⟩, ⟨by show (4, Ent.rows (ints (rangeL n n (k + 1))) 1 3) ∈ _; rw [rangeL_succ]; exact ints_snocS _ _ (rangeL_length n n k).symm, trivial⟩, fun _ _ h => h⟩
          · (repeat' ((conv => whnf) <;> first | (show drawK _ 6 _ _ _ _ _ _; (refine draw_quiet tabOk mixed (by kernel_rfl) ?_)) | (show Wp _ _ _ _ _ _ _; (refine Wp.go tabOk rfl ?_)) | (show @cmpK _ _ _; (first | refine cmp_yes (by omega) ?_ | refine cmp_no (by omega) ?_ | (refine cmp_both ?_ ?_ <;> intro _))) | (show wrapK _ _ _; (refine wrap_i64 (by omega) (by omega) ?_)) | (show leK _ _ _; (refine le_of (by first | exact Nat.le_refl _ | omega) ?_)) | (show roomK _ _ _; (refine room_of (by first | omega | (dsimp only; omega)) ?_)) | (show ltK _ _ _; (refine lt_of (by omega) ?_)) | (show _ ∧ _; (refine ⟨?_, ?_⟩)) | (show keepK _ _ _ _ _; (refine keep_of (by first | exact List.Sublist.refl _ | exact List.Sublist.cons _ (List.Sublist.refl _) | exact List.Sublist.cons _ (List.Sublist.cons _ (List.Sublist.refl _)) | exact List.Sublist.cons _ (List.Sublist.cons _ (List.Sublist.cons _ (List.Sublist.refl _)))) (by first | exact (fun _ _ h => h) | exact (fun _ _ h => h.1) | exact (fun _ _ h => h.1.1)) ?_)) | (show ownK _ _ _ _ _; (refine own_keep ?_)) | (show apK _ _; (refine ap_old ?_))))
            all_goals (conv => whnf)
            exact ⟨(cc + 1, k), [(1, some 2)], ⟨hlt, by show k = (cc + 1) * n; rw [Nat.succ_mul]; omega⟩, by show c - (cc + 1) < c - cc; omega, rfl, ⟨rfl, rfl, rfl, rfl, rfl, rfl, rfl, trivial⟩, ⟨List.mem_cons_self, trivial⟩, fun _ _ h => h⟩
        · have hcc2 : cc = c := by omega
          rw [hcc2, hn] at hm
          have hpb := placeL_bd (i := n - 1) (n := n) hs1 hsp (by omega) hn64 hp2
          have hlast := rangeL_getD n n (k := n) (i := n - 1) (by omega)
          have hll := rangeL_length n n n
          have hm' := hm.symm
          subst hm'
          (repeat' ((conv => whnf) <;> first | (show idxRowK _ _ _ _ _ _; (refine idxRow_of (n - 1) (by omega) (by omega) (Nat.le_of_eq (by rw [ints_length, rangeL_length])) ?_)) | (show rowK _ _ _ _; (refine ro_own (xs := rangeL n n n) (j := n - 1) (by omega) ?_)) | (show drawK _ 6 _ _ _ _ _ _; (refine draw_quiet tabOk mixed (by kernel_rfl) ?_)) | (show Wp _ _ _ _ _ _ _; (refine Wp.go tabOk rfl ?_)) | (show @cmpK _ _ _; (first | refine cmp_yes (by omega) ?_ | refine cmp_no (by omega) ?_ | (refine cmp_both ?_ ?_ <;> intro _))) | (show wrapK _ _ _; (refine wrap_i64 (by omega) (by omega) ?_)) | (show leK _ _ _; (refine le_of (by first | exact Nat.le_refl _ | omega) ?_)) | (show roomK _ _ _; (refine room_of (by first | omega | (dsimp only; omega)) ?_)) | (show ltK _ _ _; (refine lt_of (by omega) ?_)) | (show _ ∧ _; (refine ⟨?_, ?_⟩)) | (show keepK _ _ _ _ _; (refine keep_of (by first | exact List.Sublist.refl _ | exact List.Sublist.cons _ (List.Sublist.refl _) | exact List.Sublist.cons _ (List.Sublist.cons _ (List.Sublist.refl _)) | exact List.Sublist.cons _ (List.Sublist.cons _ (List.Sublist.cons _ (List.Sublist.refl _)))) (by first | exact (fun _ _ h => h) | exact (fun _ _ h => h.1) | exact (fun _ _ h => h.1.1)) ?_)) | (show ownK _ _ _ _ _; (refine own_keep ?_)) | (show apK _ _; (refine ap_old ?_))))
          all_goals (conv => whnf)
          · exact slots_fail (fun _ _ h => h) rfl (if_pos (by omega))
          · exact slots_end (i := 1) (fun _ _ h => h) rfl hll.symm (range_fits hs1 hsp hn64 hp2) (by omega) (by repeat (first | exact List.mem_cons_self | apply List.mem_cons_of_mem)) (if_neg (by omega))
      · skip
        refine Wp.loop (σ := Nat × Nat) 2 (fun x => [(2, .c (.int .i64 slots)), (8, .c (.int .i64 (n : Nat))), (9, .c (.int .i64 (n : Nat))), (10, .c (.int .i64 (n : Nat))), (11, .os 1 x.2), (51, .c (.int .i64 (c : Nat))), (52, .c (.int .i64 x.1))]) (fun x => [(1, .rows (ints (rangeL n n x.2)) 1 3)]) (fun _ => baseA w)
          (fun x => x.1 ≤ c ∧ x.2 = x.1 * n) (fun x => c - x.1) (0, 0) [(1, some 0)] (by decide) (fun _ => ⟨rfl, rfl⟩) ⟨Nat.zero_le _, (Nat.zero_mul n).symm⟩ ⟨rfl, ⟨rfl, rfl, rfl, rfl, rfl, rfl, rfl, trivial⟩, ⟨List.mem_cons_self, trivial⟩, fun _ _ h => h⟩ ?_
        rintro ⟨cc, m⟩ ⟨hcc, hm⟩
        dsimp only at hcc hm
        by_cases hlt : cc < c
        · (repeat' ((conv => whnf) <;> first | (show drawK _ 6 _ _ _ _ _ _; (refine draw_quiet tabOk mixed (by kernel_rfl) ?_)) | (show Wp _ _ _ _ _ _ _; (refine Wp.go tabOk rfl ?_)) | (show @cmpK _ _ _; (first | refine cmp_yes (by omega) ?_ | refine cmp_no (by omega) ?_ | (refine cmp_both ?_ ?_ <;> intro _))) | (show wrapK _ _ _; (refine wrap_i64 (by omega) (by omega) ?_)) | (show leK _ _ _; (refine le_of (by first | exact Nat.le_refl _ | omega) ?_)) | (show roomK _ _ _; (refine room_of (by first | omega | (dsimp only; omega)) ?_)) | (show ltK _ _ _; (refine lt_of (by omega) ?_)) | (show _ ∧ _; (refine ⟨?_, ?_⟩)) | (show keepK _ _ _ _ _; (refine keep_of (by first | exact List.Sublist.refl _ | exact List.Sublist.cons _ (List.Sublist.refl _) | exact List.Sublist.cons _ (List.Sublist.cons _ (List.Sublist.refl _)) | exact List.Sublist.cons _ (List.Sublist.cons _ (List.Sublist.cons _ (List.Sublist.refl _)))) (by first | exact (fun _ _ h => h) | exact (fun _ _ h => h.1) | exact (fun _ _ h => h.1.1)) ?_)) | (show ownK _ _ _ _ _; (refine own_keep ?_)) | (show apK _ _; (refine ap_old ?_))))
          all_goals (conv => whnf)
          have hcp : cc * n ≤ 64 * 128 := Nat.mul_le_mul (by omega) hp2
          have hms : cc * n + n ≤ c * n := by rw [← Nat.succ_mul]; exact Nat.mul_le_mul_right n hlt
          refine Wp.loop (σ := Nat × Nat) 3 (fun x => [(2, .c (.int .i64 slots)), (8, .c (.int .i64 (n : Nat))), (9, .c (.int .i64 (n : Nat))), (10, .c (.int .i64 (n : Nat))), (11, .os 2 x.2), (51, .c (.int .i64 (c : Nat))), (52, .c (.int .i64 cc)), (12, .c (.int .i64 cc)), (55, .c (.int .i64 (n : Nat))), (56, .c (.int .i64 x.1))]) (fun x => [(2, .rows (ints (rangeL n n x.2)) 1 3)]) (fun _ => baseA w)
            (fun x => x.1 ≤ n ∧ x.2 = cc * n + x.1) (fun x => n - x.1) (0, m) [(2, some 1)] (by decide) (fun _ => ⟨rfl, rfl⟩) ⟨Nat.zero_le _, hm⟩ ⟨rfl, ⟨rfl, rfl, rfl, rfl, rfl, rfl, rfl, rfl, rfl, rfl, trivial⟩, ⟨List.mem_cons_self, trivial⟩, fun _ _ h => h⟩ ?_
          rintro ⟨i, k⟩ ⟨hi, hk⟩
          dsimp only at hi hk
          by_cases hli : i < n
          · have hpl : (((cc * n : Nat) : Int) + (i : Int)) = placeL n n k := by rw [hk, placeL_at hli]; simp
            have hrl := rangeL_length n n k
            (repeat' ((conv => whnf) <;> first | (show wrapK _ _ _; (first | refine wrap_isS ((cc * n : Nat) : Int) (Int.natCast_mul cc n).symm (by omega) (by omega) ?_ | refine wrap_isS (placeL n n k) hpl (by omega) (by omega) ?_ | refine wrap_i64 (by omega) (by omega) ?_)) | (show leK _ _ _; (refine le_of (Nat.le_of_eq (by rw [ints_length, rangeL_length])) ?_)) | (show roomK _ _ _; (refine room_of (by show (k + 1) * 8 ≤ 140737488355328; omega) ?_)) | (show drawK _ 6 _ _ _ _ _ _; (refine draw_quiet tabOk mixed (by kernel_rfl) ?_)) | (show Wp _ _ _ _ _ _ _; (refine Wp.go tabOk rfl ?_)) | (show @cmpK _ _ _; (first | refine cmp_yes (by omega) ?_ | refine cmp_no (by omega) ?_ | (refine cmp_both ?_ ?_ <;> intro _))) | (show wrapK _ _ _; (refine wrap_i64 (by omega) (by omega) ?_)) | (show leK _ _ _; (refine le_of (by first | exact Nat.le_refl _ | omega) ?_)) | (show roomK _ _ _; (refine room_of (by first | omega | (dsimp only; omega)) ?_)) | (show ltK _ _ _; (refine lt_of (by omega) ?_)) | (show _ ∧ _; (refine ⟨?_, ?_⟩)) | (show keepK _ _ _ _ _; (refine keep_of (by first | exact List.Sublist.refl _ | exact List.Sublist.cons _ (List.Sublist.refl _) | exact List.Sublist.cons _ (List.Sublist.cons _ (List.Sublist.refl _)) | exact List.Sublist.cons _ (List.Sublist.cons _ (List.Sublist.cons _ (List.Sublist.refl _)))) (by first | exact (fun _ _ h => h) | exact (fun _ _ h => h.1) | exact (fun _ _ h => h.1.1)) ?_)) | (show ownK _ _ _ _ _; (refine own_keep ?_)) | (show apK _ _; (refine ap_old ?_))))
            all_goals (conv => whnf)
            exact ⟨(i + 1, k + 1), [(2, some 4)], ⟨hli, by show k + 1 = cc * n + (i + 1); omega⟩, by show n - (i + 1) < n - i; omega, rfl, ⟨rfl, rfl, rfl, rfl, rfl, rfl, rfl, rfl, rfl, rfl, trivial⟩, ⟨by show (4, Ent.rows (ints (rangeL n n (k + 1))) 1 3) ∈ _; rw [rangeL_succ]; exact ints_snocS _ _ (rangeL_length n n k).symm, trivial⟩, fun _ _ h => h⟩
          · (repeat' ((conv => whnf) <;> first | (show drawK _ 6 _ _ _ _ _ _; (refine draw_quiet tabOk mixed (by kernel_rfl) ?_)) | (show Wp _ _ _ _ _ _ _; (refine Wp.go tabOk rfl ?_)) | (show @cmpK _ _ _; (first | refine cmp_yes (by omega) ?_ | refine cmp_no (by omega) ?_ | (refine cmp_both ?_ ?_ <;> intro _))) | (show wrapK _ _ _; (refine wrap_i64 (by omega) (by omega) ?_)) | (show leK _ _ _; (refine le_of (by first | exact Nat.le_refl _ | omega) ?_)) | (show roomK _ _ _; (refine room_of (by first | omega | (dsimp only; omega)) ?_)) | (show ltK _ _ _; (refine lt_of (by omega) ?_)) | (show _ ∧ _; (refine ⟨?_, ?_⟩)) | (show keepK _ _ _ _ _; (refine keep_of (by first | exact List.Sublist.refl _ | exact List.Sublist.cons _ (List.Sublist.refl _) | exact List.Sublist.cons _ (List.Sublist.cons _ (List.Sublist.refl _)) | exact List.Sublist.cons _ (List.Sublist.cons _ (List.Sublist.cons _ (List.Sublist.refl _)))) (by first | exact (fun _ _ h => h) | exact (fun _ _ h => h.1) | exact (fun _ _ h => h.1.1)) ?_)) | (show ownK _ _ _ _ _; (refine own_keep ?_)) | (show apK _ _; (refine ap_old ?_))))
            all_goals (conv => whnf)
            exact ⟨(cc + 1, k), [(1, some 2)], ⟨hlt, by show k = (cc + 1) * n; rw [Nat.succ_mul]; omega⟩, by show c - (cc + 1) < c - cc; omega, rfl, ⟨rfl, rfl, rfl, rfl, rfl, rfl, rfl, trivial⟩, ⟨List.mem_cons_self, trivial⟩, fun _ _ h => h⟩
        · have hcc2 : cc = c := by omega
          rw [hcc2, hn] at hm
          have hpb := placeL_bd (i := n - 1) (n := n) hs1 hsp (by omega) hn64 hp2
          have hlast := rangeL_getD n n (k := n) (i := n - 1) (by omega)
          have hll := rangeL_length n n n
          have hm' := hm.symm
          subst hm'
          (repeat' ((conv => whnf) <;> first | (show idxRowK _ _ _ _ _ _; (refine idxRow_of (n - 1) (by omega) (by omega) (Nat.le_of_eq (by rw [ints_length, rangeL_length])) ?_)) | (show rowK _ _ _ _; (refine ro_own (xs := rangeL n n n) (j := n - 1) (by omega) ?_)) | (show drawK _ 6 _ _ _ _ _ _; (refine draw_quiet tabOk mixed (by kernel_rfl) ?_)) | (show Wp _ _ _ _ _ _ _; (refine Wp.go tabOk rfl ?_)) | (show @cmpK _ _ _; (first | refine cmp_yes (by omega) ?_ | refine cmp_no (by omega) ?_ | (refine cmp_both ?_ ?_ <;> intro _))) | (show wrapK _ _ _; (refine wrap_i64 (by omega) (by omega) ?_)) | (show leK _ _ _; (refine le_of (by first | exact Nat.le_refl _ | omega) ?_)) | (show roomK _ _ _; (refine room_of (by first | omega | (dsimp only; omega)) ?_)) | (show ltK _ _ _; (refine lt_of (by omega) ?_)) | (show _ ∧ _; (refine ⟨?_, ?_⟩)) | (show keepK _ _ _ _ _; (refine keep_of (by first | exact List.Sublist.refl _ | exact List.Sublist.cons _ (List.Sublist.refl _) | exact List.Sublist.cons _ (List.Sublist.cons _ (List.Sublist.refl _)) | exact List.Sublist.cons _ (List.Sublist.cons _ (List.Sublist.cons _ (List.Sublist.refl _)))) (by first | exact (fun _ _ h => h) | exact (fun _ _ h => h.1) | exact (fun _ _ h => h.1.1)) ?_)) | (show ownK _ _ _ _ _; (refine own_keep ?_)) | (show apK _ _; (refine ap_old ?_))))
          all_goals (conv => whnf)
          · exact slots_fail (fun _ _ h => h) rfl (if_pos (by omega))
          · exact slots_end (i := 1) (fun _ _ h => h) rfl hll.symm (range_fits hs1 hsp hn64 hp2) (by omega) (by repeat (first | exact List.mem_cons_self | apply List.mem_cons_of_mem)) (if_neg (by omega))
end Go.Proofs.Ytdmkdogakbipbaa

/- LT -/
namespace Go.Proofs.Ytdmkdogakbipbaa
open Go.RowKit Go.SX
end Go.Proofs.Ytdmkdogakbipbaa

/- LU -/
namespace Go.Proofs.Ytdmkdogakbipbaa
open Go.RowKit Go.SX
theorem intsF_ok {l1 : SX.Loc} {R : Nat → Prop} {w : World} {xs : List Int} (hf : ∀ x ∈ xs, i64 x) (h1 : xs.length ≤ l1.cap) (h2 : xs.length ≤ 1000000) (h : ((rowsA l1.base 1 (ints xs)).past 0).holds R w) : (⟨l1.base, l1.cap, xs⟩ : IntsV).ok w :=
  ⟨rowsA_in h, hf, h1, h2⟩
theorem intsP_ok {x : IntsV} {N : Nat} {R : Nat → Prop} {w : World} (hs : x.sane) (h : ((intsA x).past N).holds R w) : x.ok w := intsA_ok hs ((intsA x).mono h (fun _ hb => hb.1))
theorem diagA_ok {x : ShapesV} {D : List (List Int)} {R : Nat → Prop} {w : World} (hx : DiagIs D x) (hl : D.length ≤ 1000000) (h : (diagA x).holds R w) : x.okB w := ⟨rowsA_in h.1, fun u hu => intsA_ok (hx.sane u hu) (h.2 u hu), by have := congrArg List.length hx.rows; rw [List.length_map] at this; omega⟩
theorem diagP_ok {x : ShapesV} {N : Nat} {D : List (List Int)} {R : Nat → Prop} {w : World} (hx : DiagIs D x) (hl : D.length ≤ 1000000) (h : ((diagA x).past N).holds R w) : x.okB w := diagA_ok hx hl ((diagA x).mono h (fun _ hb => hb.1))
theorem slots_f : slotsL [2, 3, 1] 1 8 = ([0, 1, 2, 4, 5, 6], 0) := by
  have e : entries [2, 3, 1] = 6 := by unfold entries; rfl
  rw [slotsL, e]; decide
theorem diag_f : diagL [[5, 7]] [0, 1] [0] 2 = ([[5, 0], [7, 0]], 0) := by decide
theorem call_slots {cx : Cx} {f : FuncId} {args : List SV} {H : Heap} {S : Asn} {nx : Nat} {K : SV → Heap → Asn → Nat → Prop} (r : List Int × Int) (hf : ∀ ar w, (callFunc f ar).run cx.P w = .ok (.enter f ar) w)
    (hc : ∀ ρ w, Abs cx.B ρ nx H S w → Calls cx.P f (SV.rfs ρ args).toArray w (SlotsPost w r)) (h : ∀ x : IntsV, x.xs = r.1 → x.sane → K (.c (.tuple #[x.val, .int .i64 r.2])) H (S.and ((intsA x).past cx.B.w0.heap.size)) nx) : callK cx f args H S nx K := by
  refine call_past hf (fun x : IntsV => .tuple #[x.val, .int .i64 r.2]) intsA (fun x => x.xs = r.1 ∧ x.sane) (fun ρ w' hw => (hc ρ w' hw).mono ?_) (fun x hx => h x hx.1 hx.2)
  rintro e w2 ⟨x, h1, h2, h3, h4⟩
  exact ⟨x, h1, h2, h3, h4⟩
theorem call_diag {cx : Cx} {f : FuncId} {args : List SV} {H : Heap} {S : Asn} {nx : Nat} {K : SV → Heap → Asn → Nat → Prop} (r : List (List Int) × Int) (hf : ∀ ar w, (callFunc f ar).run cx.P w = .ok (.enter f ar) w)
    (hc : ∀ ρ w, Abs cx.B ρ nx H S w → Calls cx.P f (SV.rfs ρ args).toArray w (DiagPost w r.1 r.2)) (h : ∀ x : ShapesV, DiagIs r.1 x → (0 < x.l.length → ∃ a, x.base = some a) → K (.c (.tuple #[x.val, .int .i64 r.2])) H (S.and ((diagA x).past cx.B.w0.heap.size)) nx) : callK cx f args H S nx K := by
  refine call_past hf (fun x : ShapesV => .tuple #[x.val, .int .i64 r.2]) diagA (fun x => DiagIs r.1 x ∧ (0 < x.l.length → ∃ a, x.base = some a)) (fun ρ w' hw => (hc ρ w' hw).mono ?_) (fun x hx => h x hx.1 hx.2)
  rintro e w2 ⟨x, h1, h2, h3, h4⟩
  exact ⟨x, ⟨h1, fun h0 => base_some (j := 0) (rowsA_in h4.1) (by rw [shRows_length]; exact h0)⟩, h2, h3, h4⟩
theorem i64s {l : List Int} (h : (l.all fun x => decide (-1000 ≤ x ∧ x ≤ 1000)) = true) : ∀ x ∈ l, i64 x := fun x hx => by
  have := of_decide_eq_true (List.all_eq_true.1 h x hx)
  exact ⟨by omega, by omega⟩
set_option maxRecDepth 20000 in
set_option maxHeartbeats 4000000 in
theorem fixed19_any (w : World) : Calls Try.prog 27 #[] w fun e w' => e = .returned (.bool true) ∧ Ext w w' := by
  refine calls_of tab tabOk Try.func27 rfl rfl rfl [] (fun _ => ⟨none, 0⟩) [] [] (baseA w) 0 rfl rfl (by show 0 ≤ _; decide) (abs_base w) ?_
  (repeat' ((conv => whnf) <;> first | (show Wp _ _ _ _ _ _ _; (refine Wp.go tabOk rfl ?_)) | (show @cmpK _ _ _; (first | refine cmp_yes (by omega) ?_ | refine cmp_no (by omega) ?_ | (refine cmp_both ?_ ?_ <;> intro _))) | (show wrapK _ _ _; (refine wrap_i64 (by omega) (by omega) ?_)) | (show leK _ _ _; (refine le_of (by first | exact Nat.le_refl _ | omega) ?_)) | (show roomK _ _ _; (refine room_of (by first | omega | (dsimp only; omega)) ?_)) | (show ltK _ _ _; (refine lt_of (by omega) ?_)) | (show _ ∧ _; (refine ⟨?_, ?_⟩)) | (show keepK _ _ _ _ _; (refine keep_of (by first | exact List.Sublist.refl _ | exact List.Sublist.cons _ (List.Sublist.refl _) | exact List.Sublist.cons _ (List.Sublist.cons _ (List.Sublist.refl _)) | exact List.Sublist.cons _ (List.Sublist.cons _ (List.Sublist.cons _ (List.Sublist.refl _)))) (by first | exact (fun _ _ h => h) | exact (fun _ _ h => h.1) | exact (fun _ _ h => h.1.1)) ?_)) | (show apK _ _; (refine ap_old ?_))))
  refine own_freeze 0 (fun _ _ _ _ hb => absurd hb (Nat.not_lt_zero _)) (fun l1 hl1 => ?_)
  (repeat' ((conv => whnf) <;> first | (show callK _ 28 _ _ _ _ _; (refine call_slots ([0, 1, 2, 4, 5, 6], 0) Try.call28 (fun ρ w' hw => by rw [← slots_f]; exact slots_any w' ⟨l1.base, l1.cap, [2, 3, 1]⟩ (holds_of_abs hw fun R h => rowsA_in h.2) 1 8) (fun x hx hxs => ?_))) | (show Wp _ _ _ _ _ _ _; (refine Wp.go tabOk rfl ?_)) | (show @cmpK _ _ _; (first | refine cmp_yes (by omega) ?_ | refine cmp_no (by omega) ?_ | (refine cmp_both ?_ ?_ <;> intro _))) | (show wrapK _ _ _; (refine wrap_i64 (by omega) (by omega) ?_)) | (show leK _ _ _; (refine le_of (by first | exact Nat.le_refl _ | omega) ?_)) | (show roomK _ _ _; (refine room_of (by first | omega | (dsimp only; omega)) ?_)) | (show ltK _ _ _; (refine lt_of (by omega) ?_)) | (show _ ∧ _; (refine ⟨?_, ?_⟩)) | (show keepK _ _ _ _ _; (refine keep_of (by first | exact List.Sublist.refl _ | exact List.Sublist.cons _ (List.Sublist.refl _) | exact List.Sublist.cons _ (List.Sublist.cons _ (List.Sublist.refl _)) | exact List.Sublist.cons _ (List.Sublist.cons _ (List.Sublist.cons _ (List.Sublist.refl _)))) (by first | exact (fun _ _ h => h) | exact (fun _ _ h => h.1) | exact (fun _ _ h => h.1.1)) ?_)) | (show apK _ _; (refine ap_old ?_))))
  obtain ⟨xb, xc, xl⟩ := x
  simp only at hx
  subst hx
  (repeat' ((conv => whnf) <;> first | (show Wp _ _ _ _ _ _ _; (refine Wp.go tabOk rfl ?_)) | (show @cmpK _ _ _; (first | refine cmp_yes (by omega) ?_ | refine cmp_no (by omega) ?_ | (refine cmp_both ?_ ?_ <;> intro _))) | (show wrapK _ _ _; (refine wrap_i64 (by omega) (by omega) ?_)) | (show leK _ _ _; (refine le_of (by first | exact Nat.le_refl _ | omega) ?_)) | (show roomK _ _ _; (refine room_of (by first | omega | (dsimp only; omega)) ?_)) | (show ltK _ _ _; (refine lt_of (by omega) ?_)) | (show _ ∧ _; (refine ⟨?_, ?_⟩)) | (show keepK _ _ _ _ _; (refine keep_of (by first | exact List.Sublist.refl _ | exact List.Sublist.cons _ (List.Sublist.refl _) | exact List.Sublist.cons _ (List.Sublist.cons _ (List.Sublist.refl _)) | exact List.Sublist.cons _ (List.Sublist.cons _ (List.Sublist.cons _ (List.Sublist.refl _)))) (by first | exact (fun _ _ h => h) | exact (fun _ _ h => h.1) | exact (fun _ _ h => h.1.1)) ?_)) | (show apK _ _; (refine ap_old ?_))))
  refine own_freeze 0 (fun _ _ _ _ hb => absurd hb (Nat.not_lt_zero _)) (fun l2 hl2 => ?_)
  (repeat' ((conv => whnf) <;> first | (show Wp _ _ _ _ _ _ _; (refine Wp.go tabOk rfl ?_)) | (show @cmpK _ _ _; (first | refine cmp_yes (by omega) ?_ | refine cmp_no (by omega) ?_ | (refine cmp_both ?_ ?_ <;> intro _))) | (show wrapK _ _ _; (refine wrap_i64 (by omega) (by omega) ?_)) | (show leK _ _ _; (refine le_of (by first | exact Nat.le_refl _ | omega) ?_)) | (show roomK _ _ _; (refine room_of (by first | omega | (dsimp only; omega)) ?_)) | (show ltK _ _ _; (refine lt_of (by omega) ?_)) | (show _ ∧ _; (refine ⟨?_, ?_⟩)) | (show keepK _ _ _ _ _; (refine keep_of (by first | exact List.Sublist.refl _ | exact List.Sublist.cons _ (List.Sublist.refl _) | exact List.Sublist.cons _ (List.Sublist.cons _ (List.Sublist.refl _)) | exact List.Sublist.cons _ (List.Sublist.cons _ (List.Sublist.cons _ (List.Sublist.refl _)))) (by first | exact (fun _ _ h => h) | exact (fun _ _ h => h.1) | exact (fun _ _ h => h.1.1)) ?_)) | (show apK _ _; (refine ap_old ?_))))
  refine own_freeze 0 (fun _ _ _ _ hb => absurd hb (Nat.not_lt_zero _)) (fun l3 hl3 => ?_)
  (repeat' ((conv => whnf) <;> first | (show Wp _ _ _ _ _ _ _; (refine Wp.go tabOk rfl ?_)) | (show @cmpK _ _ _; (first | refine cmp_yes (by omega) ?_ | refine cmp_no (by omega) ?_ | (refine cmp_both ?_ ?_ <;> intro _))) | (show wrapK _ _ _; (refine wrap_i64 (by omega) (by omega) ?_)) | (show leK _ _ _; (refine le_of (by first | exact Nat.le_refl _ | omega) ?_)) | (show roomK _ _ _; (refine room_of (by first | omega | (dsimp only; omega)) ?_)) | (show ltK _ _ _; (refine lt_of (by omega) ?_)) | (show _ ∧ _; (refine ⟨?_, ?_⟩)) | (show keepK _ _ _ _ _; (refine keep_of (by first | exact List.Sublist.refl _ | exact List.Sublist.cons _ (List.Sublist.refl _) | exact List.Sublist.cons _ (List.Sublist.cons _ (List.Sublist.refl _)) | exact List.Sublist.cons _ (List.Sublist.cons _ (List.Sublist.cons _ (List.Sublist.refl _)))) (by first | exact (fun _ _ h => h) | exact (fun _ _ h => h.1) | exact (fun _ _ h => h.1.1)) ?_)) | (show apK _ _; (refine ap_old ?_))))
  refine own_freeze 0 (fun _ _ _ _ hb => absurd hb (Nat.not_lt_zero _)) (fun l4 hl4 => ?_)
  (repeat' ((conv => whnf) <;> first | (show Wp _ _ _ _ _ _ _; (refine Wp.go tabOk rfl ?_)) | (show @cmpK _ _ _; (first | refine cmp_yes (by omega) ?_ | refine cmp_no (by omega) ?_ | (refine cmp_both ?_ ?_ <;> intro _))) | (show wrapK _ _ _; (refine wrap_i64 (by omega) (by omega) ?_)) | (show leK _ _ _; (refine le_of (by first | exact Nat.le_refl _ | omega) ?_)) | (show roomK _ _ _; (refine room_of (by first | omega | (dsimp only; omega)) ?_)) | (show ltK _ _ _; (refine lt_of (by omega) ?_)) | (show _ ∧ _; (refine ⟨?_, ?_⟩)) | (show keepK _ _ _ _ _; (refine keep_of (by first | exact List.Sublist.refl _ | exact List.Sublist.cons _ (List.Sublist.refl _) | exact List.Sublist.cons _ (List.Sublist.cons _ (List.Sublist.refl _)) | exact List.Sublist.cons _ (List.Sublist.cons _ (List.Sublist.cons _ (List.Sublist.refl _)))) (by first | exact (fun _ _ h => h) | exact (fun _ _ h => h.1) | exact (fun _ _ h => h.1.1)) ?_)) | (show apK _ _; (refine ap_old ?_))))
  refine own_freeze 0 (fun _ _ _ _ hb => absurd hb (Nat.not_lt_zero _)) (fun l5 hl5 => ?_)
  (repeat' ((conv => whnf) <;> first | (show callK _ 31 _ _ _ _ _; (refine call_diag ([[5, 0], [7, 0]], 0) Try.call31 (fun ρ w' hw => by rw [← diag_f]; exact diag_any w' ⟨l3.base, l3.cap, [⟨l2.base, l2.cap, [5, 7]⟩]⟩ (holds_of_abs hw fun R h => ⟨rowsA_in h.1.1.2, fun u hu => by rw [List.mem_singleton.1 hu]; exact intsF_ok (i64s rfl) hl2 (show 2 ≤ 1000000 by decide) h.1.1.1.2, (show 1 ≤ 1000000 by decide)⟩) ⟨l4.base, l4.cap, [0, 1]⟩ ⟨l5.base, l5.cap, [0]⟩ (holds_of_abs hw fun R h => intsF_ok (i64s rfl) hl4 (show 2 ≤ 1000000 by decide) h.1.2) (holds_of_abs hw fun R h => intsF_ok (i64s rfl) hl5 (show 1 ≤ 1000000 by decide) h.2) 2 ⟨by decide, by decide⟩) (fun y hy hyb => ?_))) | (show Wp _ _ _ _ _ _ _; (refine Wp.go tabOk rfl ?_)) | (show @cmpK _ _ _; (first | refine cmp_yes (by omega) ?_ | refine cmp_no (by omega) ?_ | (refine cmp_both ?_ ?_ <;> intro _))) | (show wrapK _ _ _; (refine wrap_i64 (by omega) (by omega) ?_)) | (show leK _ _ _; (refine le_of (by first | exact Nat.le_refl _ | omega) ?_)) | (show roomK _ _ _; (refine room_of (by first | omega | (dsimp only; omega)) ?_)) | (show ltK _ _ _; (refine lt_of (by omega) ?_)) | (show _ ∧ _; (refine ⟨?_, ?_⟩)) | (show keepK _ _ _ _ _; (refine keep_of (by first | exact List.Sublist.refl _ | exact List.Sublist.cons _ (List.Sublist.refl _) | exact List.Sublist.cons _ (List.Sublist.cons _ (List.Sublist.refl _)) | exact List.Sublist.cons _ (List.Sublist.cons _ (List.Sublist.cons _ (List.Sublist.refl _)))) (by first | exact (fun _ _ h => h) | exact (fun _ _ h => h.1) | exact (fun _ _ h => h.1.1)) ?_)) | (show apK _ _; (refine ap_old ?_))))
  obtain ⟨yb, yc, yl⟩ := y
  obtain ⟨u, v, rfl, hu, hv⟩ : ∃ u v, yl = [u, v] ∧ u.xs = [5, 0] ∧ v.xs = [7, 0] := by
    have h := hy.rows
    have h2 : yl.length = 2 := by have := congrArg List.length h; simpa using this
    match yl, h2, h with
    | [u, v], _, h => exact ⟨u, v, rfl, by simpa using (List.cons.inj h).1, by simpa using (List.cons.inj (List.cons.inj h).2).1⟩
  obtain ⟨a, rfl⟩ : ∃ a, yb = some a := hyb (show 0 < 2 by decide)
  have hyr : ∀ {R : Nat → Prop} {w' : World}, ((diagA ⟨some a, yc, [u, v]⟩).past w.heap.size).holds R w' → RowsI w' (some a) 1 (shRows [u, v]) := fun h => (diagP_ok hy (show 2 ≤ 1000000 by decide) h).rows
  (repeat' ((conv => whnf) <;> first | (show @cmpK _ _ _; (refine cmp_yes rfl ?_)) | (show Wp _ _ _ _ _ _ _; (refine Wp.go tabOk rfl ?_)) | (show @cmpK _ _ _; (first | refine cmp_yes (by omega) ?_ | refine cmp_no (by omega) ?_ | (refine cmp_both ?_ ?_ <;> intro _))) | (show wrapK _ _ _; (refine wrap_i64 (by omega) (by omega) ?_)) | (show leK _ _ _; (refine le_of (by first | exact Nat.le_refl _ | omega) ?_)) | (show roomK _ _ _; (refine room_of (by first | omega | (dsimp only; omega)) ?_)) | (show ltK _ _ _; (refine lt_of (by omega) ?_)) | (show _ ∧ _; (refine ⟨?_, ?_⟩)) | (show keepK _ _ _ _ _; (refine keep_of (by first | exact List.Sublist.refl _ | exact List.Sublist.cons _ (List.Sublist.refl _) | exact List.Sublist.cons _ (List.Sublist.cons _ (List.Sublist.refl _)) | exact List.Sublist.cons _ (List.Sublist.cons _ (List.Sublist.cons _ (List.Sublist.refl _)))) (by first | exact (fun _ _ h => h) | exact (fun _ _ h => h.1) | exact (fun _ _ h => h.1.1)) ?_)) | (show apK _ _; (refine ap_old ?_))))
  refine own_freeze 0 (fun _ _ _ _ hb => absurd hb (Nat.not_lt_zero _)) (fun l6 hl6 => ?_)
  (repeat' ((conv => whnf) <;> first | (show @cmpK _ _ _; (refine cmp_yes rfl ?_)) | (show idxK _ _ _ _ _; (first | refine idx_of a 0 rfl rfl (show 0 < 2 by decide) ?_)) | (show roK _ _ _; (first | refine ro_row0 (fun R w' h => hyr h.1.2) [u.val] u.val rfl rfl ?_)) | (show callK _ 26 _ _ _ _ _; (refine call_pure (f := 26) Try.call26 (.bool true) (fun ρ w' hw => by have := same_any w' ⟨xb, xc, [0, 1, 2, 4, 5, 6]⟩ ⟨l6.base, l6.cap, [0, 1, 2, 4, 5, 6]⟩ (holds_of_abs hw fun R h => intsP_ok hxs h.1.1.1.1.1.1.2) (holds_of_abs hw fun R h => intsF_ok (i64s rfl) hl6 (show 6 ≤ 1000000 by decide) h.2); exact this) ?_)) | (show Wp _ _ _ _ _ _ _; (refine Wp.go tabOk rfl ?_)) | (show @cmpK _ _ _; (first | refine cmp_yes (by omega) ?_ | refine cmp_no (by omega) ?_ | (refine cmp_both ?_ ?_ <;> intro _))) | (show wrapK _ _ _; (refine wrap_i64 (by omega) (by omega) ?_)) | (show leK _ _ _; (refine le_of (by first | exact Nat.le_refl _ | omega) ?_)) | (show roomK _ _ _; (refine room_of (by first | omega | (dsimp only; omega)) ?_)) | (show ltK _ _ _; (refine lt_of (by omega) ?_)) | (show _ ∧ _; (refine ⟨?_, ?_⟩)) | (show keepK _ _ _ _ _; (refine keep_of (by first | exact List.Sublist.refl _ | exact List.Sublist.cons _ (List.Sublist.refl _) | exact List.Sublist.cons _ (List.Sublist.cons _ (List.Sublist.refl _)) | exact List.Sublist.cons _ (List.Sublist.cons _ (List.Sublist.cons _ (List.Sublist.refl _)))) (by first | exact (fun _ _ h => h) | exact (fun _ _ h => h.1) | exact (fun _ _ h => h.1.1)) ?_)) | (show apK _ _; (refine ap_old ?_))))
  refine own_freeze 0 (fun _ _ _ _ hb => absurd hb (Nat.not_lt_zero _)) (fun l7 hl7 => ?_)
  (repeat' ((conv => whnf) <;> first | (show @cmpK _ _ _; (refine cmp_yes rfl ?_)) | (show idxK _ _ _ _ _; (first | refine idx_of a 1 rfl rfl (show 1 < 2 by decide) ?_)) | (show roK _ _ _; (first | refine ro_row0 (fun R w' h => hyr h.1.1.2) [v.val] v.val rfl rfl ?_)) | (show callK _ 26 _ _ _ _ _; (refine call_pure (f := 26) Try.call26 (.bool true) (fun ρ w' hw => by have := same_any w' u ⟨l7.base, l7.cap, [5, 0]⟩ (holds_of_abs hw fun R h => (diagP_ok hy (show 2 ≤ 1000000 by decide) h.1.1.2).each u (List.mem_cons_self)) (holds_of_abs hw fun R h => intsF_ok (i64s rfl) hl7 (show 2 ≤ 1000000 by decide) h.2); rw [decide_eq_true (show u.xs = [5, 0] from hu)] at this; exact this) ?_)) | (show Wp _ _ _ _ _ _ _; (refine Wp.go tabOk rfl ?_)) | (show @cmpK _ _ _; (first | refine cmp_yes (by omega) ?_ | refine cmp_no (by omega) ?_ | (refine cmp_both ?_ ?_ <;> intro _))) | (show wrapK _ _ _; (refine wrap_i64 (by omega) (by omega) ?_)) | (show leK _ _ _; (refine le_of (by first | exact Nat.le_refl _ | omega) ?_)) | (show roomK _ _ _; (refine room_of (by first | omega | (dsimp only; omega)) ?_)) | (show ltK _ _ _; (refine lt_of (by omega) ?_)) | (show _ ∧ _; (refine ⟨?_, ?_⟩)) | (show keepK _ _ _ _ _; (refine keep_of (by first | exact List.Sublist.refl _ | exact List.Sublist.cons _ (List.Sublist.refl _) | exact List.Sublist.cons _ (List.Sublist.cons _ (List.Sublist.refl _)) | exact List.Sublist.cons _ (List.Sublist.cons _ (List.Sublist.cons _ (List.Sublist.refl _)))) (by first | exact (fun _ _ h => h) | exact (fun _ _ h => h.1) | exact (fun _ _ h => h.1.1)) ?_)) | (show apK _ _; (refine ap_old ?_))))
  refine own_freeze 0 (fun _ _ _ _ hb => absurd hb (Nat.not_lt_zero _)) (fun l8 hl8 => ?_)
  (repeat' ((conv => whnf) <;> first | (show @cmpK _ _ _; (refine cmp_yes rfl ?_)) | (show callK _ 26 _ _ _ _ _; (refine call_pure (f := 26) Try.call26 (.bool true) (fun ρ w' hw => by have := same_any w' v ⟨l8.base, l8.cap, [7, 0]⟩ (holds_of_abs hw fun R h => (diagP_ok hy (show 2 ≤ 1000000 by decide) h.1.1.1.2).each v (List.mem_cons_of_mem _ List.mem_cons_self)) (holds_of_abs hw fun R h => intsF_ok (i64s rfl) hl8 (show 2 ≤ 1000000 by decide) h.2); rw [decide_eq_true (show v.xs = [7, 0] from hv)] at this; exact this) ?_)) | (show Wp _ _ _ _ _ _ _; (refine Wp.go tabOk rfl ?_)) | (show @cmpK _ _ _; (first | refine cmp_yes (by omega) ?_ | refine cmp_no (by omega) ?_ | (refine cmp_both ?_ ?_ <;> intro _))) | (show wrapK _ _ _; (refine wrap_i64 (by omega) (by omega) ?_)) | (show leK _ _ _; (refine le_of (by first | exact Nat.le_refl _ | omega) ?_)) | (show roomK _ _ _; (refine room_of (by first | omega | (dsimp only; omega)) ?_)) | (show ltK _ _ _; (refine lt_of (by omega) ?_)) | (show _ ∧ _; (refine ⟨?_, ?_⟩)) | (show keepK _ _ _ _ _; (refine keep_of (by first | exact List.Sublist.refl _ | exact List.Sublist.cons _ (List.Sublist.refl _) | exact List.Sublist.cons _ (List.Sublist.cons _ (List.Sublist.refl _)) | exact List.Sublist.cons _ (List.Sublist.cons _ (List.Sublist.cons _ (List.Sublist.refl _)))) (by first | exact (fun _ _ h => h) | exact (fun _ _ h => h.1) | exact (fun _ _ h => h.1.1)) ?_)) | (show ownK _ _ _ _ _; (refine own_keep ?_)) | (show apK _ _; (refine ap_old ?_))))
  conv => whnf
  exact ends_bool (B := ⟨w, []⟩) (fun R w' h => h.1.1.1.1.1.1.1.1.1.1) rfl rfl
end Go.Proofs.Ytdmkdogakbipbaa

/- LY -/
namespace Go.Proofs.Ytdmkdogakbipbaa
open Go.RowKit Go.SX
def stepR (n : Nat) (d : Int) (r : List Int × Bool) (s f w : Int) : List Int × Bool := if (s + d) % n = f then (r.1.set s.toNat w, r.2 || decide (w ≠ 0)) else r
theorem getD_at {l : List Int} {k : Nat} (h : k < l.length) : l.getD k 0 = l[k] := by simp [List.getD, h]
theorem modn {x : Int} {n : Nat} (h0 : 0 ≤ x) (h1 : x < 2 * n) : x % n = if x < n then x else x - n := by
  split
  · exact Int.emod_eq_of_lt h0 (by assumption)
  · have : x = x - n + n := by omega
    rw [this, Int.add_emod_right, Int.emod_eq_of_lt (by omega) (by omega)]; omega
theorem cond_iff {s f : Int} {d n : Nat} (hs : 0 ≤ s ∧ s < n) (hf : 0 ≤ f ∧ f < n) (hd : d < n) : (s + (d : Int)) % n = f ↔ ((f - s + n) % n).toNat = d := by
  rw [modn (x := s + d) (by omega) (by omega), modn (x := f - s + n) (by omega) (by omega)]
  split <;> split <;> omega
structure DRel (n d : Nat) (D : List (List Int)) (r : List Int × Bool) : Prop where
  lenD : D.length = n
  len : r.1.length = n
  is : D.getD d [] = if r.2 then r.1 else []
  zero : r.2 = false → r.1 = List.replicate n 0
theorem getD_set_eq {α : Type} {l : List α} {k : Nat} {x y : α} (h : k < l.length) : (l.set k x).getD k y = x := by simp [List.getD, h]
theorem getD_set_ne {α : Type} {l : List α} {k j : Nat} {x y : α} (h : k ≠ j) : (l.set k x).getD j y = l.getD j y := by simp [List.getD, List.getElem?_set_ne h]
theorem set_same_getD {l : List Int} {k : Nat} (hk : k < l.length) (h : l.getD k 0 = 0) : l.set k 0 = l := by
  apply List.ext_getElem?
  intro i
  by_cases e : k = i
  · subst e
    rw [List.getElem?_set_self hk]
    rw [getD_at hk] at h
    rw [List.getElem?_eq_getElem hk, h]
  · rw [List.getElem?_set_ne e]
theorem DRel.step {n d : Nat} (hd : d < n) {D : List (List Int)} {r : List Int × Bool} (h : DRel n d D r) {s f w : Int} (hs : 0 ≤ s ∧ s < n) (hf : 0 ≤ f ∧ f < n) (hz : (s + (d : Int)) % n = f → r.1.getD s.toNat 0 = 0) : DRel n d (stepP n D s f w) (stepR n d r s f w) := by
  have hsn : s.toNat < n := by omega
  have hc := cond_iff hs hf hd
  obtain ⟨l, b⟩ := r
  obtain ⟨h1, h2, h3, h4⟩ := h
  simp only at h2 h3 h4 hz
  unfold stepP stepR
  by_cases hw : w = 0
  · subst hw
    rw [if_pos rfl]
    split
    · rename_i g
      have := set_same_getD (by omega) (hz g)
      simp only [this]
      exact ⟨h1, h2, by simpa using h3, by simpa using h4⟩
    · exact ⟨h1, h2, h3, h4⟩
  · rw [if_neg hw]
    have hd2 : ((f - s + n) % n).toNat < n := by
      have := Int.emod_nonneg (f - s + n) (show (n : Int) ≠ 0 by omega)
      have := Int.emod_lt_of_pos (f - s + n) (show (0 : Int) < n by omega)
      omega
    by_cases g : (s + (d : Int)) % n = f
    · rw [if_pos g, hc.1 g]
      refine ⟨by rw [List.length_set]; exact h1, by rw [List.length_set]; exact h2, ?_, fun e => by simp [hw] at e⟩
      rw [getD_set_eq (by omega), h3]
      cases b with
      | true =>
        have hne : l ≠ [] := fun e => by rw [e] at h2; simp at h2; omega
        simp [hne]
      | false =>
        rw [h4 rfl]
        simp [hw]
    · rw [if_neg g]
      have hne : ((f - s + n) % n).toNat ≠ d := fun e => g (hc.2 e)
      exact ⟨by rw [List.length_set]; exact h1, h2, by rw [getD_set_ne hne]; exact h3, h4⟩
end Go.Proofs.Ytdmkdogakbipbaa

/- LZ -/
namespace Go.Proofs.Ytdmkdogakbipbaa
open Go.RowKit Go.SX
end Go.Proofs.Ytdmkdogakbipbaa

/- MA -/
namespace Go.Proofs.Ytdmkdogakbipbaa
open Go.RowKit Go.SX
end Go.Proofs.Ytdmkdogakbipbaa

/- LV -/
namespace Go.Proofs.Ytdmkdogakbipbaa
open Go.SX Go.ChangeShapes Go.WideShapes Go.ChangeAt Go.RowKit
theorem ownL : ownKnob Try.prog.godebug = none := by kernel_rfl
theorem laidOutL : laidOutB Try.prog = true := by kernel_rfl
theorem wf_i64L {x : Int} (h : (Lit.int .i64 x).wf = true) : -9223372036854775808 ≤ x ∧ x ≤ 9223372036854775807 := by
  simp [Lit.wf, IntKind.min, IntKind.max, IntKind.signed, IntKind.bits] at h
  omega
theorem opens_ofL {H : Type} {enc : TypeId × Value → H} {P : Program} {w : World} {t : TypeId} {Q : List Value → Prop} {base : Nat} {sp : Nat → Bool} {held : Bool} {v : Value} {d : DataW H} {ps : List MemPlace} (h : Opens P w t Q) (ht : DataW.Trod enc P w base sp held t v d ps) : Q v.cells.toList := by
  obtain ⟨n, hn⟩ := ht
  exact h.out enc base sp held n _ _ hn
/-- numbers as they come in -/
structure IntsV.rawL (w : World) (v : IntsV) : Prop where
  rows : RowsI w v.base 1 (ints v.xs)
  fits : ∀ x ∈ v.xs, -9223372036854775808 ≤ x ∧ x ≤ 9223372036854775807
  room : v.xs.length ≤ v.cap
theorem IntsV.rawL.ok {w : World} {v : IntsV} (h : v.rawL w) (hf : v.xs.length ≤ 1000000) : v.ok w := ⟨h.rows, h.fits, h.room, hf⟩
theorem intsV_ofL {w : World} {v : Value} {base : Option Addr} {cap : Nat} {xs : List Int} (h : IntsQ w v base cap xs) : ∃ u : IntsV, v = u.val ∧ u.rawL w := by
  obtain ⟨rfl, h1, h2, h3, h4, h5⟩ := h
  exact ⟨⟨base, cap, xs⟩, rfl, h1, fun x hx => wf_i64L (h2 x hx), h3⟩
theorem opens_intsL (w : World) : Opens Try.prog w 33 fun cs => ∃ u : IntsV, cs = [u.val] ∧ u.rawL w := by
  refine Opens.mono (opens_ints (e := 3) Try.underlying33 Try.underlying3 (by kernel_rfl)) ?_
  rintro cs ⟨v, base, cap, xs, rfl, h⟩
  obtain ⟨u, rfl, hu⟩ := intsV_ofL h
  exact ⟨u, rfl, hu⟩
theorem trodAll_twoL {H : Type} {enc : TypeId × Value → H} {P : Program} {w : World} {base : Nat} {spare : Nat → Bool} {held : Bool} {t0 t1 : TypeId} {args : Array Value} {ds : List (DataW H)} {ps : List MemPlace} (h : DataW.TrodAll enc P w base spare held [t0, t1] args.toList ds ps) :
    ∃ v0 v1 d0 d1 p0 p1, args = #[v0, v1] ∧ ds = [d0, d1] ∧ DataW.Trod enc P w base spare held t0 v0 d0 p0 ∧ DataW.Trod enc P w base spare held t1 v1 d1 p1 := by
  obtain ⟨v0, vs0, d0, ds0, p0, q0, e0, rfl, rfl, h0, r0⟩ := trodAll_cons h
  obtain ⟨v1, vs1, d1, ds1, p1, q1, rfl, rfl, rfl, h1, r1⟩ := trodAll_cons r0
  obtain ⟨rfl, rfl, rfl⟩ := trodAll_nil r1
  exact ⟨v0, v1, d0, d1, p0, p1, by cases args; simp_all, rfl, h0, h1⟩
end Go.Proofs.Ytdmkdogakbipbaa

/- MB -/
namespace Go.Proofs.Ytdmkdogakbipbaa
open Go.SX Go.ChangeShapes Go.WideShapes Go.ChangeAt Go.RowKit
/-- rows as they come in -/
structure ShapesV.rawL (w : World) (v : ShapesV) : Prop where
  rows : RowsI w v.base 1 (shRows v.l)
  each : ∀ s ∈ v.l, s.rawL w
theorem IntsV.rawL.later {w w' : World} {R : Nat → Prop} {v : IntsV} (h : v.rawL w) (hb : (baseA w).holds R w') : v.rawL w' := ⟨rows_base hb h.rows, h.fits, h.room⟩
theorem ShapesV.rawL.later {w w' : World} {R : Nat → Prop} {v : ShapesV} (h : v.rawL w) (hb : (baseA w).holds R w') : v.rawL w' := ⟨rows_base hb h.rows, fun s hs => (h.each s hs).later hb⟩
set_option maxHeartbeats 1000000 in
theorem sameRows_any (w : World) (x y : ShapesV) (hx : x.okB w) (hy : y.okB w) (he : x.l.map IntsV.xs = y.l.map IntsV.xs) : Calls Try.prog 33 #[x.val, y.val] w fun e w' => e = .returned (.bool true) ∧ Ext w w' := by
  have hl : x.l.length = y.l.length := by have := congrArg List.length he; simpa using this
  have hx1 := hx.few
  have hy1 := hy.few
  refine calls_of tab tabOk Try.func33 rfl rfl rfl [] (fun _ => ⟨none, 0⟩) [.c x.val, .c y.val] [] (baseA w) 0 rfl rfl (by show 2 ≤ _; decide) (abs_base w) ?_
  (repeat' ((conv => whnf) <;> first | (show drawK _ 6 _ _ _ _ _ _; (refine draw_quiet tabOk mixed (by kernel_rfl) ?_)) | (show Wp _ _ _ _ _ _ _; (refine Wp.go tabOk rfl ?_)) | (show @cmpK _ _ _; (first | refine cmp_yes (by omega) ?_ | refine cmp_no (by omega) ?_ | (refine cmp_both ?_ ?_ <;> intro _))) | (show wrapK _ _ _; (refine wrap_i64 (by omega) (by omega) ?_)) | (show leK _ _ _; (refine le_of (by first | exact Nat.le_refl _ | omega) ?_)) | (show roomK _ _ _; (refine room_of (by first | omega | (dsimp only; omega)) ?_)) | (show ltK _ _ _; (refine lt_of (by omega) ?_)) | (show _ ∧ _; (refine ⟨?_, ?_⟩)) | (show keepK _ _ _ _ _; (refine keep_of (by first | exact List.Sublist.refl _ | exact List.Sublist.cons _ (List.Sublist.refl _) | exact List.Sublist.cons _ (List.Sublist.cons _ (List.Sublist.refl _)) | exact List.Sublist.cons _ (List.Sublist.cons _ (List.Sublist.cons _ (List.Sublist.refl _)))) (by first | exact (fun _ _ h => h) | exact (fun _ _ h => h.1) | exact (fun _ _ h => h.1.1)) ?_)) | (show ownK _ _ _ _ _; (refine own_keep ?_)) | (show apK _ _; (refine ap_old ?_))))
  all_goals (conv => whnf)
  all_goals first | (exfalso; omega) | skip
  refine Wp.loop (σ := Nat) 0 (fun i => [(0, .c x.val), (1, .c y.val), (12, .c (.int .i64 x.l.length)), (13, .c (.int .i64 i))]) (fun _ => []) (fun _ => baseA w)
    (fun i => i ≤ x.l.length) (fun i => x.l.length - i) 0 [] (by decide) (fun _ => ⟨rfl, rfl⟩) (Nat.zero_le _) ⟨rfl, ⟨rfl, rfl, rfl, rfl, trivial⟩, trivial, fun _ _ h => h⟩ ?_
  intro i hi
  by_cases hlt : i < x.l.length
  · have hlt2 : i < y.l.length := by omega
    obtain ⟨xa, hxa⟩ : ∃ a, x.base = some a := base_some (j := i) hx.rows (by rw [shRows_length]; exact hlt)
    obtain ⟨ya, hya⟩ : ∃ a, y.base = some a := base_some (j := i) hy.rows (by rw [shRows_length]; exact hlt2)
    have hxy : x.l[i].xs = y.l[i].xs := by
      have := congrArg (fun l : List (List Int) => l[i]?) he
      simpa [hlt, hlt2] using this
    (repeat' ((conv => whnf) <;> first | (show idxK _ _ _ _ _; (first | refine idx_of xa i hxa rfl hlt ?_ | refine idx_of ya i hya rfl hlt2 ?_)) | (show roK _ _ _; (first | refine ro_row0 (xs := shRows x.l) (fun R w' h => by rw [← hxa]; exact rows_base h hx.rows) _ _ (shRows_get hlt) rfl ?_ | refine ro_row0 (xs := shRows y.l) (fun R w' h => by rw [← hya]; exact rows_base h hy.rows) _ _ (shRows_get hlt2) rfl ?_)) | (show callQ _ 26 _ _ _ _ _; (refine callQ_of (f := 26) Try.call26 (.bool true) (fun ρ w' hw => by have := same_any w' x.l[i] y.l[i] (holds_of_abs hw fun R h => (hx.each _ (List.getElem_mem hlt)).later h) (holds_of_abs hw fun R h => (hy.each _ (List.getElem_mem hlt2)).later h); rw [decide_eq_true hxy] at this; exact this) ?_)) | (show callK _ 26 _ _ _ _ _; (refine call_pure (f := 26) Try.call26 (.bool true) (fun ρ w' hw => by have := same_any w' x.l[i] y.l[i] (holds_of_abs hw fun R h => (hx.each _ (List.getElem_mem hlt)).later h) (holds_of_abs hw fun R h => (hy.each _ (List.getElem_mem hlt2)).later h); rw [decide_eq_true hxy] at this; exact this) ?_)) | (show drawK _ 6 _ _ _ _ _ _; (refine draw_quiet tabOk mixed (by kernel_rfl) ?_)) | (show Wp _ _ _ _ _ _ _; (refine Wp.go tabOk rfl ?_)) | (show @cmpK _ _ _; (first | refine cmp_yes (by omega) ?_ | refine cmp_no (by omega) ?_ | (refine cmp_both ?_ ?_ <;> intro _))) | (show wrapK _ _ _; (refine wrap_i64 (by omega) (by omega) ?_)) | (show leK _ _ _; (refine le_of (by first | exact Nat.le_refl _ | omega) ?_)) | (show roomK _ _ _; (refine room_of (by first | omega | (dsimp only; omega)) ?_)) | (show ltK _ _ _; (refine lt_of (by omega) ?_)) | (show _ ∧ _; (refine ⟨?_, ?_⟩)) | (show keepK _ _ _ _ _; (refine keep_of (by first | exact List.Sublist.refl _ | exact List.Sublist.cons _ (List.Sublist.refl _) | exact List.Sublist.cons _ (List.Sublist.cons _ (List.Sublist.refl _)) | exact List.Sublist.cons _ (List.Sublist.cons _ (List.Sublist.cons _ (List.Sublist.refl _)))) (by first | exact (fun _ _ h => h) | exact (fun _ _ h => h.1) | exact (fun _ _ h => h.1.1)) ?_)) | (show ownK _ _ _ _ _; (refine own_keep ?_)) | (show apK _ _; (refine ap_old ?_))))
    all_goals (conv => whnf)
    exact ⟨i + 1, [], hlt, by omega, rfl, ⟨rfl, rfl, rfl, rfl, trivial⟩, trivial, fun _ _ h => h⟩
  · (repeat' ((conv => whnf) <;> first | (show drawK _ 6 _ _ _ _ _ _; (refine draw_quiet tabOk mixed (by kernel_rfl) ?_)) | (show Wp _ _ _ _ _ _ _; (refine Wp.go tabOk rfl ?_)) | (show @cmpK _ _ _; (first | refine cmp_yes (by omega) ?_ | refine cmp_no (by omega) ?_ | (refine cmp_both ?_ ?_ <;> intro _))) | (show wrapK _ _ _; (refine wrap_i64 (by omega) (by omega) ?_)) | (show leK _ _ _; (refine le_of (by first | exact Nat.le_refl _ | omega) ?_)) | (show roomK _ _ _; (refine room_of (by first | omega | (dsimp only; omega)) ?_)) | (show ltK _ _ _; (refine lt_of (by omega) ?_)) | (show _ ∧ _; (refine ⟨?_, ?_⟩)) | (show keepK _ _ _ _ _; (refine keep_of (by first | exact List.Sublist.refl _ | exact List.Sublist.cons _ (List.Sublist.refl _) | exact List.Sublist.cons _ (List.Sublist.cons _ (List.Sublist.refl _)) | exact List.Sublist.cons _ (List.Sublist.cons _ (List.Sublist.cons _ (List.Sublist.refl _)))) (by first | exact (fun _ _ h => h) | exact (fun _ _ h => h.1) | exact (fun _ _ h => h.1.1)) ?_)) | (show ownK _ _ _ _ _; (refine own_keep ?_)) | (show apK _ _; (refine ap_old ?_))))
    all_goals (conv => whnf)
    exact ends_bool (fun _ _ h => h) rfl rfl
end Go.Proofs.Ytdmkdogakbipbaa

/- GT -/
namespace Go.Proofs.Ytdmkdogakbipbaa
open Go.SX Go.ChangeShapes Go.WideShapes Go.ChangeAt Go.RowKit
/-- a field's cells: a number, or numbers -/
def FieldQ (w : World) (f : Field) (cs : List Value) : Prop :=
  (f.type = 3 → ∃ i, (Lit.int .i64 i).wf = true ∧ cs = [.int .i64 i]) ∧ (f.type = 33 → ∃ u : IntsV, cs = [u.val] ∧ u.raw w)
theorem list9 {cs : List Value} (h : cs.length = 9) : ∃ a b c d e f g i j, cs = [a, b, c, d, e, f, g, i, j] := by
  match cs, h with
  | [a, b, c, d, e, f, g, i, j], _ => exact ⟨a, b, c, d, e, f, g, i, j, rfl⟩
theorem c_int : Try.prog.cellsOf 3 = 1 := by kernel_rfl
theorem c_ints : Try.prog.cellsOf 33 = 1 := by kernel_rfl
theorem opens_node (w : World) : Opens Try.prog w 38 fun cs => ∃ n : NodeV, cs = n.cells ∧ n.raw w := by
  have h := opens_struct (P := Try.prog) (w := w) (k := 9) (Q := FieldQ w) Try.underlying38 (by kernel_rfl) (by
    intro f hf
    have hi : ∀ t, t = 3 → Opens Try.prog w t fun cs => (t = 3 → ∃ i, (Lit.int .i64 i).wf = true ∧ cs = [.int .i64 i]) ∧ (t = 33 → ∃ u : IntsV, cs = [u.val] ∧ u.raw w) := by
      rintro t rfl
      exact Opens.mono (opens_int Try.underlying3) fun cs hc => ⟨fun _ => hc, fun h => (by cases h)⟩
    have hs : ∀ t, t = 33 → Opens Try.prog w t fun cs => (t = 3 → ∃ i, (Lit.int .i64 i).wf = true ∧ cs = [.int .i64 i]) ∧ (t = 33 → ∃ u : IntsV, cs = [u.val] ∧ u.raw w) := by
      rintro t rfl
      exact Opens.mono (opens_intsV w) fun cs hc => ⟨fun h => (by cases h), fun _ => hc⟩
    simp only [List.mem_toArray, List.mem_cons, List.not_mem_nil, or_false] at hf
    rcases hf with rfl | rfl | rfl | rfl | rfl | rfl | rfl | rfl | rfl
    all_goals first | (refine Opens.mono (Q' := FieldQ w _) (hi _ rfl) ?_; intro cs h; exact h) | (refine Opens.mono (Q' := FieldQ w _) (hs _ rfl) ?_; intro cs h; exact h))
  refine Opens.mono h ?_
  rintro cs ⟨hl, hf⟩
  obtain ⟨a, b, c, d, e, f, g, i, j, rfl⟩ := list9 hl
  simp only [List.mem_toArray, List.mem_cons, List.not_mem_nil, or_false, forall_eq_or_imp, forall_eq, FieldQ, c_int, c_ints, List.drop_zero, List.drop_succ_cons, List.take_succ_cons, List.take_zero, forall_const, true_and, and_true, reduceCtorEq, Nat.reduceEqDiff, false_implies] at hf
  obtain ⟨⟨x1, w1, e1⟩, ⟨x2, w2, e2⟩, ⟨x3, w3, e3⟩, ⟨x4, e4, w4⟩, ⟨x5, w5, e5⟩, ⟨x6, w6, e6⟩, ⟨x7, w7, e7⟩, ⟨x8, e8, w8⟩, ⟨x9, e9, w9⟩⟩ := hf
  simp only [List.cons.injEq, and_true] at e1 e2 e3 e4 e5 e6 e7 e8 e9
  subst e1 e2 e3 e4 e5 e6 e7 e8 e9
  exact ⟨⟨x1, x2, x3, x4, x5, x6, x7, x8, x9⟩, rfl, w4, w8, w9, wf_i64' w1, wf_i64' w2, wf_i64' w3, wf_i64' w5, wf_i64' w6, wf_i64' w7⟩

end Go.Proofs.Ytdmkdogakbipbaa

/- MS -/
namespace Go.Proofs.Ytdmkdogakbipbaa
open Go.SX Go.ChangeShapes Go.WideShapes Go.ChangeAt Go.RowKit
def rowsD (p : ShapesV × IntsV) : Asn := (diagA p.1).and (intsA p.2)
theorem call_rows {cx : Cx} {f : FuncId} {args : List SV} {H : Heap} {S : Asn} {nx : Nat} {K : SV → Heap → Asn → Nat → Prop} (r : (List (List Int) × List Int) × Int) (hf : ∀ ar w, (callFunc f ar).run cx.P w = .ok (.enter f ar) w)
    (hc : ∀ ρ w, Abs cx.B ρ nx H S w → Calls cx.P f (SV.rfs ρ args).toArray w (RowsPost w r)) (h : ∀ (x : ShapesV) (y : IntsV), DiagIs r.1.1 x → y.xs = r.1.2 → y.sane → K (.c (.tuple #[x.val, y.val, .int .i64 r.2])) H (S.and ((rowsD (x, y)).past cx.B.w0.heap.size)) nx) : callK cx f args H S nx K := by
  refine call_past hf (fun p : ShapesV × IntsV => .tuple #[p.1.val, p.2.val, .int .i64 r.2]) rowsD (fun p => DiagIs r.1.1 p.1 ∧ p.2.xs = r.1.2 ∧ p.2.sane) (fun ρ w' hw => (hc ρ w' hw).mono ?_) (fun p hp => h p.1 p.2 hp.1 hp.2.1 hp.2.2)
  rintro e w2 ⟨x, y, h1, h2, h3, h4, h5⟩
  exact ⟨(x, y), h1, h2, h3, h4, h5⟩
theorem call_ref {cx : Cx} {f : FuncId} {args : List SV} {H : Heap} {S : Asn} {nx : Nat} {K : SV → Heap → Asn → Nat → Prop} (n : NodeV) (r : (List (List Int) × List Int) × Int) (hf : ∀ ar w, (callFunc f ar).run cx.P w = .ok (.enter f ar) w)
    (hc : ∀ ρ w, Abs cx.B ρ nx H S w → Calls cx.P f (SV.rfs ρ args).toArray w (RefPost w n r)) (h : ∀ x : MatV, RefIs n r.1 x → K (.c (.tuple #[x.rows.val, x.bias.val, .int .i64 r.2])) H (S.and ((matD x).past cx.B.w0.heap.size)) nx) : callK cx f args H S nx K := by
  refine call_past hf (fun x : MatV => .tuple #[x.rows.val, x.bias.val, .int .i64 r.2]) matD (fun x => RefIs n r.1 x) (fun ρ w' hw => (hc ρ w' hw).mono ?_) (fun x hx => h x hx)
  rintro e w2 ⟨x, h1, h2, h3, h4⟩
  exact ⟨x, h1, h2, h3, h4⟩
theorem rowsR_len (n : NodeV) (t : IntsV) : (rowsR n t).1.1.length ≤ 1000000 := by
  unfold rowsR
  split
  · rename_i h
    obtain ⟨s, hsh, hcs, hR⟩ := rows_in h
    have := hR.place.few
    simp [rowsW]; omega
  · simp
theorem ref_okB {n : NodeV} {r : List (List Int) × List Int} {x : MatV} {R : Nat → Prop} {w : World} (hx : RefIs n r x) (hl : r.1.length ≤ 1000000) (hn : n.ok w) (h : (matD x).holds R w) : x.rows.okB w ∧ x.bias.ok w := by
  have hlen : x.rows.l.length ≤ 1000000 := by have := congrArg List.length hx.rows; rw [List.length_map] at this; omega
  by_cases ho : x.own = true
  · exact ⟨⟨rowsA_in h.1, fun u hu => intsA_ok (hx.sane u hu) ((h.2 ho).1 u hu), hlen⟩, intsA_ok hx.biasSane (h.2 ho).2⟩
  · obtain ⟨h1, h2⟩ := hx.old (by simpa using ho)
    exact ⟨⟨rowsA_in h.1, fun u hu => h2 w hn.data u hu, hlen⟩, by rw [h1]; exact hn.bias⟩
theorem few1 {n : NodeV} {b : Option Addr} {c : Nat} (h : fewB ⟨b, c, [n], 0⟩ = true) : n.data.xs.length ≤ 5000 ∧ n.bias.xs.length ≤ 200 ∧ n.shape.xs.length ≤ 20 := by
  unfold fewB at h
  simp only [Bool.and_eq_true, decide_eq_true_eq, List.all_eq_true] at h
  simpa [fewN] using h.2 n List.mem_cons_self
theorem few_same (n : NodeV) (b b' : Option Addr) (c c' : Nat) : fewB ⟨b, c, [n], 0⟩ = fewB ⟨b', c', [n], 0⟩ := rfl
set_option maxRecDepth 20000 in
set_option maxHeartbeats 4000000 in
theorem lawRows_any (w : World) (n : NodeV) (hn : n.raw w) (t : IntsV) (ht : t.rawL w) : Calls Try.prog 13 #[n.valA, t.val] w fun e w' => e = .returned (.bool true) ∧ Ext w w' := by
  by_cases hf : fewB ⟨none, 0, [n], 0⟩ = true ∧ t.xs.length ≤ 20
  · obtain ⟨f1, f2, f3⟩ := few1 hf.1
    have hno : n.ok w := ⟨hn.shape.ok (by omega), hn.data.ok (by omega), hn.bias.ok (by omega), hn.kindFits, hn.aFits, hn.bFits, hn.loFits, hn.hiFits, hn.sizeFits⟩
    have hsm : n.small := ⟨by omega, by omega⟩
    have hto := ht.ok (show t.xs.length ≤ 1000000 by omega)
    refine calls_of tab tabOk Try.func13 rfl rfl rfl [] (fun _ => ⟨none, 0⟩) [.agg [.c (.int .i64 n.kind), .c (.int .i64 n.a), .c (.int .i64 n.b), .c n.shape.val, .c (.int .i64 n.lo), .c (.int .i64 n.hi), .c (.int .i64 n.size), .c n.data.val, .c n.bias.val], .c t.val] [] (baseA w) 0 rfl rfl (by show 2 ≤ _; decide) (abs_base w) ?_
    (repeat' ((conv => whnf) <;> first | (show callK _ 27 _ _ _ _ _; (refine call_pure (f := 27) Try.call27 (.bool true) (fun ρ w' hw => fixed19_any w') ?_)) | (show Wp _ _ _ _ _ _ _; (refine Wp.go tabOk rfl ?_)) | (show @cmpK _ _ _; (first | refine cmp_yes (by omega) ?_ | refine cmp_no (by omega) ?_ | (refine cmp_both ?_ ?_ <;> intro _))) | (show wrapK _ _ _; (refine wrap_i64 (by omega) (by omega) ?_)) | (show leK _ _ _; (refine le_of (by first | exact Nat.le_refl _ | omega) ?_)) | (show roomK _ _ _; (refine room_of (by first | omega | (dsimp only; omega)) ?_)) | (show ltK _ _ _; (refine lt_of (by omega) ?_)) | (show _ ∧ _; (refine ⟨?_, ?_⟩)) | (show keepK _ _ _ _ _; (refine keep_of (by first | exact List.Sublist.refl _ | exact List.Sublist.cons _ (List.Sublist.refl _) | exact List.Sublist.cons _ (List.Sublist.cons _ (List.Sublist.refl _)) | exact List.Sublist.cons _ (List.Sublist.cons _ (List.Sublist.cons _ (List.Sublist.refl _)))) (by first | exact (fun _ _ h => h) | exact (fun _ _ h => h.1) | exact (fun _ _ h => h.1.1)) ?_)) | (show apK _ _; (refine ap_old ?_))))
    refine own_freeze 0 (fun _ _ _ _ hb => absurd hb (Nat.not_lt_zero _)) (fun l1 hl1 => ?_)
    (repeat' ((conv => whnf) <;> first | (show callK _ 20 _ _ _ _ _; (refine call_pure (f := 20) Try.call20 (.bool true) (fun ρ w' hw => by have := few_any w' ⟨l1.base, l1.cap, [n], 0⟩ (holds_of_abs hw fun R h => ⟨rowsA_in h.2, fun m hm => by rw [List.mem_singleton.1 hm]; exact hn.later h.1, (show i64 0 from ⟨by decide, by decide⟩)⟩); rw [few_same n l1.base none l1.cap 0, hf.1] at this; exact this) ?_)) | (show callK _ 35 _ _ _ _ _; (refine call_rows (rowsR n t) Try.call35 (fun ρ w' hw => rowsLin_any w' n t (holds_of_abs hw fun R h => hno.later h.1) hsm (holds_of_abs hw fun R h => hto.later h.1)) (fun x y hx hy hys => ?_))) | (show callK _ 36 _ _ _ _ _; (refine call_ref n (rowsR n t) Try.call36 (fun ρ w' hw => refRows_any w' n t (holds_of_abs hw fun R h => hno.later h.1.1) hsm (holds_of_abs hw fun R h => hto.later h.1.1)) (fun z hz => ?_))) | (show @cmpK _ _ _; (first | refine cmp_yes rfl ?_ | refine cmp_no (by omega) ?_)) | (show callK _ 33 _ _ _ _ _; (refine call_pure (f := 33) Try.call33 (.bool true) (fun ρ w' hw => sameRows_any w' x z.rows (holds_of_abs hw fun R h => diagA_ok hx (rowsR_len n t) ((diagA x).mono h.1.2.1 (fun _ hb => hb.1))) (holds_of_abs hw fun R h => (ref_okB hz (rowsR_len n t) (hno.later h.1.1.1) ((matD z).mono h.2 (fun _ hb => hb.1))).1) (hx.rows.trans hz.rows.symm)) ?_)) | (show callK _ 26 _ _ _ _ _; (refine call_pure (f := 26) Try.call26 (.bool true) (fun ρ w' hw => by have := same_any w' y z.bias (holds_of_abs hw fun R h => intsA_ok hys ((intsA y).mono h.1.2.2 (fun _ hb => hb.1))) (holds_of_abs hw fun R h => (ref_okB hz (rowsR_len n t) (hno.later h.1.1.1) ((matD z).mono h.2 (fun _ hb => hb.1))).2); rw [decide_eq_true (hy.trans hz.bias.symm)] at this; exact this) ?_)) | (show Wp _ _ _ _ _ _ _; (refine Wp.go tabOk rfl ?_)) | (show @cmpK _ _ _; (first | refine cmp_yes (by omega) ?_ | refine cmp_no (by omega) ?_ | (refine cmp_both ?_ ?_ <;> intro _))) | (show wrapK _ _ _; (refine wrap_i64 (by omega) (by omega) ?_)) | (show leK _ _ _; (refine le_of (by first | exact Nat.le_refl _ | omega) ?_)) | (show roomK _ _ _; (refine room_of (by first | omega | (dsimp only; omega)) ?_)) | (show ltK _ _ _; (refine lt_of (by omega) ?_)) | (show _ ∧ _; (refine ⟨?_, ?_⟩)) | (show keepK _ _ _ _ _; (refine keep_of (by first | exact List.Sublist.refl _ | exact List.Sublist.cons _ (List.Sublist.refl _) | exact List.Sublist.cons _ (List.Sublist.cons _ (List.Sublist.refl _)) | exact List.Sublist.cons _ (List.Sublist.cons _ (List.Sublist.cons _ (List.Sublist.refl _)))) (by first | exact (fun _ _ h => h) | exact (fun _ _ h => h.1) | exact (fun _ _ h => h.1.1)) ?_)) | (show apK _ _; (refine ap_old ?_))))
    all_goals (conv => whnf)
    all_goals exact ends_bool (B := ⟨w, []⟩) (fun R w' h => h.1.1.1) rfl rfl
  · refine calls_of tab tabOk Try.func13 rfl rfl rfl [] (fun _ => ⟨none, 0⟩) [.agg [.c (.int .i64 n.kind), .c (.int .i64 n.a), .c (.int .i64 n.b), .c n.shape.val, .c (.int .i64 n.lo), .c (.int .i64 n.hi), .c (.int .i64 n.size), .c n.data.val, .c n.bias.val], .c t.val] [] (baseA w) 0 rfl rfl (by show 2 ≤ _; decide) (abs_base w) ?_
    (repeat' ((conv => whnf) <;> first | (show callK _ 27 _ _ _ _ _; (refine call_pure (f := 27) Try.call27 (.bool true) (fun ρ w' hw => fixed19_any w') ?_)) | (show Wp _ _ _ _ _ _ _; (refine Wp.go tabOk rfl ?_)) | (show @cmpK _ _ _; (first | refine cmp_yes (by omega) ?_ | refine cmp_no (by omega) ?_ | (refine cmp_both ?_ ?_ <;> intro _))) | (show wrapK _ _ _; (refine wrap_i64 (by omega) (by omega) ?_)) | (show leK _ _ _; (refine le_of (by first | exact Nat.le_refl _ | omega) ?_)) | (show roomK _ _ _; (refine room_of (by first | omega | (dsimp only; omega)) ?_)) | (show ltK _ _ _; (refine lt_of (by omega) ?_)) | (show _ ∧ _; (refine ⟨?_, ?_⟩)) | (show keepK _ _ _ _ _; (refine keep_of (by first | exact List.Sublist.refl _ | exact List.Sublist.cons _ (List.Sublist.refl _) | exact List.Sublist.cons _ (List.Sublist.cons _ (List.Sublist.refl _)) | exact List.Sublist.cons _ (List.Sublist.cons _ (List.Sublist.cons _ (List.Sublist.refl _)))) (by first | exact (fun _ _ h => h) | exact (fun _ _ h => h.1) | exact (fun _ _ h => h.1.1)) ?_)) | (show apK _ _; (refine ap_old ?_))))
    refine own_freeze 0 (fun _ _ _ _ hb => absurd hb (Nat.not_lt_zero _)) (fun l1 hl1 => ?_)
    (repeat' ((conv => whnf) <;> first | (show callK _ 20 _ _ _ _ _; (refine call_bool (f := 20) Try.call20 _ (fun ρ w' hw => few_any w' ⟨l1.base, l1.cap, [n], 0⟩ (holds_of_abs hw fun R h => ⟨rowsA_in h.2, fun m hm => by rw [List.mem_singleton.1 hm]; exact hn.later h.1, (show i64 0 from ⟨by decide, by decide⟩)⟩)) (fun hfe => ?_) (fun hfe => ?_))) | (show @cmpK _ _ _; (first | refine cmp_yes (Int.lt_of_not_ge fun g => hf ⟨hfe, by omega⟩) ?_ | (refine cmp_both ?_ ?_ <;> intro _))) | (show Wp _ _ _ _ _ _ _; (refine Wp.go tabOk rfl ?_)) | (show @cmpK _ _ _; (first | refine cmp_yes (by omega) ?_ | refine cmp_no (by omega) ?_ | (refine cmp_both ?_ ?_ <;> intro _))) | (show wrapK _ _ _; (refine wrap_i64 (by omega) (by omega) ?_)) | (show leK _ _ _; (refine le_of (by first | exact Nat.le_refl _ | omega) ?_)) | (show roomK _ _ _; (refine room_of (by first | omega | (dsimp only; omega)) ?_)) | (show ltK _ _ _; (refine lt_of (by omega) ?_)) | (show _ ∧ _; (refine ⟨?_, ?_⟩)) | (show keepK _ _ _ _ _; (refine keep_of (by first | exact List.Sublist.refl _ | exact List.Sublist.cons _ (List.Sublist.refl _) | exact List.Sublist.cons _ (List.Sublist.cons _ (List.Sublist.refl _)) | exact List.Sublist.cons _ (List.Sublist.cons _ (List.Sublist.cons _ (List.Sublist.refl _)))) (by first | exact (fun _ _ h => h) | exact (fun _ _ h => h.1) | exact (fun _ _ h => h.1.1)) ?_)) | (show apK _ _; (refine ap_old ?_))))
    all_goals (conv => whnf)
    all_goals exact ends_bool (B := ⟨w, []⟩) (fun R w' h => h.1) rfl rfl
end Go.Proofs.Ytdmkdogakbipbaa

