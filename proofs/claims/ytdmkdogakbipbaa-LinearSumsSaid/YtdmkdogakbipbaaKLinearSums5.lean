import Derived.Test.YtdmkdogakbipbaaKLinearSums4
/- LS -/
namespace Go.Proofs.Ytdmkdogakbipbaa
open Go.RowKit Go.SX
def SlotsPost (w : World) (r : List Int × Int) : Ending → World → Prop := fun e w' => ∃ x : IntsV, (x.xs = r.1 ∧ x.sane) ∧ e = .returned (.tuple #[x.val, .int .i64 r.2]) ∧ Ext w w' ∧ (intsA x).holds (fun b => w.heap.size ≤ b ∧ b < w'.heap.size) w'
theorem slots_fail {w : World} {B : Base} {H : Heap} {S : Asn} {nx : Nat} {er : Int} {r : List Int × Int} (hb : ∀ R w', S.holds R w' → (baseA B.w0).holds R w') (hw0 : B.w0 = w) (hr : r = ([], er)) : finK B (.tup [.c (.slice none 0 0), .c (.int .i64 er)]) H S nx (SlotsPost w r) := by
  subst hw0 hr
  refine fin_of fun ρ w' hw => ⟨⟨none, 0, []⟩, ⟨rfl, ⟨fun _ h => (by cases h), Nat.le_refl _, by decide⟩⟩, rfl, ext_of_abs hw hb, ⟨fun _ h => (by cases h), .inl rfl⟩⟩
theorem slots_end {w : World} {B : Base} {H : Heap} {S : Asn} {nx i m : Nat} {l : List Int} {r : List Int × Int} (hb : ∀ R w', S.holds R w' → (baseA B.w0).holds R w') (hw0 : B.w0 = w) (hm : m = l.length) (hf : ∀ x ∈ l, i64 x) (hl : l.length ≤ 1000000) (hi : (i, Ent.rows (ints l) 1 3) ∈ H) (hr : r = (l, 0)) :
    finK B (.tup [.os i m, .c (.int .i64 0)]) H S nx (SlotsPost w r) := by
  subst hw0 hm hr
  refine fin_of fun ρ w' hw => ?_
  have hn := new_of_abs hw hb hi
  rw [ints_length] at hn
  obtain ⟨u, e, h1, h2, h3⟩ := newInts hn hf hl
  refine ⟨u, ⟨h1, h2⟩, ?_, ext_of_abs hw hb, h3⟩
  have : (SV.tup [.os i l.length, .c (.int .i64 0)]).rf ρ = .tuple #[(SV.os i l.length).rf ρ, .int .i64 0] := rfl
  rw [this, e]
theorem wrap_isS {z : Int} (y : Int) {K : Int → Prop} (h : z = y) (h1 : -9223372036854775808 ≤ y) (h2 : y ≤ 9223372036854775807) (hk : K y) : wrapK .i64 z K := by
  subst h; exact wrap_i64 h1 h2 hk
theorem div_isS {x y q : Int} {K : Int → Prop} (e : x / y = q) (h0 : 0 ≤ x) (h1 : x ≤ 9223372036854775807) (hy : 0 < y) (h : K q) : divK .i64 x y K := div_pos rfl h0 h1 hy (by rw [e]; exact h)
theorem ints_snocS (xs : List Int) (x : Int) {m i : Nat} (hm : m = xs.length) {T : TypeId} {H : Heap} : (i, Ent.rows (ints (xs ++ [x])) 1 T) ∈ (i, Ent.rows (List.take m (ints xs) ++ [[.int .i64 x]]) 1 T) :: H := by
  subst hm
  rw [show ints (xs ++ [x]) = List.take xs.length (ints xs) ++ [[.int .i64 x]] by rw [List.take_of_length_le (by rw [ints_length]; exact Nat.le_refl _)]; simp [ints]]
  exact List.mem_cons_self
theorem range_fits {s p n : Nat} (hs : 1 ≤ s) (hp : s ≤ p) (hn : n ≤ 64) (hp2 : p ≤ 128) : ∀ x ∈ rangeL s p n, i64 x := fun x hx => by
  obtain ⟨i, hi, rfl⟩ := List.mem_map.1 hx
  have := placeL_bd hs hp (List.mem_range.1 hi) hn hp2
  exact ⟨by omega, by omega⟩
theorem up_stop {k : Nat} {size q : Int} (h : ¬ q < size) : up k size q = q := by cases k <;> simp [up, h]
theorem up_step {k : Nat} {size q : Int} (h : q < size) (h64 : size ≤ 64) (e : q * 2 ^ k = 128) : ∃ k', k = k' + 1 ∧ up k size q = up k' size (q * 2) ∧ q * 2 * 2 ^ k' = 128 := by
  cases k with
  | zero => simp at e; omega
  | succ k => exact ⟨k, rfl, by simp [up, h], by rw [Int.mul_assoc, ← Int.pow_succ']; exact e⟩
set_option maxHeartbeats 2000000 in
theorem slots_any (w : World) (u : IntsV) (hx : RowsI w u.base 1 (ints u.xs)) (layout slots : Int) : Calls Try.prog 28 #[u.val, .int .i64 layout, .int .i64 slots] w (SlotsPost w (slotsL u.xs layout slots)) := by
  by_cases hA : entries u.xs = 0 ∨ layout < 0 ∨ 1 < layout
  · refine calls_of tab tabOk Try.func28 rfl rfl rfl [] (fun _ => ⟨none, 0⟩) [.c u.val, .c (.int .i64 layout), .c (.int .i64 slots)] [] (baseA w) 0 rfl rfl (by show 3 ≤ _; decide) (abs_base w) ?_
    (repeat' ((conv => whnf) <;> first | (show callK _ 59 _ _ _ _ _; (refine call_pure (f := 59) Try.call59 (.int .i64 (entries u.xs)) (fun ρ w' hw => entries_any w' u.base u.cap u.xs (holds_of_abs hw fun R h => rows_base h hx)) ?_)) | (show drawK _ 6 _ _ _ _ _ _; (refine draw_quiet tabOk mixed (by kernel_rfl) ?_)) | (show Wp _ _ _ _ _ _ _; (refine Wp.go tabOk rfl ?_)) | (show @cmpK _ _ _; (first | refine cmp_yes (by omega) ?_ | refine cmp_no (by omega) ?_ | (refine cmp_both ?_ ?_ <;> intro _))) | (show wrapK _ _ _; (refine wrap_i64 (by omega) (by omega) ?_)) | (show leK _ _ _; (refine le_of (by first | exact Nat.le_refl _ | omega) ?_)) | (show roomK _ _ _; (refine room_of (by first | omega | (dsimp only; omega)) ?_)) | (show ltK _ _ _; (refine lt_of (by omega) ?_)) | (show _ ∧ _; (refine ⟨?_, ?_⟩)) | (show keepK _ _ _ _ _; (refine keep_of (by first | exact List.Sublist.refl _ | exact List.Sublist.cons _ (List.Sublist.refl _) | exact List.Sublist.cons _ (List.Sublist.cons _ (List.Sublist.refl _)) | exact List.Sublist.cons _ (List.Sublist.cons _ (List.Sublist.cons _ (List.Sublist.refl _)))) (by first | exact (fun _ _ h => h) | exact (fun _ _ h => h.1) | exact (fun _ _ h => h.1.1)) ?_)) | (show ownK _ _ _ _ _; (refine own_keep ?_))))
    all_goals (conv => whnf)
    all_goals first | (exfalso; omega) | skip
    all_goals exact slots_fail (fun _ _ h => h) rfl (by rw [slotsL, if_pos hA])
  · obtain ⟨c, s, p, hcs, hs, hp, hc1, hs1, hsp, hp2, hn64, hc64, hs64, hel⟩ := slots_geo (xs := u.xs) (layout := layout) (by omega)
    have hdef : slotsL u.xs layout slots = if slots ≤ placeL s p (c * s - 1) then ([], 7) else (rangeL s p (c * s), 0) := by
      rw [slotsL, if_neg hA, hs, hp, hcs, Int.toNat_natCast]
    obtain ⟨n, hn⟩ : ∃ n, c * s = n := ⟨_, rfl⟩
    have hn1 : 1 ≤ n := by rw [← hn]; exact Nat.mul_pos hc1 hs1
    rw [hn] at hdef hcs hn64
    have hq : ((n : Nat) : Int) / (s : Int) = c := by rw [← hn, ← Int.natCast_ediv, Nat.mul_div_cancel _ (by omega)]
    rw [hdef]
    have hent : ∀ {ρ : Nat → SX.Loc} {w' : World} {nx : Nat} {H : Heap}, Abs ⟨w, []⟩ ρ nx H (baseA w) w' → Calls Try.prog 59 #[u.val] w' fun e w2 => e = .returned (.int .i64 (n : Nat)) ∧ Ext w' w2 := fun hw => by
      have := entries_any _ u.base u.cap u.xs (holds_of_abs hw fun R h => rows_base h hx)
      rw [hcs] at this; exact this
    by_cases h1 : layout = 1 ∧ u.xs.length = 3
    · obtain ⟨ua, hua⟩ : ∃ a, u.base = some a := base_some (j := 0) hx (by rw [ints_length]; omega)
      have hur : ∀ (R : Nat → Prop) w', (baseA w).holds R w' → RowsI w' (some ua) 1 (ints u.xs) := fun R w' h => by rw [← hua]; exact rows_base h hx
      rw [sizeL, if_pos h1] at hs
      rw [pitchL, if_pos h1, hs] at hp
      refine calls_of tab tabOk Try.func28 rfl rfl rfl [] (fun _ => ⟨none, 0⟩) [.c u.val, .c (.int .i64 layout), .c (.int .i64 slots)] [] (baseA w) 0 rfl rfl (by show 3 ≤ _; decide) (abs_base w) ?_
      (repeat' ((conv => whnf) <;> first | (show callK _ 59 _ _ _ _ _; (refine call_pure (f := 59) Try.call59 (.int .i64 (n : Nat)) (fun ρ w' hw => hent hw) ?_)) | (show idxK _ _ _ _ _; (first | refine idx_of ua 1 hua rfl (by omega) ?_ | refine idx_of ua 2 hua rfl (by omega) ?_)) | (show roK _ _ _; (first | refine ro_int hur (j := 1) (by omega) ?_ | refine ro_int hur (j := 2) (by omega) ?_)) | (show wrapK _ _ _; (refine wrap_isS (s : Int) hs (by omega) (by omega) ?_)) | (show drawK _ 6 _ _ _ _ _ _; (refine draw_quiet tabOk mixed (by kernel_rfl) ?_)) | (show Wp _ _ _ _ _ _ _; (refine Wp.go tabOk rfl ?_)) | (show @cmpK _ _ _; (first | refine cmp_yes (by omega) ?_ | refine cmp_no (by omega) ?_ | (refine cmp_both ?_ ?_ <;> intro _))) | (show wrapK _ _ _; (refine wrap_i64 (by omega) (by omega) ?_)) | (show leK _ _ _; (refine le_of (by first | exact Nat.le_refl _ | omega) ?_)) | (show roomK _ _ _; (refine room_of (by first | omega | (dsimp only; omega)) ?_)) | (show ltK _ _ _; (refine lt_of (by omega) ?_)) | (show _ ∧ _; (refine ⟨?_, ?_⟩)) | (show keepK _ _ _ _ _; (refine keep_of (by first | exact List.Sublist.refl _ | exact List.Sublist.cons _ (List.Sublist.refl _) | exact List.Sublist.cons _ (List.Sublist.cons _ (List.Sublist.refl _)) | exact List.Sublist.cons _ (List.Sublist.cons _ (List.Sublist.cons _ (List.Sublist.refl _)))) (by first | exact (fun _ _ h => h) | exact (fun _ _ h => h.1) | exact (fun _ _ h => h.1.1)) ?_)) | (show ownK _ _ _ _ _; (refine own_keep ?_))))
      all_goals (conv => whnf)
      refine Wp.loop (σ := Nat × Nat) 0 (fun ⟨q, k⟩ => [(2, .c (.int .i64 slots)), (8, .c (.int .i64 (n : Nat))), (9, .c (.int .i64 (s : Nat))), (10, .c (.int .i64 q))]) (fun _ => []) (fun _ => baseA w)
        (fun ⟨q, k⟩ => (q : Int) * 2 ^ k = 128 ∧ 1 ≤ q ∧ up k s q = p) (fun x => x.2) (1, 7) [] (by decide) (fun s => ⟨rfl, rfl⟩) ⟨by decide, by decide, hp⟩ ⟨rfl, ⟨rfl, rfl, rfl, rfl, trivial⟩, trivial, fun _ _ h => h⟩ ?_
      rintro ⟨q, k⟩ ⟨hq1, hq2, hq3⟩
      by_cases hqs : (q : Int) < s
      · obtain ⟨k', rfl, hk2, hk3⟩ := up_step hqs (by omega) hq1
        (repeat' ((conv => whnf) <;> first | (show wrapK _ _ _; (refine wrap_isS ((q * 2 : Nat) : Int) (by simp) (by omega) (by omega) ?_)) | (show drawK _ 6 _ _ _ _ _ _; (refine draw_quiet tabOk mixed (by kernel_rfl) ?_)) | (show Wp _ _ _ _ _ _ _; (refine Wp.go tabOk rfl ?_)) | (show @cmpK _ _ _; (first | refine cmp_yes (by omega) ?_ | refine cmp_no (by omega) ?_ | (refine cmp_both ?_ ?_ <;> intro _))) | (show wrapK _ _ _; (refine wrap_i64 (by omega) (by omega) ?_)) | (show leK _ _ _; (refine le_of (by first | exact Nat.le_refl _ | omega) ?_)) | (show roomK _ _ _; (refine room_of (by first | omega | (dsimp only; omega)) ?_)) | (show ltK _ _ _; (refine lt_of (by omega) ?_)) | (show _ ∧ _; (refine ⟨?_, ?_⟩)) | (show keepK _ _ _ _ _; (refine keep_of (by first | exact List.Sublist.refl _ | exact List.Sublist.cons _ (List.Sublist.refl _) | exact List.Sublist.cons _ (List.Sublist.cons _ (List.Sublist.refl _)) | exact List.Sublist.cons _ (List.Sublist.cons _ (List.Sublist.cons _ (List.Sublist.refl _)))) (by first | exact (fun _ _ h => h) | exact (fun _ _ h => h.1) | exact (fun _ _ h => h.1.1)) ?_)) | (show ownK _ _ _ _ _; (refine own_keep ?_))))
        all_goals (conv => whnf)
        exact ⟨(q * 2, k'), [], ⟨by simpa using hk3, by show 1 ≤ q * 2; omega, by rw [← hq3, hk2]; simp⟩, Nat.lt_succ_self _, rfl, ⟨rfl, rfl, rfl, rfl, trivial⟩, trivial, fun _ _ h => h⟩
      · rw [up_stop hqs] at hq3
        have hqp : p = q := by omega
        subst hqp
        (repeat' ((conv => whnf) <;> first | (show makeK _ _ _ _; (refine make_cap 0 n rfl rfl (Nat.zero_le _) (by show 8 * _ ≤ _; omega) (by omega) ?_)) | (show divK _ _ _ _; (refine div_isS hq (by omega) (by omega) (by omega) ?_)) | (show drawK _ 6 _ _ _ _ _ _; (refine draw_quiet tabOk mixed (by kernel_rfl) ?_)) | (show Wp _ _ _ _ _ _ _; (refine Wp.go tabOk rfl ?_)) | (show @cmpK _ _ _; (first | refine cmp_yes (by omega) ?_ | refine cmp_no (by omega) ?_ | (refine cmp_both ?_ ?_ <;> intro _))) | (show wrapK _ _ _; (refine wrap_i64 (by omega) (by omega) ?_)) | (show leK _ _ _; (refine le_of (by first | exact Nat.le_refl _ | omega) ?_)) | (show roomK _ _ _; (refine room_of (by first | omega | (dsimp only; omega)) ?_)) | (show ltK _ _ _; (refine lt_of (by omega) ?_)) | (show _ ∧ _; (refine ⟨?_, ?_⟩)) | (show keepK _ _ _ _ _; (refine keep_of (by first | exact List.Sublist.refl _ | exact List.Sublist.cons _ (List.Sublist.refl _) | exact List.Sublist.cons _ (List.Sublist.cons _ (List.Sublist.refl _)) | exact List.Sublist.cons _ (List.Sublist.cons _ (List.Sublist.cons _ (List.Sublist.refl _)))) (by first | exact (fun _ _ h => h) | exact (fun _ _ h => h.1) | exact (fun _ _ h => h.1.1)) ?_)) | (show ownK _ _ _ _ _; (refine own_keep ?_))))
        all_goals (conv => whnf)
        refine Wp.loop (σ := Nat × Nat) 2 (fun x => [(2, .c (.int .i64 slots)), (8, .c (.int .i64 (n : Nat))), (9, .c (.int .i64 (s : Nat))), (10, .c (.int .i64 (p : Nat))), (11, .os 1 x.2), (51, .c (.int .i64 (c : Nat))), (52, .c (.int .i64 x.1))]) (fun x => [(1, .rows (ints (rangeL s p x.2)) 1 3)]) (fun _ => baseA w)
          (fun x => x.1 ≤ c ∧ x.2 = x.1 * s) (fun x => c - x.1) (0, 0) [(1, some 0)] (by decide) (fun _ => ⟨rfl, rfl⟩) ⟨Nat.zero_le _, (Nat.zero_mul s).symm⟩ ⟨rfl, ⟨rfl, rfl, rfl, rfl, rfl, rfl, rfl, trivial⟩, ⟨List.mem_cons_self, trivial⟩, fun _ _ h => h⟩ ?_
        rintro ⟨cc, m⟩ ⟨hcc, hm⟩
        dsimp only at hcc hm
        by_cases hlt : cc < c
        · (repeat' ((conv => whnf) <;> first | (show drawK _ 6 _ _ _ _ _ _; (refine draw_quiet tabOk mixed (by kernel_rfl) ?_)) | (show Wp _ _ _ _ _ _ _; (refine Wp.go tabOk rfl ?_)) | (show @cmpK _ _ _; (first | refine cmp_yes (by omega) ?_ | refine cmp_no (by omega) ?_ | (refine cmp_both ?_ ?_ <;> intro _))) | (show wrapK _ _ _; (refine wrap_i64 (by omega) (by omega) ?_)) | (show leK _ _ _; (refine le_of (by first | exact Nat.le_refl _ | omega) ?_)) | (show roomK _ _ _; (refine room_of (by first | omega | (dsimp only; omega)) ?_)) | (show ltK _ _ _; (refine lt_of (by omega) ?_)) | (show _ ∧ _; (refine ⟨?_, ?_⟩)) | (show keepK _ _ _ _ _; (refine keep_of (by first | exact List.Sublist.refl _ | exact List.Sublist.cons _ (List.Sublist.refl _) | exact List.Sublist.cons _ (List.Sublist.cons _ (List.Sublist.refl _)) | exact List.Sublist.cons _ (List.Sublist.cons _ (List.Sublist.cons _ (List.Sublist.refl _)))) (by first | exact (fun _ _ h => h) | exact (fun _ _ h => h.1) | exact (fun _ _ h => h.1.1)) ?_)) | (show ownK _ _ _ _ _; (refine own_keep ?_))))
          all_goals (conv => whnf)
          have hcp : cc * p ≤ 64 * 128 := Nat.mul_le_mul (by omega) hp2
          have hms : cc * s + s ≤ c * s := by rw [← Nat.succ_mul]; exact Nat.mul_le_mul_right s hlt
          refine Wp.loop (σ := Nat × Nat) 3 (fun x => [(2, .c (.int .i64 slots)), (8, .c (.int .i64 (n : Nat))), (9, .c (.int .i64 (s : Nat))), (10, .c (.int .i64 (p : Nat))), (11, .os 2 x.2), (51, .c (.int .i64 (c : Nat))), (52, .c (.int .i64 cc)), (12, .c (.int .i64 cc)), (55, .c (.int .i64 (s : Nat))), (56, .c (.int .i64 x.1))]) (fun x => [(2, .rows (ints (rangeL s p x.2)) 1 3)]) (fun _ => baseA w)
            (fun x => x.1 ≤ s ∧ x.2 = cc * s + x.1) (fun x => s - x.1) (0, m) [(2, some 1)] (by decide) (fun _ => ⟨rfl, rfl⟩) ⟨Nat.zero_le _, hm⟩ ⟨rfl, ⟨rfl, rfl, rfl, rfl, rfl, rfl, rfl, rfl, rfl, rfl, trivial⟩, ⟨List.mem_cons_self, trivial⟩, fun _ _ h => h⟩ ?_
          rintro ⟨i, k⟩ ⟨hi, hk⟩
          dsimp only at hi hk
          by_cases hli : i < s
          · have hpl : (((cc * p : Nat) : Int) + (i : Int)) = placeL s p k := by rw [hk, placeL_at hli]; simp
            have hrl := rangeL_length s p k
            (repeat' ((conv => whnf) <;> first | (show wrapK _ _ _; (first | refine wrap_isS ((cc * p : Nat) : Int) (Int.natCast_mul cc p).symm (by omega) (by omega) ?_ | refine wrap_isS (placeL s p k) hpl (by omega) (by omega) ?_ | refine wrap_i64 (by omega) (by omega) ?_)) | (show leK _ _ _; (refine le_of (Nat.le_of_eq (by rw [ints_length, rangeL_length])) ?_)) | (show roomK _ _ _; (refine room_of (by show (k + 1) * 8 ≤ 140737488355328; omega) ?_)) | (show drawK _ 6 _ _ _ _ _ _; (refine draw_quiet tabOk mixed (by kernel_rfl) ?_)) | (show Wp _ _ _ _ _ _ _; (refine Wp.go tabOk rfl ?_)) | (show @cmpK _ _ _; (first | refine cmp_yes (by omega) ?_ | refine cmp_no (by omega) ?_ | (refine cmp_both ?_ ?_ <;> intro _))) | (show wrapK _ _ _; (refine wrap_i64 (by omega) (by omega) ?_)) | (show leK _ _ _; (refine le_of (by first | exact Nat.le_refl _ | omega) ?_)) | (show roomK _ _ _; (refine room_of (by first | omega | (dsimp only; omega)) ?_)) | (show ltK _ _ _; (refine lt_of (by omega) ?_)) | (show _ ∧ _; (refine ⟨?_, ?_⟩)) | (show keepK _ _ _ _ _; (refine keep_of (by first | exact List.Sublist.refl _ | exact List.Sublist.cons _ (List.Sublist.refl _) | exact List.Sublist.cons _ (List.Sublist.cons _ (List.Sublist.refl _)) | exact List.Sublist.cons _ (List.Sublist.cons _ (List.Sublist.cons _ (List.Sublist.refl _)))) (by first | exact (fun _ _ h => h) | exact (fun _ _ h => h.1) | exact (fun _ _ h => h.1.1)) ?_)) | (show ownK _ _ _ _ _; (refine own_keep ?_))))
            all_goals (conv => whnf)
            exact ⟨(i + 1, k + 1), [(2, some 4)], ⟨hli, by show k + 1 = cc * s + (i + 1); omega⟩, by show s - (i + 1) < s - i; omega, rfl, ⟨rfl, rfl, rfl, rfl, rfl, rfl, rfl, rfl, rfl, rfl, trivial⟩, ⟨by show (4, Ent.rows (ints (rangeL s p (k + 1))) 1 3) ∈ _; rw [rangeL_succ]; exact ints_snocS _ _ (rangeL_length s p k).symm, trivial⟩, fun _ _ h => h⟩
          · (repeat' ((conv => whnf) <;> first | (show drawK _ 6 _ _ _ _ _ _; (refine draw_quiet tabOk mixed (by kernel_rfl) ?_)) | (show Wp _ _ _ _ _ _ _; (refine Wp.go tabOk rfl ?_)) | (show @cmpK _ _ _; (first | refine cmp_yes (by omega) ?_ | refine cmp_no (by omega) ?_ | (refine cmp_both ?_ ?_ <;> intro _))) | (show wrapK _ _ _; (refine wrap_i64 (by omega) (by omega) ?_)) | (show leK _ _ _; (refine le_of (by first | exact Nat.le_refl _ | omega) ?_)) | (show roomK _ _ _; (refine room_of (by first | omega | (dsimp only; omega)) ?_)) | (show ltK _ _ _; (refine lt_of (by omega) ?_)) | (show _ ∧ _; (refine ⟨?_, ?_⟩)) | (show keepK _ _ _ _ _; (refine keep_of (by first | exact List.Sublist.refl _ | exact List.Sublist.cons _ (List.Sublist.refl _) | exact List.Sublist.cons _ (List.Sublist.cons _ (List.Sublist.refl _)) | exact List.Sublist.cons _ (List.Sublist.cons _ (List.Sublist.cons _ (List.Sublist.refl _)))) (by first | exact (fun _ _ h => h) | exact (fun _ _ h => h.1) | exact (fun _ _ h => h.1.1)) ?_)) | (show ownK _ _ _ _ _; (refine own_keep ?_))))
            all_goals (conv => whnf)
            exact ⟨(cc + 1, k), [(1, some 2)], ⟨hlt, by show k = (cc + 1) * s; rw [Nat.succ_mul]; omega⟩, by show c - (cc + 1) < c - cc; omega, rfl, ⟨rfl, rfl, rfl, rfl, rfl, rfl, rfl, trivial⟩, ⟨List.mem_cons_self, trivial⟩, fun _ _ h => h⟩
        · have hcc2 : cc = c := by omega
          rw [hcc2, hn] at hm
          have hpb := placeL_bd (i := n - 1) (n := n) hs1 hsp (by omega) hn64 hp2
          have hlast := rangeL_getD s p (k := n) (i := n - 1) (by omega)
          have hll := rangeL_length s p n
          have hm' := hm.symm
          subst hm'
          (repeat' ((conv => whnf) <;> first | (show idxRowK _ _ _ _ _ _; (refine idxRow_of (n - 1) (by omega) (by omega) (Nat.le_of_eq (by rw [ints_length, rangeL_length])) ?_)) | (show rowK _ _ _ _; (refine ro_own (xs := rangeL s p n) (j := n - 1) (by omega) ?_)) | (show drawK _ 6 _ _ _ _ _ _; (refine draw_quiet tabOk mixed (by kernel_rfl) ?_)) | (show Wp _ _ _ _ _ _ _; (refine Wp.go tabOk rfl ?_)) | (show @cmpK _ _ _; (first | refine cmp_yes (by omega) ?_ | refine cmp_no (by omega) ?_ | (refine cmp_both ?_ ?_ <;> intro _))) | (show wrapK _ _ _; (refine wrap_i64 (by omega) (by omega) ?_)) | (show leK _ _ _; (refine le_of (by first | exact Nat.le_refl _ | omega) ?_)) | (show roomK _ _ _; (refine room_of (by first | omega | (dsimp only; omega)) ?_)) | (show ltK _ _ _; (refine lt_of (by omega) ?_)) | (show _ ∧ _; (refine ⟨?_, ?_⟩)) | (show keepK _ _ _ _ _; (refine keep_of (by first | exact List.Sublist.refl _ | exact List.Sublist.cons _ (List.Sublist.refl _) | exact List.Sublist.cons _ (List.Sublist.cons _ (List.Sublist.refl _)) | exact List.Sublist.cons _ (List.Sublist.cons _ (List.Sublist.cons _ (List.Sublist.refl _)))) (by first | exact (fun _ _ h => h) | exact (fun _ _ h => h.1) | exact (fun _ _ h => h.1.1)) ?_)) | (show ownK _ _ _ _ _; (refine own_keep ?_))))
          all_goals (conv => whnf)
          · exact slots_fail (fun _ _ h => h) rfl (if_pos (by omega))
          · exact slots_end (i := 1) (fun _ _ h => h) rfl hll.symm (range_fits hs1 hsp hn64 hp2) (by omega) (by repeat (first | exact List.mem_cons_self | apply List.mem_cons_of_mem)) (if_neg (by omega))
    · obtain ⟨hc, hsp'⟩ := hel h1
      have hns : n = s := by rw [← hn, hc, Nat.one_mul]
      subst hsp'
      subst hns
      refine calls_of tab tabOk Try.func28 rfl rfl rfl [] (fun _ => ⟨none, 0⟩) [.c u.val, .c (.int .i64 layout), .c (.int .i64 slots)] [] (baseA w) 0 rfl rfl (by show 3 ≤ _; decide) (abs_base w) ?_
      (repeat' ((conv => whnf) <;> first | (show callK _ 59 _ _ _ _ _; (refine call_pure (f := 59) Try.call59 (.int .i64 (n : Nat)) (fun ρ w' hw => hent hw) ?_)) | (show makeK _ _ _ _; (refine make_cap 0 n rfl rfl (Nat.zero_le _) (by show 8 * _ ≤ _; omega) (by omega) ?_)) | (show divK _ _ _ _; (refine div_isS (q := (c : Int)) hq (by omega) (by omega) (by omega) ?_)) | (show drawK _ 6 _ _ _ _ _ _; (refine draw_quiet tabOk mixed (by kernel_rfl) ?_)) | (show Wp _ _ _ _ _ _ _; (refine Wp.go tabOk rfl ?_)) | (show @cmpK _ _ _; (first | refine cmp_yes (by omega) ?_ | refine cmp_no (by omega) ?_ | (refine cmp_both ?_ ?_ <;> intro _))) | (show wrapK _ _ _; (refine wrap_i64 (by omega) (by omega) ?_)) | (show leK _ _ _; (refine le_of (by first | exact Nat.le_refl _ | omega) ?_)) | (show roomK _ _ _; (refine room_of (by first | omega | (dsimp only; omega)) ?_)) | (show ltK _ _ _; (refine lt_of (by omega) ?_)) | (show _ ∧ _; (refine ⟨?_, ?_⟩)) | (show keepK _ _ _ _ _; (refine keep_of (by first | exact List.Sublist.refl _ | exact List.Sublist.cons _ (List.Sublist.refl _) | exact List.Sublist.cons _ (List.Sublist.cons _ (List.Sublist.refl _)) | exact List.Sublist.cons _ (List.Sublist.cons _ (List.Sublist.cons _ (List.Sublist.refl _)))) (by first | exact (fun _ _ h => h) | exact (fun _ _ h => h.1) | exact (fun _ _ h => h.1.1)) ?_)) | (show ownK _ _ _ _ _; (refine own_keep ?_))))
      all_goals (conv => whnf)
      · skip
        refine Wp.loop (σ := Nat × Nat) 2 (fun x => [(2, .c (.int .i64 slots)), (8, .c (.int .i64 (n : Nat))), (9, .c (.int .i64 (n : Nat))), (10, .c (.int .i64 (n : Nat))), (11, .os 1 x.2), (51, .c (.int .i64 (c : Nat))), (52, .c (.int .i64 x.1))]) (fun x => [(1, .rows (ints (rangeL n n x.2)) 1 3)]) (fun _ => baseA w)
          (fun x => x.1 ≤ c ∧ x.2 = x.1 * n) (fun x => c - x.1) (0, 0) [(1, some 0)] (by decide) (fun _ => ⟨rfl, rfl⟩) ⟨Nat.zero_le _, (Nat.zero_mul n).symm⟩ ⟨rfl, ⟨rfl, rfl, rfl, rfl, rfl, rfl, rfl, trivial⟩, ⟨List.mem_cons_self, trivial⟩, fun _ _ h => h⟩ ?_
        rintro ⟨cc, m⟩ ⟨hcc, hm⟩
        dsimp only at hcc hm
        by_cases hlt : cc < c
        · (repeat' ((conv => whnf) <;> first | (show drawK _ 6 _ _ _ _ _ _; (refine draw_quiet tabOk mixed (by kernel_rfl) ?_)) | (show Wp _ _ _ _ _ _ _; (refine Wp.go tabOk rfl ?_)) | (show @cmpK _ _ _; (first | refine cmp_yes (by omega) ?_ | refine cmp_no (by omega) ?_ | (refine cmp_both ?_ ?_ <;> intro _))) | (show wrapK _ _ _; (refine wrap_i64 (by omega) (by omega) ?_)) | (show leK _ _ _; (refine le_of (by first | exact Nat.le_refl _ | omega) ?_)) | (show roomK _ _ _; (refine room_of (by first | omega | (dsimp only; omega)) ?_)) | (show ltK _ _ _; (refine lt_of (by omega) ?_)) | (show _ ∧ _; (refine ⟨?_, ?_⟩)) | (show keepK _ _ _ _ _; (refine keep_of (by first | exact List.Sublist.refl _ | exact List.Sublist.cons _ (List.Sublist.refl _) | exact List.Sublist.cons _ (List.Sublist.cons _ (List.Sublist.refl _)) | exact List.Sublist.cons _ (List.Sublist.cons _ (List.Sublist.cons _ (List.Sublist.refl _)))) (by first | exact (fun _ _ h => h) | exact (fun _ _ h => h.1) | exact (fun _ _ h => h.1.1)) ?_)) | (show ownK _ _ _ _ _; (refine own_keep ?_))))
          all_goals (conv => whnf)
          have hcp : cc * n ≤ 64 * 128 := Nat.mul_le_mul (by omega) hp2
          have hms : cc * n + n ≤ c * n := by rw [← Nat.succ_mul]; exact Nat.mul_le_mul_right n hlt
          refine Wp.loop (σ := Nat × Nat) 3 (fun x => [(2, .c (.int .i64 slots)), (8, .c (.int .i64 (n : Nat))), (9, .c (.int .i64 (n : Nat))), (10, .c (.int .i64 (n : Nat))), (11, .os 2 x.2), (51, .c (.int .i64 (c : Nat))), (52, .c (.int .i64 cc)), (12, .c (.int .i64 cc)), (55, .c (.int .i64 (n : Nat))), (56, .c (.int .i64 x.1))]) (fun x => [(2, .rows (ints (rangeL n n x.2)) 1 3)]) (fun _ => baseA w)
            (fun x => x.1 ≤ n ∧ x.2 = cc * n + x.1) (fun x => n - x.1) (0, m) [(2, some 1)] (by decide) (fun _ => ⟨rfl, rfl⟩) ⟨Nat.zero_le _, hm⟩ ⟨rfl, ⟨rfl, rfl, rfl, rfl, rfl, rfl, rfl, rfl, rfl, rfl, trivial⟩, ⟨List.mem_cons_self, trivial⟩, fun _ _ h => h⟩ ?_
          rintro ⟨i, k⟩ ⟨hi, hk⟩
          dsimp only at hi hk
          by_cases hli : i < n
          · have hpl : (((cc * n : Nat) : Int) + (i : Int)) = placeL n n k := by rw [hk, placeL_at hli]; simp
            have hrl := rangeL_length n n k
            (repeat' ((conv => whnf) <;> first | (show wrapK _ _ _; (first | refine wrap_isS ((cc * n : Nat) : Int) (Int.natCast_mul cc n).symm (by omega) (by omega) ?_ | refine wrap_isS (placeL n n k) hpl (by omega) (by omega) ?_ | refine wrap_i64 (by omega) (by omega) ?_)) | (show leK _ _ _; (refine le_of (Nat.le_of_eq (by rw [ints_length, rangeL_length])) ?_)) | (show roomK _ _ _; (refine room_of (by show (k + 1) * 8 ≤ 140737488355328; omega) ?_)) | (show drawK _ 6 _ _ _ _ _ _; (refine draw_quiet tabOk mixed (by kernel_rfl) ?_)) | (show Wp _ _ _ _ _ _ _; (refine Wp.go tabOk rfl ?_)) | (show @cmpK _ _ _; (first | refine cmp_yes (by omega) ?_ | refine cmp_no (by omega) ?_ | (refine cmp_both ?_ ?_ <;> intro _))) | (show wrapK _ _ _; (refine wrap_i64 (by omega) (by omega) ?_)) | (show leK _ _ _; (refine le_of (by first | exact Nat.le_refl _ | omega) ?_)) | (show roomK _ _ _; (refine room_of (by first | omega | (dsimp only; omega)) ?_)) | (show ltK _ _ _; (refine lt_of (by omega) ?_)) | (show _ ∧ _; (refine ⟨?_, ?_⟩)) | (show keepK _ _ _ _ _; (refine keep_of (by first | exact List.Sublist.refl _ | exact List.Sublist.cons _ (List.Sublist.refl _) | exact List.Sublist.cons _ (List.Sublist.cons _ (List.Sublist.refl _)) | exact List.Sublist.cons _ (List.Sublist.cons _ (List.Sublist.cons _ (List.Sublist.refl _)))) (by first | exact (fun _ _ h => h) | exact (fun _ _ h => h.1) | exact (fun _ _ h => h.1.1)) ?_)) | (show ownK _ _ _ _ _; (refine own_keep ?_))))
            all_goals (conv => whnf)
            exact ⟨(i + 1, k + 1), [(2, some 4)], ⟨hli, by show k + 1 = cc * n + (i + 1); omega⟩, by show n - (i + 1) < n - i; omega, rfl, ⟨rfl, rfl, rfl, rfl, rfl, rfl, rfl, rfl, rfl, rfl, trivial⟩, ⟨by show (4, Ent.rows (ints (rangeL n n (k + 1))) 1 3) ∈ _; rw [rangeL_succ]; exact ints_snocS _ _ (rangeL_length n n k).symm, trivial⟩, fun _ _ h => h⟩
          · (repeat' ((conv => whnf) <;> first | (show drawK _ 6 _ _ _ _ _ _; (refine draw_quiet tabOk mixed (by kernel_rfl) ?_)) | (show Wp _ _ _ _ _ _ _; (refine Wp.go tabOk rfl ?_)) | (show @cmpK _ _ _; (first | refine cmp_yes (by omega) ?_ | refine cmp_no (by omega) ?_ | (refine cmp_both ?_ ?_ <;> intro _))) | (show wrapK _ _ _; (refine wrap_i64 (by omega) (by omega) ?_)) | (show leK _ _ _; (refine le_of (by first | exact Nat.le_refl _ | omega) ?_)) | (show roomK _ _ _; (refine room_of (by first | omega | (dsimp only; omega)) ?_)) | (show ltK _ _ _; (refine lt_of (by omega) ?_)) | (show _ ∧ _; (refine ⟨?_, ?_⟩)) | (show keepK _ _ _ _ _; (refine keep_of (by first | exact List.Sublist.refl _ | exact List.Sublist.cons _ (List.Sublist.refl _) | exact List.Sublist.cons _ (List.Sublist.cons _ (List.Sublist.refl _)) | exact List.Sublist.cons _ (List.Sublist.cons _ (List.Sublist.cons _ (List.Sublist.refl _)))) (by first | exact (fun _ _ h => h) | exact (fun _ _ h => h.1) | exact (fun _ _ h => h.1.1)) ?_)) | (show ownK _ _ _ _ _; (refine own_keep ?_))))
            all_goals (conv => whnf)
            exact ⟨(cc + 1, k), [(1, some 2)], ⟨hlt, by show k = (cc + 1) * n; rw [Nat.succ_mul]; omega⟩, by show c - (cc + 1) < c - cc; omega, rfl, ⟨rfl, rfl, rfl, rfl, rfl, rfl, rfl, trivial⟩, ⟨List.mem_cons_self, trivial⟩, fun _ _ h => h⟩
        · have hcc2 : cc = c := by omega
          rw [hcc2, hn] at hm
          have hpb := placeL_bd (i := n - 1) (n := n) hs1 hsp (by omega) hn64 hp2
          have hlast := rangeL_getD n n (k := n) (i := n - 1) (by omega)
          have hll := rangeL_length n n n
          have hm' := hm.symm
          subst hm'
          (repeat' ((conv => whnf) <;> first | (show idxRowK _ _ _ _ _ _; (refine idxRow_of (n - 1) (by omega) (by omega) (Nat.le_of_eq (by rw [ints_length, rangeL_length])) ?_)) | (show rowK _ _ _ _; (refine ro_own (xs := rangeL n n n) (j := n - 1) (by omega) ?_)) | (show drawK _ 6 _ _ _ _ _ _; (refine draw_quiet tabOk mixed (by kernel_rfl) ?_)) | (show Wp _ _ _ _ _ _ _; (refine Wp.go tabOk rfl ?_)) | (show @cmpK _ _ _; (first | refine cmp_yes (by omega) ?_ | refine cmp_no (by omega) ?_ | (refine cmp_both ?_ ?_ <;> intro _))) | (show wrapK _ _ _; (refine wrap_i64 (by omega) (by omega) ?_)) | (show leK _ _ _; (refine le_of (by first | exact Nat.le_refl _ | omega) ?_)) | (show roomK _ _ _; (refine room_of (by first | omega | (dsimp only; omega)) ?_)) | (show ltK _ _ _; (refine lt_of (by omega) ?_)) | (show _ ∧ _; (refine ⟨?_, ?_⟩)) | (show keepK _ _ _ _ _; (refine keep_of (by first | exact List.Sublist.refl _ | exact List.Sublist.cons _ (List.Sublist.refl _) | exact List.Sublist.cons _ (List.Sublist.cons _ (List.Sublist.refl _)) | exact List.Sublist.cons _ (List.Sublist.cons _ (List.Sublist.cons _ (List.Sublist.refl _)))) (by first | exact (fun _ _ h => h) | exact (fun _ _ h => h.1) | exact (fun _ _ h => h.1.1)) ?_)) | (show ownK _ _ _ _ _; (refine own_keep ?_))))
          all_goals (conv => whnf)
          · exact slots_fail (fun _ _ h => h) rfl (if_pos (by omega))
          · exact slots_end (i := 1) (fun _ _ h => h) rfl hll.symm (range_fits hs1 hsp hn64 hp2) (by omega) (by repeat (first | exact List.mem_cons_self | apply List.mem_cons_of_mem)) (if_neg (by omega))
      · skip
        refine Wp.loop (σ := Nat × Nat) 2 (fun x => [(2, .c (.int .i64 slots)), (8, .c (.int .i64 (n : Nat))), (9, .c (.int .i64 (n : Nat))), (10, .c (.int .i64 (n : Nat))), (11, .os 1 x.2), (51, .c (.int .i64 (c : Nat))), (52, .c (.int .i64 x.1))]) (fun x => [(1, .rows (ints (rangeL n n x.2)) 1 3)]) (fun _ => baseA w)
          (fun x => x.1 ≤ c ∧ x.2 = x.1 * n) (fun x => c - x.1) (0, 0) [(1, some 0)] (by decide) (fun _ => ⟨rfl, rfl⟩) ⟨Nat.zero_le _, (Nat.zero_mul n).symm⟩ ⟨rfl, ⟨rfl, rfl, rfl, rfl, rfl, rfl, rfl, trivial⟩, ⟨List.mem_cons_self, trivial⟩, fun _ _ h => h⟩ ?_
        rintro ⟨cc, m⟩ ⟨hcc, hm⟩
        dsimp only at hcc hm
        by_cases hlt : cc < c
        · (repeat' ((conv => whnf) <;> first | (show drawK _ 6 _ _ _ _ _ _; (refine draw_quiet tabOk mixed (by kernel_rfl) ?_)) | (show Wp _ _ _ _ _ _ _; (refine Wp.go tabOk rfl ?_)) | (show @cmpK _ _ _; (first | refine cmp_yes (by omega) ?_ | refine cmp_no (by omega) ?_ | (refine cmp_both ?_ ?_ <;> intro _))) | (show wrapK _ _ _; (refine wrap_i64 (by omega) (by omega) ?_)) | (show leK _ _ _; (refine le_of (by first | exact Nat.le_refl _ | omega) ?_)) | (show roomK _ _ _; (refine room_of (by first | omega | (dsimp only; omega)) ?_)) | (show ltK _ _ _; (refine lt_of (by omega) ?_)) | (show _ ∧ _; (refine ⟨?_, ?_⟩)) | (show keepK _ _ _ _ _; (refine keep_of (by first | exact List.Sublist.refl _ | exact List.Sublist.cons _ (List.Sublist.refl _) | exact List.Sublist.cons _ (List.Sublist.cons _ (List.Sublist.refl _)) | exact List.Sublist.cons _ (List.Sublist.cons _ (List.Sublist.cons _ (List.Sublist.refl _)))) (by first | exact (fun _ _ h => h) | exact (fun _ _ h => h.1) | exact (fun _ _ h => h.1.1)) ?_)) | (show ownK _ _ _ _ _; (refine own_keep ?_))))
          all_goals (conv => whnf)
          have hcp : cc * n ≤ 64 * 128 := Nat.mul_le_mul (by omega) hp2
          have hms : cc * n + n ≤ c * n := by rw [← Nat.succ_mul]; exact Nat.mul_le_mul_right n hlt
          refine Wp.loop (σ := Nat × Nat) 3 (fun x => [(2, .c (.int .i64 slots)), (8, .c (.int .i64 (n : Nat))), (9, .c (.int .i64 (n : Nat))), (10, .c (.int .i64 (n : Nat))), (11, .os 2 x.2), (51, .c (.int .i64 (c : Nat))), (52, .c (.int .i64 cc)), (12, .c (.int .i64 cc)), (55, .c (.int .i64 (n : Nat))), (56, .c (.int .i64 x.1))]) (fun x => [(2, .rows (ints (rangeL n n x.2)) 1 3)]) (fun _ => baseA w)
            (fun x => x.1 ≤ n ∧ x.2 = cc * n + x.1) (fun x => n - x.1) (0, m) [(2, some 1)] (by decide) (fun _ => ⟨rfl, rfl⟩) ⟨Nat.zero_le _, hm⟩ ⟨rfl, ⟨rfl, rfl, rfl, rfl, rfl, rfl, rfl, rfl, rfl, rfl, trivial⟩, ⟨List.mem_cons_self, trivial⟩, fun _ _ h => h⟩ ?_
          rintro ⟨i, k⟩ ⟨hi, hk⟩
          dsimp only at hi hk
          by_cases hli : i < n
          · have hpl : (((cc * n : Nat) : Int) + (i : Int)) = placeL n n k := by rw [hk, placeL_at hli]; simp
            have hrl := rangeL_length n n k
            (repeat' ((conv => whnf) <;> first | (show wrapK _ _ _; (first | refine wrap_isS ((cc * n : Nat) : Int) (Int.natCast_mul cc n).symm (by omega) (by omega) ?_ | refine wrap_isS (placeL n n k) hpl (by omega) (by omega) ?_ | refine wrap_i64 (by omega) (by omega) ?_)) | (show leK _ _ _; (refine le_of (Nat.le_of_eq (by rw [ints_length, rangeL_length])) ?_)) | (show roomK _ _ _; (refine room_of (by show (k + 1) * 8 ≤ 140737488355328; omega) ?_)) | (show drawK _ 6 _ _ _ _ _ _; (refine draw_quiet tabOk mixed (by kernel_rfl) ?_)) | (show Wp _ _ _ _ _ _ _; (refine Wp.go tabOk rfl ?_)) | (show @cmpK _ _ _; (first | refine cmp_yes (by omega) ?_ | refine cmp_no (by omega) ?_ | (refine cmp_both ?_ ?_ <;> intro _))) | (show wrapK _ _ _; (refine wrap_i64 (by omega) (by omega) ?_)) | (show leK _ _ _; (refine le_of (by first | exact Nat.le_refl _ | omega) ?_)) | (show roomK _ _ _; (refine room_of (by first | omega | (dsimp only; omega)) ?_)) | (show ltK _ _ _; (refine lt_of (by omega) ?_)) | (show _ ∧ _; (refine ⟨?_, ?_⟩)) | (show keepK _ _ _ _ _; (refine keep_of (by first | exact List.Sublist.refl _ | exact List.Sublist.cons _ (List.Sublist.refl _) | exact List.Sublist.cons _ (List.Sublist.cons _ (List.Sublist.refl _)) | exact List.Sublist.cons _ (List.Sublist.cons _ (List.Sublist.cons _ (List.Sublist.refl _)))) (by first | exact (fun _ _ h => h) | exact (fun _ _ h => h.1) | exact (fun _ _ h => h.1.1)) ?_)) | (show ownK _ _ _ _ _; (refine own_keep ?_))))
            all_goals (conv => whnf)
            exact ⟨(i + 1, k + 1), [(2, some 4)], ⟨hli, by show k + 1 = cc * n + (i + 1); omega⟩, by show n - (i + 1) < n - i; omega, rfl, ⟨rfl, rfl, rfl, rfl, rfl, rfl, rfl, rfl, rfl, rfl, trivial⟩, ⟨by show (4, Ent.rows (ints (rangeL n n (k + 1))) 1 3) ∈ _; rw [rangeL_succ]; exact ints_snocS _ _ (rangeL_length n n k).symm, trivial⟩, fun _ _ h => h⟩
          · (repeat' ((conv => whnf) <;> first | (show drawK _ 6 _ _ _ _ _ _; (refine draw_quiet tabOk mixed (by kernel_rfl) ?_)) | (show Wp _ _ _ _ _ _ _; (refine Wp.go tabOk rfl ?_)) | (show @cmpK _ _ _; (first | refine cmp_yes (by omega) ?_ | refine cmp_no (by omega) ?_ | (refine cmp_both ?_ ?_ <;> intro _))) | (show wrapK _ _ _; (refine wrap_i64 (by omega) (by omega) ?_)) | (show leK _ _ _; (refine le_of (by first | exact Nat.le_refl _ | omega) ?_)) | (show roomK _ _ _; (refine room_of (by first | omega | (dsimp only; omega)) ?_)) | (show ltK _ _ _; (refine lt_of (by omega) ?_)) | (show _ ∧ _; (refine ⟨?_, ?_⟩)) | (show keepK _ _ _ _ _; (refine keep_of (by first | exact List.Sublist.refl _ | exact List.Sublist.cons _ (List.Sublist.refl _) | exact List.Sublist.cons _ (List.Sublist.cons _ (List.Sublist.refl _)) | exact List.Sublist.cons _ (List.Sublist.cons _ (List.Sublist.cons _ (List.Sublist.refl _)))) (by first | exact (fun _ _ h => h) | exact (fun _ _ h => h.1) | exact (fun _ _ h => h.1.1)) ?_)) | (show ownK _ _ _ _ _; (refine own_keep ?_))))
            all_goals (conv => whnf)
            exact ⟨(cc + 1, k), [(1, some 2)], ⟨hlt, by show k = (cc + 1) * n; rw [Nat.succ_mul]; omega⟩, by show c - (cc + 1) < c - cc; omega, rfl, ⟨rfl, rfl, rfl, rfl, rfl, rfl, rfl, trivial⟩, ⟨List.mem_cons_self, trivial⟩, fun _ _ h => h⟩
        · have hcc2 : cc = c := by omega
          rw [hcc2, hn] at hm
          have hpb := placeL_bd (i := n - 1) (n := n) hs1 hsp (by omega) hn64 hp2
          have hlast := rangeL_getD n n (k := n) (i := n - 1) (by omega)
          have hll := rangeL_length n n n
          have hm' := hm.symm
          subst hm'
          (repeat' ((conv => whnf) <;> first | (show idxRowK _ _ _ _ _ _; (refine idxRow_of (n - 1) (by omega) (by omega) (Nat.le_of_eq (by rw [ints_length, rangeL_length])) ?_)) | (show rowK _ _ _ _; (refine ro_own (xs := rangeL n n n) (j := n - 1) (by omega) ?_)) | (show drawK _ 6 _ _ _ _ _ _; (refine draw_quiet tabOk mixed (by kernel_rfl) ?_)) | (show Wp _ _ _ _ _ _ _; (refine Wp.go tabOk rfl ?_)) | (show @cmpK _ _ _; (first | refine cmp_yes (by omega) ?_ | refine cmp_no (by omega) ?_ | (refine cmp_both ?_ ?_ <;> intro _))) | (show wrapK _ _ _; (refine wrap_i64 (by omega) (by omega) ?_)) | (show leK _ _ _; (refine le_of (by first | exact Nat.le_refl _ | omega) ?_)) | (show roomK _ _ _; (refine room_of (by first | omega | (dsimp only; omega)) ?_)) | (show ltK _ _ _; (refine lt_of (by omega) ?_)) | (show _ ∧ _; (refine ⟨?_, ?_⟩)) | (show keepK _ _ _ _ _; (refine keep_of (by first | exact List.Sublist.refl _ | exact List.Sublist.cons _ (List.Sublist.refl _) | exact List.Sublist.cons _ (List.Sublist.cons _ (List.Sublist.refl _)) | exact List.Sublist.cons _ (List.Sublist.cons _ (List.Sublist.cons _ (List.Sublist.refl _)))) (by first | exact (fun _ _ h => h) | exact (fun _ _ h => h.1) | exact (fun _ _ h => h.1.1)) ?_)) | (show ownK _ _ _ _ _; (refine own_keep ?_))))
          all_goals (conv => whnf)
          · exact slots_fail (fun _ _ h => h) rfl (if_pos (by omega))
          · exact slots_end (i := 1) (fun _ _ h => h) rfl hll.symm (range_fits hs1 hsp hn64 hp2) (by omega) (by repeat (first | exact List.mem_cons_self | apply List.mem_cons_of_mem)) (if_neg (by omega))
end Go.Proofs.Ytdmkdogakbipbaa
/- LT -/
namespace Go.Proofs.Ytdmkdogakbipbaa
open Go.RowKit Go.SX
theorem slots_any_lt {s p n : Nat} {slots : Int} (hs : 1 ≤ s) (hp : s ≤ p) {i : Nat} (hi : i < n) (h : slots ≤ placeL s p i) : slots ≤ placeL s p (n - 1) := Int.le_trans h (placeL_mono hs hp (by omega))
theorem rem_isS {x y q : Int} {K : Int → Prop} (h0 : 0 ≤ x) (hy : y ≠ 0) (e : x % y = q) (h : K q) : remK x y K := rem_pos h0 hy (by rw [e]; exact h)
set_option maxHeartbeats 4000000 in
theorem refSlots_any (w : World) (u : IntsV) (hx : RowsI w u.base 1 (ints u.xs)) (layout slots : Int) : Calls Try.prog 29 #[u.val, .int .i64 layout, .int .i64 slots] w (SlotsPost w (slotsL u.xs layout slots)) := by
  by_cases hA : entries u.xs = 0 ∨ layout < 0 ∨ 1 < layout
  · refine calls_of tab tabOk Try.func29 rfl rfl rfl [] (fun _ => ⟨none, 0⟩) [.c u.val, .c (.int .i64 layout), .c (.int .i64 slots)] [] (baseA w) 0 rfl rfl (by show 3 ≤ _; decide) (abs_base w) ?_
    (repeat' ((conv => whnf) <;> first | (show callK _ 34 _ _ _ _ _; (refine call_pure (f := 34) Try.call34 (.int .i64 (entries u.xs)) (fun ρ w' hw => refEntries_any w' u.base u.cap u.xs (holds_of_abs hw fun R h => rows_base h hx)) ?_)) | (show drawK _ 6 _ _ _ _ _ _; (refine draw_quiet tabOk mixed (by kernel_rfl) ?_)) | (show drawK _ 14 _ _ _ _ _ _; (refine draw_quiet tabOk mixed (by kernel_rfl) ?_)) | (show Wp _ _ _ _ _ _ _; (refine Wp.go tabOk rfl ?_)) | (show @cmpK _ _ _; (first | refine cmp_yes (by omega) ?_ | refine cmp_no (by omega) ?_ | (refine cmp_both ?_ ?_ <;> intro _))) | (show wrapK _ _ _; (refine wrap_i64 (by omega) (by omega) ?_)) | (show leK _ _ _; (refine le_of (by first | exact Nat.le_refl _ | omega) ?_)) | (show roomK _ _ _; (refine room_of (by first | omega | (dsimp only; omega)) ?_)) | (show ltK _ _ _; (refine lt_of (by omega) ?_)) | (show _ ∧ _; (refine ⟨?_, ?_⟩)) | (show keepK _ _ _ _ _; (refine keep_of (by first | exact List.Sublist.refl _ | exact List.Sublist.cons _ (List.Sublist.refl _) | exact List.Sublist.cons _ (List.Sublist.cons _ (List.Sublist.refl _)) | exact List.Sublist.cons _ (List.Sublist.cons _ (List.Sublist.cons _ (List.Sublist.refl _)))) (by first | exact (fun _ _ h => h) | exact (fun _ _ h => h.1) | exact (fun _ _ h => h.1.1)) ?_)) | (show ownK _ _ _ _ _; (refine own_keep ?_))))
    all_goals (conv => whnf)
    all_goals first | (exfalso; omega) | skip
    all_goals exact slots_fail (fun _ _ h => h) rfl (by rw [slotsL, if_pos hA])
  · obtain ⟨c, s, p, hcs, hs, hp, hc1, hs1, hsp, hp2, hn64, hc64, hs64, hel⟩ := slots_geo (xs := u.xs) (layout := layout) (by omega)
    have hdef : slotsL u.xs layout slots = if slots ≤ placeL s p (c * s - 1) then ([], 7) else (rangeL s p (c * s), 0) := by
      rw [slotsL, if_neg hA, hs, hp, hcs, Int.toNat_natCast]
    obtain ⟨n, hn⟩ : ∃ n, c * s = n := ⟨_, rfl⟩
    have hn1 : 1 ≤ n := by rw [← hn]; exact Nat.mul_pos hc1 hs1
    rw [hn] at hdef hcs hn64
    rw [hdef]
    have hent : ∀ {ρ : Nat → SX.Loc} {w' : World} {nx : Nat} {H : Heap}, Abs ⟨w, []⟩ ρ nx H (baseA w) w' → Calls Try.prog 34 #[u.val] w' fun e w2 => e = .returned (.int .i64 (n : Nat)) ∧ Ext w' w2 := fun hw => by
      have := refEntries_any _ u.base u.cap u.xs (holds_of_abs hw fun R h => rows_base h hx)
      rw [hcs] at this; exact this
    by_cases h1 : layout = 1 ∧ u.xs.length = 3
    · obtain ⟨ua, hua⟩ : ∃ a, u.base = some a := base_some (j := 0) hx (by rw [ints_length]; omega)
      have hur : ∀ (R : Nat → Prop) w', (baseA w).holds R w' → RowsI w' (some ua) 1 (ints u.xs) := fun R w' h => by rw [← hua]; exact rows_base h hx
      rw [sizeL, if_pos h1] at hs
      rw [pitchL, if_pos h1, hs] at hp
      refine calls_of tab tabOk Try.func29 rfl rfl rfl [] (fun _ => ⟨none, 0⟩) [.c u.val, .c (.int .i64 layout), .c (.int .i64 slots)] [] (baseA w) 0 rfl rfl (by show 3 ≤ _; decide) (abs_base w) ?_
      (repeat' ((conv => whnf) <;> first | (show callK _ 34 _ _ _ _ _; (refine call_pure (f := 34) Try.call34 (.int .i64 (n : Nat)) (fun ρ w' hw => hent hw) ?_)) | (show idxK _ _ _ _ _; (first | refine idx_of ua 1 hua rfl (by omega) ?_ | refine idx_of ua 2 hua rfl (by omega) ?_)) | (show roK _ _ _; (first | refine ro_int hur (j := 1) (by omega) ?_ | refine ro_int hur (j := 2) (by omega) ?_)) | (show wrapK _ _ _; (refine wrap_isS (s : Int) hs (by omega) (by omega) ?_)) | (show drawK _ 6 _ _ _ _ _ _; (refine draw_quiet tabOk mixed (by kernel_rfl) ?_)) | (show drawK _ 14 _ _ _ _ _ _; (refine draw_quiet tabOk mixed (by kernel_rfl) ?_)) | (show Wp _ _ _ _ _ _ _; (refine Wp.go tabOk rfl ?_)) | (show @cmpK _ _ _; (first | refine cmp_yes (by omega) ?_ | refine cmp_no (by omega) ?_ | (refine cmp_both ?_ ?_ <;> intro _))) | (show wrapK _ _ _; (refine wrap_i64 (by omega) (by omega) ?_)) | (show leK _ _ _; (refine le_of (by first | exact Nat.le_refl _ | omega) ?_)) | (show roomK _ _ _; (refine room_of (by first | omega | (dsimp only; omega)) ?_)) | (show ltK _ _ _; (refine lt_of (by omega) ?_)) | (show _ ∧ _; (refine ⟨?_, ?_⟩)) | (show keepK _ _ _ _ _; (refine keep_of (by first | exact List.Sublist.refl _ | exact List.Sublist.cons _ (List.Sublist.refl _) | exact List.Sublist.cons _ (List.Sublist.cons _ (List.Sublist.refl _)) | exact List.Sublist.cons _ (List.Sublist.cons _ (List.Sublist.cons _ (List.Sublist.refl _)))) (by first | exact (fun _ _ h => h) | exact (fun _ _ h => h.1) | exact (fun _ _ h => h.1.1)) ?_)) | (show ownK _ _ _ _ _; (refine own_keep ?_))))
      all_goals (conv => whnf)
      refine Wp.loop (σ := Nat × Nat) 0 (fun ⟨q, k⟩ => [(2, .c (.int .i64 slots)), (8, .c (.int .i64 (n : Nat))), (9, .c (.int .i64 (s : Nat))), (10, .c (.int .i64 q))]) (fun _ => []) (fun _ => baseA w)
        (fun ⟨q, k⟩ => (q : Int) * 2 ^ k = 128 ∧ 1 ≤ q ∧ up k s q = p) (fun x => x.2) (1, 7) [] (by decide) (fun s => ⟨rfl, rfl⟩) ⟨by decide, by decide, hp⟩ ⟨rfl, ⟨rfl, rfl, rfl, rfl, trivial⟩, trivial, fun _ _ h => h⟩ ?_
      rintro ⟨q, k⟩ ⟨hq1, hq2, hq3⟩
      by_cases hqs : (q : Int) < s
      · obtain ⟨k', rfl, hk2, hk3⟩ := up_step hqs (by omega) hq1
        (repeat' ((conv => whnf) <;> first | (show wrapK _ _ _; (refine wrap_isS ((q * 2 : Nat) : Int) (by rw [Int.natCast_mul]; exact Int.mul_comm _ _) (by omega) (by omega) ?_)) | (show drawK _ 6 _ _ _ _ _ _; (refine draw_quiet tabOk mixed (by kernel_rfl) ?_)) | (show drawK _ 14 _ _ _ _ _ _; (refine draw_quiet tabOk mixed (by kernel_rfl) ?_)) | (show Wp _ _ _ _ _ _ _; (refine Wp.go tabOk rfl ?_)) | (show @cmpK _ _ _; (first | refine cmp_yes (by omega) ?_ | refine cmp_no (by omega) ?_ | (refine cmp_both ?_ ?_ <;> intro _))) | (show wrapK _ _ _; (refine wrap_i64 (by omega) (by omega) ?_)) | (show leK _ _ _; (refine le_of (by first | exact Nat.le_refl _ | omega) ?_)) | (show roomK _ _ _; (refine room_of (by first | omega | (dsimp only; omega)) ?_)) | (show ltK _ _ _; (refine lt_of (by omega) ?_)) | (show _ ∧ _; (refine ⟨?_, ?_⟩)) | (show keepK _ _ _ _ _; (refine keep_of (by first | exact List.Sublist.refl _ | exact List.Sublist.cons _ (List.Sublist.refl _) | exact List.Sublist.cons _ (List.Sublist.cons _ (List.Sublist.refl _)) | exact List.Sublist.cons _ (List.Sublist.cons _ (List.Sublist.cons _ (List.Sublist.refl _)))) (by first | exact (fun _ _ h => h) | exact (fun _ _ h => h.1) | exact (fun _ _ h => h.1.1)) ?_)) | (show ownK _ _ _ _ _; (refine own_keep ?_))))
        all_goals (conv => whnf)
        exact ⟨(q * 2, k'), [], ⟨by simpa using hk3, by show 1 ≤ q * 2; omega, by rw [← hq3, hk2]; simp⟩, Nat.lt_succ_self _, rfl, ⟨rfl, rfl, rfl, rfl, trivial⟩, trivial, fun _ _ h => h⟩
      · rw [up_stop hqs] at hq3
        have hqp : p = q := by omega
        subst hqp
        (repeat' ((conv => whnf) <;> first | (show drawK _ 6 _ _ _ _ _ _; (refine draw_quiet tabOk mixed (by kernel_rfl) ?_)) | (show drawK _ 14 _ _ _ _ _ _; (refine draw_quiet tabOk mixed (by kernel_rfl) ?_)) | (show Wp _ _ _ _ _ _ _; (refine Wp.go tabOk rfl ?_)) | (show @cmpK _ _ _; (first | refine cmp_yes (by omega) ?_ | refine cmp_no (by omega) ?_ | (refine cmp_both ?_ ?_ <;> intro _))) | (show wrapK _ _ _; (refine wrap_i64 (by omega) (by omega) ?_)) | (show leK _ _ _; (refine le_of (by first | exact Nat.le_refl _ | omega) ?_)) | (show roomK _ _ _; (refine room_of (by first | omega | (dsimp only; omega)) ?_)) | (show ltK _ _ _; (refine lt_of (by omega) ?_)) | (show _ ∧ _; (refine ⟨?_, ?_⟩)) | (show keepK _ _ _ _ _; (refine keep_of (by first | exact List.Sublist.refl _ | exact List.Sublist.cons _ (List.Sublist.refl _) | exact List.Sublist.cons _ (List.Sublist.cons _ (List.Sublist.refl _)) | exact List.Sublist.cons _ (List.Sublist.cons _ (List.Sublist.cons _ (List.Sublist.refl _)))) (by first | exact (fun _ _ h => h) | exact (fun _ _ h => h.1) | exact (fun _ _ h => h.1.1)) ?_)) | (show ownK _ _ _ _ _; (refine own_keep ?_))))
        all_goals (conv => whnf)
        refine Wp.loop (σ := Nat) 2 (fun m => [(2, .c (.int .i64 slots)), (8, .c (.int .i64 (n : Nat))), (9, .c (.int .i64 (s : Nat))), (10, .c (.int .i64 (p : Nat))), (11, .os 1 m), (12, .c (.int .i64 m))]) (fun m => [(1, .rows (ints (rangeL s p m)) 1 3)]) (fun _ => baseA w)
          (fun m => m ≤ n ∧ ∀ i, i < m → placeL s p i < slots) (fun m => n - m) 0 [(1, none)] (by decide) (fun _ => ⟨rfl, rfl⟩) ⟨Nat.zero_le _, fun i hi => absurd hi (Nat.not_lt_zero i)⟩ ⟨rfl, ⟨rfl, rfl, rfl, rfl, rfl, rfl, trivial⟩, ⟨rfl, trivial⟩, fun _ _ h => h⟩ ?_
        rintro m ⟨hm, hall⟩
        have hrl := rangeL_length s p m
        by_cases hlt : m < n
        · have hpb := placeL_bd (i := m) (n := n) hs1 hsp hlt hn64 hp2
          have hpn := placeL_nat (s := s) (p := p) m
          have hq1 : ((m / s : Nat) : Int) * (p : Int) = ((m / s * p : Nat) : Int) := (Int.natCast_mul _ _).symm
          have hq2 : m / s * p ≤ 64 * 128 := Nat.mul_le_mul (Nat.le_trans (Nat.div_le_self _ _) (by omega)) hp2
          by_cases hge : slots ≤ placeL s p m
          · (repeat' ((conv => whnf) <;> first | (show divK _ _ _ _; (refine div_isS (q := ((m / s : Nat) : Int)) (Int.natCast_ediv m s).symm (by omega) (by omega) (by omega) ?_)) | (show remK _ _ _; (refine rem_isS (q := ((m % s : Nat) : Int)) (by omega) (by omega) (Int.natCast_emod m s).symm ?_)) | (show wrapK _ _ _; (first | refine wrap_isS ((m / s * p : Nat) : Int) hq1 (by omega) (by omega) ?_ | refine wrap_isS (placeL s p m) hpn.symm (by omega) (by omega) ?_ | refine wrap_i64 (by omega) (by omega) ?_)) | (show drawK _ 6 _ _ _ _ _ _; (refine draw_quiet tabOk mixed (by kernel_rfl) ?_)) | (show drawK _ 14 _ _ _ _ _ _; (refine draw_quiet tabOk mixed (by kernel_rfl) ?_)) | (show Wp _ _ _ _ _ _ _; (refine Wp.go tabOk rfl ?_)) | (show @cmpK _ _ _; (first | refine cmp_yes (by omega) ?_ | refine cmp_no (by omega) ?_ | (refine cmp_both ?_ ?_ <;> intro _))) | (show wrapK _ _ _; (refine wrap_i64 (by omega) (by omega) ?_)) | (show leK _ _ _; (refine le_of (by first | exact Nat.le_refl _ | omega) ?_)) | (show roomK _ _ _; (refine room_of (by first | omega | (dsimp only; omega)) ?_)) | (show ltK _ _ _; (refine lt_of (by omega) ?_)) | (show _ ∧ _; (refine ⟨?_, ?_⟩)) | (show keepK _ _ _ _ _; (refine keep_of (by first | exact List.Sublist.refl _ | exact List.Sublist.cons _ (List.Sublist.refl _) | exact List.Sublist.cons _ (List.Sublist.cons _ (List.Sublist.refl _)) | exact List.Sublist.cons _ (List.Sublist.cons _ (List.Sublist.cons _ (List.Sublist.refl _)))) (by first | exact (fun _ _ h => h) | exact (fun _ _ h => h.1) | exact (fun _ _ h => h.1.1)) ?_)) | (show ownK _ _ _ _ _; (refine own_keep ?_))))
            all_goals (conv => whnf)
            all_goals exact slots_fail (fun _ _ h => h) rfl (if_pos (slots_any_lt hs1 hsp hlt hge))
          · (repeat' ((conv => whnf) <;> first | (show divK _ _ _ _; (refine div_isS (q := ((m / s : Nat) : Int)) (Int.natCast_ediv m s).symm (by omega) (by omega) (by omega) ?_)) | (show remK _ _ _; (refine rem_isS (q := ((m % s : Nat) : Int)) (by omega) (by omega) (Int.natCast_emod m s).symm ?_)) | (show wrapK _ _ _; (first | refine wrap_isS ((m / s * p : Nat) : Int) hq1 (by omega) (by omega) ?_ | refine wrap_isS (placeL s p m) hpn.symm (by omega) (by omega) ?_ | refine wrap_i64 (by omega) (by omega) ?_)) | (show leK _ _ _; (refine le_of (Nat.le_of_eq (by rw [ints_length, rangeL_length])) ?_)) | (show roomK _ _ _; (refine room_of (by show (m + 1) * 8 ≤ 140737488355328; omega) ?_)) | (show drawK _ 6 _ _ _ _ _ _; (refine draw_quiet tabOk mixed (by kernel_rfl) ?_)) | (show drawK _ 14 _ _ _ _ _ _; (refine draw_quiet tabOk mixed (by kernel_rfl) ?_)) | (show Wp _ _ _ _ _ _ _; (refine Wp.go tabOk rfl ?_)) | (show @cmpK _ _ _; (first | refine cmp_yes (by omega) ?_ | refine cmp_no (by omega) ?_ | (refine cmp_both ?_ ?_ <;> intro _))) | (show wrapK _ _ _; (refine wrap_i64 (by omega) (by omega) ?_)) | (show leK _ _ _; (refine le_of (by first | exact Nat.le_refl _ | omega) ?_)) | (show roomK _ _ _; (refine room_of (by first | omega | (dsimp only; omega)) ?_)) | (show ltK _ _ _; (refine lt_of (by omega) ?_)) | (show _ ∧ _; (refine ⟨?_, ?_⟩)) | (show keepK _ _ _ _ _; (refine keep_of (by first | exact List.Sublist.refl _ | exact List.Sublist.cons _ (List.Sublist.refl _) | exact List.Sublist.cons _ (List.Sublist.cons _ (List.Sublist.refl _)) | exact List.Sublist.cons _ (List.Sublist.cons _ (List.Sublist.cons _ (List.Sublist.refl _)))) (by first | exact (fun _ _ h => h) | exact (fun _ _ h => h.1) | exact (fun _ _ h => h.1.1)) ?_)) | (show ownK _ _ _ _ _; (refine own_keep ?_))))
            all_goals (conv => whnf)
            refine ⟨m + 1, [(1, some 3)], ⟨hlt, fun i hi => ?_⟩, by show n - (m + 1) < n - m; omega, rfl, ⟨rfl, rfl, rfl, rfl, rfl, rfl, trivial⟩, ⟨by show (3, Ent.rows (ints (rangeL s p (m + 1))) 1 3) ∈ _; rw [rangeL_succ]; exact ints_snocS _ _ (rangeL_length s p m).symm, trivial⟩, fun _ _ h => h⟩
            rcases Nat.lt_or_ge i m with g | g
            · exact hall i g
            · obtain rfl : i = m := by omega
              omega
        · have hmn : n = m := by omega
          have hlast := hall (n - 1) (by omega)
          subst hmn
          (repeat' ((conv => whnf) <;> first | (show drawK _ 6 _ _ _ _ _ _; (refine draw_quiet tabOk mixed (by kernel_rfl) ?_)) | (show drawK _ 14 _ _ _ _ _ _; (refine draw_quiet tabOk mixed (by kernel_rfl) ?_)) | (show Wp _ _ _ _ _ _ _; (refine Wp.go tabOk rfl ?_)) | (show @cmpK _ _ _; (first | refine cmp_yes (by omega) ?_ | refine cmp_no (by omega) ?_ | (refine cmp_both ?_ ?_ <;> intro _))) | (show wrapK _ _ _; (refine wrap_i64 (by omega) (by omega) ?_)) | (show leK _ _ _; (refine le_of (by first | exact Nat.le_refl _ | omega) ?_)) | (show roomK _ _ _; (refine room_of (by first | omega | (dsimp only; omega)) ?_)) | (show ltK _ _ _; (refine lt_of (by omega) ?_)) | (show _ ∧ _; (refine ⟨?_, ?_⟩)) | (show keepK _ _ _ _ _; (refine keep_of (by first | exact List.Sublist.refl _ | exact List.Sublist.cons _ (List.Sublist.refl _) | exact List.Sublist.cons _ (List.Sublist.cons _ (List.Sublist.refl _)) | exact List.Sublist.cons _ (List.Sublist.cons _ (List.Sublist.cons _ (List.Sublist.refl _)))) (by first | exact (fun _ _ h => h) | exact (fun _ _ h => h.1) | exact (fun _ _ h => h.1.1)) ?_)) | (show ownK _ _ _ _ _; (refine own_keep ?_))))
          all_goals (conv => whnf)
          exact slots_end (i := 1) (fun _ _ h => h) rfl hrl.symm (range_fits hs1 hsp hn64 hp2) (by omega) (by repeat (first | exact List.mem_cons_self | apply List.mem_cons_of_mem)) (if_neg (by omega))
    · obtain ⟨hc, hsp'⟩ := hel h1
      have hns : n = s := by rw [← hn, hc, Nat.one_mul]
      subst hsp'
      subst hns
      refine calls_of tab tabOk Try.func29 rfl rfl rfl [] (fun _ => ⟨none, 0⟩) [.c u.val, .c (.int .i64 layout), .c (.int .i64 slots)] [] (baseA w) 0 rfl rfl (by show 3 ≤ _; decide) (abs_base w) ?_
      (repeat' ((conv => whnf) <;> first | (show callK _ 34 _ _ _ _ _; (refine call_pure (f := 34) Try.call34 (.int .i64 (n : Nat)) (fun ρ w' hw => hent hw) ?_)) | (show drawK _ 6 _ _ _ _ _ _; (refine draw_quiet tabOk mixed (by kernel_rfl) ?_)) | (show drawK _ 14 _ _ _ _ _ _; (refine draw_quiet tabOk mixed (by kernel_rfl) ?_)) | (show Wp _ _ _ _ _ _ _; (refine Wp.go tabOk rfl ?_)) | (show @cmpK _ _ _; (first | refine cmp_yes (by omega) ?_ | refine cmp_no (by omega) ?_ | (refine cmp_both ?_ ?_ <;> intro _))) | (show wrapK _ _ _; (refine wrap_i64 (by omega) (by omega) ?_)) | (show leK _ _ _; (refine le_of (by first | exact Nat.le_refl _ | omega) ?_)) | (show roomK _ _ _; (refine room_of (by first | omega | (dsimp only; omega)) ?_)) | (show ltK _ _ _; (refine lt_of (by omega) ?_)) | (show _ ∧ _; (refine ⟨?_, ?_⟩)) | (show keepK _ _ _ _ _; (refine keep_of (by first | exact List.Sublist.refl _ | exact List.Sublist.cons _ (List.Sublist.refl _) | exact List.Sublist.cons _ (List.Sublist.cons _ (List.Sublist.refl _)) | exact List.Sublist.cons _ (List.Sublist.cons _ (List.Sublist.cons _ (List.Sublist.refl _)))) (by first | exact (fun _ _ h => h) | exact (fun _ _ h => h.1) | exact (fun _ _ h => h.1.1)) ?_)) | (show ownK _ _ _ _ _; (refine own_keep ?_))))
      all_goals (conv => whnf)
      all_goals first | (exfalso; omega) | skip
      · skip
        refine Wp.loop (σ := Nat) 2 (fun m => [(2, .c (.int .i64 slots)), (8, .c (.int .i64 (n : Nat))), (9, .c (.int .i64 (n : Nat))), (10, .c (.int .i64 (n : Nat))), (11, .os 1 m), (12, .c (.int .i64 m))]) (fun m => [(1, .rows (ints (rangeL n n m)) 1 3)]) (fun _ => baseA w)
          (fun m => m ≤ n ∧ ∀ i, i < m → placeL n n i < slots) (fun m => n - m) 0 [(1, none)] (by decide) (fun _ => ⟨rfl, rfl⟩) ⟨Nat.zero_le _, fun i hi => absurd hi (Nat.not_lt_zero i)⟩ ⟨rfl, ⟨rfl, rfl, rfl, rfl, rfl, rfl, trivial⟩, ⟨rfl, trivial⟩, fun _ _ h => h⟩ ?_
        rintro m ⟨hm, hall⟩
        have hrl := rangeL_length n n m
        by_cases hlt : m < n
        · have hpb := placeL_bd (i := m) (n := n) hs1 hsp hlt hn64 hp2
          have hpn := placeL_nat (s := n) (p := n) m
          have hq1 : ((m / n : Nat) : Int) * (n : Int) = ((m / n * n : Nat) : Int) := (Int.natCast_mul _ _).symm
          have hq2 : m / n * n ≤ 64 * 128 := Nat.mul_le_mul (Nat.le_trans (Nat.div_le_self _ _) (by omega)) hp2
          by_cases hge : slots ≤ placeL n n m
          · (repeat' ((conv => whnf) <;> first | (show divK _ _ _ _; (refine div_isS (q := ((m / n : Nat) : Int)) (Int.natCast_ediv m n).symm (by omega) (by omega) (by omega) ?_)) | (show remK _ _ _; (refine rem_isS (q := ((m % n : Nat) : Int)) (by omega) (by omega) (Int.natCast_emod m n).symm ?_)) | (show wrapK _ _ _; (first | refine wrap_isS ((m / n * n : Nat) : Int) hq1 (by omega) (by omega) ?_ | refine wrap_isS (placeL n n m) hpn.symm (by omega) (by omega) ?_ | refine wrap_i64 (by omega) (by omega) ?_)) | (show drawK _ 6 _ _ _ _ _ _; (refine draw_quiet tabOk mixed (by kernel_rfl) ?_)) | (show drawK _ 14 _ _ _ _ _ _; (refine draw_quiet tabOk mixed (by kernel_rfl) ?_)) | (show Wp _ _ _ _ _ _ _; (refine Wp.go tabOk rfl ?_)) | (show @cmpK _ _ _; (first | refine cmp_yes (by omega) ?_ | refine cmp_no (by omega) ?_ | (refine cmp_both ?_ ?_ <;> intro _))) | (show wrapK _ _ _; (refine wrap_i64 (by omega) (by omega) ?_)) | (show leK _ _ _; (refine le_of (by first | exact Nat.le_refl _ | omega) ?_)) | (show roomK _ _ _; (refine room_of (by first | omega | (dsimp only; omega)) ?_)) | (show ltK _ _ _; (refine lt_of (by omega) ?_)) | (show _ ∧ _; (refine ⟨?_, ?_⟩)) | (show keepK _ _ _ _ _; (refine keep_of (by first | exact List.Sublist.refl _ | exact List.Sublist.cons _ (List.Sublist.refl _) | exact List.Sublist.cons _ (List.Sublist.cons _ (List.Sublist.refl _)) | exact List.Sublist.cons _ (List.Sublist.cons _ (List.Sublist.cons _ (List.Sublist.refl _)))) (by first | exact (fun _ _ h => h) | exact (fun _ _ h => h.1) | exact (fun _ _ h => h.1.1)) ?_)) | (show ownK _ _ _ _ _; (refine own_keep ?_))))
            all_goals (conv => whnf)
            all_goals exact slots_fail (fun _ _ h => h) rfl (if_pos (slots_any_lt hs1 hsp hlt hge))
          · (repeat' ((conv => whnf) <;> first | (show divK _ _ _ _; (refine div_isS (q := ((m / n : Nat) : Int)) (Int.natCast_ediv m n).symm (by omega) (by omega) (by omega) ?_)) | (show remK _ _ _; (refine rem_isS (q := ((m % n : Nat) : Int)) (by omega) (by omega) (Int.natCast_emod m n).symm ?_)) | (show wrapK _ _ _; (first | refine wrap_isS ((m / n * n : Nat) : Int) hq1 (by omega) (by omega) ?_ | refine wrap_isS (placeL n n m) hpn.symm (by omega) (by omega) ?_ | refine wrap_i64 (by omega) (by omega) ?_)) | (show leK _ _ _; (refine le_of (Nat.le_of_eq (by rw [ints_length, rangeL_length])) ?_)) | (show roomK _ _ _; (refine room_of (by show (m + 1) * 8 ≤ 140737488355328; omega) ?_)) | (show drawK _ 6 _ _ _ _ _ _; (refine draw_quiet tabOk mixed (by kernel_rfl) ?_)) | (show drawK _ 14 _ _ _ _ _ _; (refine draw_quiet tabOk mixed (by kernel_rfl) ?_)) | (show Wp _ _ _ _ _ _ _; (refine Wp.go tabOk rfl ?_)) | (show @cmpK _ _ _; (first | refine cmp_yes (by omega) ?_ | refine cmp_no (by omega) ?_ | (refine cmp_both ?_ ?_ <;> intro _))) | (show wrapK _ _ _; (refine wrap_i64 (by omega) (by omega) ?_)) | (show leK _ _ _; (refine le_of (by first | exact Nat.le_refl _ | omega) ?_)) | (show roomK _ _ _; (refine room_of (by first | omega | (dsimp only; omega)) ?_)) | (show ltK _ _ _; (refine lt_of (by omega) ?_)) | (show _ ∧ _; (refine ⟨?_, ?_⟩)) | (show keepK _ _ _ _ _; (refine keep_of (by first | exact List.Sublist.refl _ | exact List.Sublist.cons _ (List.Sublist.refl _) | exact List.Sublist.cons _ (List.Sublist.cons _ (List.Sublist.refl _)) | exact List.Sublist.cons _ (List.Sublist.cons _ (List.Sublist.cons _ (List.Sublist.refl _)))) (by first | exact (fun _ _ h => h) | exact (fun _ _ h => h.1) | exact (fun _ _ h => h.1.1)) ?_)) | (show ownK _ _ _ _ _; (refine own_keep ?_))))
            all_goals (conv => whnf)
            refine ⟨m + 1, [(1, some 3)], ⟨hlt, fun i hi => ?_⟩, by show n - (m + 1) < n - m; omega, rfl, ⟨rfl, rfl, rfl, rfl, rfl, rfl, trivial⟩, ⟨by show (3, Ent.rows (ints (rangeL n n (m + 1))) 1 3) ∈ _; rw [rangeL_succ]; exact ints_snocS _ _ (rangeL_length n n m).symm, trivial⟩, fun _ _ h => h⟩
            rcases Nat.lt_or_ge i m with g | g
            · exact hall i g
            · obtain rfl : i = m := by omega
              omega
        · have hmn : n = m := by omega
          have hlast := hall (n - 1) (by omega)
          subst hmn
          (repeat' ((conv => whnf) <;> first | (show drawK _ 6 _ _ _ _ _ _; (refine draw_quiet tabOk mixed (by kernel_rfl) ?_)) | (show drawK _ 14 _ _ _ _ _ _; (refine draw_quiet tabOk mixed (by kernel_rfl) ?_)) | (show Wp _ _ _ _ _ _ _; (refine Wp.go tabOk rfl ?_)) | (show @cmpK _ _ _; (first | refine cmp_yes (by omega) ?_ | refine cmp_no (by omega) ?_ | (refine cmp_both ?_ ?_ <;> intro _))) | (show wrapK _ _ _; (refine wrap_i64 (by omega) (by omega) ?_)) | (show leK _ _ _; (refine le_of (by first | exact Nat.le_refl _ | omega) ?_)) | (show roomK _ _ _; (refine room_of (by first | omega | (dsimp only; omega)) ?_)) | (show ltK _ _ _; (refine lt_of (by omega) ?_)) | (show _ ∧ _; (refine ⟨?_, ?_⟩)) | (show keepK _ _ _ _ _; (refine keep_of (by first | exact List.Sublist.refl _ | exact List.Sublist.cons _ (List.Sublist.refl _) | exact List.Sublist.cons _ (List.Sublist.cons _ (List.Sublist.refl _)) | exact List.Sublist.cons _ (List.Sublist.cons _ (List.Sublist.cons _ (List.Sublist.refl _)))) (by first | exact (fun _ _ h => h) | exact (fun _ _ h => h.1) | exact (fun _ _ h => h.1.1)) ?_)) | (show ownK _ _ _ _ _; (refine own_keep ?_))))
          all_goals (conv => whnf)
          exact slots_end (i := 1) (fun _ _ h => h) rfl hrl.symm (range_fits hs1 hsp hn64 hp2) (by omega) (by repeat (first | exact List.mem_cons_self | apply List.mem_cons_of_mem)) (if_neg (by omega))
      · skip
        refine Wp.loop (σ := Nat) 2 (fun m => [(2, .c (.int .i64 slots)), (8, .c (.int .i64 (n : Nat))), (9, .c (.int .i64 (n : Nat))), (10, .c (.int .i64 (n : Nat))), (11, .os 1 m), (12, .c (.int .i64 m))]) (fun m => [(1, .rows (ints (rangeL n n m)) 1 3)]) (fun _ => baseA w)
          (fun m => m ≤ n ∧ ∀ i, i < m → placeL n n i < slots) (fun m => n - m) 0 [(1, none)] (by decide) (fun _ => ⟨rfl, rfl⟩) ⟨Nat.zero_le _, fun i hi => absurd hi (Nat.not_lt_zero i)⟩ ⟨rfl, ⟨rfl, rfl, rfl, rfl, rfl, rfl, trivial⟩, ⟨rfl, trivial⟩, fun _ _ h => h⟩ ?_
        rintro m ⟨hm, hall⟩
        have hrl := rangeL_length n n m
        by_cases hlt : m < n
        · have hpb := placeL_bd (i := m) (n := n) hs1 hsp hlt hn64 hp2
          have hpn := placeL_nat (s := n) (p := n) m
          have hq1 : ((m / n : Nat) : Int) * (n : Int) = ((m / n * n : Nat) : Int) := (Int.natCast_mul _ _).symm
          have hq2 : m / n * n ≤ 64 * 128 := Nat.mul_le_mul (Nat.le_trans (Nat.div_le_self _ _) (by omega)) hp2
          by_cases hge : slots ≤ placeL n n m
          · (repeat' ((conv => whnf) <;> first | (show divK _ _ _ _; (refine div_isS (q := ((m / n : Nat) : Int)) (Int.natCast_ediv m n).symm (by omega) (by omega) (by omega) ?_)) | (show remK _ _ _; (refine rem_isS (q := ((m % n : Nat) : Int)) (by omega) (by omega) (Int.natCast_emod m n).symm ?_)) | (show wrapK _ _ _; (first | refine wrap_isS ((m / n * n : Nat) : Int) hq1 (by omega) (by omega) ?_ | refine wrap_isS (placeL n n m) hpn.symm (by omega) (by omega) ?_ | refine wrap_i64 (by omega) (by omega) ?_)) | (show drawK _ 6 _ _ _ _ _ _; (refine draw_quiet tabOk mixed (by kernel_rfl) ?_)) | (show drawK _ 14 _ _ _ _ _ _; (refine draw_quiet tabOk mixed (by kernel_rfl) ?_)) | (show Wp _ _ _ _ _ _ _; (refine Wp.go tabOk rfl ?_)) | (show @cmpK _ _ _; (first | refine cmp_yes (by omega) ?_ | refine cmp_no (by omega) ?_ | (refine cmp_both ?_ ?_ <;> intro _))) | (show wrapK _ _ _; (refine wrap_i64 (by omega) (by omega) ?_)) | (show leK _ _ _; (refine le_of (by first | exact Nat.le_refl _ | omega) ?_)) | (show roomK _ _ _; (refine room_of (by first | omega | (dsimp only; omega)) ?_)) | (show ltK _ _ _; (refine lt_of (by omega) ?_)) | (show _ ∧ _; (refine ⟨?_, ?_⟩)) | (show keepK _ _ _ _ _; (refine keep_of (by first | exact List.Sublist.refl _ | exact List.Sublist.cons _ (List.Sublist.refl _) | exact List.Sublist.cons _ (List.Sublist.cons _ (List.Sublist.refl _)) | exact List.Sublist.cons _ (List.Sublist.cons _ (List.Sublist.cons _ (List.Sublist.refl _)))) (by first | exact (fun _ _ h => h) | exact (fun _ _ h => h.1) | exact (fun _ _ h => h.1.1)) ?_)) | (show ownK _ _ _ _ _; (refine own_keep ?_))))
            all_goals (conv => whnf)
            all_goals exact slots_fail (fun _ _ h => h) rfl (if_pos (slots_any_lt hs1 hsp hlt hge))
          · (repeat' ((conv => whnf) <;> first | (show divK _ _ _ _; (refine div_isS (q := ((m / n : Nat) : Int)) (Int.natCast_ediv m n).symm (by omega) (by omega) (by omega) ?_)) | (show remK _ _ _; (refine rem_isS (q := ((m % n : Nat) : Int)) (by omega) (by omega) (Int.natCast_emod m n).symm ?_)) | (show wrapK _ _ _; (first | refine wrap_isS ((m / n * n : Nat) : Int) hq1 (by omega) (by omega) ?_ | refine wrap_isS (placeL n n m) hpn.symm (by omega) (by omega) ?_ | refine wrap_i64 (by omega) (by omega) ?_)) | (show leK _ _ _; (refine le_of (Nat.le_of_eq (by rw [ints_length, rangeL_length])) ?_)) | (show roomK _ _ _; (refine room_of (by show (m + 1) * 8 ≤ 140737488355328; omega) ?_)) | (show drawK _ 6 _ _ _ _ _ _; (refine draw_quiet tabOk mixed (by kernel_rfl) ?_)) | (show drawK _ 14 _ _ _ _ _ _; (refine draw_quiet tabOk mixed (by kernel_rfl) ?_)) | (show Wp _ _ _ _ _ _ _; (refine Wp.go tabOk rfl ?_)) | (show @cmpK _ _ _; (first | refine cmp_yes (by omega) ?_ | refine cmp_no (by omega) ?_ | (refine cmp_both ?_ ?_ <;> intro _))) | (show wrapK _ _ _; (refine wrap_i64 (by omega) (by omega) ?_)) | (show leK _ _ _; (refine le_of (by first | exact Nat.le_refl _ | omega) ?_)) | (show roomK _ _ _; (refine room_of (by first | omega | (dsimp only; omega)) ?_)) | (show ltK _ _ _; (refine lt_of (by omega) ?_)) | (show _ ∧ _; (refine ⟨?_, ?_⟩)) | (show keepK _ _ _ _ _; (refine keep_of (by first | exact List.Sublist.refl _ | exact List.Sublist.cons _ (List.Sublist.refl _) | exact List.Sublist.cons _ (List.Sublist.cons _ (List.Sublist.refl _)) | exact List.Sublist.cons _ (List.Sublist.cons _ (List.Sublist.cons _ (List.Sublist.refl _)))) (by first | exact (fun _ _ h => h) | exact (fun _ _ h => h.1) | exact (fun _ _ h => h.1.1)) ?_)) | (show ownK _ _ _ _ _; (refine own_keep ?_))))
            all_goals (conv => whnf)
            refine ⟨m + 1, [(1, some 3)], ⟨hlt, fun i hi => ?_⟩, by show n - (m + 1) < n - m; omega, rfl, ⟨rfl, rfl, rfl, rfl, rfl, rfl, trivial⟩, ⟨by show (3, Ent.rows (ints (rangeL n n (m + 1))) 1 3) ∈ _; rw [rangeL_succ]; exact ints_snocS _ _ (rangeL_length n n m).symm, trivial⟩, fun _ _ h => h⟩
            rcases Nat.lt_or_ge i m with g | g
            · exact hall i g
            · obtain rfl : i = m := by omega
              omega
        · have hmn : n = m := by omega
          have hlast := hall (n - 1) (by omega)
          subst hmn
          (repeat' ((conv => whnf) <;> first | (show drawK _ 6 _ _ _ _ _ _; (refine draw_quiet tabOk mixed (by kernel_rfl) ?_)) | (show drawK _ 14 _ _ _ _ _ _; (refine draw_quiet tabOk mixed (by kernel_rfl) ?_)) | (show Wp _ _ _ _ _ _ _; (refine Wp.go tabOk rfl ?_)) | (show @cmpK _ _ _; (first | refine cmp_yes (by omega) ?_ | refine cmp_no (by omega) ?_ | (refine cmp_both ?_ ?_ <;> intro _))) | (show wrapK _ _ _; (refine wrap_i64 (by omega) (by omega) ?_)) | (show leK _ _ _; (refine le_of (by first | exact Nat.le_refl _ | omega) ?_)) | (show roomK _ _ _; (refine room_of (by first | omega | (dsimp only; omega)) ?_)) | (show ltK _ _ _; (refine lt_of (by omega) ?_)) | (show _ ∧ _; (refine ⟨?_, ?_⟩)) | (show keepK _ _ _ _ _; (refine keep_of (by first | exact List.Sublist.refl _ | exact List.Sublist.cons _ (List.Sublist.refl _) | exact List.Sublist.cons _ (List.Sublist.cons _ (List.Sublist.refl _)) | exact List.Sublist.cons _ (List.Sublist.cons _ (List.Sublist.cons _ (List.Sublist.refl _)))) (by first | exact (fun _ _ h => h) | exact (fun _ _ h => h.1) | exact (fun _ _ h => h.1.1)) ?_)) | (show ownK _ _ _ _ _; (refine own_keep ?_))))
          all_goals (conv => whnf)
          exact slots_end (i := 1) (fun _ _ h => h) rfl hrl.symm (range_fits hs1 hsp hn64 hp2) (by omega) (by repeat (first | exact List.mem_cons_self | apply List.mem_cons_of_mem)) (if_neg (by omega))
end Go.Proofs.Ytdmkdogakbipbaa
/- LU -/
namespace Go.Proofs.Ytdmkdogakbipbaa
open Go.RowKit Go.SX
theorem intsF_ok {l1 : SX.Loc} {R : Nat → Prop} {w : World} {xs : List Int} (hf : ∀ x ∈ xs, i64 x) (h1 : xs.length ≤ l1.cap) (h2 : xs.length ≤ 1000000) (h : ((rowsA l1.base 1 (ints xs)).past 0).holds R w) : (⟨l1.base, l1.cap, xs⟩ : IntsV).ok w :=
  ⟨rowsA_in h, hf, h1, h2⟩
theorem intsP_ok {x : IntsV} {N : Nat} {R : Nat → Prop} {w : World} (hs : x.sane) (h : ((intsA x).past N).holds R w) : x.ok w := intsA_ok hs ((intsA x).mono h (fun _ hb => hb.1))
theorem diagA_ok {x : ShapesV} {D : List (List Int)} {R : Nat → Prop} {w : World} (hx : DiagIs D x) (hl : D.length ≤ 1000000) (h : (diagA x).holds R w) : x.okB w := ⟨rowsA_in h.1, fun u hu => intsA_ok (hx.sane u hu) (h.2 u hu), by have := congrArg List.length hx.rows; rw [List.length_map] at this; omega⟩
theorem diagP_ok {x : ShapesV} {N : Nat} {D : List (List Int)} {R : Nat → Prop} {w : World} (hx : DiagIs D x) (hl : D.length ≤ 1000000) (h : ((diagA x).past N).holds R w) : x.okB w := diagA_ok hx hl ((diagA x).mono h (fun _ hb => hb.1))
theorem slots_f : slotsL [2, 3, 1] 1 8 = ([0, 1, 2, 4, 5, 6], 0) := by
  have e : entries [2, 3, 1] = 6 := by unfold entries; rfl
  rw [slotsL, e]; decide
theorem diag_f : diagL [[5, 7]] [0, 1] [0] 2 = ([[5, 0], [7, 0]], 0) := by decide
theorem call_slots {cx : Cx} {f : FuncId} {args : List SV} {H : Heap} {S : Asn} {nx : Nat} {K : SV → Heap → Asn → Nat → Prop} (r : List Int × Int) (hf : ∀ ar w, (callFunc f ar).run cx.P w = .ok (.enter f ar) w)
    (hc : ∀ ρ w, Abs cx.B ρ nx H S w → Calls cx.P f (SV.rfs ρ args).toArray w (SlotsPost w r)) (h : ∀ x : IntsV, x.xs = r.1 → x.sane → K (.c (.tuple #[x.val, .int .i64 r.2])) H (S.and ((intsA x).past cx.B.w0.heap.size)) nx) : callK cx f args H S nx K := by
  refine call_past hf (fun x : IntsV => .tuple #[x.val, .int .i64 r.2]) intsA (fun x => x.xs = r.1 ∧ x.sane) (fun ρ w' hw => (hc ρ w' hw).mono ?_) (fun x hx => h x hx.1 hx.2)
  rintro e w2 ⟨x, h1, h2, h3, h4⟩
  exact ⟨x, h1, h2, h3, h4⟩
theorem call_diag {cx : Cx} {f : FuncId} {args : List SV} {H : Heap} {S : Asn} {nx : Nat} {K : SV → Heap → Asn → Nat → Prop} (r : List (List Int) × Int) (hf : ∀ ar w, (callFunc f ar).run cx.P w = .ok (.enter f ar) w)
    (hc : ∀ ρ w, Abs cx.B ρ nx H S w → Calls cx.P f (SV.rfs ρ args).toArray w (DiagPost w r.1 r.2)) (h : ∀ x : ShapesV, DiagIs r.1 x → (0 < x.l.length → ∃ a, x.base = some a) → K (.c (.tuple #[x.val, .int .i64 r.2])) H (S.and ((diagA x).past cx.B.w0.heap.size)) nx) : callK cx f args H S nx K := by
  refine call_past hf (fun x : ShapesV => .tuple #[x.val, .int .i64 r.2]) diagA (fun x => DiagIs r.1 x ∧ (0 < x.l.length → ∃ a, x.base = some a)) (fun ρ w' hw => (hc ρ w' hw).mono ?_) (fun x hx => h x hx.1 hx.2)
  rintro e w2 ⟨x, h1, h2, h3, h4⟩
  exact ⟨x, ⟨h1, fun h0 => base_some (j := 0) (rowsA_in h4.1) (by rw [shRows_length]; exact h0)⟩, h2, h3, h4⟩
theorem i64s {l : List Int} (h : (l.all fun x => decide (-1000 ≤ x ∧ x ≤ 1000)) = true) : ∀ x ∈ l, i64 x := fun x hx => by
  have := of_decide_eq_true (List.all_eq_true.1 h x hx)
  exact ⟨by omega, by omega⟩
set_option maxRecDepth 20000 in
set_option maxHeartbeats 4000000 in
theorem fixed19_any (w : World) : Calls Try.prog 27 #[] w fun e w' => e = .returned (.bool true) ∧ Ext w w' := by
  refine calls_of tab tabOk Try.func27 rfl rfl rfl [] (fun _ => ⟨none, 0⟩) [] [] (baseA w) 0 rfl rfl (by show 0 ≤ _; decide) (abs_base w) ?_
  (repeat' ((conv => whnf) <;> first | (show Wp _ _ _ _ _ _ _; (refine Wp.go tabOk rfl ?_)) | (show @cmpK _ _ _; (first | refine cmp_yes (by omega) ?_ | refine cmp_no (by omega) ?_ | (refine cmp_both ?_ ?_ <;> intro _))) | (show wrapK _ _ _; (refine wrap_i64 (by omega) (by omega) ?_)) | (show leK _ _ _; (refine le_of (by first | exact Nat.le_refl _ | omega) ?_)) | (show roomK _ _ _; (refine room_of (by first | omega | (dsimp only; omega)) ?_)) | (show ltK _ _ _; (refine lt_of (by omega) ?_)) | (show _ ∧ _; (refine ⟨?_, ?_⟩)) | (show keepK _ _ _ _ _; (refine keep_of (by first | exact List.Sublist.refl _ | exact List.Sublist.cons _ (List.Sublist.refl _) | exact List.Sublist.cons _ (List.Sublist.cons _ (List.Sublist.refl _)) | exact List.Sublist.cons _ (List.Sublist.cons _ (List.Sublist.cons _ (List.Sublist.refl _)))) (by first | exact (fun _ _ h => h) | exact (fun _ _ h => h.1) | exact (fun _ _ h => h.1.1)) ?_))))
  refine own_freeze 0 (fun _ _ _ _ hb => absurd hb (Nat.not_lt_zero _)) (fun l1 hl1 => ?_)
  (repeat' ((conv => whnf) <;> first | (show callK _ 28 _ _ _ _ _; (refine call_slots ([0, 1, 2, 4, 5, 6], 0) Try.call28 (fun ρ w' hw => by rw [← slots_f]; exact slots_any w' ⟨l1.base, l1.cap, [2, 3, 1]⟩ (holds_of_abs hw fun R h => rowsA_in h.2) 1 8) (fun x hx hxs => ?_))) | (show Wp _ _ _ _ _ _ _; (refine Wp.go tabOk rfl ?_)) | (show @cmpK _ _ _; (first | refine cmp_yes (by omega) ?_ | refine cmp_no (by omega) ?_ | (refine cmp_both ?_ ?_ <;> intro _))) | (show wrapK _ _ _; (refine wrap_i64 (by omega) (by omega) ?_)) | (show leK _ _ _; (refine le_of (by first | exact Nat.le_refl _ | omega) ?_)) | (show roomK _ _ _; (refine room_of (by first | omega | (dsimp only; omega)) ?_)) | (show ltK _ _ _; (refine lt_of (by omega) ?_)) | (show _ ∧ _; (refine ⟨?_, ?_⟩)) | (show keepK _ _ _ _ _; (refine keep_of (by first | exact List.Sublist.refl _ | exact List.Sublist.cons _ (List.Sublist.refl _) | exact List.Sublist.cons _ (List.Sublist.cons _ (List.Sublist.refl _)) | exact List.Sublist.cons _ (List.Sublist.cons _ (List.Sublist.cons _ (List.Sublist.refl _)))) (by first | exact (fun _ _ h => h) | exact (fun _ _ h => h.1) | exact (fun _ _ h => h.1.1)) ?_))))
  obtain ⟨xb, xc, xl⟩ := x
  simp only at hx
  subst hx
  (repeat' ((conv => whnf) <;> first | (show Wp _ _ _ _ _ _ _; (refine Wp.go tabOk rfl ?_)) | (show @cmpK _ _ _; (first | refine cmp_yes (by omega) ?_ | refine cmp_no (by omega) ?_ | (refine cmp_both ?_ ?_ <;> intro _))) | (show wrapK _ _ _; (refine wrap_i64 (by omega) (by omega) ?_)) | (show leK _ _ _; (refine le_of (by first | exact Nat.le_refl _ | omega) ?_)) | (show roomK _ _ _; (refine room_of (by first | omega | (dsimp only; omega)) ?_)) | (show ltK _ _ _; (refine lt_of (by omega) ?_)) | (show _ ∧ _; (refine ⟨?_, ?_⟩)) | (show keepK _ _ _ _ _; (refine keep_of (by first | exact List.Sublist.refl _ | exact List.Sublist.cons _ (List.Sublist.refl _) | exact List.Sublist.cons _ (List.Sublist.cons _ (List.Sublist.refl _)) | exact List.Sublist.cons _ (List.Sublist.cons _ (List.Sublist.cons _ (List.Sublist.refl _)))) (by first | exact (fun _ _ h => h) | exact (fun _ _ h => h.1) | exact (fun _ _ h => h.1.1)) ?_))))
  refine own_freeze 0 (fun _ _ _ _ hb => absurd hb (Nat.not_lt_zero _)) (fun l2 hl2 => ?_)
  (repeat' ((conv => whnf) <;> first | (show Wp _ _ _ _ _ _ _; (refine Wp.go tabOk rfl ?_)) | (show @cmpK _ _ _; (first | refine cmp_yes (by omega) ?_ | refine cmp_no (by omega) ?_ | (refine cmp_both ?_ ?_ <;> intro _))) | (show wrapK _ _ _; (refine wrap_i64 (by omega) (by omega) ?_)) | (show leK _ _ _; (refine le_of (by first | exact Nat.le_refl _ | omega) ?_)) | (show roomK _ _ _; (refine room_of (by first | omega | (dsimp only; omega)) ?_)) | (show ltK _ _ _; (refine lt_of (by omega) ?_)) | (show _ ∧ _; (refine ⟨?_, ?_⟩)) | (show keepK _ _ _ _ _; (refine keep_of (by first | exact List.Sublist.refl _ | exact List.Sublist.cons _ (List.Sublist.refl _) | exact List.Sublist.cons _ (List.Sublist.cons _ (List.Sublist.refl _)) | exact List.Sublist.cons _ (List.Sublist.cons _ (List.Sublist.cons _ (List.Sublist.refl _)))) (by first | exact (fun _ _ h => h) | exact (fun _ _ h => h.1) | exact (fun _ _ h => h.1.1)) ?_))))
  refine own_freeze 0 (fun _ _ _ _ hb => absurd hb (Nat.not_lt_zero _)) (fun l3 hl3 => ?_)
  (repeat' ((conv => whnf) <;> first | (show Wp _ _ _ _ _ _ _; (refine Wp.go tabOk rfl ?_)) | (show @cmpK _ _ _; (first | refine cmp_yes (by omega) ?_ | refine cmp_no (by omega) ?_ | (refine cmp_both ?_ ?_ <;> intro _))) | (show wrapK _ _ _; (refine wrap_i64 (by omega) (by omega) ?_)) | (show leK _ _ _; (refine le_of (by first | exact Nat.le_refl _ | omega) ?_)) | (show roomK _ _ _; (refine room_of (by first | omega | (dsimp only; omega)) ?_)) | (show ltK _ _ _; (refine lt_of (by omega) ?_)) | (show _ ∧ _; (refine ⟨?_, ?_⟩)) | (show keepK _ _ _ _ _; (refine keep_of (by first | exact List.Sublist.refl _ | exact List.Sublist.cons _ (List.Sublist.refl _) | exact List.Sublist.cons _ (List.Sublist.cons _ (List.Sublist.refl _)) | exact List.Sublist.cons _ (List.Sublist.cons _ (List.Sublist.cons _ (List.Sublist.refl _)))) (by first | exact (fun _ _ h => h) | exact (fun _ _ h => h.1) | exact (fun _ _ h => h.1.1)) ?_))))
  refine own_freeze 0 (fun _ _ _ _ hb => absurd hb (Nat.not_lt_zero _)) (fun l4 hl4 => ?_)
  (repeat' ((conv => whnf) <;> first | (show Wp _ _ _ _ _ _ _; (refine Wp.go tabOk rfl ?_)) | (show @cmpK _ _ _; (first | refine cmp_yes (by omega) ?_ | refine cmp_no (by omega) ?_ | (refine cmp_both ?_ ?_ <;> intro _))) | (show wrapK _ _ _; (refine wrap_i64 (by omega) (by omega) ?_)) | (show leK _ _ _; (refine le_of (by first | exact Nat.le_refl _ | omega) ?_)) | (show roomK _ _ _; (refine room_of (by first | omega | (dsimp only; omega)) ?_)) | (show ltK _ _ _; (refine lt_of (by omega) ?_)) | (show _ ∧ _; (refine ⟨?_, ?_⟩)) | (show keepK _ _ _ _ _; (refine keep_of (by first | exact List.Sublist.refl _ | exact List.Sublist.cons _ (List.Sublist.refl _) | exact List.Sublist.cons _ (List.Sublist.cons _ (List.Sublist.refl _)) | exact List.Sublist.cons _ (List.Sublist.cons _ (List.Sublist.cons _ (List.Sublist.refl _)))) (by first | exact (fun _ _ h => h) | exact (fun _ _ h => h.1) | exact (fun _ _ h => h.1.1)) ?_))))
  refine own_freeze 0 (fun _ _ _ _ hb => absurd hb (Nat.not_lt_zero _)) (fun l5 hl5 => ?_)
  (repeat' ((conv => whnf) <;> first | (show callK _ 31 _ _ _ _ _; (refine call_diag ([[5, 0], [7, 0]], 0) Try.call31 (fun ρ w' hw => by rw [← diag_f]; exact diag_any w' ⟨l3.base, l3.cap, [⟨l2.base, l2.cap, [5, 7]⟩]⟩ (holds_of_abs hw fun R h => ⟨rowsA_in h.1.1.2, fun u hu => by rw [List.mem_singleton.1 hu]; exact intsF_ok (i64s rfl) hl2 (show 2 ≤ 1000000 by decide) h.1.1.1.2, (show 1 ≤ 1000000 by decide)⟩) ⟨l4.base, l4.cap, [0, 1]⟩ ⟨l5.base, l5.cap, [0]⟩ (holds_of_abs hw fun R h => intsF_ok (i64s rfl) hl4 (show 2 ≤ 1000000 by decide) h.1.2) (holds_of_abs hw fun R h => intsF_ok (i64s rfl) hl5 (show 1 ≤ 1000000 by decide) h.2) 2 ⟨by decide, by decide⟩) (fun y hy hyb => ?_))) | (show Wp _ _ _ _ _ _ _; (refine Wp.go tabOk rfl ?_)) | (show @cmpK _ _ _; (first | refine cmp_yes (by omega) ?_ | refine cmp_no (by omega) ?_ | (refine cmp_both ?_ ?_ <;> intro _))) | (show wrapK _ _ _; (refine wrap_i64 (by omega) (by omega) ?_)) | (show leK _ _ _; (refine le_of (by first | exact Nat.le_refl _ | omega) ?_)) | (show roomK _ _ _; (refine room_of (by first | omega | (dsimp only; omega)) ?_)) | (show ltK _ _ _; (refine lt_of (by omega) ?_)) | (show _ ∧ _; (refine ⟨?_, ?_⟩)) | (show keepK _ _ _ _ _; (refine keep_of (by first | exact List.Sublist.refl _ | exact List.Sublist.cons _ (List.Sublist.refl _) | exact List.Sublist.cons _ (List.Sublist.cons _ (List.Sublist.refl _)) | exact List.Sublist.cons _ (List.Sublist.cons _ (List.Sublist.cons _ (List.Sublist.refl _)))) (by first | exact (fun _ _ h => h) | exact (fun _ _ h => h.1) | exact (fun _ _ h => h.1.1)) ?_))))
  obtain ⟨yb, yc, yl⟩ := y
  obtain ⟨u, v, rfl, hu, hv⟩ : ∃ u v, yl = [u, v] ∧ u.xs = [5, 0] ∧ v.xs = [7, 0] := by
    have h := hy.rows
    have h2 : yl.length = 2 := by have := congrArg List.length h; simpa using this
    match yl, h2, h with
    | [u, v], _, h => exact ⟨u, v, rfl, by simpa using (List.cons.inj h).1, by simpa using (List.cons.inj (List.cons.inj h).2).1⟩
  obtain ⟨a, rfl⟩ : ∃ a, yb = some a := hyb (show 0 < 2 by decide)
  have hyr : ∀ {R : Nat → Prop} {w' : World}, ((diagA ⟨some a, yc, [u, v]⟩).past w.heap.size).holds R w' → RowsI w' (some a) 1 (shRows [u, v]) := fun h => (diagP_ok hy (show 2 ≤ 1000000 by decide) h).rows
  (repeat' ((conv => whnf) <;> first | (show @cmpK _ _ _; (refine cmp_yes rfl ?_)) | (show Wp _ _ _ _ _ _ _; (refine Wp.go tabOk rfl ?_)) | (show @cmpK _ _ _; (first | refine cmp_yes (by omega) ?_ | refine cmp_no (by omega) ?_ | (refine cmp_both ?_ ?_ <;> intro _))) | (show wrapK _ _ _; (refine wrap_i64 (by omega) (by omega) ?_)) | (show leK _ _ _; (refine le_of (by first | exact Nat.le_refl _ | omega) ?_)) | (show roomK _ _ _; (refine room_of (by first | omega | (dsimp only; omega)) ?_)) | (show ltK _ _ _; (refine lt_of (by omega) ?_)) | (show _ ∧ _; (refine ⟨?_, ?_⟩)) | (show keepK _ _ _ _ _; (refine keep_of (by first | exact List.Sublist.refl _ | exact List.Sublist.cons _ (List.Sublist.refl _) | exact List.Sublist.cons _ (List.Sublist.cons _ (List.Sublist.refl _)) | exact List.Sublist.cons _ (List.Sublist.cons _ (List.Sublist.cons _ (List.Sublist.refl _)))) (by first | exact (fun _ _ h => h) | exact (fun _ _ h => h.1) | exact (fun _ _ h => h.1.1)) ?_))))
  refine own_freeze 0 (fun _ _ _ _ hb => absurd hb (Nat.not_lt_zero _)) (fun l6 hl6 => ?_)
  (repeat' ((conv => whnf) <;> first | (show @cmpK _ _ _; (refine cmp_yes rfl ?_)) | (show idxK _ _ _ _ _; (first | refine idx_of a 0 rfl rfl (show 0 < 2 by decide) ?_)) | (show roK _ _ _; (first | refine ro_row0 (fun R w' h => hyr h.1.2) [u.val] u.val rfl rfl ?_)) | (show callK _ 26 _ _ _ _ _; (refine call_pure (f := 26) Try.call26 (.bool true) (fun ρ w' hw => by have := same_any w' ⟨xb, xc, [0, 1, 2, 4, 5, 6]⟩ ⟨l6.base, l6.cap, [0, 1, 2, 4, 5, 6]⟩ (holds_of_abs hw fun R h => intsP_ok hxs h.1.1.1.1.1.1.2) (holds_of_abs hw fun R h => intsF_ok (i64s rfl) hl6 (show 6 ≤ 1000000 by decide) h.2); exact this) ?_)) | (show Wp _ _ _ _ _ _ _; (refine Wp.go tabOk rfl ?_)) | (show @cmpK _ _ _; (first | refine cmp_yes (by omega) ?_ | refine cmp_no (by omega) ?_ | (refine cmp_both ?_ ?_ <;> intro _))) | (show wrapK _ _ _; (refine wrap_i64 (by omega) (by omega) ?_)) | (show leK _ _ _; (refine le_of (by first | exact Nat.le_refl _ | omega) ?_)) | (show roomK _ _ _; (refine room_of (by first | omega | (dsimp only; omega)) ?_)) | (show ltK _ _ _; (refine lt_of (by omega) ?_)) | (show _ ∧ _; (refine ⟨?_, ?_⟩)) | (show keepK _ _ _ _ _; (refine keep_of (by first | exact List.Sublist.refl _ | exact List.Sublist.cons _ (List.Sublist.refl _) | exact List.Sublist.cons _ (List.Sublist.cons _ (List.Sublist.refl _)) | exact List.Sublist.cons _ (List.Sublist.cons _ (List.Sublist.cons _ (List.Sublist.refl _)))) (by first | exact (fun _ _ h => h) | exact (fun _ _ h => h.1) | exact (fun _ _ h => h.1.1)) ?_))))
  refine own_freeze 0 (fun _ _ _ _ hb => absurd hb (Nat.not_lt_zero _)) (fun l7 hl7 => ?_)
  (repeat' ((conv => whnf) <;> first | (show @cmpK _ _ _; (refine cmp_yes rfl ?_)) | (show idxK _ _ _ _ _; (first | refine idx_of a 1 rfl rfl (show 1 < 2 by decide) ?_)) | (show roK _ _ _; (first | refine ro_row0 (fun R w' h => hyr h.1.1.2) [v.val] v.val rfl rfl ?_)) | (show callK _ 26 _ _ _ _ _; (refine call_pure (f := 26) Try.call26 (.bool true) (fun ρ w' hw => by have := same_any w' u ⟨l7.base, l7.cap, [5, 0]⟩ (holds_of_abs hw fun R h => (diagP_ok hy (show 2 ≤ 1000000 by decide) h.1.1.2).each u (List.mem_cons_self)) (holds_of_abs hw fun R h => intsF_ok (i64s rfl) hl7 (show 2 ≤ 1000000 by decide) h.2); rw [decide_eq_true (show u.xs = [5, 0] from hu)] at this; exact this) ?_)) | (show Wp _ _ _ _ _ _ _; (refine Wp.go tabOk rfl ?_)) | (show @cmpK _ _ _; (first | refine cmp_yes (by omega) ?_ | refine cmp_no (by omega) ?_ | (refine cmp_both ?_ ?_ <;> intro _))) | (show wrapK _ _ _; (refine wrap_i64 (by omega) (by omega) ?_)) | (show leK _ _ _; (refine le_of (by first | exact Nat.le_refl _ | omega) ?_)) | (show roomK _ _ _; (refine room_of (by first | omega | (dsimp only; omega)) ?_)) | (show ltK _ _ _; (refine lt_of (by omega) ?_)) | (show _ ∧ _; (refine ⟨?_, ?_⟩)) | (show keepK _ _ _ _ _; (refine keep_of (by first | exact List.Sublist.refl _ | exact List.Sublist.cons _ (List.Sublist.refl _) | exact List.Sublist.cons _ (List.Sublist.cons _ (List.Sublist.refl _)) | exact List.Sublist.cons _ (List.Sublist.cons _ (List.Sublist.cons _ (List.Sublist.refl _)))) (by first | exact (fun _ _ h => h) | exact (fun _ _ h => h.1) | exact (fun _ _ h => h.1.1)) ?_))))
  refine own_freeze 0 (fun _ _ _ _ hb => absurd hb (Nat.not_lt_zero _)) (fun l8 hl8 => ?_)
  (repeat' ((conv => whnf) <;> first | (show @cmpK _ _ _; (refine cmp_yes rfl ?_)) | (show callK _ 26 _ _ _ _ _; (refine call_pure (f := 26) Try.call26 (.bool true) (fun ρ w' hw => by have := same_any w' v ⟨l8.base, l8.cap, [7, 0]⟩ (holds_of_abs hw fun R h => (diagP_ok hy (show 2 ≤ 1000000 by decide) h.1.1.1.2).each v (List.mem_cons_of_mem _ List.mem_cons_self)) (holds_of_abs hw fun R h => intsF_ok (i64s rfl) hl8 (show 2 ≤ 1000000 by decide) h.2); rw [decide_eq_true (show v.xs = [7, 0] from hv)] at this; exact this) ?_)) | (show Wp _ _ _ _ _ _ _; (refine Wp.go tabOk rfl ?_)) | (show @cmpK _ _ _; (first | refine cmp_yes (by omega) ?_ | refine cmp_no (by omega) ?_ | (refine cmp_both ?_ ?_ <;> intro _))) | (show wrapK _ _ _; (refine wrap_i64 (by omega) (by omega) ?_)) | (show leK _ _ _; (refine le_of (by first | exact Nat.le_refl _ | omega) ?_)) | (show roomK _ _ _; (refine room_of (by first | omega | (dsimp only; omega)) ?_)) | (show ltK _ _ _; (refine lt_of (by omega) ?_)) | (show _ ∧ _; (refine ⟨?_, ?_⟩)) | (show keepK _ _ _ _ _; (refine keep_of (by first | exact List.Sublist.refl _ | exact List.Sublist.cons _ (List.Sublist.refl _) | exact List.Sublist.cons _ (List.Sublist.cons _ (List.Sublist.refl _)) | exact List.Sublist.cons _ (List.Sublist.cons _ (List.Sublist.cons _ (List.Sublist.refl _)))) (by first | exact (fun _ _ h => h) | exact (fun _ _ h => h.1) | exact (fun _ _ h => h.1.1)) ?_)) | (show ownK _ _ _ _ _; (refine own_keep ?_))))
  conv => whnf
  exact ends_bool (B := ⟨w, []⟩) (fun R w' h => h.1.1.1.1.1.1.1.1.1.1) rfl rfl
end Go.Proofs.Ytdmkdogakbipbaa
/- LY -/
namespace Go.Proofs.Ytdmkdogakbipbaa
open Go.RowKit Go.SX
/-! the document's diagonals (plain): one after the other; the same -/
def stepR (n : Nat) (d : Int) (r : List Int × Bool) (s f w : Int) : List Int × Bool := if (s + d) % n = f then (r.1.set s.toNat w, r.2 || decide (w ≠ 0)) else r
def innerR (n : Nat) (d : Int) (fr row : List Int) (s : Int) (r : List Int × Bool) (k : Nat) : List Int × Bool := (List.range k).foldl (fun r i => stepR n d r s (fr.getD i 0) (row.getD i 0)) r
def outerR (n : Nat) (d : Int) (rows : List (List Int)) (fr to : List Int) (o : Nat) : List Int × Bool := (List.range o).foldl (fun r o => innerR n d fr (rows.getD o []) (to.getD o 0) r fr.length) (List.replicate n 0, false)
def rowR (n : Nat) (rows : List (List Int)) (fr to : List Int) (d : Nat) : List Int := if (outerR n d rows fr to to.length).2 then (outerR n d rows fr to to.length).1 else []
theorem innerR_succ (n : Nat) (d : Int) (fr row : List Int) (s : Int) (r : List Int × Bool) (k : Nat) : innerR n d fr row s r (k + 1) = stepR n d (innerR n d fr row s r k) s (fr.getD k 0) (row.getD k 0) := by simp [innerR, List.range_succ]
theorem outerR_succ (n : Nat) (d : Int) (rows : List (List Int)) (fr to : List Int) (o : Nat) : outerR n d rows fr to (o + 1) = innerR n d fr (rows.getD o []) (to.getD o 0) (outerR n d rows fr to o) fr.length := by simp [outerR, List.range_succ]
abbrev Trip := Int × Int × Int
def trips (rows : List (List Int)) (fr to : List Int) (o : Nat) : List Trip := (List.range o).flatMap fun o => (List.range fr.length).map fun i => (to.getD o 0, fr.getD i 0, (rows.getD o []).getD i 0)
theorem outerD_trips (n : Nat) (rows : List (List Int)) (fr to : List Int) (o : Nat) : outerD n rows fr to o = (trips rows fr to o).foldl (fun D t => stepP n D t.1 t.2.1 t.2.2) (List.replicate n []) := by
  simp only [outerD, trips, innerD, List.foldl_flatMap, List.foldl_map]
theorem outerR_trips (n : Nat) (d : Int) (rows : List (List Int)) (fr to : List Int) (o : Nat) : outerR n d rows fr to o = (trips rows fr to o).foldl (fun r t => stepR n d r t.1 t.2.1 t.2.2) (List.replicate n 0, false) := by
  simp only [outerR, trips, innerR, List.foldl_flatMap, List.foldl_map]
theorem getD_at {l : List Int} {k : Nat} (h : k < l.length) : l.getD k 0 = l[k] := by simp [List.getD, h]
theorem nodup_ne {l : List Int} (h : l.Nodup) {i j : Nat} (hi : i < l.length) (hj : j < l.length) (hij : i < j) : l.getD i 0 ≠ l.getD j 0 := by
  rw [getD_at hi, getD_at hj]
  rw [List.Nodup, List.pairwise_iff_getElem] at h
  exact h i j hi hj hij
theorem trips_apart {rows : List (List Int)} {fr to : List Int} (hf : fr.Nodup) (ht : to.Nodup) : ∀ o, o ≤ to.length → (trips rows fr to o).Pairwise (fun a b => ¬ (a.1 = b.1 ∧ a.2.1 = b.2.1)) := by
  intro o ho
  induction o with
  | zero => simp [trips]
  | succ o ih =>
    have e : trips rows fr to (o + 1) = trips rows fr to o ++ (List.range fr.length).map fun i => (to.getD o 0, fr.getD i 0, (rows.getD o []).getD i 0) := by simp [trips, List.range_succ]
    rw [e, List.pairwise_append]
    refine ⟨ih (by omega), ?_, ?_⟩
    · rw [List.pairwise_map, List.pairwise_iff_getElem]
      intro i j hi hj hij h
      simp only [List.getElem_range] at h
      rw [List.length_range] at hi hj
      exact nodup_ne hf hi hj hij h.2
    · intro a ha b hb h
      obtain ⟨o', ho', ha⟩ := List.mem_flatMap.1 ha
      obtain ⟨i, hi, rfl⟩ := List.mem_map.1 ha
      obtain ⟨j, hj, rfl⟩ := List.mem_map.1 hb
      exact nodup_ne ht (by have := List.mem_range.1 ho'; omega) (by omega) (List.mem_range.1 ho') h.1
theorem trips_in {rows : List (List Int)} {fr to : List Int} {n : Nat} (hf : ∀ x ∈ fr, 0 ≤ x ∧ x < n) (ht : ∀ x ∈ to, 0 ≤ x ∧ x < n) {o : Nat} (ho : o ≤ to.length) : ∀ t ∈ trips rows fr to o, (0 ≤ t.1 ∧ t.1 < n) ∧ 0 ≤ t.2.1 ∧ t.2.1 < n := by
  intro t h
  obtain ⟨o', ho', h⟩ := List.mem_flatMap.1 h
  obtain ⟨i, hi, rfl⟩ := List.mem_map.1 h
  have h1 : o' < to.length := by have := List.mem_range.1 ho'; omega
  have h2 : i < fr.length := List.mem_range.1 hi
  simp only
  rw [getD_at h1, getD_at h2]
  exact ⟨ht _ (List.getElem_mem h1), hf _ (List.getElem_mem h2)⟩
theorem modn {x : Int} {n : Nat} (h0 : 0 ≤ x) (h1 : x < 2 * n) : x % n = if x < n then x else x - n := by
  split
  · exact Int.emod_eq_of_lt h0 (by assumption)
  · have : x = x - n + n := by omega
    rw [this, Int.add_emod_right, Int.emod_eq_of_lt (by omega) (by omega)]; omega
theorem cond_iff {s f : Int} {d n : Nat} (hs : 0 ≤ s ∧ s < n) (hf : 0 ≤ f ∧ f < n) (hd : d < n) : (s + (d : Int)) % n = f ↔ ((f - s + n) % n).toNat = d := by
  rw [modn (x := s + d) (by omega) (by omega), modn (x := f - s + n) (by omega) (by omega)]
  split <;> split <;> omega
structure DRel (n d : Nat) (D : List (List Int)) (r : List Int × Bool) : Prop where
  lenD : D.length = n
  len : r.1.length = n
  is : D.getD d [] = if r.2 then r.1 else []
  zero : r.2 = false → r.1 = List.replicate n 0
theorem getD_set_eq {α : Type} {l : List α} {k : Nat} {x y : α} (h : k < l.length) : (l.set k x).getD k y = x := by simp [List.getD, h]
theorem getD_set_ne {α : Type} {l : List α} {k j : Nat} {x y : α} (h : k ≠ j) : (l.set k x).getD j y = l.getD j y := by simp [List.getD, List.getElem?_set_ne h]
theorem set_same_getD {l : List Int} {k : Nat} (hk : k < l.length) (h : l.getD k 0 = 0) : l.set k 0 = l := by
  apply List.ext_getElem?
  intro i
  by_cases e : k = i
  · subst e
    rw [List.getElem?_set_self hk]
    rw [getD_at hk] at h
    rw [List.getElem?_eq_getElem hk, h]
  · rw [List.getElem?_set_ne e]
theorem DRel.step {n d : Nat} (hd : d < n) {D : List (List Int)} {r : List Int × Bool} (h : DRel n d D r) {s f w : Int} (hs : 0 ≤ s ∧ s < n) (hf : 0 ≤ f ∧ f < n) (hz : (s + (d : Int)) % n = f → r.1.getD s.toNat 0 = 0) : DRel n d (stepP n D s f w) (stepR n d r s f w) := by
  have hsn : s.toNat < n := by omega
  have hc := cond_iff hs hf hd
  obtain ⟨l, b⟩ := r
  obtain ⟨h1, h2, h3, h4⟩ := h
  simp only at h2 h3 h4 hz
  unfold stepP stepR
  by_cases hw : w = 0
  · subst hw
    rw [if_pos rfl]
    split
    · rename_i g
      have := set_same_getD (by omega) (hz g)
      simp only [this]
      exact ⟨h1, h2, by simpa using h3, by simpa using h4⟩
    · exact ⟨h1, h2, h3, h4⟩
  · rw [if_neg hw]
    have hd2 : ((f - s + n) % n).toNat < n := by
      have := Int.emod_nonneg (f - s + n) (show (n : Int) ≠ 0 by omega)
      have := Int.emod_lt_of_pos (f - s + n) (show (0 : Int) < n by omega)
      omega
    by_cases g : (s + (d : Int)) % n = f
    · rw [if_pos g, hc.1 g]
      refine ⟨by rw [List.length_set]; exact h1, by rw [List.length_set]; exact h2, ?_, fun e => by simp [hw] at e⟩
      rw [getD_set_eq (by omega), h3]
      cases b with
      | true =>
        have hne : l ≠ [] := fun e => by rw [e] at h2; simp at h2; omega
        simp [hne]
      | false =>
        rw [h4 rfl]
        simp [hw]
    · rw [if_neg g]
      have hne : ((f - s + n) % n).toNat ≠ d := fun e => g (hc.2 e)
      exact ⟨by rw [List.length_set]; exact h1, h2, by rw [getD_set_ne hne]; exact h3, h4⟩
theorem drel_all {n d : Nat} (hd : d < n) : ∀ (T : List Trip) (D : List (List Int)) (r : List Int × Bool), T.Pairwise (fun a b => ¬ (a.1 = b.1 ∧ a.2.1 = b.2.1)) → (∀ t ∈ T, (0 ≤ t.1 ∧ t.1 < n) ∧ 0 ≤ t.2.1 ∧ t.2.1 < n) → DRel n d D r →
    (∀ t ∈ T, (t.1 + (d : Int)) % n = t.2.1 → r.1.getD t.1.toNat 0 = 0) → DRel n d (T.foldl (fun D t => stepP n D t.1 t.2.1 t.2.2) D) (T.foldl (fun r t => stepR n d r t.1 t.2.1 t.2.2) r)
  | [], D, r, _, _, h, _ => h
  | t :: T, D, r, hp, hin, h, hz => by
    obtain ⟨hp1, hp2⟩ := List.pairwise_cons.1 hp
    rw [List.foldl_cons, List.foldl_cons]
    have ht := hin t List.mem_cons_self
    refine drel_all hd T _ _ hp2 (fun u hu => hin u (List.mem_cons_of_mem _ hu)) (h.step hd ht.1 ht.2 (hz t List.mem_cons_self)) fun u hu hc => ?_
    have hu0 := hz u (List.mem_cons_of_mem _ hu) hc
    unfold stepR
    split
    · rename_i g
      have hne : t.1.toNat ≠ u.1.toNat := fun e => by
        have hti := hin u (List.mem_cons_of_mem _ hu)
        have e1 : t.1 = u.1 := by omega
        exact hp1 u hu ⟨e1, by rw [← g, ← hc, e1]⟩
      simp only
      rw [getD_set_ne hne]; exact hu0
    · exact hu0
/-- the document's rows are the program's -/
theorem rows_same {n : Nat} {rows : List (List Int)} {fr to : List Int} (hf : (∀ x ∈ fr, 0 ≤ x ∧ x < n) ∧ fr.Nodup) (ht : (∀ x ∈ to, 0 ≤ x ∧ x < n) ∧ to.Nodup) : (List.range n).map (rowR n rows fr to) = outerD n rows fr to to.length := by
  have key : ∀ d, d < n → DRel n d (outerD n rows fr to to.length) (outerR n d rows fr to to.length) := fun d hd => by
    rw [outerD_trips, outerR_trips]
    refine drel_all hd _ _ _ (trips_apart hf.2 ht.2 _ (Nat.le_refl _)) (trips_in hf.1 ht.1 (Nat.le_refl _)) ⟨by simp, by simp, by simp [List.getD, hd], fun _ => rfl⟩ fun t _ _ => ?_
    simp only [List.getD, List.getElem?_replicate]
    split <;> rfl
  have hlen : (outerD n rows fr to to.length).length = n := by
    rcases Nat.eq_zero_or_pos n with h0 | h0
    · subst h0
      rw [outerD_trips]
      have : ∀ (T : List Trip) (D : List (List Int)), (T.foldl (fun D t => stepP 0 D t.1 t.2.1 t.2.2) D).length = D.length := by
        intro T
        induction T with
        | nil => intro D; rfl
        | cons t T ih => intro D; rw [List.foldl_cons, ih]; unfold stepP; split <;> simp
      rw [this]; simp
    · exact (key 0 h0).lenD
  apply List.ext_getElem
  · simp [hlen]
  · intro d h1 h2
    have hd : d < n := by simpa using h1
    have := (key d hd).is
    rw [List.getElem_map, List.getElem_range, rowR, ← this]
    simp [List.getD, h2]
end Go.Proofs.Ytdmkdogakbipbaa
/- LZ -/
namespace Go.Proofs.Ytdmkdogakbipbaa
open Go.RowKit Go.SX
def preOk (l : List Int) (slots : Int) (i : Nat) : Prop := (∀ k, k < i → 0 ≤ l.getD k 0 ∧ l.getD k 0 < slots) ∧ ∀ j k, j < k → k < i → l.getD j 0 ≠ l.getD k 0
theorem preOk_full {l : List Int} {slots : Int} (h : preOk l slots l.length) : placesL l slots = true := by
  rw [placesL, decide_eq_true_eq]
  refine ⟨fun x hx => ?_, ?_⟩
  · obtain ⟨k, hk, rfl⟩ := List.mem_iff_getElem.1 hx
    have := h.1 k hk
    rwa [getD_at hk] at this
  · rw [List.Nodup, List.pairwise_iff_getElem]
    intro i j hi hj hij
    have := h.2 i j hij hj
    rwa [getD_at hi, getD_at hj] at this
theorem places_bad1 {l : List Int} {slots : Int} {k : Nat} (hk : k < l.length) (h : ¬ (0 ≤ l.getD k 0 ∧ l.getD k 0 < slots)) : placesL l slots = false := by
  refine Bool.eq_false_iff.2 fun g => h ?_
  rw [getD_at hk]
  exact (placesL_of g).1 _ (List.getElem_mem hk)
theorem places_bad2 {l : List Int} {slots : Int} {j k : Nat} (hj : j < k) (hk : k < l.length) (h : l.getD j 0 = l.getD k 0) : placesL l slots = false := by
  refine Bool.eq_false_iff.2 fun g => nodup_ne (placesL_of g).2 (by omega) hk hj h
theorem pref_full {base : Option Addr} {len cap size : Nat} {a : Addr} (i : Nat) {K : SV → Prop} (hb : base = some a) (hi : i ≤ len) (hc : len ≤ cap) (h : K (.c (.slice (some a) i cap))) : sliceK base len cap size none (some (i : Int)) none K := by
  rw [sliceK_def]
  refine ⟨0, i, cap, rfl, rfl, rfl, Nat.zero_le _, by omega, Nat.le_refl _, (fun e => by cases e), ?_⟩
  subst hb
  have e : (if cap = 0 then some a else (some a).map (·.add (0 * size))) = some a := by
    split
    · rfl
    · simp [Addr.add]
  rw [e]; exact h
set_option maxHeartbeats 1000000 in
theorem refPlaces_any (w : World) (u : IntsV) (hu : u.ok w) (slots : Int) : Calls Try.prog 91 #[u.val, .int .i64 slots] w fun e w' => e = .returned (.bool (placesL u.xs slots)) ∧ Ext w w' := by
  have hf := hu.few
  refine calls_of tab tabOk Try.func91 rfl rfl rfl [] (fun _ => ⟨none, 0⟩) [.c u.val, .c (.int .i64 slots)] [] (baseA w) 0 rfl rfl (by show 2 ≤ _; decide) (abs_base w) ?_
  (repeat' ((conv => whnf) <;> first | (show Wp _ _ _ _ _ _ _; (refine Wp.go tabOk rfl ?_)) | (show @cmpK _ _ _; (first | refine cmp_yes (by omega) ?_ | refine cmp_no (by omega) ?_ | (refine cmp_both ?_ ?_ <;> intro _))) | (show wrapK _ _ _; (refine wrap_i64 (by omega) (by omega) ?_)) | (show leK _ _ _; (refine le_of (by first | exact Nat.le_refl _ | omega) ?_)) | (show roomK _ _ _; (refine room_of (by first | omega | (dsimp only; omega)) ?_)) | (show ltK _ _ _; (refine lt_of (by omega) ?_)) | (show _ ∧ _; (refine ⟨?_, ?_⟩)) | (show keepK _ _ _ _ _; (refine keep_of (by first | exact List.Sublist.refl _ | exact List.Sublist.cons _ (List.Sublist.refl _) | exact List.Sublist.cons _ (List.Sublist.cons _ (List.Sublist.refl _)) | exact List.Sublist.cons _ (List.Sublist.cons _ (List.Sublist.cons _ (List.Sublist.refl _)))) (by first | exact (fun _ _ h => h) | exact (fun _ _ h => h.1) | exact (fun _ _ h => h.1.1)) ?_)) | (show ownK _ _ _ _ _; (refine own_keep ?_))))
  refine Wp.loop (σ := Nat) 0 (fun i => [(0, .c u.val), (1, .c (.int .i64 slots)), (9, .c u.val), (10, .c (.int .i64 u.xs.length)), (11, .c (.int .i64 i))]) (fun _ => []) (fun _ => baseA w)
    (fun i => i ≤ u.xs.length ∧ preOk u.xs slots i) (fun i => u.xs.length - i) 0 [] (by decide) (fun _ => ⟨rfl, rfl⟩) ⟨Nat.zero_le _, fun k hk => absurd hk (Nat.not_lt_zero k), fun j k _ hk => absurd hk (Nat.not_lt_zero k)⟩ ⟨rfl, ⟨rfl, rfl, rfl, rfl, rfl, trivial⟩, trivial, fun _ _ h => h⟩ ?_
  rintro i ⟨hi, hpre⟩
  by_cases hlt : i < u.xs.length
  · obtain ⟨ua, hua⟩ := hu.base (by omega)
    have hur : ∀ (R : Nat → Prop) w', (baseA w).holds R w' → RowsI w' (some ua) 1 (ints u.xs) := fun R w' h => by rw [← hua]; exact rows_base h hu.rows
    by_cases hin : 0 ≤ u.xs.getD i 0 ∧ u.xs.getD i 0 < slots
    · (repeat' ((conv => whnf) <;> first | (show idxK _ _ _ _ _; (refine idx_of ua i hua rfl hlt ?_)) | (show roK _ _ _; (refine ro_int hur (j := i) hlt ?_)) | (show sliceK _ _ _ _ _ _ _ _; (refine pref_full i hua (by omega) hu.room ?_)) | (show Wp _ _ _ _ _ _ _; (refine Wp.go tabOk rfl ?_)) | (show @cmpK _ _ _; (first | refine cmp_yes (by omega) ?_ | refine cmp_no (by omega) ?_ | (refine cmp_both ?_ ?_ <;> intro _))) | (show wrapK _ _ _; (refine wrap_i64 (by omega) (by omega) ?_)) | (show leK _ _ _; (refine le_of (by first | exact Nat.le_refl _ | omega) ?_)) | (show roomK _ _ _; (refine room_of (by first | omega | (dsimp only; omega)) ?_)) | (show ltK _ _ _; (refine lt_of (by omega) ?_)) | (show _ ∧ _; (refine ⟨?_, ?_⟩)) | (show keepK _ _ _ _ _; (refine keep_of (by first | exact List.Sublist.refl _ | exact List.Sublist.cons _ (List.Sublist.refl _) | exact List.Sublist.cons _ (List.Sublist.cons _ (List.Sublist.refl _)) | exact List.Sublist.cons _ (List.Sublist.cons _ (List.Sublist.cons _ (List.Sublist.refl _)))) (by first | exact (fun _ _ h => h) | exact (fun _ _ h => h.1) | exact (fun _ _ h => h.1.1)) ?_)) | (show ownK _ _ _ _ _; (refine own_keep ?_))))
      all_goals (conv => whnf)
      refine Wp.loop (σ := Nat) 0 (fun j => [(0, .c u.val), (1, .c (.int .i64 slots)), (9, .c u.val), (10, .c (.int .i64 u.xs.length)), (11, .c (.int .i64 i)), (6, .c (.int .i64 (u.xs.getD i 0))), (25, .c (.slice (some ua) i u.cap)), (26, .c (.int .i64 i)), (27, .c (.int .i64 j))]) (fun _ => []) (fun _ => baseA w)
        (fun j => j ≤ i ∧ ∀ k, k < j → u.xs.getD k 0 ≠ u.xs.getD i 0) (fun j => i - j) 0 [] (by decide) (fun _ => ⟨rfl, rfl⟩) ⟨Nat.zero_le _, fun k hk => absurd hk (Nat.not_lt_zero k)⟩ ⟨rfl, ⟨rfl, rfl, rfl, rfl, rfl, rfl, rfl, rfl, rfl, trivial⟩, trivial, fun _ _ h => h⟩ ?_
      rintro j ⟨hj, hne⟩
      by_cases hlj : j < i
      · by_cases he : u.xs.getD j 0 = u.xs.getD i 0
        · (repeat' ((conv => whnf) <;> first | (show idxK _ _ _ _ _; (refine idx_of ua j rfl rfl hlj ?_)) | (show roK _ _ _; (refine ro_int hur (j := j) (by omega) ?_)) | (show @cmpK _ _ _; (first | refine cmp_yes he ?_ | refine cmp_yes (by omega) ?_)) | (show Wp _ _ _ _ _ _ _; (refine Wp.go tabOk rfl ?_)) | (show @cmpK _ _ _; (first | refine cmp_yes (by omega) ?_ | refine cmp_no (by omega) ?_ | (refine cmp_both ?_ ?_ <;> intro _))) | (show wrapK _ _ _; (refine wrap_i64 (by omega) (by omega) ?_)) | (show leK _ _ _; (refine le_of (by first | exact Nat.le_refl _ | omega) ?_)) | (show roomK _ _ _; (refine room_of (by first | omega | (dsimp only; omega)) ?_)) | (show ltK _ _ _; (refine lt_of (by omega) ?_)) | (show _ ∧ _; (refine ⟨?_, ?_⟩)) | (show keepK _ _ _ _ _; (refine keep_of (by first | exact List.Sublist.refl _ | exact List.Sublist.cons _ (List.Sublist.refl _) | exact List.Sublist.cons _ (List.Sublist.cons _ (List.Sublist.refl _)) | exact List.Sublist.cons _ (List.Sublist.cons _ (List.Sublist.cons _ (List.Sublist.refl _)))) (by first | exact (fun _ _ h => h) | exact (fun _ _ h => h.1) | exact (fun _ _ h => h.1.1)) ?_)) | (show ownK _ _ _ _ _; (refine own_keep ?_))))
          all_goals (conv => whnf)
          exact ends_bool (fun _ _ h => h) rfl (places_bad2 hlj hlt he)
        · (repeat' ((conv => whnf) <;> first | (show idxK _ _ _ _ _; (refine idx_of ua j rfl rfl hlj ?_)) | (show roK _ _ _; (refine ro_int hur (j := j) (by omega) ?_)) | (show @cmpK _ _ _; (first | refine cmp_no he ?_ | refine cmp_yes (by omega) ?_)) | (show Wp _ _ _ _ _ _ _; (refine Wp.go tabOk rfl ?_)) | (show @cmpK _ _ _; (first | refine cmp_yes (by omega) ?_ | refine cmp_no (by omega) ?_ | (refine cmp_both ?_ ?_ <;> intro _))) | (show wrapK _ _ _; (refine wrap_i64 (by omega) (by omega) ?_)) | (show leK _ _ _; (refine le_of (by first | exact Nat.le_refl _ | omega) ?_)) | (show roomK _ _ _; (refine room_of (by first | omega | (dsimp only; omega)) ?_)) | (show ltK _ _ _; (refine lt_of (by omega) ?_)) | (show _ ∧ _; (refine ⟨?_, ?_⟩)) | (show keepK _ _ _ _ _; (refine keep_of (by first | exact List.Sublist.refl _ | exact List.Sublist.cons _ (List.Sublist.refl _) | exact List.Sublist.cons _ (List.Sublist.cons _ (List.Sublist.refl _)) | exact List.Sublist.cons _ (List.Sublist.cons _ (List.Sublist.cons _ (List.Sublist.refl _)))) (by first | exact (fun _ _ h => h) | exact (fun _ _ h => h.1) | exact (fun _ _ h => h.1.1)) ?_)) | (show ownK _ _ _ _ _; (refine own_keep ?_))))
          all_goals (conv => whnf)
          refine ⟨j + 1, [], ⟨hlj, fun k hk => ?_⟩, by omega, rfl, ⟨rfl, rfl, rfl, rfl, rfl, rfl, rfl, rfl, rfl, trivial⟩, trivial, fun _ _ h => h⟩
          rcases Nat.lt_or_ge k j with g | g
          · exact hne k g
          · obtain rfl : k = j := by omega
            exact he
      · (repeat' ((conv => whnf) <;> first | (show Wp _ _ _ _ _ _ _; (refine Wp.go tabOk rfl ?_)) | (show @cmpK _ _ _; (first | refine cmp_yes (by omega) ?_ | refine cmp_no (by omega) ?_ | (refine cmp_both ?_ ?_ <;> intro _))) | (show wrapK _ _ _; (refine wrap_i64 (by omega) (by omega) ?_)) | (show leK _ _ _; (refine le_of (by first | exact Nat.le_refl _ | omega) ?_)) | (show roomK _ _ _; (refine room_of (by first | omega | (dsimp only; omega)) ?_)) | (show ltK _ _ _; (refine lt_of (by omega) ?_)) | (show _ ∧ _; (refine ⟨?_, ?_⟩)) | (show keepK _ _ _ _ _; (refine keep_of (by first | exact List.Sublist.refl _ | exact List.Sublist.cons _ (List.Sublist.refl _) | exact List.Sublist.cons _ (List.Sublist.cons _ (List.Sublist.refl _)) | exact List.Sublist.cons _ (List.Sublist.cons _ (List.Sublist.cons _ (List.Sublist.refl _)))) (by first | exact (fun _ _ h => h) | exact (fun _ _ h => h.1) | exact (fun _ _ h => h.1.1)) ?_)) | (show ownK _ _ _ _ _; (refine own_keep ?_))))
        all_goals (conv => whnf)
        refine ⟨i + 1, [], ⟨hlt, fun k hk => ?_, fun j2 k hjk hk => ?_⟩, by omega, rfl, ⟨rfl, rfl, rfl, rfl, rfl, trivial⟩, trivial, fun _ _ h => h⟩
        · rcases Nat.lt_or_ge k i with g | g
          · exact hpre.1 k g
          · obtain rfl : k = i := by omega
            exact hin
        · rcases Nat.lt_or_ge k i with g | g
          · exact hpre.2 j2 k hjk g
          · obtain rfl : k = i := by omega
            exact hne j2 (by omega)
    · (repeat' ((conv => whnf) <;> first | (show idxK _ _ _ _ _; (refine idx_of ua i hua rfl hlt ?_)) | (show roK _ _ _; (refine ro_int hur (j := i) hlt ?_)) | (show Wp _ _ _ _ _ _ _; (refine Wp.go tabOk rfl ?_)) | (show @cmpK _ _ _; (first | refine cmp_yes (by omega) ?_ | refine cmp_no (by omega) ?_ | (refine cmp_both ?_ ?_ <;> intro _))) | (show wrapK _ _ _; (refine wrap_i64 (by omega) (by omega) ?_)) | (show leK _ _ _; (refine le_of (by first | exact Nat.le_refl _ | omega) ?_)) | (show roomK _ _ _; (refine room_of (by first | omega | (dsimp only; omega)) ?_)) | (show ltK _ _ _; (refine lt_of (by omega) ?_)) | (show _ ∧ _; (refine ⟨?_, ?_⟩)) | (show keepK _ _ _ _ _; (refine keep_of (by first | exact List.Sublist.refl _ | exact List.Sublist.cons _ (List.Sublist.refl _) | exact List.Sublist.cons _ (List.Sublist.cons _ (List.Sublist.refl _)) | exact List.Sublist.cons _ (List.Sublist.cons _ (List.Sublist.cons _ (List.Sublist.refl _)))) (by first | exact (fun _ _ h => h) | exact (fun _ _ h => h.1) | exact (fun _ _ h => h.1.1)) ?_)) | (show ownK _ _ _ _ _; (refine own_keep ?_))))
      all_goals (conv => whnf)
      all_goals first | (exfalso; omega) | exact ends_bool (fun _ _ h => h) rfl (places_bad1 hlt hin)
  · (repeat' ((conv => whnf) <;> first | (show Wp _ _ _ _ _ _ _; (refine Wp.go tabOk rfl ?_)) | (show @cmpK _ _ _; (first | refine cmp_yes (by omega) ?_ | refine cmp_no (by omega) ?_ | (refine cmp_both ?_ ?_ <;> intro _))) | (show wrapK _ _ _; (refine wrap_i64 (by omega) (by omega) ?_)) | (show leK _ _ _; (refine le_of (by first | exact Nat.le_refl _ | omega) ?_)) | (show roomK _ _ _; (refine room_of (by first | omega | (dsimp only; omega)) ?_)) | (show ltK _ _ _; (refine lt_of (by omega) ?_)) | (show _ ∧ _; (refine ⟨?_, ?_⟩)) | (show keepK _ _ _ _ _; (refine keep_of (by first | exact List.Sublist.refl _ | exact List.Sublist.cons _ (List.Sublist.refl _) | exact List.Sublist.cons _ (List.Sublist.cons _ (List.Sublist.refl _)) | exact List.Sublist.cons _ (List.Sublist.cons _ (List.Sublist.cons _ (List.Sublist.refl _)))) (by first | exact (fun _ _ h => h) | exact (fun _ _ h => h.1) | exact (fun _ _ h => h.1.1)) ?_)) | (show ownK _ _ _ _ _; (refine own_keep ?_))))
    all_goals (conv => whnf)
    obtain rfl : i = u.xs.length := by omega
    exact ends_bool (fun _ _ h => h) rfl (preOk_full hpre)
def lenPre (l : List IntsV) (n i : Nat) : Prop := ∀ k, k < i → ∀ h : k < l.length, l[k].xs.length = n
theorem diagOk_len {l : List IntsV} {fr to : List Int} {slots : Int} (h1 : 1 ≤ slots ∧ slots ≤ 4096) (h2 : l.length = to.length) (h3 : placesL fr slots = true) (h4 : placesL to slots = true) (h5 : lenPre l fr.length l.length) : diagOk (l.map IntsV.xs) fr to slots := by
  refine ⟨h1.1, h1.2, by rw [List.length_map]; exact h2, h3, h4, fun r hr => ?_⟩
  obtain ⟨u, hu, rfl⟩ := List.mem_map.1 hr
  obtain ⟨k, hk, rfl⟩ := List.mem_iff_getElem.1 hu
  exact h5 k hk hk
def chkL (rows : List (List Int)) (fr to : List Int) (slots : Int) : Int := if diagOk rows fr to slots then 0 else 3
theorem chk_no {rows : List (List Int)} {fr to : List Int} {slots : Int} {w : World} {B : Base} {H : Heap} {S : Asn} {nx : Nat} (hno : ¬ diagOk rows fr to slots) (hb : ∀ R w', S.holds R w' → (baseA B.w0).holds R w') (hw0 : B.w0 = w) : finK B (.c (.int .i64 3)) H S nx (fun e w' => e = .returned (.int .i64 (chkL rows fr to slots)) ∧ Ext w w') :=
  ends_of hb (fun _ => by rw [chkL, if_neg hno]; rfl) hw0
set_option maxHeartbeats 1000000 in
theorem refCheckDiag_any (w : World) (rv : ShapesV) (hr : rv.okB w) (fv tv : IntsV) (hfv : fv.ok w) (htv : tv.ok w) (slots : Int) (hs : i64 slots) :
    Calls Try.prog 63 #[rv.val, fv.val, tv.val, .int .i64 slots] w fun e w' => e = .returned (.int .i64 (chkL (rv.l.map IntsV.xs) fv.xs tv.xs slots)) ∧ Ext w w' := by
  have hr1 := hr.few
  have hf1 := hfv.few
  have ht1 := htv.few
  obtain ⟨hs1, hs2⟩ := hs
  have hrl : (rv.l.map IntsV.xs).length = rv.l.length := List.length_map _
  refine calls_of tab tabOk Try.func63 rfl rfl rfl [] (fun _ => ⟨none, 0⟩) [.c rv.val, .c fv.val, .c tv.val, .c (.int .i64 slots)] [] (baseA w) 0 rfl rfl (by show 4 ≤ _; decide) (abs_base w) ?_
  (repeat' ((conv => whnf) <;> first | (show callK _ 91 [.c fv.val, .c (.int .i64 slots)] _ _ _ _; (refine call_bool (f := 91) Try.call91 _ (fun ρ w' hw => refPlaces_any w' fv (holds_of_abs hw fun R h => hfv.later h) slots) (fun hp1 => ?_) (fun hp1 => ?_))) | (show callK _ 91 [.c tv.val, .c (.int .i64 slots)] _ _ _ _; (refine call_bool (f := 91) Try.call91 _ (fun ρ w' hw => refPlaces_any w' tv (holds_of_abs hw fun R h => htv.later h) slots) (fun hp2 => ?_) (fun hp2 => ?_))) | (show Wp _ _ _ _ _ _ _; (refine Wp.go tabOk rfl ?_)) | (show @cmpK _ _ _; (first | refine cmp_yes (by omega) ?_ | refine cmp_no (by omega) ?_ | (refine cmp_both ?_ ?_ <;> intro _))) | (show wrapK _ _ _; (refine wrap_i64 (by omega) (by omega) ?_)) | (show leK _ _ _; (refine le_of (by first | exact Nat.le_refl _ | omega) ?_)) | (show roomK _ _ _; (refine room_of (by first | omega | (dsimp only; omega)) ?_)) | (show ltK _ _ _; (refine lt_of (by omega) ?_)) | (show _ ∧ _; (refine ⟨?_, ?_⟩)) | (show keepK _ _ _ _ _; (refine keep_of (by first | exact List.Sublist.refl _ | exact List.Sublist.cons _ (List.Sublist.refl _) | exact List.Sublist.cons _ (List.Sublist.cons _ (List.Sublist.refl _)) | exact List.Sublist.cons _ (List.Sublist.cons _ (List.Sublist.cons _ (List.Sublist.refl _)))) (by first | exact (fun _ _ h => h) | exact (fun _ _ h => h.1) | exact (fun _ _ h => h.1.1)) ?_)) | (show ownK _ _ _ _ _; (refine own_keep ?_))))
  all_goals (conv => whnf)
  all_goals first | exact chk_no (fun h => by have := h.1; have := h.2.1; have := h.2.2.1; omega) (fun _ _ h => h) rfl | exact chk_no (fun h => Bool.false_ne_true (hp1.symm.trans h.2.2.2.1)) (fun _ _ h => h) rfl | exact chk_no (fun h => Bool.false_ne_true (hp2.symm.trans h.2.2.2.2.1)) (fun _ _ h => h) rfl | skip
  refine Wp.loop (σ := Nat) 0 (fun i => [(0, .c rv.val), (1, .c fv.val), (36, .c rv.val), (37, .c (.int .i64 rv.l.length)), (38, .c (.int .i64 i))]) (fun _ => []) (fun _ => baseA w)
    (fun i => i ≤ rv.l.length ∧ lenPre rv.l fv.xs.length i) (fun i => rv.l.length - i) 0 [] (by decide) (fun _ => ⟨rfl, rfl⟩) ⟨Nat.zero_le _, fun k hk => absurd hk (Nat.not_lt_zero k)⟩ ⟨rfl, ⟨rfl, rfl, rfl, rfl, rfl, trivial⟩, trivial, fun _ _ h => h⟩ ?_
  rintro i ⟨hi, hpre⟩
  by_cases hlt : i < rv.l.length
  · obtain ⟨ra, hra⟩ : ∃ a, rv.base = some a := base_some (j := i) hr.rows (by rw [shRows_length]; exact hlt)
    have hou := hr.each rv.l[i] (List.getElem_mem hlt)
    have hof := hou.few
    by_cases hne : rv.l[i].xs.length = fv.xs.length
    · (repeat' ((conv => whnf) <;> first | (show idxK _ _ _ _ _; (refine idx_of ra i hra rfl hlt ?_)) | (show roK _ _ _; (refine ro_row0 (fun R w' h => by rw [← hra]; exact rows_base h hr.rows) _ _ (shRows_get hlt) rfl ?_)) | (show @cmpK _ _ _; (first | refine cmp_yes (by omega) ?_ | refine cmp_no (by omega) ?_)) | (show Wp _ _ _ _ _ _ _; (refine Wp.go tabOk rfl ?_)) | (show @cmpK _ _ _; (first | refine cmp_yes (by omega) ?_ | refine cmp_no (by omega) ?_ | (refine cmp_both ?_ ?_ <;> intro _))) | (show wrapK _ _ _; (refine wrap_i64 (by omega) (by omega) ?_)) | (show leK _ _ _; (refine le_of (by first | exact Nat.le_refl _ | omega) ?_)) | (show roomK _ _ _; (refine room_of (by first | omega | (dsimp only; omega)) ?_)) | (show ltK _ _ _; (refine lt_of (by omega) ?_)) | (show _ ∧ _; (refine ⟨?_, ?_⟩)) | (show keepK _ _ _ _ _; (refine keep_of (by first | exact List.Sublist.refl _ | exact List.Sublist.cons _ (List.Sublist.refl _) | exact List.Sublist.cons _ (List.Sublist.cons _ (List.Sublist.refl _)) | exact List.Sublist.cons _ (List.Sublist.cons _ (List.Sublist.cons _ (List.Sublist.refl _)))) (by first | exact (fun _ _ h => h) | exact (fun _ _ h => h.1) | exact (fun _ _ h => h.1.1)) ?_)) | (show ownK _ _ _ _ _; (refine own_keep ?_))))
      all_goals (conv => whnf)
      refine ⟨i + 1, [], ⟨hlt, fun k hk h => ?_⟩, by omega, rfl, ⟨rfl, rfl, rfl, rfl, rfl, trivial⟩, trivial, fun _ _ h => h⟩
      rcases Nat.lt_or_ge k i with g | g
      · exact hpre k g h
      · obtain rfl : k = i := by omega
        exact hne
    · (repeat' ((conv => whnf) <;> first | (show idxK _ _ _ _ _; (refine idx_of ra i hra rfl hlt ?_)) | (show roK _ _ _; (refine ro_row0 (fun R w' h => by rw [← hra]; exact rows_base h hr.rows) _ _ (shRows_get hlt) rfl ?_)) | (show @cmpK _ _ _; (first | refine cmp_yes (by omega) ?_ | refine cmp_no (by omega) ?_)) | (show Wp _ _ _ _ _ _ _; (refine Wp.go tabOk rfl ?_)) | (show @cmpK _ _ _; (first | refine cmp_yes (by omega) ?_ | refine cmp_no (by omega) ?_ | (refine cmp_both ?_ ?_ <;> intro _))) | (show wrapK _ _ _; (refine wrap_i64 (by omega) (by omega) ?_)) | (show leK _ _ _; (refine le_of (by first | exact Nat.le_refl _ | omega) ?_)) | (show roomK _ _ _; (refine room_of (by first | omega | (dsimp only; omega)) ?_)) | (show ltK _ _ _; (refine lt_of (by omega) ?_)) | (show _ ∧ _; (refine ⟨?_, ?_⟩)) | (show keepK _ _ _ _ _; (refine keep_of (by first | exact List.Sublist.refl _ | exact List.Sublist.cons _ (List.Sublist.refl _) | exact List.Sublist.cons _ (List.Sublist.cons _ (List.Sublist.refl _)) | exact List.Sublist.cons _ (List.Sublist.cons _ (List.Sublist.cons _ (List.Sublist.refl _)))) (by first | exact (fun _ _ h => h) | exact (fun _ _ h => h.1) | exact (fun _ _ h => h.1.1)) ?_)) | (show ownK _ _ _ _ _; (refine own_keep ?_))))
      all_goals (conv => whnf)
      exact chk_no (fun h => hne (h.2.2.2.2.2 _ (List.mem_map.2 ⟨_, List.getElem_mem hlt, rfl⟩))) (fun _ _ h => h) rfl
  · (repeat' ((conv => whnf) <;> first | (show Wp _ _ _ _ _ _ _; (refine Wp.go tabOk rfl ?_)) | (show @cmpK _ _ _; (first | refine cmp_yes (by omega) ?_ | refine cmp_no (by omega) ?_ | (refine cmp_both ?_ ?_ <;> intro _))) | (show wrapK _ _ _; (refine wrap_i64 (by omega) (by omega) ?_)) | (show leK _ _ _; (refine le_of (by first | exact Nat.le_refl _ | omega) ?_)) | (show roomK _ _ _; (refine room_of (by first | omega | (dsimp only; omega)) ?_)) | (show ltK _ _ _; (refine lt_of (by omega) ?_)) | (show _ ∧ _; (refine ⟨?_, ?_⟩)) | (show keepK _ _ _ _ _; (refine keep_of (by first | exact List.Sublist.refl _ | exact List.Sublist.cons _ (List.Sublist.refl _) | exact List.Sublist.cons _ (List.Sublist.cons _ (List.Sublist.refl _)) | exact List.Sublist.cons _ (List.Sublist.cons _ (List.Sublist.cons _ (List.Sublist.refl _)))) (by first | exact (fun _ _ h => h) | exact (fun _ _ h => h.1) | exact (fun _ _ h => h.1.1)) ?_)) | (show ownK _ _ _ _ _; (refine own_keep ?_))))
    all_goals (conv => whnf)
    obtain rfl : i = rv.l.length := by omega
    have hok := diagOk_len (l := rv.l) (fr := fv.xs) (to := tv.xs) (slots := slots) ⟨by omega, by omega⟩ (by omega) hp1 hp2 hpre
    exact ends_of (fun _ _ h => h) (fun _ => by rw [chkL, if_pos hok]; rfl) rfl
end Go.Proofs.Ytdmkdogakbipbaa
