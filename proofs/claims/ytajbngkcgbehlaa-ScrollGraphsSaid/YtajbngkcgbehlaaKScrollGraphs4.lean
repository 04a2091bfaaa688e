import Derived.Test.YtajbngkcgbehlaaKScrollGraphs3
/- SD -/
namespace Go.Proofs.Ytajbngkcgbehlaa
open Go.SX Go.RowKit
/-! the methods, plain -/
def sg (v : Int) : Int := if v < 2147483648 then v else v - 4294967296
def rdSigned (s : List Int × Int) : Int × List Int × Int := (sg (rdNum 4 s).1, (rdNum 4 s).2)
def rdTruth (s : List Int × Int) : Bool × List Int × Int := (decide ((rdNum 1 s).1 = 1), rdFail (decide ((rdNum 1 s).1 > 1)) 3 (rdNum 1 s).2)
def rdEnd (s : List Int × Int) : Int × List Int × Int := ((rdFail (decide (0 < s.1.length)) 14 s).2, rdFail (decide (0 < s.1.length)) 14 s)
def rdStart (kind : Int) (s : List Int × Int) : List Int × Int := rdFail (decide ((rdNum 1 s).1 ≠ kind)) 3 (rdNum 1 s).2
theorem base_rest {w : World} {b : Nat} {u : RdV} (hs : u.bs.length ≤ 1000000) (hby : ∀ x ∈ u.bs, 0 ≤ x ∧ x ≤ 255) (hd : (bytsD u).holds (oth w b) w) : RdBase u (restA w b) := ⟨hs, hby, fun R w' h => rest_holds hd h⟩
theorem rdFail_fst (y : Bool) (c : Int) (s : List Int × Int) : (rdFail y c s).1 = s.1 := rfl
theorem rdNum_bytes {n : Nat} {s : List Int × Int} (hb : ∀ x ∈ s.1, 0 ≤ x ∧ x ≤ 255) : ∀ x ∈ (rdNum n s).2.1, 0 ≤ x ∧ x ≤ 255 := by
  unfold rdNum
  split
  · exact hb
  · split
    · exact hb
    · exact fun x hx => hb x (List.mem_of_mem_drop hx)
theorem wrap_i32 {z : Int} {K : Int → Prop} (h0 : 0 ≤ z) (h1 : z ≤ 4294967295) (h : K (sg z)) : wrapK .i32 z K := by
  refine wrap_to ?_ h
  unfold sg
  simp only [IntKind.wrap, IntKind.signed, IntKind.bits]
  have e1 : (2 : Int) ^ 32 = 4294967296 := by decide
  have e2 : (2 : Int) ^ (32 - 1) = 2147483648 := by decide
  simp only [e1, e2]
  by_cases h : z < 2147483648
  · rw [if_pos h]; simp; omega
  · rw [if_neg h]; simp; omega
theorem wrap_u32 {z : Int} {K : Int → Prop} (h0 : 0 ≤ z) (h1 : z ≤ 4294967295) (h : K z) : wrapK .u32 z K := by
  refine wrap_to ?_ h
  simp only [IntKind.wrap, IntKind.signed, IntKind.bits, Bool.false_and]
  have : (2 : Int) ^ 32 = 4294967296 := by decide
  simp only [this]
  simp
  omega
theorem call_number {B : Base} {m i : Nat} {H : Heap} {S : Asn} {nx : Nat} {K : SV → Heap → Asn → Nat → Prop} {u0 u : RdV} {e : Int} {n : Nat} (hn : n ≤ 4) (hi : (i, Ent.box (cs (rcells u e)) 125) ∈ H) (h0 : RdBase u0 S) (hr : SX.Rest u0 u)
    (h : ∀ u', SX.Rest u0 u' → u'.bs = (rdNum n (u.bs, e)).2.1 → K (.c (.int .u64 (rdNum n (u.bs, e)).1)) (setH i (.box (cs (rcells u' (rdNum n (u.bs, e)).2.2)) 125) H) S nx) : callK ⟨Try.prog, B, m, tab⟩ 98 [.lp i 0 0 0, .c (.int .i64 n)] H S nx K :=
  call_rx (fun p => [p, .int .i64 n]) (fun ρ b hb => by simp [SV.rfs, SV.rf, hb, add_none]) (fun x => .int .u64 x) _ hi Try.call98 h0 hr (fun w' b' h => number_any w' b' u e n hn h) h
theorem call_rnum {B : Base} {m i : Nat} {H : Heap} {S : Asn} {nx : Nat} {K : SV → Heap → Asn → Nat → Prop} {u0 u : RdV} {e : Int} {n : Nat} (hn : n ≤ 4) (hi : (i, Ent.box (cs (rcells u e)) 100) ∈ H) (h0 : RdBase u0 S) (hr : SX.Rest u0 u)
    (h : ∀ u', SX.Rest u0 u' → u'.bs = (rdNum n (u.bs, e)).2.1 → K (.c (.int .u64 (rdNum n (u.bs, e)).1)) (setH i (.box (cs (rcells u' (rdNum n (u.bs, e)).2.2)) 100) H) S nx) : callK ⟨Try.prog, B, m, tab⟩ 102 [.lp i 0 0 0, .c (.int .i64 n)] H S nx K :=
  call_rx (fun p => [p, .int .i64 n]) (fun ρ b hb => by simp [SV.rfs, SV.rf, hb, add_none]) (fun x => .int .u64 x) _ hi Try.call102 h0 hr (fun w' b' h => rnum_any w' b' u e n hn h) h
theorem callx_fail {B : Base} {m i : Nat} {H : Heap} {S : Asn} {nx : Nat} {K : SV → Heap → Asn → Nat → Prop} {u0 u : RdV} {e : Int} {y : Bool} {c : Int} (hi : (i, Ent.box (cs (rcells u e)) 125) ∈ H) (h0 : RdBase u0 S) (hr : SX.Rest u0 u)
    (h : ∀ u', SX.Rest u0 u' → u'.bs = (((), rdFail y c (u.bs, e))).2.1 → K (.c ((fun _ : Unit => .tuple #[]) (((), rdFail y c (u.bs, e))).1)) (setH i (.box (cs (rcells u' (((), rdFail y c (u.bs, e))).2.2)) 125) H) S nx) : callK ⟨Try.prog, B, m, tab⟩ 97 [.lp i 0 0 0, .c (.bool y), .c (.int .i64 c)] H S nx K :=
  call_rx (fun p => [p, .bool y, .int .i64 c]) (fun ρ b hb => by simp [SV.rfs, SV.rf, hb, add_none]) (fun x => (fun _ : Unit => .tuple #[]) x) _ hi Try.call97 h0 hr (fun w' b' h => fail_any w' b' u e y c h) h
theorem callx_rfail {B : Base} {m i : Nat} {H : Heap} {S : Asn} {nx : Nat} {K : SV → Heap → Asn → Nat → Prop} {u0 u : RdV} {e : Int} {y : Bool} {c : Int} (hi : (i, Ent.box (cs (rcells u e)) 100) ∈ H) (h0 : RdBase u0 S) (hr : SX.Rest u0 u)
    (h : ∀ u', SX.Rest u0 u' → u'.bs = (((), rdFail y c (u.bs, e))).2.1 → K (.c ((fun _ : Unit => .tuple #[]) (((), rdFail y c (u.bs, e))).1)) (setH i (.box (cs (rcells u' (((), rdFail y c (u.bs, e))).2.2)) 100) H) S nx) : callK ⟨Try.prog, B, m, tab⟩ 64 [.lp i 0 0 0, .c (.bool y), .c (.int .i64 c)] H S nx K :=
  call_rx (fun p => [p, .bool y, .int .i64 c]) (fun ρ b hb => by simp [SV.rfs, SV.rf, hb, add_none]) (fun x => (fun _ : Unit => .tuple #[]) x) _ hi Try.call64 h0 hr (fun w' b' h => rfail_any w' b' u e y c h) h
theorem one_any (w : World) (b : Nat) (u : RdV) (e : Int) (h : RdOk 125 w b u e) : Calls Try.prog 57 #[.pointer (some ⟨b, 0, none⟩)] w (RdPost 125 w b u (fun x : Int => .int .i64 x) (rdNum 1 (u.bs, e))) := by
  obtain ⟨hs, hby, hrm, hd, hb⟩ := h
  have hB := rdNum_bound (n := 1) (s := (u.bs, e)) (by decide) hby
  refine calls_of tab tabOk Try.func57 rfl rfl rfl [(0, boxL b)] (fun _ => boxL b) [.lp 0 0 0 0] _ (restA w b) 1 (by simp [SV.rfs, SV.rf, boxL, add_none]) rfl (by show 1 ≤ _; decide) (abs_box hb) ?_
  (repeat' ((conv => whnf) <;> first | (show Wp _ _ _ _ _ _ _; (refine Wp.go tabOk rfl ?_)) | (show @cmpK _ _ _; (first | refine cmp_yes (by omega) ?_ | refine cmp_no (by omega) ?_ | (refine cmp_both ?_ ?_ <;> intro _))) | (show wrapK _ _ _; (refine wrap_i64 (by omega) (by omega) ?_)) | (show leK _ _ _; (refine le_of (by first | exact Nat.le_refl _ | omega) ?_)) | (show roomK _ _ _; (refine room_of (by first | omega | (dsimp only; omega)) ?_)) | (show ltK _ _ _; (refine lt_of (by omega) ?_)) | (show _ ∧ _; (refine ⟨?_, ?_⟩)) | (show keepK _ _ _ _ _; (refine keep_of (by first | exact List.Sublist.refl _ | exact List.Sublist.cons _ (List.Sublist.refl _) | exact List.Sublist.cons _ (List.Sublist.cons _ (List.Sublist.refl _)) | exact List.Sublist.cons _ (List.Sublist.cons _ (List.Sublist.cons _ (List.Sublist.refl _)))) (by first | exact (fun _ _ h => h) | exact (fun _ _ h => h.1) | exact (fun _ _ h => h.1.1)) ?_)) | (show ownK _ _ _ _ _; (refine own_keep ?_))))
  refine call_number (n := 1) (by decide) List.mem_cons_self (base_rest hs hby hd) (SX.Rest.refl hrm) (fun u' hr hbs => ?_)
  (repeat' ((conv => whnf) <;> first | (show Wp _ _ _ _ _ _ _; (refine Wp.go tabOk rfl ?_)) | (show @cmpK _ _ _; (first | refine cmp_yes (by omega) ?_ | refine cmp_no (by omega) ?_ | (refine cmp_both ?_ ?_ <;> intro _))) | (show wrapK _ _ _; (refine wrap_i64 (by omega) (by omega) ?_)) | (show leK _ _ _; (refine le_of (by first | exact Nat.le_refl _ | omega) ?_)) | (show roomK _ _ _; (refine room_of (by first | omega | (dsimp only; omega)) ?_)) | (show ltK _ _ _; (refine lt_of (by omega) ?_)) | (show _ ∧ _; (refine ⟨?_, ?_⟩)) | (show keepK _ _ _ _ _; (refine keep_of (by first | exact List.Sublist.refl _ | exact List.Sublist.cons _ (List.Sublist.refl _) | exact List.Sublist.cons _ (List.Sublist.cons _ (List.Sublist.refl _)) | exact List.Sublist.cons _ (List.Sublist.cons _ (List.Sublist.cons _ (List.Sublist.refl _)))) (by first | exact (fun _ _ h => h) | exact (fun _ _ h => h.1) | exact (fun _ _ h => h.1.1)) ?_)) | (show ownK _ _ _ _ _; (refine own_keep ?_))))
  conv => whnf
  exact rd_ends u' hr hbs (fun _ => rfl) List.mem_cons_self (fun _ _ h => h)
theorem call_one {B : Base} {m i : Nat} {H : Heap} {S : Asn} {nx : Nat} {K : SV → Heap → Asn → Nat → Prop} {u0 u : RdV} {e : Int} (hi : (i, Ent.box (cs (rcells u e)) 125) ∈ H) (h0 : RdBase u0 S) (hr : SX.Rest u0 u)
    (h : ∀ u', SX.Rest u0 u' → u'.bs = (rdNum 1 (u.bs, e)).2.1 → K (.c (.int .i64 (rdNum 1 (u.bs, e)).1)) (setH i (.box (cs (rcells u' (rdNum 1 (u.bs, e)).2.2)) 125) H) S nx) : callK ⟨Try.prog, B, m, tab⟩ 57 [.lp i 0 0 0] H S nx K :=
  call_rx (fun p => [p]) (fun ρ b hb => by simp [SV.rfs, SV.rf, hb, add_none]) (fun x => .int .i64 x) _ hi Try.call57 h0 hr (fun w' b' h => one_any w' b' u e h) h
theorem two_any (w : World) (b : Nat) (u : RdV) (e : Int) (h : RdOk 125 w b u e) : Calls Try.prog 59 #[.pointer (some ⟨b, 0, none⟩)] w (RdPost 125 w b u (fun x : Int => .int .i64 x) (rdNum 2 (u.bs, e))) := by
  obtain ⟨hs, hby, hrm, hd, hb⟩ := h
  have hB := rdNum_bound (n := 2) (s := (u.bs, e)) (by decide) hby
  refine calls_of tab tabOk Try.func59 rfl rfl rfl [(0, boxL b)] (fun _ => boxL b) [.lp 0 0 0 0] _ (restA w b) 1 (by simp [SV.rfs, SV.rf, boxL, add_none]) rfl (by show 1 ≤ _; decide) (abs_box hb) ?_
  (repeat' ((conv => whnf) <;> first | (show Wp _ _ _ _ _ _ _; (refine Wp.go tabOk rfl ?_)) | (show @cmpK _ _ _; (first | refine cmp_yes (by omega) ?_ | refine cmp_no (by omega) ?_ | (refine cmp_both ?_ ?_ <;> intro _))) | (show wrapK _ _ _; (refine wrap_i64 (by omega) (by omega) ?_)) | (show leK _ _ _; (refine le_of (by first | exact Nat.le_refl _ | omega) ?_)) | (show roomK _ _ _; (refine room_of (by first | omega | (dsimp only; omega)) ?_)) | (show ltK _ _ _; (refine lt_of (by omega) ?_)) | (show _ ∧ _; (refine ⟨?_, ?_⟩)) | (show keepK _ _ _ _ _; (refine keep_of (by first | exact List.Sublist.refl _ | exact List.Sublist.cons _ (List.Sublist.refl _) | exact List.Sublist.cons _ (List.Sublist.cons _ (List.Sublist.refl _)) | exact List.Sublist.cons _ (List.Sublist.cons _ (List.Sublist.cons _ (List.Sublist.refl _)))) (by first | exact (fun _ _ h => h) | exact (fun _ _ h => h.1) | exact (fun _ _ h => h.1.1)) ?_)) | (show ownK _ _ _ _ _; (refine own_keep ?_))))
  refine call_number (n := 2) (by decide) List.mem_cons_self (base_rest hs hby hd) (SX.Rest.refl hrm) (fun u' hr hbs => ?_)
  (repeat' ((conv => whnf) <;> first | (show Wp _ _ _ _ _ _ _; (refine Wp.go tabOk rfl ?_)) | (show @cmpK _ _ _; (first | refine cmp_yes (by omega) ?_ | refine cmp_no (by omega) ?_ | (refine cmp_both ?_ ?_ <;> intro _))) | (show wrapK _ _ _; (refine wrap_i64 (by omega) (by omega) ?_)) | (show leK _ _ _; (refine le_of (by first | exact Nat.le_refl _ | omega) ?_)) | (show roomK _ _ _; (refine room_of (by first | omega | (dsimp only; omega)) ?_)) | (show ltK _ _ _; (refine lt_of (by omega) ?_)) | (show _ ∧ _; (refine ⟨?_, ?_⟩)) | (show keepK _ _ _ _ _; (refine keep_of (by first | exact List.Sublist.refl _ | exact List.Sublist.cons _ (List.Sublist.refl _) | exact List.Sublist.cons _ (List.Sublist.cons _ (List.Sublist.refl _)) | exact List.Sublist.cons _ (List.Sublist.cons _ (List.Sublist.cons _ (List.Sublist.refl _)))) (by first | exact (fun _ _ h => h) | exact (fun _ _ h => h.1) | exact (fun _ _ h => h.1.1)) ?_)) | (show ownK _ _ _ _ _; (refine own_keep ?_))))
  conv => whnf
  exact rd_ends u' hr hbs (fun _ => rfl) List.mem_cons_self (fun _ _ h => h)
theorem call_two {B : Base} {m i : Nat} {H : Heap} {S : Asn} {nx : Nat} {K : SV → Heap → Asn → Nat → Prop} {u0 u : RdV} {e : Int} (hi : (i, Ent.box (cs (rcells u e)) 125) ∈ H) (h0 : RdBase u0 S) (hr : SX.Rest u0 u)
    (h : ∀ u', SX.Rest u0 u' → u'.bs = (rdNum 2 (u.bs, e)).2.1 → K (.c (.int .i64 (rdNum 2 (u.bs, e)).1)) (setH i (.box (cs (rcells u' (rdNum 2 (u.bs, e)).2.2)) 125) H) S nx) : callK ⟨Try.prog, B, m, tab⟩ 59 [.lp i 0 0 0] H S nx K :=
  call_rx (fun p => [p]) (fun ρ b hb => by simp [SV.rfs, SV.rf, hb, add_none]) (fun x => .int .i64 x) _ hi Try.call59 h0 hr (fun w' b' h => two_any w' b' u e h) h
theorem signed_any (w : World) (b : Nat) (u : RdV) (e : Int) (h : RdOk 125 w b u e) : Calls Try.prog 100 #[.pointer (some ⟨b, 0, none⟩)] w (RdPost 125 w b u (fun x : Int => .int .i64 x) (rdSigned (u.bs, e))) := by
  obtain ⟨hs, hby, hrm, hd, hb⟩ := h
  have hB := rdNum_bound (n := 4) (s := (u.bs, e)) (by decide) hby
  have hS : -2147483648 ≤ sg (rdNum 4 (u.bs, e)).1 ∧ sg (rdNum 4 (u.bs, e)).1 ≤ 2147483647 := by unfold sg; split <;> omega
  refine calls_of tab tabOk Try.func100 rfl rfl rfl [(0, boxL b)] (fun _ => boxL b) [.lp 0 0 0 0] _ (restA w b) 1 (by simp [SV.rfs, SV.rf, boxL, add_none]) rfl (by show 1 ≤ _; decide) (abs_box hb) ?_
  (repeat' ((conv => whnf) <;> first | (show Wp _ _ _ _ _ _ _; (refine Wp.go tabOk rfl ?_)) | (show @cmpK _ _ _; (first | refine cmp_yes (by omega) ?_ | refine cmp_no (by omega) ?_ | (refine cmp_both ?_ ?_ <;> intro _))) | (show wrapK _ _ _; (refine wrap_i64 (by omega) (by omega) ?_)) | (show leK _ _ _; (refine le_of (by first | exact Nat.le_refl _ | omega) ?_)) | (show roomK _ _ _; (refine room_of (by first | omega | (dsimp only; omega)) ?_)) | (show ltK _ _ _; (refine lt_of (by omega) ?_)) | (show _ ∧ _; (refine ⟨?_, ?_⟩)) | (show keepK _ _ _ _ _; (refine keep_of (by first | exact List.Sublist.refl _ | exact List.Sublist.cons _ (List.Sublist.refl _) | exact List.Sublist.cons _ (List.Sublist.cons _ (List.Sublist.refl _)) | exact List.Sublist.cons _ (List.Sublist.cons _ (List.Sublist.cons _ (List.Sublist.refl _)))) (by first | exact (fun _ _ h => h) | exact (fun _ _ h => h.1) | exact (fun _ _ h => h.1.1)) ?_)) | (show ownK _ _ _ _ _; (refine own_keep ?_))))
  refine call_number (n := 4) (by decide) List.mem_cons_self (base_rest hs hby hd) (SX.Rest.refl hrm) (fun u' hr hbs => ?_)
  (repeat' ((conv => whnf) <;> first | (show wrapK _ _ _; (first | refine wrap_i32 hB.1 hB.2 ?_ | refine wrap_i64 (by omega) (by omega) ?_)) | (show Wp _ _ _ _ _ _ _; (refine Wp.go tabOk rfl ?_)) | (show @cmpK _ _ _; (first | refine cmp_yes (by omega) ?_ | refine cmp_no (by omega) ?_ | (refine cmp_both ?_ ?_ <;> intro _))) | (show wrapK _ _ _; (refine wrap_i64 (by omega) (by omega) ?_)) | (show leK _ _ _; (refine le_of (by first | exact Nat.le_refl _ | omega) ?_)) | (show roomK _ _ _; (refine room_of (by first | omega | (dsimp only; omega)) ?_)) | (show ltK _ _ _; (refine lt_of (by omega) ?_)) | (show _ ∧ _; (refine ⟨?_, ?_⟩)) | (show keepK _ _ _ _ _; (refine keep_of (by first | exact List.Sublist.refl _ | exact List.Sublist.cons _ (List.Sublist.refl _) | exact List.Sublist.cons _ (List.Sublist.cons _ (List.Sublist.refl _)) | exact List.Sublist.cons _ (List.Sublist.cons _ (List.Sublist.cons _ (List.Sublist.refl _)))) (by first | exact (fun _ _ h => h) | exact (fun _ _ h => h.1) | exact (fun _ _ h => h.1.1)) ?_)) | (show ownK _ _ _ _ _; (refine own_keep ?_))))
  conv => whnf
  exact rd_ends u' hr hbs (fun _ => rfl) List.mem_cons_self (fun _ _ h => h)
theorem call_signed {B : Base} {m i : Nat} {H : Heap} {S : Asn} {nx : Nat} {K : SV → Heap → Asn → Nat → Prop} {u0 u : RdV} {e : Int} (hi : (i, Ent.box (cs (rcells u e)) 125) ∈ H) (h0 : RdBase u0 S) (hr : SX.Rest u0 u)
    (h : ∀ u', SX.Rest u0 u' → u'.bs = (rdSigned (u.bs, e)).2.1 → K (.c (.int .i64 (rdSigned (u.bs, e)).1)) (setH i (.box (cs (rcells u' (rdSigned (u.bs, e)).2.2)) 125) H) S nx) : callK ⟨Try.prog, B, m, tab⟩ 100 [.lp i 0 0 0] H S nx K :=
  call_rx (fun p => [p]) (fun ρ b hb => by simp [SV.rfs, SV.rf, hb, add_none]) (fun x => .int .i64 x) _ hi Try.call100 h0 hr (fun w' b' h => signed_any w' b' u e h) h
theorem truth_any (w : World) (b : Nat) (u : RdV) (e : Int) (h : RdOk 125 w b u e) : Calls Try.prog 58 #[.pointer (some ⟨b, 0, none⟩)] w (RdPost 125 w b u (fun x : Bool => .bool x) (rdTruth (u.bs, e))) := by
  obtain ⟨hs, hby, hrm, hd, hb⟩ := h
  have h0 := base_rest hs hby hd
  refine calls_of tab tabOk Try.func58 rfl rfl rfl [(0, boxL b)] (fun _ => boxL b) [.lp 0 0 0 0] _ (restA w b) 1 (by simp [SV.rfs, SV.rf, boxL, add_none]) rfl (by show 1 ≤ _; decide) (abs_box hb) ?_
  (repeat' ((conv => whnf) <;> first | (show Wp _ _ _ _ _ _ _; (refine Wp.go tabOk rfl ?_)) | (show @cmpK _ _ _; (first | refine cmp_yes (by omega) ?_ | refine cmp_no (by omega) ?_ | (refine cmp_both ?_ ?_ <;> intro _))) | (show wrapK _ _ _; (refine wrap_i64 (by omega) (by omega) ?_)) | (show leK _ _ _; (refine le_of (by first | exact Nat.le_refl _ | omega) ?_)) | (show roomK _ _ _; (refine room_of (by first | omega | (dsimp only; omega)) ?_)) | (show ltK _ _ _; (refine lt_of (by omega) ?_)) | (show _ ∧ _; (refine ⟨?_, ?_⟩)) | (show keepK _ _ _ _ _; (refine keep_of (by first | exact List.Sublist.refl _ | exact List.Sublist.cons _ (List.Sublist.refl _) | exact List.Sublist.cons _ (List.Sublist.cons _ (List.Sublist.refl _)) | exact List.Sublist.cons _ (List.Sublist.cons _ (List.Sublist.cons _ (List.Sublist.refl _)))) (by first | exact (fun _ _ h => h) | exact (fun _ _ h => h.1) | exact (fun _ _ h => h.1.1)) ?_)) | (show ownK _ _ _ _ _; (refine own_keep ?_))))
  refine call_one List.mem_cons_self h0 (SX.Rest.refl hrm) (fun u' hr hbs => ?_)
  have hX : (u'.bs, (rdNum 1 (u.bs, e)).2.2) = (rdNum 1 (u.bs, e)).2 := by rw [hbs]
  by_cases h1 : (rdNum 1 (u.bs, e)).1 > 1
  · have hT : rdTruth (u.bs, e) = (false, rdFail true 3 (rdNum 1 (u.bs, e)).2) := by unfold rdTruth; rw [decide_eq_true h1, decide_eq_false (by omega)]
    rw [hT]
    (repeat' ((conv => whnf) <;> first | (show Wp _ _ _ _ _ _ _; (refine Wp.go tabOk rfl ?_)) | (show @cmpK _ _ _; (first | refine cmp_yes (by omega) ?_ | refine cmp_no (by omega) ?_ | (refine cmp_both ?_ ?_ <;> intro _))) | (show wrapK _ _ _; (refine wrap_i64 (by omega) (by omega) ?_)) | (show leK _ _ _; (refine le_of (by first | exact Nat.le_refl _ | omega) ?_)) | (show roomK _ _ _; (refine room_of (by first | omega | (dsimp only; omega)) ?_)) | (show ltK _ _ _; (refine lt_of (by omega) ?_)) | (show _ ∧ _; (refine ⟨?_, ?_⟩)) | (show keepK _ _ _ _ _; (refine keep_of (by first | exact List.Sublist.refl _ | exact List.Sublist.cons _ (List.Sublist.refl _) | exact List.Sublist.cons _ (List.Sublist.cons _ (List.Sublist.refl _)) | exact List.Sublist.cons _ (List.Sublist.cons _ (List.Sublist.cons _ (List.Sublist.refl _)))) (by first | exact (fun _ _ h => h) | exact (fun _ _ h => h.1) | exact (fun _ _ h => h.1.1)) ?_)) | (show ownK _ _ _ _ _; (refine own_keep ?_))))
    refine callx_fail (by repeat (first | exact List.mem_cons_self | apply List.mem_cons_of_mem)) h0 hr (fun u2 hr2 hbs2 => ?_)
    rw [hX] at hbs2 ⊢
    (repeat' ((conv => whnf) <;> first | (show Wp _ _ _ _ _ _ _; (refine Wp.go tabOk rfl ?_)) | (show @cmpK _ _ _; (first | refine cmp_yes (by omega) ?_ | refine cmp_no (by omega) ?_ | (refine cmp_both ?_ ?_ <;> intro _))) | (show wrapK _ _ _; (refine wrap_i64 (by omega) (by omega) ?_)) | (show leK _ _ _; (refine le_of (by first | exact Nat.le_refl _ | omega) ?_)) | (show roomK _ _ _; (refine room_of (by first | omega | (dsimp only; omega)) ?_)) | (show ltK _ _ _; (refine lt_of (by omega) ?_)) | (show _ ∧ _; (refine ⟨?_, ?_⟩)) | (show keepK _ _ _ _ _; (refine keep_of (by first | exact List.Sublist.refl _ | exact List.Sublist.cons _ (List.Sublist.refl _) | exact List.Sublist.cons _ (List.Sublist.cons _ (List.Sublist.refl _)) | exact List.Sublist.cons _ (List.Sublist.cons _ (List.Sublist.cons _ (List.Sublist.refl _)))) (by first | exact (fun _ _ h => h) | exact (fun _ _ h => h.1) | exact (fun _ _ h => h.1.1)) ?_)) | (show ownK _ _ _ _ _; (refine own_keep ?_))))
    conv => whnf
    exact rd_ends u2 hr2 hbs2 (fun _ => rfl) (by repeat (first | exact List.mem_cons_self | apply List.mem_cons_of_mem)) (fun _ _ h => h)
  · by_cases h2 : (rdNum 1 (u.bs, e)).1 = 1
    · have hT : rdTruth (u.bs, e) = (true, rdFail false 3 (rdNum 1 (u.bs, e)).2) := by unfold rdTruth; rw [decide_eq_false h1, decide_eq_true h2]
      rw [hT]
      (repeat' ((conv => whnf) <;> first | (show Wp _ _ _ _ _ _ _; (refine Wp.go tabOk rfl ?_)) | (show @cmpK _ _ _; (first | refine cmp_yes (by omega) ?_ | refine cmp_no (by omega) ?_ | (refine cmp_both ?_ ?_ <;> intro _))) | (show wrapK _ _ _; (refine wrap_i64 (by omega) (by omega) ?_)) | (show leK _ _ _; (refine le_of (by first | exact Nat.le_refl _ | omega) ?_)) | (show roomK _ _ _; (refine room_of (by first | omega | (dsimp only; omega)) ?_)) | (show ltK _ _ _; (refine lt_of (by omega) ?_)) | (show _ ∧ _; (refine ⟨?_, ?_⟩)) | (show keepK _ _ _ _ _; (refine keep_of (by first | exact List.Sublist.refl _ | exact List.Sublist.cons _ (List.Sublist.refl _) | exact List.Sublist.cons _ (List.Sublist.cons _ (List.Sublist.refl _)) | exact List.Sublist.cons _ (List.Sublist.cons _ (List.Sublist.cons _ (List.Sublist.refl _)))) (by first | exact (fun _ _ h => h) | exact (fun _ _ h => h.1) | exact (fun _ _ h => h.1.1)) ?_)) | (show ownK _ _ _ _ _; (refine own_keep ?_))))
      refine callx_fail (by repeat (first | exact List.mem_cons_self | apply List.mem_cons_of_mem)) h0 hr (fun u2 hr2 hbs2 => ?_)
      rw [hX] at hbs2 ⊢
      (repeat' ((conv => whnf) <;> first | (show Wp _ _ _ _ _ _ _; (refine Wp.go tabOk rfl ?_)) | (show @cmpK _ _ _; (first | refine cmp_yes (by omega) ?_ | refine cmp_no (by omega) ?_ | (refine cmp_both ?_ ?_ <;> intro _))) | (show wrapK _ _ _; (refine wrap_i64 (by omega) (by omega) ?_)) | (show leK _ _ _; (refine le_of (by first | exact Nat.le_refl _ | omega) ?_)) | (show roomK _ _ _; (refine room_of (by first | omega | (dsimp only; omega)) ?_)) | (show ltK _ _ _; (refine lt_of (by omega) ?_)) | (show _ ∧ _; (refine ⟨?_, ?_⟩)) | (show keepK _ _ _ _ _; (refine keep_of (by first | exact List.Sublist.refl _ | exact List.Sublist.cons _ (List.Sublist.refl _) | exact List.Sublist.cons _ (List.Sublist.cons _ (List.Sublist.refl _)) | exact List.Sublist.cons _ (List.Sublist.cons _ (List.Sublist.cons _ (List.Sublist.refl _)))) (by first | exact (fun _ _ h => h) | exact (fun _ _ h => h.1) | exact (fun _ _ h => h.1.1)) ?_)) | (show ownK _ _ _ _ _; (refine own_keep ?_))))
      conv => whnf
      exact rd_ends u2 hr2 hbs2 (fun _ => rfl) (by repeat (first | exact List.mem_cons_self | apply List.mem_cons_of_mem)) (fun _ _ h => h)
    · have hT : rdTruth (u.bs, e) = (false, rdFail false 3 (rdNum 1 (u.bs, e)).2) := by unfold rdTruth; rw [decide_eq_false h1, decide_eq_false h2]
      rw [hT]
      (repeat' ((conv => whnf) <;> first | (show Wp _ _ _ _ _ _ _; (refine Wp.go tabOk rfl ?_)) | (show @cmpK _ _ _; (first | refine cmp_yes (by omega) ?_ | refine cmp_no (by omega) ?_ | (refine cmp_both ?_ ?_ <;> intro _))) | (show wrapK _ _ _; (refine wrap_i64 (by omega) (by omega) ?_)) | (show leK _ _ _; (refine le_of (by first | exact Nat.le_refl _ | omega) ?_)) | (show roomK _ _ _; (refine room_of (by first | omega | (dsimp only; omega)) ?_)) | (show ltK _ _ _; (refine lt_of (by omega) ?_)) | (show _ ∧ _; (refine ⟨?_, ?_⟩)) | (show keepK _ _ _ _ _; (refine keep_of (by first | exact List.Sublist.refl _ | exact List.Sublist.cons _ (List.Sublist.refl _) | exact List.Sublist.cons _ (List.Sublist.cons _ (List.Sublist.refl _)) | exact List.Sublist.cons _ (List.Sublist.cons _ (List.Sublist.cons _ (List.Sublist.refl _)))) (by first | exact (fun _ _ h => h) | exact (fun _ _ h => h.1) | exact (fun _ _ h => h.1.1)) ?_)) | (show ownK _ _ _ _ _; (refine own_keep ?_))))
      refine callx_fail (by repeat (first | exact List.mem_cons_self | apply List.mem_cons_of_mem)) h0 hr (fun u2 hr2 hbs2 => ?_)
      rw [hX] at hbs2 ⊢
      (repeat' ((conv => whnf) <;> first | (show Wp _ _ _ _ _ _ _; (refine Wp.go tabOk rfl ?_)) | (show @cmpK _ _ _; (first | refine cmp_yes (by omega) ?_ | refine cmp_no (by omega) ?_ | (refine cmp_both ?_ ?_ <;> intro _))) | (show wrapK _ _ _; (refine wrap_i64 (by omega) (by omega) ?_)) | (show leK _ _ _; (refine le_of (by first | exact Nat.le_refl _ | omega) ?_)) | (show roomK _ _ _; (refine room_of (by first | omega | (dsimp only; omega)) ?_)) | (show ltK _ _ _; (refine lt_of (by omega) ?_)) | (show _ ∧ _; (refine ⟨?_, ?_⟩)) | (show keepK _ _ _ _ _; (refine keep_of (by first | exact List.Sublist.refl _ | exact List.Sublist.cons _ (List.Sublist.refl _) | exact List.Sublist.cons _ (List.Sublist.cons _ (List.Sublist.refl _)) | exact List.Sublist.cons _ (List.Sublist.cons _ (List.Sublist.cons _ (List.Sublist.refl _)))) (by first | exact (fun _ _ h => h) | exact (fun _ _ h => h.1) | exact (fun _ _ h => h.1.1)) ?_)) | (show ownK _ _ _ _ _; (refine own_keep ?_))))
      conv => whnf
      exact rd_ends u2 hr2 hbs2 (fun _ => rfl) (by repeat (first | exact List.mem_cons_self | apply List.mem_cons_of_mem)) (fun _ _ h => h)
theorem call_truth {B : Base} {m i : Nat} {H : Heap} {S : Asn} {nx : Nat} {K : SV → Heap → Asn → Nat → Prop} {u0 u : RdV} {e : Int} (hi : (i, Ent.box (cs (rcells u e)) 125) ∈ H) (h0 : RdBase u0 S) (hr : SX.Rest u0 u)
    (h : ∀ u', SX.Rest u0 u' → u'.bs = (rdTruth (u.bs, e)).2.1 → K (.c (.bool (rdTruth (u.bs, e)).1)) (setH i (.box (cs (rcells u' (rdTruth (u.bs, e)).2.2)) 125) H) S nx) : callK ⟨Try.prog, B, m, tab⟩ 58 [.lp i 0 0 0] H S nx K :=
  call_rx (fun p => [p]) (fun ρ b hb => by simp [SV.rfs, SV.rf, hb, add_none]) (fun x => .bool x) _ hi Try.call58 h0 hr (fun w' b' h => truth_any w' b' u e h) h
theorem end_any (w : World) (b : Nat) (u : RdV) (e : Int) (h : RdOk 125 w b u e) : Calls Try.prog 60 #[.pointer (some ⟨b, 0, none⟩)] w (RdPost 125 w b u (fun x : Int => .int .i64 x) (rdEnd (u.bs, e))) := by
  obtain ⟨hs, hby, hrm, hd, hb⟩ := h
  have h0 := base_rest hs hby hd
  refine calls_of tab tabOk Try.func60 rfl rfl rfl [(0, boxL b)] (fun _ => boxL b) [.lp 0 0 0 0] _ (restA w b) 1 (by simp [SV.rfs, SV.rf, boxL, add_none]) rfl (by show 1 ≤ _; decide) (abs_box hb) ?_
  by_cases h1 : 0 < u.bs.length
  all_goals
    (repeat' ((conv => whnf) <;> first | (show Wp _ _ _ _ _ _ _; (refine Wp.go tabOk rfl ?_)) | (show @cmpK _ _ _; (first | refine cmp_yes (by omega) ?_ | refine cmp_no (by omega) ?_ | (refine cmp_both ?_ ?_ <;> intro _))) | (show wrapK _ _ _; (refine wrap_i64 (by omega) (by omega) ?_)) | (show leK _ _ _; (refine le_of (by first | exact Nat.le_refl _ | omega) ?_)) | (show roomK _ _ _; (refine room_of (by first | omega | (dsimp only; omega)) ?_)) | (show ltK _ _ _; (refine lt_of (by omega) ?_)) | (show _ ∧ _; (refine ⟨?_, ?_⟩)) | (show keepK _ _ _ _ _; (refine keep_of (by first | exact List.Sublist.refl _ | exact List.Sublist.cons _ (List.Sublist.refl _) | exact List.Sublist.cons _ (List.Sublist.cons _ (List.Sublist.refl _)) | exact List.Sublist.cons _ (List.Sublist.cons _ (List.Sublist.cons _ (List.Sublist.refl _)))) (by first | exact (fun _ _ h => h) | exact (fun _ _ h => h.1) | exact (fun _ _ h => h.1.1)) ?_)) | (show ownK _ _ _ _ _; (refine own_keep ?_))))
  · refine callx_fail (by repeat (first | exact List.mem_cons_self | apply List.mem_cons_of_mem)) h0 (SX.Rest.refl hrm) (fun u' hr hbs => ?_)
    have hT : rdEnd (u.bs, e) = ((rdFail true 14 (u.bs, e)).2, rdFail true 14 (u.bs, e)) := by unfold rdEnd; rw [decide_eq_true h1]
    rw [hT]
    (repeat' ((conv => whnf) <;> first | (show Wp _ _ _ _ _ _ _; (refine Wp.go tabOk rfl ?_)) | (show @cmpK _ _ _; (first | refine cmp_yes (by omega) ?_ | refine cmp_no (by omega) ?_ | (refine cmp_both ?_ ?_ <;> intro _))) | (show wrapK _ _ _; (refine wrap_i64 (by omega) (by omega) ?_)) | (show leK _ _ _; (refine le_of (by first | exact Nat.le_refl _ | omega) ?_)) | (show roomK _ _ _; (refine room_of (by first | omega | (dsimp only; omega)) ?_)) | (show ltK _ _ _; (refine lt_of (by omega) ?_)) | (show _ ∧ _; (refine ⟨?_, ?_⟩)) | (show keepK _ _ _ _ _; (refine keep_of (by first | exact List.Sublist.refl _ | exact List.Sublist.cons _ (List.Sublist.refl _) | exact List.Sublist.cons _ (List.Sublist.cons _ (List.Sublist.refl _)) | exact List.Sublist.cons _ (List.Sublist.cons _ (List.Sublist.cons _ (List.Sublist.refl _)))) (by first | exact (fun _ _ h => h) | exact (fun _ _ h => h.1) | exact (fun _ _ h => h.1.1)) ?_)) | (show ownK _ _ _ _ _; (refine own_keep ?_))))
    conv => whnf
    exact rd_ends u' hr hbs (fun _ => rfl) (by repeat (first | exact List.mem_cons_self | apply List.mem_cons_of_mem)) (fun _ _ h => h)
  · refine callx_fail (by repeat (first | exact List.mem_cons_self | apply List.mem_cons_of_mem)) h0 (SX.Rest.refl hrm) (fun u' hr hbs => ?_)
    have hT : rdEnd (u.bs, e) = ((rdFail false 14 (u.bs, e)).2, rdFail false 14 (u.bs, e)) := by unfold rdEnd; rw [decide_eq_false h1]
    rw [hT]
    (repeat' ((conv => whnf) <;> first | (show Wp _ _ _ _ _ _ _; (refine Wp.go tabOk rfl ?_)) | (show @cmpK _ _ _; (first | refine cmp_yes (by omega) ?_ | refine cmp_no (by omega) ?_ | (refine cmp_both ?_ ?_ <;> intro _))) | (show wrapK _ _ _; (refine wrap_i64 (by omega) (by omega) ?_)) | (show leK _ _ _; (refine le_of (by first | exact Nat.le_refl _ | omega) ?_)) | (show roomK _ _ _; (refine room_of (by first | omega | (dsimp only; omega)) ?_)) | (show ltK _ _ _; (refine lt_of (by omega) ?_)) | (show _ ∧ _; (refine ⟨?_, ?_⟩)) | (show keepK _ _ _ _ _; (refine keep_of (by first | exact List.Sublist.refl _ | exact List.Sublist.cons _ (List.Sublist.refl _) | exact List.Sublist.cons _ (List.Sublist.cons _ (List.Sublist.refl _)) | exact List.Sublist.cons _ (List.Sublist.cons _ (List.Sublist.cons _ (List.Sublist.refl _)))) (by first | exact (fun _ _ h => h) | exact (fun _ _ h => h.1) | exact (fun _ _ h => h.1.1)) ?_)) | (show ownK _ _ _ _ _; (refine own_keep ?_))))
    conv => whnf
    exact rd_ends u' hr hbs (fun _ => rfl) (by repeat (first | exact List.mem_cons_self | apply List.mem_cons_of_mem)) (fun _ _ h => h)
theorem call_end {B : Base} {m i : Nat} {H : Heap} {S : Asn} {nx : Nat} {K : SV → Heap → Asn → Nat → Prop} {u0 u : RdV} {e : Int} (hi : (i, Ent.box (cs (rcells u e)) 125) ∈ H) (h0 : RdBase u0 S) (hr : SX.Rest u0 u)
    (h : ∀ u', SX.Rest u0 u' → u'.bs = (rdEnd (u.bs, e)).2.1 → K (.c (.int .i64 (rdEnd (u.bs, e)).1)) (setH i (.box (cs (rcells u' (rdEnd (u.bs, e)).2.2)) 125) H) S nx) : callK ⟨Try.prog, B, m, tab⟩ 60 [.lp i 0 0 0] H S nx K :=
  call_rx (fun p => [p]) (fun ρ b hb => by simp [SV.rfs, SV.rf, hb, add_none]) (fun x => .int .i64 x) _ hi Try.call60 h0 hr (fun w' b' h => end_any w' b' u e h) h
theorem rend_any (w : World) (b : Nat) (u : RdV) (e : Int) (h : RdOk 100 w b u e) : Calls Try.prog 68 #[.pointer (some ⟨b, 0, none⟩)] w (RdPost 100 w b u (fun x : Int => .int .i64 x) (rdEnd (u.bs, e))) := by
  obtain ⟨hs, hby, hrm, hd, hb⟩ := h
  have h0 := base_rest hs hby hd
  refine calls_of tab tabOk Try.func68 rfl rfl rfl [(0, boxL b)] (fun _ => boxL b) [.lp 0 0 0 0] _ (restA w b) 1 (by simp [SV.rfs, SV.rf, boxL, add_none]) rfl (by show 1 ≤ _; decide) (abs_box hb) ?_
  by_cases h1 : 0 < u.bs.length
  all_goals
    (repeat' ((conv => whnf) <;> first | (show Wp _ _ _ _ _ _ _; (refine Wp.go tabOk rfl ?_)) | (show @cmpK _ _ _; (first | refine cmp_yes (by omega) ?_ | refine cmp_no (by omega) ?_ | (refine cmp_both ?_ ?_ <;> intro _))) | (show wrapK _ _ _; (refine wrap_i64 (by omega) (by omega) ?_)) | (show leK _ _ _; (refine le_of (by first | exact Nat.le_refl _ | omega) ?_)) | (show roomK _ _ _; (refine room_of (by first | omega | (dsimp only; omega)) ?_)) | (show ltK _ _ _; (refine lt_of (by omega) ?_)) | (show _ ∧ _; (refine ⟨?_, ?_⟩)) | (show keepK _ _ _ _ _; (refine keep_of (by first | exact List.Sublist.refl _ | exact List.Sublist.cons _ (List.Sublist.refl _) | exact List.Sublist.cons _ (List.Sublist.cons _ (List.Sublist.refl _)) | exact List.Sublist.cons _ (List.Sublist.cons _ (List.Sublist.cons _ (List.Sublist.refl _)))) (by first | exact (fun _ _ h => h) | exact (fun _ _ h => h.1) | exact (fun _ _ h => h.1.1)) ?_)) | (show ownK _ _ _ _ _; (refine own_keep ?_))))
  · refine callx_rfail (by repeat (first | exact List.mem_cons_self | apply List.mem_cons_of_mem)) h0 (SX.Rest.refl hrm) (fun u' hr hbs => ?_)
    have hT : rdEnd (u.bs, e) = ((rdFail true 14 (u.bs, e)).2, rdFail true 14 (u.bs, e)) := by unfold rdEnd; rw [decide_eq_true h1]
    rw [hT]
    (repeat' ((conv => whnf) <;> first | (show Wp _ _ _ _ _ _ _; (refine Wp.go tabOk rfl ?_)) | (show @cmpK _ _ _; (first | refine cmp_yes (by omega) ?_ | refine cmp_no (by omega) ?_ | (refine cmp_both ?_ ?_ <;> intro _))) | (show wrapK _ _ _; (refine wrap_i64 (by omega) (by omega) ?_)) | (show leK _ _ _; (refine le_of (by first | exact Nat.le_refl _ | omega) ?_)) | (show roomK _ _ _; (refine room_of (by first | omega | (dsimp only; omega)) ?_)) | (show ltK _ _ _; (refine lt_of (by omega) ?_)) | (show _ ∧ _; (refine ⟨?_, ?_⟩)) | (show keepK _ _ _ _ _; (refine keep_of (by first | exact List.Sublist.refl _ | exact List.Sublist.cons _ (List.Sublist.refl _) | exact List.Sublist.cons _ (List.Sublist.cons _ (List.Sublist.refl _)) | exact List.Sublist.cons _ (List.Sublist.cons _ (List.Sublist.cons _ (List.Sublist.refl _)))) (by first | exact (fun _ _ h => h) | exact (fun _ _ h => h.1) | exact (fun _ _ h => h.1.1)) ?_)) | (show ownK _ _ _ _ _; (refine own_keep ?_))))
    conv => whnf
    exact rd_ends u' hr hbs (fun _ => rfl) (by repeat (first | exact List.mem_cons_self | apply List.mem_cons_of_mem)) (fun _ _ h => h)
  · refine callx_rfail (by repeat (first | exact List.mem_cons_self | apply List.mem_cons_of_mem)) h0 (SX.Rest.refl hrm) (fun u' hr hbs => ?_)
    have hT : rdEnd (u.bs, e) = ((rdFail false 14 (u.bs, e)).2, rdFail false 14 (u.bs, e)) := by unfold rdEnd; rw [decide_eq_false h1]
    rw [hT]
    (repeat' ((conv => whnf) <;> first | (show Wp _ _ _ _ _ _ _; (refine Wp.go tabOk rfl ?_)) | (show @cmpK _ _ _; (first | refine cmp_yes (by omega) ?_ | refine cmp_no (by omega) ?_ | (refine cmp_both ?_ ?_ <;> intro _))) | (show wrapK _ _ _; (refine wrap_i64 (by omega) (by omega) ?_)) | (show leK _ _ _; (refine le_of (by first | exact Nat.le_refl _ | omega) ?_)) | (show roomK _ _ _; (refine room_of (by first | omega | (dsimp only; omega)) ?_)) | (show ltK _ _ _; (refine lt_of (by omega) ?_)) | (show _ ∧ _; (refine ⟨?_, ?_⟩)) | (show keepK _ _ _ _ _; (refine keep_of (by first | exact List.Sublist.refl _ | exact List.Sublist.cons _ (List.Sublist.refl _) | exact List.Sublist.cons _ (List.Sublist.cons _ (List.Sublist.refl _)) | exact List.Sublist.cons _ (List.Sublist.cons _ (List.Sublist.cons _ (List.Sublist.refl _)))) (by first | exact (fun _ _ h => h) | exact (fun _ _ h => h.1) | exact (fun _ _ h => h.1.1)) ?_)) | (show ownK _ _ _ _ _; (refine own_keep ?_))))
    conv => whnf
    exact rd_ends u' hr hbs (fun _ => rfl) (by repeat (first | exact List.mem_cons_self | apply List.mem_cons_of_mem)) (fun _ _ h => h)
theorem call_rend {B : Base} {m i : Nat} {H : Heap} {S : Asn} {nx : Nat} {K : SV → Heap → Asn → Nat → Prop} {u0 u : RdV} {e : Int} (hi : (i, Ent.box (cs (rcells u e)) 100) ∈ H) (h0 : RdBase u0 S) (hr : SX.Rest u0 u)
    (h : ∀ u', SX.Rest u0 u' → u'.bs = (rdEnd (u.bs, e)).2.1 → K (.c (.int .i64 (rdEnd (u.bs, e)).1)) (setH i (.box (cs (rcells u' (rdEnd (u.bs, e)).2.2)) 100) H) S nx) : callK ⟨Try.prog, B, m, tab⟩ 68 [.lp i 0 0 0] H S nx K :=
  call_rx (fun p => [p]) (fun ρ b hb => by simp [SV.rfs, SV.rf, hb, add_none]) (fun x => .int .i64 x) _ hi Try.call68 h0 hr (fun w' b' h => rend_any w' b' u e h) h
end Go.Proofs.Ytajbngkcgbehlaa
/- SE -/
namespace Go.Proofs.Ytajbngkcgbehlaa
open Go.SX Go.RowKit
def rdUnit (f : List Int × Int → List Int × Int) (s : List Int × Int) : Unit × List Int × Int := ((), f s)
/-! of a reader struct -/
theorem rn_any (w : World) (b : Nat) (u : RdV) (e : Int) (n : Nat) (hn : n ≤ 4) (h : RdOk 100 w b u e) : Calls Try.prog 65 #[.agg #[.pointer (some ⟨b, 0, none⟩)], .int .i64 n] w (RdPost 100 w b u (fun x : Int => .int .i64 x) (rdNum n (u.bs, e))) := by
  obtain ⟨hs, hby, hrm, hd, hb⟩ := h
  have hB := rdNum_bound (n := n) (s := (u.bs, e)) hn hby
  
  refine calls_of tab tabOk Try.func65 rfl rfl rfl [(0, boxL b)] (fun _ => boxL b) [.agg [.lp 0 0 0 0], .c (.int .i64 n)] _ (restA w b) 1 (by simp [SV.rfs, SV.rf, boxL, add_none]) rfl (by show 2 ≤ _; decide) (abs_box hb) ?_
  (repeat' ((conv => whnf) <;> first | (show Wp _ _ _ _ _ _ _; (refine Wp.go tabOk rfl ?_)) | (show @cmpK _ _ _; (first | refine cmp_yes (by omega) ?_ | refine cmp_no (by omega) ?_ | (refine cmp_both ?_ ?_ <;> intro _))) | (show wrapK _ _ _; (refine wrap_i64 (by omega) (by omega) ?_)) | (show leK _ _ _; (refine le_of (by first | exact Nat.le_refl _ | omega) ?_)) | (show roomK _ _ _; (refine room_of (by first | omega | (dsimp only; omega)) ?_)) | (show ltK _ _ _; (refine lt_of (by omega) ?_)) | (show _ ∧ _; (refine ⟨?_, ?_⟩)) | (show keepK _ _ _ _ _; (refine keep_of (by first | exact List.Sublist.refl _ | exact List.Sublist.cons _ (List.Sublist.refl _) | exact List.Sublist.cons _ (List.Sublist.cons _ (List.Sublist.refl _)) | exact List.Sublist.cons _ (List.Sublist.cons _ (List.Sublist.cons _ (List.Sublist.refl _)))) (by first | exact (fun _ _ h => h) | exact (fun _ _ h => h.1) | exact (fun _ _ h => h.1.1)) ?_)) | (show ownK _ _ _ _ _; (refine own_keep ?_))))
  refine call_rnum hn (by repeat (first | exact List.mem_cons_self | apply List.mem_cons_of_mem)) (base_rest hs hby hd) (SX.Rest.refl hrm) (fun u' hr hbs => ?_)
  (repeat' ((conv => whnf) <;> first | (show Wp _ _ _ _ _ _ _; (refine Wp.go tabOk rfl ?_)) | (show @cmpK _ _ _; (first | refine cmp_yes (by omega) ?_ | refine cmp_no (by omega) ?_ | (refine cmp_both ?_ ?_ <;> intro _))) | (show wrapK _ _ _; (refine wrap_i64 (by omega) (by omega) ?_)) | (show leK _ _ _; (refine le_of (by first | exact Nat.le_refl _ | omega) ?_)) | (show roomK _ _ _; (refine room_of (by first | omega | (dsimp only; omega)) ?_)) | (show ltK _ _ _; (refine lt_of (by omega) ?_)) | (show _ ∧ _; (refine ⟨?_, ?_⟩)) | (show keepK _ _ _ _ _; (refine keep_of (by first | exact List.Sublist.refl _ | exact List.Sublist.cons _ (List.Sublist.refl _) | exact List.Sublist.cons _ (List.Sublist.cons _ (List.Sublist.refl _)) | exact List.Sublist.cons _ (List.Sublist.cons _ (List.Sublist.cons _ (List.Sublist.refl _)))) (by first | exact (fun _ _ h => h) | exact (fun _ _ h => h.1) | exact (fun _ _ h => h.1.1)) ?_)) | (show ownK _ _ _ _ _; (refine own_keep ?_))))
  conv => whnf
  exact rd_ends u' hr hbs (fun _ => rfl) (by repeat (first | exact List.mem_cons_self | apply List.mem_cons_of_mem)) (fun _ _ h => h)
theorem call_rn {B : Base} {m i : Nat} {H : Heap} {S : Asn} {nx : Nat} {K : SV → Heap → Asn → Nat → Prop} {u0 u : RdV} {e : Int} {n : Nat} (hn : n ≤ 4) (hi : (i, Ent.box (cs (rcells u e)) 100) ∈ H) (h0 : RdBase u0 S) (hr : SX.Rest u0 u)
    (h : ∀ u', SX.Rest u0 u' → u'.bs = (rdNum n (u.bs, e)).2.1 → K (.c (.int .i64 (rdNum n (u.bs, e)).1)) (setH i (.box (cs (rcells u' (rdNum n (u.bs, e)).2.2)) 100) H) S nx) : callK ⟨Try.prog, B, m, tab⟩ 65 [.agg [.lp i 0 0 0], .c (.int .i64 n)] H S nx K :=
  call_rx (fun p => [.agg #[p], .int .i64 n]) (fun ρ b hb => by simp [SV.rfs, SV.rf, hb, add_none]) (fun x => .int .i64 x) _ hi Try.call65 h0 hr (fun w' b' h => rn_any w' b' u e n hn h) h
theorem rsigned_any (w : World) (b : Nat) (u : RdV) (e : Int) (h : RdOk 100 w b u e) : Calls Try.prog 66 #[.agg #[.pointer (some ⟨b, 0, none⟩)]] w (RdPost 100 w b u (fun x : Int => .int .i64 x) (rdSigned (u.bs, e))) := by
  obtain ⟨hs, hby, hrm, hd, hb⟩ := h
  have hB := rdNum_bound (n := 4) (s := (u.bs, e)) (by decide) hby
  have hS : -2147483648 ≤ sg (rdNum 4 (u.bs, e)).1 ∧ sg (rdNum 4 (u.bs, e)).1 ≤ 2147483647 := by unfold sg; split <;> omega
  
  refine calls_of tab tabOk Try.func66 rfl rfl rfl [(0, boxL b)] (fun _ => boxL b) [.agg [.lp 0 0 0 0]] _ (restA w b) 1 (by simp [SV.rfs, SV.rf, boxL, add_none]) rfl (by show 1 ≤ _; decide) (abs_box hb) ?_
  (repeat' ((conv => whnf) <;> first | (show Wp _ _ _ _ _ _ _; (refine Wp.go tabOk rfl ?_)) | (show @cmpK _ _ _; (first | refine cmp_yes (by omega) ?_ | refine cmp_no (by omega) ?_ | (refine cmp_both ?_ ?_ <;> intro _))) | (show wrapK _ _ _; (refine wrap_i64 (by omega) (by omega) ?_)) | (show leK _ _ _; (refine le_of (by first | exact Nat.le_refl _ | omega) ?_)) | (show roomK _ _ _; (refine room_of (by first | omega | (dsimp only; omega)) ?_)) | (show ltK _ _ _; (refine lt_of (by omega) ?_)) | (show _ ∧ _; (refine ⟨?_, ?_⟩)) | (show keepK _ _ _ _ _; (refine keep_of (by first | exact List.Sublist.refl _ | exact List.Sublist.cons _ (List.Sublist.refl _) | exact List.Sublist.cons _ (List.Sublist.cons _ (List.Sublist.refl _)) | exact List.Sublist.cons _ (List.Sublist.cons _ (List.Sublist.cons _ (List.Sublist.refl _)))) (by first | exact (fun _ _ h => h) | exact (fun _ _ h => h.1) | exact (fun _ _ h => h.1.1)) ?_)) | (show ownK _ _ _ _ _; (refine own_keep ?_))))
  refine call_rnum (n := 4) (by decide) (by repeat (first | exact List.mem_cons_self | apply List.mem_cons_of_mem)) (base_rest hs hby hd) (SX.Rest.refl hrm) (fun u' hr hbs => ?_)
  (repeat' ((conv => whnf) <;> first | (show wrapK _ _ _; (first | refine wrap_u32 hB.1 hB.2 ?_ | refine wrap_i32 hB.1 hB.2 ?_ | refine wrap_i64 (by omega) (by omega) ?_)) | (show Wp _ _ _ _ _ _ _; (refine Wp.go tabOk rfl ?_)) | (show @cmpK _ _ _; (first | refine cmp_yes (by omega) ?_ | refine cmp_no (by omega) ?_ | (refine cmp_both ?_ ?_ <;> intro _))) | (show wrapK _ _ _; (refine wrap_i64 (by omega) (by omega) ?_)) | (show leK _ _ _; (refine le_of (by first | exact Nat.le_refl _ | omega) ?_)) | (show roomK _ _ _; (refine room_of (by first | omega | (dsimp only; omega)) ?_)) | (show ltK _ _ _; (refine lt_of (by omega) ?_)) | (show _ ∧ _; (refine ⟨?_, ?_⟩)) | (show keepK _ _ _ _ _; (refine keep_of (by first | exact List.Sublist.refl _ | exact List.Sublist.cons _ (List.Sublist.refl _) | exact List.Sublist.cons _ (List.Sublist.cons _ (List.Sublist.refl _)) | exact List.Sublist.cons _ (List.Sublist.cons _ (List.Sublist.cons _ (List.Sublist.refl _)))) (by first | exact (fun _ _ h => h) | exact (fun _ _ h => h.1) | exact (fun _ _ h => h.1.1)) ?_)) | (show ownK _ _ _ _ _; (refine own_keep ?_))))
  conv => whnf
  exact rd_ends u' hr hbs (fun _ => rfl) (by repeat (first | exact List.mem_cons_self | apply List.mem_cons_of_mem)) (fun _ _ h => h)
theorem rtruth_any (w : World) (b : Nat) (u : RdV) (e : Int) (h : RdOk 100 w b u e) : Calls Try.prog 69 #[.agg #[.pointer (some ⟨b, 0, none⟩)]] w (RdPost 100 w b u (fun x : Bool => .bool x) (rdTruth (u.bs, e))) := by
  obtain ⟨hs, hby, hrm, hd, hb⟩ := h
  have h0 := base_rest hs hby hd
  
  refine calls_of tab tabOk Try.func69 rfl rfl rfl [(0, boxL b)] (fun _ => boxL b) [.agg [.lp 0 0 0 0]] _ (restA w b) 1 (by simp [SV.rfs, SV.rf, boxL, add_none]) rfl (by show 1 ≤ _; decide) (abs_box hb) ?_
  (repeat' ((conv => whnf) <;> first | (show Wp _ _ _ _ _ _ _; (refine Wp.go tabOk rfl ?_)) | (show @cmpK _ _ _; (first | refine cmp_yes (by omega) ?_ | refine cmp_no (by omega) ?_ | (refine cmp_both ?_ ?_ <;> intro _))) | (show wrapK _ _ _; (refine wrap_i64 (by omega) (by omega) ?_)) | (show leK _ _ _; (refine le_of (by first | exact Nat.le_refl _ | omega) ?_)) | (show roomK _ _ _; (refine room_of (by first | omega | (dsimp only; omega)) ?_)) | (show ltK _ _ _; (refine lt_of (by omega) ?_)) | (show _ ∧ _; (refine ⟨?_, ?_⟩)) | (show keepK _ _ _ _ _; (refine keep_of (by first | exact List.Sublist.refl _ | exact List.Sublist.cons _ (List.Sublist.refl _) | exact List.Sublist.cons _ (List.Sublist.cons _ (List.Sublist.refl _)) | exact List.Sublist.cons _ (List.Sublist.cons _ (List.Sublist.cons _ (List.Sublist.refl _)))) (by first | exact (fun _ _ h => h) | exact (fun _ _ h => h.1) | exact (fun _ _ h => h.1.1)) ?_)) | (show ownK _ _ _ _ _; (refine own_keep ?_))))
  refine call_rn (n := 1) (by decide) (by repeat (first | exact List.mem_cons_self | apply List.mem_cons_of_mem)) h0 (SX.Rest.refl hrm) (fun u' hr hbs => ?_)
  have hX : (u'.bs, (rdNum 1 (u.bs, e)).2.2) = (rdNum 1 (u.bs, e)).2 := by rw [hbs]
  by_cases h1 : (rdNum 1 (u.bs, e)).1 > 1
  · have hT : rdTruth (u.bs, e) = (false, rdFail true 3 (rdNum 1 (u.bs, e)).2) := by unfold rdTruth; rw [decide_eq_true h1, decide_eq_false (by omega)]
    rw [hT]
    (repeat' ((conv => whnf) <;> first | (show Wp _ _ _ _ _ _ _; (refine Wp.go tabOk rfl ?_)) | (show @cmpK _ _ _; (first | refine cmp_yes (by omega) ?_ | refine cmp_no (by omega) ?_ | (refine cmp_both ?_ ?_ <;> intro _))) | (show wrapK _ _ _; (refine wrap_i64 (by omega) (by omega) ?_)) | (show leK _ _ _; (refine le_of (by first | exact Nat.le_refl _ | omega) ?_)) | (show roomK _ _ _; (refine room_of (by first | omega | (dsimp only; omega)) ?_)) | (show ltK _ _ _; (refine lt_of (by omega) ?_)) | (show _ ∧ _; (refine ⟨?_, ?_⟩)) | (show keepK _ _ _ _ _; (refine keep_of (by first | exact List.Sublist.refl _ | exact List.Sublist.cons _ (List.Sublist.refl _) | exact List.Sublist.cons _ (List.Sublist.cons _ (List.Sublist.refl _)) | exact List.Sublist.cons _ (List.Sublist.cons _ (List.Sublist.cons _ (List.Sublist.refl _)))) (by first | exact (fun _ _ h => h) | exact (fun _ _ h => h.1) | exact (fun _ _ h => h.1.1)) ?_)) | (show ownK _ _ _ _ _; (refine own_keep ?_))))
    refine callx_rfail (by repeat (first | exact List.mem_cons_self | apply List.mem_cons_of_mem)) h0 hr (fun u2 hr2 hbs2 => ?_)
    rw [hX] at hbs2 ⊢
    (repeat' ((conv => whnf) <;> first | (show Wp _ _ _ _ _ _ _; (refine Wp.go tabOk rfl ?_)) | (show @cmpK _ _ _; (first | refine cmp_yes (by omega) ?_ | refine cmp_no (by omega) ?_ | (refine cmp_both ?_ ?_ <;> intro _))) | (show wrapK _ _ _; (refine wrap_i64 (by omega) (by omega) ?_)) | (show leK _ _ _; (refine le_of (by first | exact Nat.le_refl _ | omega) ?_)) | (show roomK _ _ _; (refine room_of (by first | omega | (dsimp only; omega)) ?_)) | (show ltK _ _ _; (refine lt_of (by omega) ?_)) | (show _ ∧ _; (refine ⟨?_, ?_⟩)) | (show keepK _ _ _ _ _; (refine keep_of (by first | exact List.Sublist.refl _ | exact List.Sublist.cons _ (List.Sublist.refl _) | exact List.Sublist.cons _ (List.Sublist.cons _ (List.Sublist.refl _)) | exact List.Sublist.cons _ (List.Sublist.cons _ (List.Sublist.cons _ (List.Sublist.refl _)))) (by first | exact (fun _ _ h => h) | exact (fun _ _ h => h.1) | exact (fun _ _ h => h.1.1)) ?_)) | (show ownK _ _ _ _ _; (refine own_keep ?_))))
    conv => whnf
    exact rd_ends u2 hr2 hbs2 (fun _ => rfl) (by repeat (first | exact List.mem_cons_self | apply List.mem_cons_of_mem)) (fun _ _ h => h)
  · by_cases h2 : (rdNum 1 (u.bs, e)).1 = 1
    · have hT : rdTruth (u.bs, e) = (true, rdFail false 3 (rdNum 1 (u.bs, e)).2) := by unfold rdTruth; rw [decide_eq_false h1, decide_eq_true h2]
      rw [hT]
      (repeat' ((conv => whnf) <;> first | (show Wp _ _ _ _ _ _ _; (refine Wp.go tabOk rfl ?_)) | (show @cmpK _ _ _; (first | refine cmp_yes (by omega) ?_ | refine cmp_no (by omega) ?_ | (refine cmp_both ?_ ?_ <;> intro _))) | (show wrapK _ _ _; (refine wrap_i64 (by omega) (by omega) ?_)) | (show leK _ _ _; (refine le_of (by first | exact Nat.le_refl _ | omega) ?_)) | (show roomK _ _ _; (refine room_of (by first | omega | (dsimp only; omega)) ?_)) | (show ltK _ _ _; (refine lt_of (by omega) ?_)) | (show _ ∧ _; (refine ⟨?_, ?_⟩)) | (show keepK _ _ _ _ _; (refine keep_of (by first | exact List.Sublist.refl _ | exact List.Sublist.cons _ (List.Sublist.refl _) | exact List.Sublist.cons _ (List.Sublist.cons _ (List.Sublist.refl _)) | exact List.Sublist.cons _ (List.Sublist.cons _ (List.Sublist.cons _ (List.Sublist.refl _)))) (by first | exact (fun _ _ h => h) | exact (fun _ _ h => h.1) | exact (fun _ _ h => h.1.1)) ?_)) | (show ownK _ _ _ _ _; (refine own_keep ?_))))
      refine callx_rfail (by repeat (first | exact List.mem_cons_self | apply List.mem_cons_of_mem)) h0 hr (fun u2 hr2 hbs2 => ?_)
      rw [hX] at hbs2 ⊢
      (repeat' ((conv => whnf) <;> first | (show Wp _ _ _ _ _ _ _; (refine Wp.go tabOk rfl ?_)) | (show @cmpK _ _ _; (first | refine cmp_yes (by omega) ?_ | refine cmp_no (by omega) ?_ | (refine cmp_both ?_ ?_ <;> intro _))) | (show wrapK _ _ _; (refine wrap_i64 (by omega) (by omega) ?_)) | (show leK _ _ _; (refine le_of (by first | exact Nat.le_refl _ | omega) ?_)) | (show roomK _ _ _; (refine room_of (by first | omega | (dsimp only; omega)) ?_)) | (show ltK _ _ _; (refine lt_of (by omega) ?_)) | (show _ ∧ _; (refine ⟨?_, ?_⟩)) | (show keepK _ _ _ _ _; (refine keep_of (by first | exact List.Sublist.refl _ | exact List.Sublist.cons _ (List.Sublist.refl _) | exact List.Sublist.cons _ (List.Sublist.cons _ (List.Sublist.refl _)) | exact List.Sublist.cons _ (List.Sublist.cons _ (List.Sublist.cons _ (List.Sublist.refl _)))) (by first | exact (fun _ _ h => h) | exact (fun _ _ h => h.1) | exact (fun _ _ h => h.1.1)) ?_)) | (show ownK _ _ _ _ _; (refine own_keep ?_))))
      conv => whnf
      exact rd_ends u2 hr2 hbs2 (fun _ => rfl) (by repeat (first | exact List.mem_cons_self | apply List.mem_cons_of_mem)) (fun _ _ h => h)
    · have hT : rdTruth (u.bs, e) = (false, rdFail false 3 (rdNum 1 (u.bs, e)).2) := by unfold rdTruth; rw [decide_eq_false h1, decide_eq_false h2]
      rw [hT]
      (repeat' ((conv => whnf) <;> first | (show Wp _ _ _ _ _ _ _; (refine Wp.go tabOk rfl ?_)) | (show @cmpK _ _ _; (first | refine cmp_yes (by omega) ?_ | refine cmp_no (by omega) ?_ | (refine cmp_both ?_ ?_ <;> intro _))) | (show wrapK _ _ _; (refine wrap_i64 (by omega) (by omega) ?_)) | (show leK _ _ _; (refine le_of (by first | exact Nat.le_refl _ | omega) ?_)) | (show roomK _ _ _; (refine room_of (by first | omega | (dsimp only; omega)) ?_)) | (show ltK _ _ _; (refine lt_of (by omega) ?_)) | (show _ ∧ _; (refine ⟨?_, ?_⟩)) | (show keepK _ _ _ _ _; (refine keep_of (by first | exact List.Sublist.refl _ | exact List.Sublist.cons _ (List.Sublist.refl _) | exact List.Sublist.cons _ (List.Sublist.cons _ (List.Sublist.refl _)) | exact List.Sublist.cons _ (List.Sublist.cons _ (List.Sublist.cons _ (List.Sublist.refl _)))) (by first | exact (fun _ _ h => h) | exact (fun _ _ h => h.1) | exact (fun _ _ h => h.1.1)) ?_)) | (show ownK _ _ _ _ _; (refine own_keep ?_))))
      refine callx_rfail (by repeat (first | exact List.mem_cons_self | apply List.mem_cons_of_mem)) h0 hr (fun u2 hr2 hbs2 => ?_)
      rw [hX] at hbs2 ⊢
      (repeat' ((conv => whnf) <;> first | (show Wp _ _ _ _ _ _ _; (refine Wp.go tabOk rfl ?_)) | (show @cmpK _ _ _; (first | refine cmp_yes (by omega) ?_ | refine cmp_no (by omega) ?_ | (refine cmp_both ?_ ?_ <;> intro _))) | (show wrapK _ _ _; (refine wrap_i64 (by omega) (by omega) ?_)) | (show leK _ _ _; (refine le_of (by first | exact Nat.le_refl _ | omega) ?_)) | (show roomK _ _ _; (refine room_of (by first | omega | (dsimp only; omega)) ?_)) | (show ltK _ _ _; (refine lt_of (by omega) ?_)) | (show _ ∧ _; (refine ⟨?_, ?_⟩)) | (show keepK _ _ _ _ _; (refine keep_of (by first | exact List.Sublist.refl _ | exact List.Sublist.cons _ (List.Sublist.refl _) | exact List.Sublist.cons _ (List.Sublist.cons _ (List.Sublist.refl _)) | exact List.Sublist.cons _ (List.Sublist.cons _ (List.Sublist.cons _ (List.Sublist.refl _)))) (by first | exact (fun _ _ h => h) | exact (fun _ _ h => h.1) | exact (fun _ _ h => h.1.1)) ?_)) | (show ownK _ _ _ _ _; (refine own_keep ?_))))
      conv => whnf
      exact rd_ends u2 hr2 hbs2 (fun _ => rfl) (by repeat (first | exact List.mem_cons_self | apply List.mem_cons_of_mem)) (fun _ _ h => h)
theorem call_rtruth {B : Base} {m i : Nat} {H : Heap} {S : Asn} {nx : Nat} {K : SV → Heap → Asn → Nat → Prop} {u0 u : RdV} {e : Int} (hi : (i, Ent.box (cs (rcells u e)) 100) ∈ H) (h0 : RdBase u0 S) (hr : SX.Rest u0 u)
    (h : ∀ u', SX.Rest u0 u' → u'.bs = (rdTruth (u.bs, e)).2.1 → K (.c (.bool (rdTruth (u.bs, e)).1)) (setH i (.box (cs (rcells u' (rdTruth (u.bs, e)).2.2)) 100) H) S nx) : callK ⟨Try.prog, B, m, tab⟩ 69 [.agg [.lp i 0 0 0]] H S nx K :=
  call_rx (fun p => [.agg #[p]]) (fun ρ b hb => by simp [SV.rfs, SV.rf, hb, add_none]) (fun x => .bool x) _ hi Try.call69 h0 hr (fun w' b' h => rtruth_any w' b' u e h) h
theorem call_rsigned {B : Base} {m i : Nat} {H : Heap} {S : Asn} {nx : Nat} {K : SV → Heap → Asn → Nat → Prop} {u0 u : RdV} {e : Int} (hi : (i, Ent.box (cs (rcells u e)) 100) ∈ H) (h0 : RdBase u0 S) (hr : SX.Rest u0 u)
    (h : ∀ u', SX.Rest u0 u' → u'.bs = (rdSigned (u.bs, e)).2.1 → K (.c (.int .i64 (rdSigned (u.bs, e)).1)) (setH i (.box (cs (rcells u' (rdSigned (u.bs, e)).2.2)) 100) H) S nx) : callK ⟨Try.prog, B, m, tab⟩ 66 [.agg [.lp i 0 0 0]] H S nx K :=
  call_rx (fun p => [.agg #[p]]) (fun ρ b hb => by simp [SV.rfs, SV.rf, hb, add_none]) (fun x => .int .i64 x) _ hi Try.call66 h0 hr (fun w' b' h => rsigned_any w' b' u e h) h
/-! the same with the state as one -/
theorem ry_one {B : Base} {m i : Nat} {H : Heap} {S : Asn} {nx : Nat} {K : SV → Heap → Asn → Nat → Prop} {u0 u : RdV} {s : List Int × Int} (hi : (i, Ent.box (cs (rcells u s.2)) 125) ∈ H) (h0 : RdBase u0 S) (hr : SX.Rest u0 u) (hbs : u.bs = s.1)
    (h : ∀ u', SX.Rest u0 u' → u'.bs = (rdNum 1 s).2.1 → K (.c (.int .i64 (rdNum 1 s).1)) (setH i (.box (cs (rcells u' (rdNum 1 s).2.2)) 125) H) S nx) : callK ⟨Try.prog, B, m, tab⟩ 57 [.lp i 0 0 0] H S nx K := by
  have e : (u.bs, s.2) = s := by rw [hbs]
  exact call_one hi h0 hr (by rw [e]; exact h)
theorem ry_two {B : Base} {m i : Nat} {H : Heap} {S : Asn} {nx : Nat} {K : SV → Heap → Asn → Nat → Prop} {u0 u : RdV} {s : List Int × Int} (hi : (i, Ent.box (cs (rcells u s.2)) 125) ∈ H) (h0 : RdBase u0 S) (hr : SX.Rest u0 u) (hbs : u.bs = s.1)
    (h : ∀ u', SX.Rest u0 u' → u'.bs = (rdNum 2 s).2.1 → K (.c (.int .i64 (rdNum 2 s).1)) (setH i (.box (cs (rcells u' (rdNum 2 s).2.2)) 125) H) S nx) : callK ⟨Try.prog, B, m, tab⟩ 59 [.lp i 0 0 0] H S nx K := by
  have e : (u.bs, s.2) = s := by rw [hbs]
  exact call_two hi h0 hr (by rw [e]; exact h)
theorem ry_signed {B : Base} {m i : Nat} {H : Heap} {S : Asn} {nx : Nat} {K : SV → Heap → Asn → Nat → Prop} {u0 u : RdV} {s : List Int × Int} (hi : (i, Ent.box (cs (rcells u s.2)) 125) ∈ H) (h0 : RdBase u0 S) (hr : SX.Rest u0 u) (hbs : u.bs = s.1)
    (h : ∀ u', SX.Rest u0 u' → u'.bs = (rdSigned s).2.1 → K (.c (.int .i64 (rdSigned s).1)) (setH i (.box (cs (rcells u' (rdSigned s).2.2)) 125) H) S nx) : callK ⟨Try.prog, B, m, tab⟩ 100 [.lp i 0 0 0] H S nx K := by
  have e : (u.bs, s.2) = s := by rw [hbs]
  exact call_signed hi h0 hr (by rw [e]; exact h)
theorem ry_truth {B : Base} {m i : Nat} {H : Heap} {S : Asn} {nx : Nat} {K : SV → Heap → Asn → Nat → Prop} {u0 u : RdV} {s : List Int × Int} (hi : (i, Ent.box (cs (rcells u s.2)) 125) ∈ H) (h0 : RdBase u0 S) (hr : SX.Rest u0 u) (hbs : u.bs = s.1)
    (h : ∀ u', SX.Rest u0 u' → u'.bs = (rdTruth s).2.1 → K (.c (.bool (rdTruth s).1)) (setH i (.box (cs (rcells u' (rdTruth s).2.2)) 125) H) S nx) : callK ⟨Try.prog, B, m, tab⟩ 58 [.lp i 0 0 0] H S nx K := by
  have e : (u.bs, s.2) = s := by rw [hbs]
  exact call_truth hi h0 hr (by rw [e]; exact h)
theorem ry_end {B : Base} {m i : Nat} {H : Heap} {S : Asn} {nx : Nat} {K : SV → Heap → Asn → Nat → Prop} {u0 u : RdV} {s : List Int × Int} (hi : (i, Ent.box (cs (rcells u s.2)) 125) ∈ H) (h0 : RdBase u0 S) (hr : SX.Rest u0 u) (hbs : u.bs = s.1)
    (h : ∀ u', SX.Rest u0 u' → u'.bs = (rdEnd s).2.1 → K (.c (.int .i64 (rdEnd s).1)) (setH i (.box (cs (rcells u' (rdEnd s).2.2)) 125) H) S nx) : callK ⟨Try.prog, B, m, tab⟩ 60 [.lp i 0 0 0] H S nx K := by
  have e : (u.bs, s.2) = s := by rw [hbs]
  exact call_end hi h0 hr (by rw [e]; exact h)
theorem ry_rend {B : Base} {m i : Nat} {H : Heap} {S : Asn} {nx : Nat} {K : SV → Heap → Asn → Nat → Prop} {u0 u : RdV} {s : List Int × Int} (hi : (i, Ent.box (cs (rcells u s.2)) 100) ∈ H) (h0 : RdBase u0 S) (hr : SX.Rest u0 u) (hbs : u.bs = s.1)
    (h : ∀ u', SX.Rest u0 u' → u'.bs = (rdEnd s).2.1 → K (.c (.int .i64 (rdEnd s).1)) (setH i (.box (cs (rcells u' (rdEnd s).2.2)) 100) H) S nx) : callK ⟨Try.prog, B, m, tab⟩ 68 [.lp i 0 0 0] H S nx K := by
  have e : (u.bs, s.2) = s := by rw [hbs]
  exact call_rend hi h0 hr (by rw [e]; exact h)
theorem ry_rn {B : Base} {m i : Nat} {H : Heap} {S : Asn} {nx : Nat} {K : SV → Heap → Asn → Nat → Prop} {u0 u : RdV} {s : List Int × Int} {n : Nat} (hn : n ≤ 4) (hi : (i, Ent.box (cs (rcells u s.2)) 100) ∈ H) (h0 : RdBase u0 S) (hr : SX.Rest u0 u) (hbs : u.bs = s.1)
    (h : ∀ u', SX.Rest u0 u' → u'.bs = (rdNum n s).2.1 → K (.c (.int .i64 (rdNum n s).1)) (setH i (.box (cs (rcells u' (rdNum n s).2.2)) 100) H) S nx) : callK ⟨Try.prog, B, m, tab⟩ 65 [.agg [.lp i 0 0 0], .c (.int .i64 n)] H S nx K := by
  have e : (u.bs, s.2) = s := by rw [hbs]
  exact call_rn hn hi h0 hr (by rw [e]; exact h)
theorem ry_rtruth {B : Base} {m i : Nat} {H : Heap} {S : Asn} {nx : Nat} {K : SV → Heap → Asn → Nat → Prop} {u0 u : RdV} {s : List Int × Int} (hi : (i, Ent.box (cs (rcells u s.2)) 100) ∈ H) (h0 : RdBase u0 S) (hr : SX.Rest u0 u) (hbs : u.bs = s.1)
    (h : ∀ u', SX.Rest u0 u' → u'.bs = (rdTruth s).2.1 → K (.c (.bool (rdTruth s).1)) (setH i (.box (cs (rcells u' (rdTruth s).2.2)) 100) H) S nx) : callK ⟨Try.prog, B, m, tab⟩ 69 [.agg [.lp i 0 0 0]] H S nx K := by
  have e : (u.bs, s.2) = s := by rw [hbs]
  exact call_rtruth hi h0 hr (by rw [e]; exact h)
theorem ry_rsigned {B : Base} {m i : Nat} {H : Heap} {S : Asn} {nx : Nat} {K : SV → Heap → Asn → Nat → Prop} {u0 u : RdV} {s : List Int × Int} (hi : (i, Ent.box (cs (rcells u s.2)) 100) ∈ H) (h0 : RdBase u0 S) (hr : SX.Rest u0 u) (hbs : u.bs = s.1)
    (h : ∀ u', SX.Rest u0 u' → u'.bs = (rdSigned s).2.1 → K (.c (.int .i64 (rdSigned s).1)) (setH i (.box (cs (rcells u' (rdSigned s).2.2)) 100) H) S nx) : callK ⟨Try.prog, B, m, tab⟩ 66 [.agg [.lp i 0 0 0]] H S nx K := by
  have e : (u.bs, s.2) = s := by rw [hbs]
  exact call_rsigned hi h0 hr (by rw [e]; exact h)
theorem ry_fail {B : Base} {m i : Nat} {H : Heap} {S : Asn} {nx : Nat} {K : SV → Heap → Asn → Nat → Prop} {u0 u : RdV} {s : List Int × Int} {y : Bool} {c : Int} (hi : (i, Ent.box (cs (rcells u s.2)) 125) ∈ H) (h0 : RdBase u0 S) (hr : SX.Rest u0 u) (hbs : u.bs = s.1)
    (h : ∀ u', SX.Rest u0 u' → u'.bs = (rdUnit (rdFail y c) s).2.1 → K (.c ((fun _ : Unit => .tuple #[]) (rdUnit (rdFail y c) s).1)) (setH i (.box (cs (rcells u' (rdUnit (rdFail y c) s).2.2)) 125) H) S nx) : callK ⟨Try.prog, B, m, tab⟩ 97 [.lp i 0 0 0, .c (.bool y), .c (.int .i64 c)] H S nx K := by
  have e : (u.bs, s.2) = s := by rw [hbs]
  exact callx_fail hi h0 hr (by rw [e]; exact h)
theorem ry_rfail {B : Base} {m i : Nat} {H : Heap} {S : Asn} {nx : Nat} {K : SV → Heap → Asn → Nat → Prop} {u0 u : RdV} {s : List Int × Int} {y : Bool} {c : Int} (hi : (i, Ent.box (cs (rcells u s.2)) 100) ∈ H) (h0 : RdBase u0 S) (hr : SX.Rest u0 u) (hbs : u.bs = s.1)
    (h : ∀ u', SX.Rest u0 u' → u'.bs = (rdUnit (rdFail y c) s).2.1 → K (.c ((fun _ : Unit => .tuple #[]) (rdUnit (rdFail y c) s).1)) (setH i (.box (cs (rcells u' (rdUnit (rdFail y c) s).2.2)) 100) H) S nx) : callK ⟨Try.prog, B, m, tab⟩ 64 [.lp i 0 0 0, .c (.bool y), .c (.int .i64 c)] H S nx K := by
  have e : (u.bs, s.2) = s := by rw [hbs]
  exact callx_rfail hi h0 hr (by rw [e]; exact h)
end Go.Proofs.Ytajbngkcgbehlaa
/- SF -/
namespace Go.Proofs.Ytajbngkcgbehlaa
open Go.SX Go.RowKit
structure RdIn (w : World) (u : RdV) : Prop where
  small : u.bs.length ≤ 1000000
  bytes : ∀ x ∈ u.bs, 0 ≤ x ∧ x ≤ 255
  room : u.bs.length ≤ u.cap
  data : (bytsD u).holds (fun b => b < w.heap.size) w
theorem RdIn.base {w : World} {u : RdV} (h : RdIn w u) : RdBase u (baseA w) := ⟨h.small, h.bytes, fun R w' hb => (bytsD u).stable (fun b hbl => (hb b hbl).1) (fun b hbl => (hb b hbl).2) h.data⟩
theorem rd_into {B : Base} {ρ : Nat → SX.Loc} {nx : Nat} {H : Heap} {S : Asn} {w : World} {u : RdV} (h0 : RdBase u S) (hr : u.bs.length ≤ u.cap) (hw : Abs B ρ nx H S w) : RdIn w u := by
  obtain ⟨R, φ, hw⟩ := hw
  exact ⟨h0.small, h0.bytes, hr, (bytsD u).stable (fun b hb => hw.ro b hb) (fun _ _ => rfl) (h0.data R w hw.asn)⟩
theorem start_any (w : World) (u : RdV) (kind : Int) (hu : RdIn w u) : Calls Try.prog 56 #[u.val, .int .i64 kind] w (fun e w' => ∃ x : RdV, (SX.Rest u x ∧ x.bs = (rdStart kind (u.bs, 0)).1) ∧ ∃ v, e = .returned v ∧ Ext w w' ∧ NewBox w w' v 125 (rcells x (rdStart kind (u.bs, 0)).2)) := by
  have h0 := hu.base
  have hr := SX.Rest.refl hu.room
  refine calls_of tab tabOk Try.func56 rfl rfl rfl [] (fun _ => ⟨none, 0⟩) [.c u.val, .c (.int .i64 kind)] [] (baseA w) 0 rfl rfl (by show 2 ≤ _; decide) (abs_base w) ?_
  by_cases hk : (rdNum 1 (u.bs, 0)).1 ≠ kind
  · have hS : rdStart kind (u.bs, 0) = (rdUnit (rdFail true 3) (rdNum 1 (u.bs, 0)).2).2 := by unfold rdStart rdUnit; rw [decide_eq_true hk]
    (repeat' ((conv => whnf) <;> first | (show callK _ 57 _ _ _ _ _; (refine ry_one (s := (u.bs, 0)) (by repeat (first | exact List.mem_cons_self | apply List.mem_cons_of_mem)) h0 hr rfl (fun u' hr hbs => ?_))) | (show callK _ 97 _ _ _ _ _; (refine ry_fail (by repeat (first | exact List.mem_cons_self | apply List.mem_cons_of_mem)) h0 hr hbs (fun u2 hr2 hbs2 => ?_))) | (show @cmpK _ _ _; (refine cmp_yes hk ?_)) | (show Wp _ _ _ _ _ _ _; (refine Wp.go tabOk rfl ?_)) | (show @cmpK _ _ _; (first | refine cmp_yes (by omega) ?_ | refine cmp_no (by omega) ?_ | (refine cmp_both ?_ ?_ <;> intro _))) | (show wrapK _ _ _; (refine wrap_i64 (by omega) (by omega) ?_)) | (show leK _ _ _; (refine le_of (by first | exact Nat.le_refl _ | omega) ?_)) | (show roomK _ _ _; (refine room_of (by first | omega | (dsimp only; omega)) ?_)) | (show ltK _ _ _; (refine lt_of (by omega) ?_)) | (show _ ∧ _; (refine ⟨?_, ?_⟩)) | (show keepK _ _ _ _ _; (refine keep_of (by first | exact List.Sublist.refl _ | exact List.Sublist.cons _ (List.Sublist.refl _) | exact List.Sublist.cons _ (List.Sublist.cons _ (List.Sublist.refl _)) | exact List.Sublist.cons _ (List.Sublist.cons _ (List.Sublist.cons _ (List.Sublist.refl _)))) (by first | exact (fun _ _ h => h) | exact (fun _ _ h => h.1) | exact (fun _ _ h => h.1.1)) ?_)) | (show ownK _ _ _ _ _; (refine own_keep ?_))))
    conv => whnf
    rw [← hS] at hbs2
    refine fin_of fun ρ w' hw => ⟨u2, ⟨hr2, hbs2⟩, _, rfl, ext_of_abs hw (fun _ _ h => h), ?_⟩
    rw [hS]
    exact newBox_of_abs hw (fun _ _ h => h) (by repeat (first | exact List.mem_cons_self | apply List.mem_cons_of_mem))
  · have hS : rdStart kind (u.bs, 0) = (rdUnit (rdFail false 3) (rdNum 1 (u.bs, 0)).2).2 := by unfold rdStart rdUnit; rw [decide_eq_false hk]
    (repeat' ((conv => whnf) <;> first | (show callK _ 57 _ _ _ _ _; (refine ry_one (s := (u.bs, 0)) (by repeat (first | exact List.mem_cons_self | apply List.mem_cons_of_mem)) h0 hr rfl (fun u' hr hbs => ?_))) | (show callK _ 97 _ _ _ _ _; (refine ry_fail (by repeat (first | exact List.mem_cons_self | apply List.mem_cons_of_mem)) h0 hr hbs (fun u2 hr2 hbs2 => ?_))) | (show @cmpK _ _ _; (refine cmp_no hk ?_)) | (show Wp _ _ _ _ _ _ _; (refine Wp.go tabOk rfl ?_)) | (show @cmpK _ _ _; (first | refine cmp_yes (by omega) ?_ | refine cmp_no (by omega) ?_ | (refine cmp_both ?_ ?_ <;> intro _))) | (show wrapK _ _ _; (refine wrap_i64 (by omega) (by omega) ?_)) | (show leK _ _ _; (refine le_of (by first | exact Nat.le_refl _ | omega) ?_)) | (show roomK _ _ _; (refine room_of (by first | omega | (dsimp only; omega)) ?_)) | (show ltK _ _ _; (refine lt_of (by omega) ?_)) | (show _ ∧ _; (refine ⟨?_, ?_⟩)) | (show keepK _ _ _ _ _; (refine keep_of (by first | exact List.Sublist.refl _ | exact List.Sublist.cons _ (List.Sublist.refl _) | exact List.Sublist.cons _ (List.Sublist.cons _ (List.Sublist.refl _)) | exact List.Sublist.cons _ (List.Sublist.cons _ (List.Sublist.cons _ (List.Sublist.refl _)))) (by first | exact (fun _ _ h => h) | exact (fun _ _ h => h.1) | exact (fun _ _ h => h.1.1)) ?_)) | (show ownK _ _ _ _ _; (refine own_keep ?_))))
    conv => whnf
    rw [← hS] at hbs2
    refine fin_of fun ρ w' hw => ⟨u2, ⟨hr2, hbs2⟩, _, rfl, ext_of_abs hw (fun _ _ h => h), ?_⟩
    rw [hS]
    exact newBox_of_abs hw (fun _ _ h => h) (by repeat (first | exact List.mem_cons_self | apply List.mem_cons_of_mem))
def zeroO : OptV := ⟨0, false, false, false, 0⟩
def optA (bs : List Int) := rdNum 1 (rdStart 7 (bs, 0))
def optB (bs : List Int) := rdTruth (optA bs).2
def optC (bs : List Int) := rdTruth (optB bs).2
def optD (bs : List Int) := rdTruth (optC bs).2
def optR (bs : List Int) := rdNum 2 (optD bs).2
def optZ (bs : List Int) := rdEnd (optR bs).2
def readOpt (bs : List Int) : OptV × Int := if (optZ bs).1 ≠ 0 then (zeroO, (optZ bs).1) else (⟨(optA bs).1, (optB bs).1, (optC bs).1, (optD bs).1, (optR bs).1⟩, 0)
abbrev ROPost (w : World) (bs : List Int) (e : Ending) (w' : World) : Prop := e = .returned (.tuple #[(readOpt bs).1.val, .int .i64 (readOpt bs).2]) ∧ Ext w w'
set_option maxRecDepth 20000 in
theorem readOptions_any (w : World) (v : RdV) (hu : RdIn w v) : Calls Try.prog 26 #[v.val] w (ROPost w v.bs) := by
  have h0 := hu.base
  refine calls_of tab tabOk Try.func26 rfl rfl rfl [] (fun _ => ⟨none, 0⟩) [.c v.val] [] (baseA w) 0 rfl rfl (by show 1 ≤ _; decide) (abs_base w) ?_
  (repeat' ((conv => whnf) <;> first | (show Wp _ _ _ _ _ _ _; (refine Wp.go tabOk rfl ?_)) | (show @cmpK _ _ _; (first | refine cmp_yes (by omega) ?_ | refine cmp_no (by omega) ?_ | (refine cmp_both ?_ ?_ <;> intro _))) | (show wrapK _ _ _; (refine wrap_i64 (by omega) (by omega) ?_)) | (show leK _ _ _; (refine le_of (by first | exact Nat.le_refl _ | omega) ?_)) | (show roomK _ _ _; (refine room_of (by first | omega | (dsimp only; omega)) ?_)) | (show ltK _ _ _; (refine lt_of (by omega) ?_)) | (show _ ∧ _; (refine ⟨?_, ?_⟩)) | (show keepK _ _ _ _ _; (refine keep_of (by first | exact List.Sublist.refl _ | exact List.Sublist.cons _ (List.Sublist.refl _) | exact List.Sublist.cons _ (List.Sublist.cons _ (List.Sublist.refl _)) | exact List.Sublist.cons _ (List.Sublist.cons _ (List.Sublist.cons _ (List.Sublist.refl _)))) (by first | exact (fun _ _ h => h) | exact (fun _ _ h => h.1) | exact (fun _ _ h => h.1.1)) ?_)) | (show ownK _ _ _ _ _; (refine own_keep ?_))))
  refine call_newbox (f := 56) Try.call56 125 (fun x : RdV => rcells x (rdStart 7 (v.bs, 0)).2) (fun x => SX.Rest v x ∧ x.bs = (rdStart 7 (v.bs, 0)).1) (fun ρ w' hw => start_any w' v 7 (rd_into h0 hu.room hw)) (fun u1 hx => ?_)
  obtain ⟨hr, hbs⟩ := hx
  by_cases hz : (optZ v.bs).1 ≠ 0
  · have hq : readOpt v.bs = (zeroO, (optZ v.bs).1) := if_pos hz
    (repeat' ((conv => whnf) <;> first | (show callK _ 57 _ _ _ _ _; (refine ry_one (by repeat (first | exact List.mem_cons_self | apply List.mem_cons_of_mem)) h0 hr hbs (fun u hr hbs => ?_))) | (show callK _ 59 _ _ _ _ _; (refine ry_two (by repeat (first | exact List.mem_cons_self | apply List.mem_cons_of_mem)) h0 hr hbs (fun u hr hbs => ?_))) | (show callK _ 58 _ _ _ _ _; (refine ry_truth (by repeat (first | exact List.mem_cons_self | apply List.mem_cons_of_mem)) h0 hr hbs (fun u hr hbs => ?_))) | (show callK _ 60 _ _ _ _ _; (refine ry_end (by repeat (first | exact List.mem_cons_self | apply List.mem_cons_of_mem)) h0 hr hbs (fun u hr hbs => ?_))) | (show @cmpK _ _ _; (refine cmp_yes hz ?_)) | (show Wp _ _ _ _ _ _ _; (refine Wp.go tabOk rfl ?_)) | (show @cmpK _ _ _; (first | refine cmp_yes (by omega) ?_ | refine cmp_no (by omega) ?_ | (refine cmp_both ?_ ?_ <;> intro _))) | (show wrapK _ _ _; (refine wrap_i64 (by omega) (by omega) ?_)) | (show leK _ _ _; (refine le_of (by first | exact Nat.le_refl _ | omega) ?_)) | (show roomK _ _ _; (refine room_of (by first | omega | (dsimp only; omega)) ?_)) | (show ltK _ _ _; (refine lt_of (by omega) ?_)) | (show _ ∧ _; (refine ⟨?_, ?_⟩)) | (show keepK _ _ _ _ _; (refine keep_of (by first | exact List.Sublist.refl _ | exact List.Sublist.cons _ (List.Sublist.refl _) | exact List.Sublist.cons _ (List.Sublist.cons _ (List.Sublist.refl _)) | exact List.Sublist.cons _ (List.Sublist.cons _ (List.Sublist.cons _ (List.Sublist.refl _)))) (by first | exact (fun _ _ h => h) | exact (fun _ _ h => h.1) | exact (fun _ _ h => h.1.1)) ?_)) | (show ownK _ _ _ _ _; (refine own_keep ?_))))
    conv => whnf
    refine ends_of (fun _ _ h => h) (fun _ => ?_) rfl
    rw [hq]; rfl
  · have hq : readOpt v.bs = (⟨(optA v.bs).1, (optB v.bs).1, (optC v.bs).1, (optD v.bs).1, (optR v.bs).1⟩, 0) := if_neg hz
    (repeat' ((conv => whnf) <;> first | (show callK _ 57 _ _ _ _ _; (refine ry_one (by repeat (first | exact List.mem_cons_self | apply List.mem_cons_of_mem)) h0 hr hbs (fun u hr hbs => ?_))) | (show callK _ 59 _ _ _ _ _; (refine ry_two (by repeat (first | exact List.mem_cons_self | apply List.mem_cons_of_mem)) h0 hr hbs (fun u hr hbs => ?_))) | (show callK _ 58 _ _ _ _ _; (refine ry_truth (by repeat (first | exact List.mem_cons_self | apply List.mem_cons_of_mem)) h0 hr hbs (fun u hr hbs => ?_))) | (show callK _ 60 _ _ _ _ _; (refine ry_end (by repeat (first | exact List.mem_cons_self | apply List.mem_cons_of_mem)) h0 hr hbs (fun u hr hbs => ?_))) | (show @cmpK _ _ _; (refine cmp_no hz ?_)) | (show Wp _ _ _ _ _ _ _; (refine Wp.go tabOk rfl ?_)) | (show @cmpK _ _ _; (first | refine cmp_yes (by omega) ?_ | refine cmp_no (by omega) ?_ | (refine cmp_both ?_ ?_ <;> intro _))) | (show wrapK _ _ _; (refine wrap_i64 (by omega) (by omega) ?_)) | (show leK _ _ _; (refine le_of (by first | exact Nat.le_refl _ | omega) ?_)) | (show roomK _ _ _; (refine room_of (by first | omega | (dsimp only; omega)) ?_)) | (show ltK _ _ _; (refine lt_of (by omega) ?_)) | (show _ ∧ _; (refine ⟨?_, ?_⟩)) | (show keepK _ _ _ _ _; (refine keep_of (by first | exact List.Sublist.refl _ | exact List.Sublist.cons _ (List.Sublist.refl _) | exact List.Sublist.cons _ (List.Sublist.cons _ (List.Sublist.refl _)) | exact List.Sublist.cons _ (List.Sublist.cons _ (List.Sublist.cons _ (List.Sublist.refl _)))) (by first | exact (fun _ _ h => h) | exact (fun _ _ h => h.1) | exact (fun _ _ h => h.1.1)) ?_)) | (show ownK _ _ _ _ _; (refine own_keep ?_))))
    conv => whnf
    refine ends_of (fun _ _ h => h) (fun _ => ?_) rfl
    rw [hq]; rfl
set_option maxRecDepth 20000 in
theorem refReadOptions_any (w : World) (v : RdV) (hu : RdIn w v) : Calls Try.prog 29 #[v.val] w (ROPost w v.bs) := by
  have h0 := hu.base
  have hr := SX.Rest.refl hu.room
  have hbs : v.bs = ((v.bs, (0 : Int)) : List Int × Int).1 := rfl
  refine calls_of tab tabOk Try.func29 rfl rfl rfl [] (fun _ => ⟨none, 0⟩) [.c v.val] [] (baseA w) 0 rfl rfl (by show 1 ≤ _; decide) (abs_base w) ?_
  by_cases hk : (rdNum 1 (v.bs, 0)).1 ≠ 7
  · have hS : (rdUnit (rdFail true 3) (rdNum 1 (v.bs, 0)).2).2 = rdStart 7 (v.bs, 0) := by unfold rdStart rdUnit; rw [decide_eq_true hk]
    (repeat' ((conv => whnf) <;> first | (show drawK _ 2 _ _ _ _ _ _; (refine draw_tree tabOk mixed [] [] (.alt 0 (.alt 1 (.one 2 (.one 3 (.take 4 (.one 5 (.done))))) (.one 2 (.alt 1 (.one 3 (.take 4 (.one 5 (.done)))) (.one 3 (.take 4 (.one 1 (.one 5 (.done)))))))) (.one 2 (.alt 0 (.alt 1 (.one 3 (.take 4 (.one 5 (.done)))) (.one 3 (.take 4 (.one 1 (.one 5 (.done)))))) (.one 3 (.take 4 (.one 0 (.one 1 (.one 5 (.done))))))))) (by kernel_rfl) (by kernel_rfl) (by kernel_rfl) (List.nil_sublist _) ?_)) | (show keepK _ _ _ _ _; (refine keep_of (List.nil_sublist _) (fun _ _ h => h) ?_)) | (show callK _ 65 _ _ _ _ _; (refine ry_rn (s := (v.bs, 0)) (by decide) (by repeat (first | exact List.mem_cons_self | apply List.mem_cons_of_mem)) h0 hr hbs (fun u hr hbs => ?_))) | (show @cmpK _ _ _; (refine cmp_yes hk ?_)) | (show callK _ 64 _ _ _ _ _; (refine ry_rfail (by repeat (first | exact List.mem_cons_self | apply List.mem_cons_of_mem)) h0 hr hbs (fun u hr hbs => ?_))) | (show Wp _ _ _ _ _ _ _; (refine Wp.go tabOk rfl ?_)) | (show @cmpK _ _ _; (first | refine cmp_yes (by omega) ?_ | refine cmp_no (by omega) ?_ | (refine cmp_both ?_ ?_ <;> intro _))) | (show wrapK _ _ _; (refine wrap_i64 (by omega) (by omega) ?_)) | (show leK _ _ _; (refine le_of (by first | exact Nat.le_refl _ | omega) ?_)) | (show roomK _ _ _; (refine room_of (by first | omega | (dsimp only; omega)) ?_)) | (show ltK _ _ _; (refine lt_of (by omega) ?_)) | (show _ ∧ _; (refine ⟨?_, ?_⟩)) | (show keepK _ _ _ _ _; (refine keep_of (by first | exact List.Sublist.refl _ | exact List.Sublist.cons _ (List.Sublist.refl _) | exact List.Sublist.cons _ (List.Sublist.cons _ (List.Sublist.refl _)) | exact List.Sublist.cons _ (List.Sublist.cons _ (List.Sublist.cons _ (List.Sublist.refl _)))) (by first | exact (fun _ _ h => h) | exact (fun _ _ h => h.1) | exact (fun _ _ h => h.1.1)) ?_)) | (show ownK _ _ _ _ _; (refine own_keep ?_))))
    all_goals
      rw [hS] at hbs ⊢
      by_cases hz : (optZ v.bs).1 ≠ 0
      · have hq : readOpt v.bs = (zeroO, (optZ v.bs).1) := if_pos hz
        (repeat' ((conv => whnf) <;> first | (show callK _ 65 _ _ _ _ _; (refine ry_rn (by decide) (by repeat (first | exact List.mem_cons_self | apply List.mem_cons_of_mem)) h0 hr hbs (fun u hr hbs => ?_))) | (show callK _ 69 _ _ _ _ _; (refine ry_rtruth (by repeat (first | exact List.mem_cons_self | apply List.mem_cons_of_mem)) h0 hr hbs (fun u hr hbs => ?_))) | (show callK _ 68 _ _ _ _ _; (refine ry_rend (by repeat (first | exact List.mem_cons_self | apply List.mem_cons_of_mem)) h0 hr hbs (fun u hr hbs => ?_))) | (show @cmpK _ _ _; (refine cmp_yes hz ?_)) | (show drawK _ 2 _ _ _ _ _ _; (refine draw_quiet tabOk mixed (by kernel_rfl) ?_)) | (show Wp _ _ _ _ _ _ _; (refine Wp.go tabOk rfl ?_)) | (show @cmpK _ _ _; (first | refine cmp_yes (by omega) ?_ | refine cmp_no (by omega) ?_ | (refine cmp_both ?_ ?_ <;> intro _))) | (show wrapK _ _ _; (refine wrap_i64 (by omega) (by omega) ?_)) | (show leK _ _ _; (refine le_of (by first | exact Nat.le_refl _ | omega) ?_)) | (show roomK _ _ _; (refine room_of (by first | omega | (dsimp only; omega)) ?_)) | (show ltK _ _ _; (refine lt_of (by omega) ?_)) | (show _ ∧ _; (refine ⟨?_, ?_⟩)) | (show keepK _ _ _ _ _; (refine keep_of (by first | exact List.Sublist.refl _ | exact List.Sublist.cons _ (List.Sublist.refl _) | exact List.Sublist.cons _ (List.Sublist.cons _ (List.Sublist.refl _)) | exact List.Sublist.cons _ (List.Sublist.cons _ (List.Sublist.cons _ (List.Sublist.refl _)))) (by first | exact (fun _ _ h => h) | exact (fun _ _ h => h.1) | exact (fun _ _ h => h.1.1)) ?_)) | (show ownK _ _ _ _ _; (refine own_keep ?_))))
        conv => whnf
        refine ends_of (fun _ _ h => h) (fun _ => ?_) rfl
        rw [hq]; rfl
      · have hq : readOpt v.bs = (⟨(optA v.bs).1, (optB v.bs).1, (optC v.bs).1, (optD v.bs).1, (optR v.bs).1⟩, 0) := if_neg hz
        (repeat' ((conv => whnf) <;> first | (show callK _ 65 _ _ _ _ _; (refine ry_rn (by decide) (by repeat (first | exact List.mem_cons_self | apply List.mem_cons_of_mem)) h0 hr hbs (fun u hr hbs => ?_))) | (show callK _ 69 _ _ _ _ _; (refine ry_rtruth (by repeat (first | exact List.mem_cons_self | apply List.mem_cons_of_mem)) h0 hr hbs (fun u hr hbs => ?_))) | (show callK _ 68 _ _ _ _ _; (refine ry_rend (by repeat (first | exact List.mem_cons_self | apply List.mem_cons_of_mem)) h0 hr hbs (fun u hr hbs => ?_))) | (show @cmpK _ _ _; (refine cmp_no hz ?_)) | (show drawK _ 2 _ _ _ _ _ _; (refine draw_quiet tabOk mixed (by kernel_rfl) ?_)) | (show Wp _ _ _ _ _ _ _; (refine Wp.go tabOk rfl ?_)) | (show @cmpK _ _ _; (first | refine cmp_yes (by omega) ?_ | refine cmp_no (by omega) ?_ | (refine cmp_both ?_ ?_ <;> intro _))) | (show wrapK _ _ _; (refine wrap_i64 (by omega) (by omega) ?_)) | (show leK _ _ _; (refine le_of (by first | exact Nat.le_refl _ | omega) ?_)) | (show roomK _ _ _; (refine room_of (by first | omega | (dsimp only; omega)) ?_)) | (show ltK _ _ _; (refine lt_of (by omega) ?_)) | (show _ ∧ _; (refine ⟨?_, ?_⟩)) | (show keepK _ _ _ _ _; (refine keep_of (by first | exact List.Sublist.refl _ | exact List.Sublist.cons _ (List.Sublist.refl _) | exact List.Sublist.cons _ (List.Sublist.cons _ (List.Sublist.refl _)) | exact List.Sublist.cons _ (List.Sublist.cons _ (List.Sublist.cons _ (List.Sublist.refl _)))) (by first | exact (fun _ _ h => h) | exact (fun _ _ h => h.1) | exact (fun _ _ h => h.1.1)) ?_)) | (show ownK _ _ _ _ _; (refine own_keep ?_))))
        conv => whnf
        refine ends_of (fun _ _ h => h) (fun _ => ?_) rfl
        rw [hq]; rfl
  · have hS : (rdUnit (rdFail false 3) (rdNum 1 (v.bs, 0)).2).2 = rdStart 7 (v.bs, 0) := by unfold rdStart rdUnit; rw [decide_eq_false hk]
    (repeat' ((conv => whnf) <;> first | (show drawK _ 2 _ _ _ _ _ _; (refine draw_tree tabOk mixed [] [] (.alt 0 (.alt 1 (.one 2 (.one 3 (.take 4 (.one 5 (.done))))) (.one 2 (.alt 1 (.one 3 (.take 4 (.one 5 (.done)))) (.one 3 (.take 4 (.one 1 (.one 5 (.done)))))))) (.one 2 (.alt 0 (.alt 1 (.one 3 (.take 4 (.one 5 (.done)))) (.one 3 (.take 4 (.one 1 (.one 5 (.done)))))) (.one 3 (.take 4 (.one 0 (.one 1 (.one 5 (.done))))))))) (by kernel_rfl) (by kernel_rfl) (by kernel_rfl) (List.nil_sublist _) ?_)) | (show keepK _ _ _ _ _; (refine keep_of (List.nil_sublist _) (fun _ _ h => h) ?_)) | (show callK _ 65 _ _ _ _ _; (refine ry_rn (s := (v.bs, 0)) (by decide) (by repeat (first | exact List.mem_cons_self | apply List.mem_cons_of_mem)) h0 hr hbs (fun u hr hbs => ?_))) | (show @cmpK _ _ _; (refine cmp_no hk ?_)) | (show callK _ 64 _ _ _ _ _; (refine ry_rfail (by repeat (first | exact List.mem_cons_self | apply List.mem_cons_of_mem)) h0 hr hbs (fun u hr hbs => ?_))) | (show Wp _ _ _ _ _ _ _; (refine Wp.go tabOk rfl ?_)) | (show @cmpK _ _ _; (first | refine cmp_yes (by omega) ?_ | refine cmp_no (by omega) ?_ | (refine cmp_both ?_ ?_ <;> intro _))) | (show wrapK _ _ _; (refine wrap_i64 (by omega) (by omega) ?_)) | (show leK _ _ _; (refine le_of (by first | exact Nat.le_refl _ | omega) ?_)) | (show roomK _ _ _; (refine room_of (by first | omega | (dsimp only; omega)) ?_)) | (show ltK _ _ _; (refine lt_of (by omega) ?_)) | (show _ ∧ _; (refine ⟨?_, ?_⟩)) | (show keepK _ _ _ _ _; (refine keep_of (by first | exact List.Sublist.refl _ | exact List.Sublist.cons _ (List.Sublist.refl _) | exact List.Sublist.cons _ (List.Sublist.cons _ (List.Sublist.refl _)) | exact List.Sublist.cons _ (List.Sublist.cons _ (List.Sublist.cons _ (List.Sublist.refl _)))) (by first | exact (fun _ _ h => h) | exact (fun _ _ h => h.1) | exact (fun _ _ h => h.1.1)) ?_)) | (show ownK _ _ _ _ _; (refine own_keep ?_))))
    all_goals
      rw [hS] at hbs ⊢
      by_cases hz : (optZ v.bs).1 ≠ 0
      · have hq : readOpt v.bs = (zeroO, (optZ v.bs).1) := if_pos hz
        (repeat' ((conv => whnf) <;> first | (show callK _ 65 _ _ _ _ _; (refine ry_rn (by decide) (by repeat (first | exact List.mem_cons_self | apply List.mem_cons_of_mem)) h0 hr hbs (fun u hr hbs => ?_))) | (show callK _ 69 _ _ _ _ _; (refine ry_rtruth (by repeat (first | exact List.mem_cons_self | apply List.mem_cons_of_mem)) h0 hr hbs (fun u hr hbs => ?_))) | (show callK _ 68 _ _ _ _ _; (refine ry_rend (by repeat (first | exact List.mem_cons_self | apply List.mem_cons_of_mem)) h0 hr hbs (fun u hr hbs => ?_))) | (show @cmpK _ _ _; (refine cmp_yes hz ?_)) | (show drawK _ 2 _ _ _ _ _ _; (refine draw_quiet tabOk mixed (by kernel_rfl) ?_)) | (show Wp _ _ _ _ _ _ _; (refine Wp.go tabOk rfl ?_)) | (show @cmpK _ _ _; (first | refine cmp_yes (by omega) ?_ | refine cmp_no (by omega) ?_ | (refine cmp_both ?_ ?_ <;> intro _))) | (show wrapK _ _ _; (refine wrap_i64 (by omega) (by omega) ?_)) | (show leK _ _ _; (refine le_of (by first | exact Nat.le_refl _ | omega) ?_)) | (show roomK _ _ _; (refine room_of (by first | omega | (dsimp only; omega)) ?_)) | (show ltK _ _ _; (refine lt_of (by omega) ?_)) | (show _ ∧ _; (refine ⟨?_, ?_⟩)) | (show keepK _ _ _ _ _; (refine keep_of (by first | exact List.Sublist.refl _ | exact List.Sublist.cons _ (List.Sublist.refl _) | exact List.Sublist.cons _ (List.Sublist.cons _ (List.Sublist.refl _)) | exact List.Sublist.cons _ (List.Sublist.cons _ (List.Sublist.cons _ (List.Sublist.refl _)))) (by first | exact (fun _ _ h => h) | exact (fun _ _ h => h.1) | exact (fun _ _ h => h.1.1)) ?_)) | (show ownK _ _ _ _ _; (refine own_keep ?_))))
        conv => whnf
        refine ends_of (fun _ _ h => h) (fun _ => ?_) rfl
        rw [hq]; rfl
      · have hq : readOpt v.bs = (⟨(optA v.bs).1, (optB v.bs).1, (optC v.bs).1, (optD v.bs).1, (optR v.bs).1⟩, 0) := if_neg hz
        (repeat' ((conv => whnf) <;> first | (show callK _ 65 _ _ _ _ _; (refine ry_rn (by decide) (by repeat (first | exact List.mem_cons_self | apply List.mem_cons_of_mem)) h0 hr hbs (fun u hr hbs => ?_))) | (show callK _ 69 _ _ _ _ _; (refine ry_rtruth (by repeat (first | exact List.mem_cons_self | apply List.mem_cons_of_mem)) h0 hr hbs (fun u hr hbs => ?_))) | (show callK _ 68 _ _ _ _ _; (refine ry_rend (by repeat (first | exact List.mem_cons_self | apply List.mem_cons_of_mem)) h0 hr hbs (fun u hr hbs => ?_))) | (show @cmpK _ _ _; (refine cmp_no hz ?_)) | (show drawK _ 2 _ _ _ _ _ _; (refine draw_quiet tabOk mixed (by kernel_rfl) ?_)) | (show Wp _ _ _ _ _ _ _; (refine Wp.go tabOk rfl ?_)) | (show @cmpK _ _ _; (first | refine cmp_yes (by omega) ?_ | refine cmp_no (by omega) ?_ | (refine cmp_both ?_ ?_ <;> intro _))) | (show wrapK _ _ _; (refine wrap_i64 (by omega) (by omega) ?_)) | (show leK _ _ _; (refine le_of (by first | exact Nat.le_refl _ | omega) ?_)) | (show roomK _ _ _; (refine room_of (by first | omega | (dsimp only; omega)) ?_)) | (show ltK _ _ _; (refine lt_of (by omega) ?_)) | (show _ ∧ _; (refine ⟨?_, ?_⟩)) | (show keepK _ _ _ _ _; (refine keep_of (by first | exact List.Sublist.refl _ | exact List.Sublist.cons _ (List.Sublist.refl _) | exact List.Sublist.cons _ (List.Sublist.cons _ (List.Sublist.refl _)) | exact List.Sublist.cons _ (List.Sublist.cons _ (List.Sublist.cons _ (List.Sublist.refl _)))) (by first | exact (fun _ _ h => h) | exact (fun _ _ h => h.1) | exact (fun _ _ h => h.1.1)) ?_)) | (show ownK _ _ _ _ _; (refine own_keep ?_))))
        conv => whnf
        refine ends_of (fun _ _ h => h) (fun _ => ?_) rfl
        rw [hq]; rfl
end Go.Proofs.Ytajbngkcgbehlaa
/- GC -/
namespace Go.Proofs.Ytajbngkcgbehlaa
open Go.SX
def nearL (xs : List Int) : Bool := xs.all fun v => decide (-1048576 ≤ v ∧ v ≤ 1048576)

set_option maxHeartbeats 1000000 in
theorem refNear_any (w : World) (x : IntsV) (hx : x.ok w) :
    Calls Try.prog 48 #[x.val] w fun e w' => e = .returned (.bool (nearL x.xs)) ∧ Ext w w' := by
  obtain ⟨ab, ac, xs⟩ := x
  obtain ⟨hx, _, _, hfew⟩ := hx
  simp only [IntsV.val] at *
  refine calls_of tab tabOk Try.func48 rfl rfl rfl [] (fun _ => ⟨none, 0⟩) [.c (.slice ab xs.length ac)] [] (baseA w) 0 rfl rfl (by show 1 ≤ _; decide) (abs_base w) ?_
  (repeat' ((conv => whnf) <;> first | (show Wp _ _ _ _ _ _ _; (refine Wp.go tabOk rfl ?_)) | (show @cmpK _ _ _; (first | refine cmp_yes (by omega) ?_ | refine cmp_no (by omega) ?_ | (refine cmp_both ?_ ?_ <;> intro _))) | (show wrapK _ _ _; (refine wrap_i64 (by omega) (by omega) ?_)) | (show leK _ _ _; (refine le_of (by first | exact Nat.le_refl _ | omega) ?_)) | (show roomK _ _ _; (refine room_of (by first | omega | (dsimp only; omega)) ?_)) | (show ltK _ _ _; (refine lt_of (by omega) ?_)) | (show _ ∧ _; (refine ⟨?_, ?_⟩)) | (show keepK _ _ _ _ _; (refine keep_of (by first | exact List.Sublist.refl _ | exact List.Sublist.cons _ (List.Sublist.refl _) | exact List.Sublist.cons _ (List.Sublist.cons _ (List.Sublist.refl _)) | exact List.Sublist.cons _ (List.Sublist.cons _ (List.Sublist.cons _ (List.Sublist.refl _)))) (by first | exact (fun _ _ h => h) | exact (fun _ _ h => h.1) | exact (fun _ _ h => h.1.1)) ?_)) | (show ownK _ _ _ _ _; (refine own_keep ?_))))
  refine Wp.loop (σ := Nat) 0 (fun k => [(5, .c (.slice ab xs.length ac)), (6, .c (.int .i64 xs.length)), (7, .c (.int .i64 k))]) (fun _ => []) (fun _ => baseA w)
      (fun k => k ≤ xs.length ∧ nearL xs = nearL (xs.drop k)) (fun k => xs.length - k) 0 [] (Nat.le_refl _) (fun s => ⟨rfl, rfl⟩) ⟨by simp, by simp⟩ ⟨rfl, ⟨rfl, rfl, rfl, trivial⟩, trivial, fun _ _ h => h⟩ ?_
  rintro k ⟨hk, he⟩
  by_cases hlt : k < xs.length
  · obtain ⟨a, rfl⟩ : ∃ a, ab = some a := base_some (j := k) hx (by rw [ints_length]; omega)
    rw [drop_at hlt] at he
    simp only [nearL, List.all_cons] at he
    (repeat' ((conv => whnf) <;> first | refine idx_of a k rfl rfl hlt ?_ | refine ro_row0 (fun R w' h => rows_base h hx) _ _ (ints_get hlt) rfl ?_ | (show Wp _ _ _ _ _ _ _; (refine Wp.go tabOk rfl ?_)) | (show @cmpK _ _ _; (first | refine cmp_yes (by omega) ?_ | refine cmp_no (by omega) ?_ | (refine cmp_both ?_ ?_ <;> intro _))) | (show wrapK _ _ _; (refine wrap_i64 (by omega) (by omega) ?_)) | (show leK _ _ _; (refine le_of (by first | exact Nat.le_refl _ | omega) ?_)) | (show roomK _ _ _; (refine room_of (by first | omega | (dsimp only; omega)) ?_)) | (show ltK _ _ _; (refine lt_of (by omega) ?_)) | (show _ ∧ _; (refine ⟨?_, ?_⟩)) | (show keepK _ _ _ _ _; (refine keep_of (by first | exact List.Sublist.refl _ | exact List.Sublist.cons _ (List.Sublist.refl _) | exact List.Sublist.cons _ (List.Sublist.cons _ (List.Sublist.refl _)) | exact List.Sublist.cons _ (List.Sublist.cons _ (List.Sublist.cons _ (List.Sublist.refl _)))) (by first | exact (fun _ _ h => h) | exact (fun _ _ h => h.1) | exact (fun _ _ h => h.1.1)) ?_)) | (show ownK _ _ _ _ _; (refine own_keep ?_))))
    · exact ends_bool (fun _ _ h => h) rfl (by rw [nearL, he, decide_eq_false (by omega), Bool.false_and])
    · exact ends_bool (fun _ _ h => h) rfl (by rw [nearL, he, decide_eq_false (by omega), Bool.false_and])
    · rw [decide_eq_true (p := -1048576 ≤ xs[k] ∧ xs[k] ≤ 1048576) (by omega), Bool.true_and] at he
      exact ⟨k + 1, [], ⟨hlt, he⟩, by omega, rfl, ⟨rfl, rfl, rfl, trivial⟩, trivial, fun _ _ h => h⟩
  · rw [List.drop_of_length_le (show xs.length ≤ k by omega)] at he
    (repeat' ((conv => whnf) <;> first | (show Wp _ _ _ _ _ _ _; (refine Wp.go tabOk rfl ?_)) | (show @cmpK _ _ _; (first | refine cmp_yes (by omega) ?_ | refine cmp_no (by omega) ?_ | (refine cmp_both ?_ ?_ <;> intro _))) | (show wrapK _ _ _; (refine wrap_i64 (by omega) (by omega) ?_)) | (show leK _ _ _; (refine le_of (by first | exact Nat.le_refl _ | omega) ?_)) | (show roomK _ _ _; (refine room_of (by first | omega | (dsimp only; omega)) ?_)) | (show ltK _ _ _; (refine lt_of (by omega) ?_)) | (show _ ∧ _; (refine ⟨?_, ?_⟩)) | (show keepK _ _ _ _ _; (refine keep_of (by first | exact List.Sublist.refl _ | exact List.Sublist.cons _ (List.Sublist.refl _) | exact List.Sublist.cons _ (List.Sublist.cons _ (List.Sublist.refl _)) | exact List.Sublist.cons _ (List.Sublist.cons _ (List.Sublist.cons _ (List.Sublist.refl _)))) (by first | exact (fun _ _ h => h) | exact (fun _ _ h => h.1) | exact (fun _ _ h => h.1.1)) ?_)) | (show ownK _ _ _ _ _; (refine own_keep ?_))))
    exact ends_bool (fun _ _ h => h) rfl (by rw [he]; rfl)

def foldI (f : Int → Int → Int) : List Int → Int
  | [] => 0
  | x :: r => r.foldl f x
theorem foldI_take {f : Int → Int → Int} {xs : List Int} {k : Nat} (h : k < xs.length) (h0 : 0 < k) : foldI f (xs.take (k + 1)) = f (foldI f (xs.take k)) xs[k] := by
  rw [List.take_succ_eq_append_getElem h]
  obtain ⟨x, r, e⟩ : ∃ x r, xs.take k = x :: r := by
    cases hx : xs.take k with
    | nil => have := congrArg List.length hx; rw [List.length_take, List.length_nil] at this; omega
    | cons x r => exact ⟨x, r, rfl⟩
  rw [e]
  simp [foldI]
set_option maxHeartbeats 1000000 in
theorem max_any (w : World) (x : IntsV) (hx : x.ok w) (hl : 1 ≤ x.xs.length) :
    Calls Try.prog 78 #[x.val] w fun e w' => e = .returned (.int .i64 (foldI max x.xs)) ∧ Ext w w' := by
  obtain ⟨ab, ac, xs⟩ := x
  obtain ⟨hx, _, _, hfew⟩ := hx
  simp only [IntsV.val] at *
  obtain ⟨a, rfl⟩ : ∃ a, ab = some a := base_some (j := 0) hx (by rw [ints_length]; omega)
  refine calls_of tab tabOk Try.func78 rfl rfl rfl [] (fun _ => ⟨none, 0⟩) [.c (.slice (some a) xs.length ac)] [] (baseA w) 0 rfl rfl (by show 1 ≤ _; decide) (abs_base w) ?_
  (repeat' ((conv => whnf) <;> first | refine idx_of a 0 rfl rfl hl ?_ | refine ro_row0 (fun R w' h => rows_base h hx) _ _ (ints_get hl) rfl ?_ | (show Wp _ _ _ _ _ _ _; (refine Wp.go tabOk rfl ?_)) | (show @cmpK _ _ _; (first | refine cmp_yes (by omega) ?_ | refine cmp_no (by omega) ?_ | (refine cmp_both ?_ ?_ <;> intro _))) | (show wrapK _ _ _; (refine wrap_i64 (by omega) (by omega) ?_)) | (show leK _ _ _; (refine le_of (by first | exact Nat.le_refl _ | omega) ?_)) | (show roomK _ _ _; (refine room_of (by first | omega | (dsimp only; omega)) ?_)) | (show ltK _ _ _; (refine lt_of (by omega) ?_)) | (show _ ∧ _; (refine ⟨?_, ?_⟩)) | (show keepK _ _ _ _ _; (refine keep_of (by first | exact List.Sublist.refl _ | exact List.Sublist.cons _ (List.Sublist.refl _) | exact List.Sublist.cons _ (List.Sublist.cons _ (List.Sublist.refl _)) | exact List.Sublist.cons _ (List.Sublist.cons _ (List.Sublist.cons _ (List.Sublist.refl _)))) (by first | exact (fun _ _ h => h) | exact (fun _ _ h => h.1) | exact (fun _ _ h => h.1.1)) ?_)) | (show ownK _ _ _ _ _; (refine own_keep ?_))))
  refine Wp.loop (σ := Nat × Int) 0 (fun ⟨k, m⟩ => [(0, .c (.slice (some a) xs.length ac)), (3, .c (.int .i64 m)), (4, .c (.int .i64 k))]) (fun _ => []) (fun _ => baseA w)
      (fun s => 1 ≤ s.1 ∧ s.1 ≤ xs.length ∧ s.2 = foldI max (xs.take s.1)) (fun s => xs.length - s.1) (1, xs[0]) [] (Nat.le_refl _) (fun s => ⟨rfl, rfl⟩) ⟨by simp, hl, by cases xs with | nil => simp at hl | cons y r => simp [foldI]⟩ ⟨rfl, ⟨rfl, rfl, rfl, trivial⟩, trivial, fun _ _ h => h⟩ ?_
  rintro ⟨k, m⟩ ⟨h1, hk, he⟩
  simp only at h1 hk he
  by_cases hlt : k < xs.length
  · have hs := foldI_take (f := max) hlt h1
    rw [← he] at hs
    (repeat' ((conv => whnf) <;> first | refine idx_of a k rfl rfl hlt ?_ | refine ro_row0 (fun R w' h => rows_base h hx) _ _ (ints_get hlt) rfl ?_ | (show Wp _ _ _ _ _ _ _; (refine Wp.go tabOk rfl ?_)) | (show @cmpK _ _ _; (first | refine cmp_yes (by omega) ?_ | refine cmp_no (by omega) ?_ | (refine cmp_both ?_ ?_ <;> intro _))) | (show wrapK _ _ _; (refine wrap_i64 (by omega) (by omega) ?_)) | (show leK _ _ _; (refine le_of (by first | exact Nat.le_refl _ | omega) ?_)) | (show roomK _ _ _; (refine room_of (by first | omega | (dsimp only; omega)) ?_)) | (show ltK _ _ _; (refine lt_of (by omega) ?_)) | (show _ ∧ _; (refine ⟨?_, ?_⟩)) | (show keepK _ _ _ _ _; (refine keep_of (by first | exact List.Sublist.refl _ | exact List.Sublist.cons _ (List.Sublist.refl _) | exact List.Sublist.cons _ (List.Sublist.cons _ (List.Sublist.refl _)) | exact List.Sublist.cons _ (List.Sublist.cons _ (List.Sublist.cons _ (List.Sublist.refl _)))) (by first | exact (fun _ _ h => h) | exact (fun _ _ h => h.1) | exact (fun _ _ h => h.1.1)) ?_)) | (show ownK _ _ _ _ _; (refine own_keep ?_))))
    all_goals exact ⟨(k + 1, _), [], ⟨by simp, hlt, by simp only; omega⟩, by simp only; omega, rfl, ⟨rfl, rfl, rfl, trivial⟩, trivial, fun _ _ h => h⟩
  · rw [List.take_of_length_le (by omega)] at he
    (repeat' ((conv => whnf) <;> first | (show Wp _ _ _ _ _ _ _; (refine Wp.go tabOk rfl ?_)) | (show @cmpK _ _ _; (first | refine cmp_yes (by omega) ?_ | refine cmp_no (by omega) ?_ | (refine cmp_both ?_ ?_ <;> intro _))) | (show wrapK _ _ _; (refine wrap_i64 (by omega) (by omega) ?_)) | (show leK _ _ _; (refine le_of (by first | exact Nat.le_refl _ | omega) ?_)) | (show roomK _ _ _; (refine room_of (by first | omega | (dsimp only; omega)) ?_)) | (show ltK _ _ _; (refine lt_of (by omega) ?_)) | (show _ ∧ _; (refine ⟨?_, ?_⟩)) | (show keepK _ _ _ _ _; (refine keep_of (by first | exact List.Sublist.refl _ | exact List.Sublist.cons _ (List.Sublist.refl _) | exact List.Sublist.cons _ (List.Sublist.cons _ (List.Sublist.refl _)) | exact List.Sublist.cons _ (List.Sublist.cons _ (List.Sublist.cons _ (List.Sublist.refl _)))) (by first | exact (fun _ _ h => h) | exact (fun _ _ h => h.1) | exact (fun _ _ h => h.1.1)) ?_)) | (show ownK _ _ _ _ _; (refine own_keep ?_))))
    exact ends_of (fun _ _ h => h) (fun _ => by rw [← he]; rfl) rfl

set_option maxHeartbeats 1000000 in
theorem min_any (w : World) (x : IntsV) (hx : x.ok w) (hl : 1 ≤ x.xs.length) :
    Calls Try.prog 77 #[x.val] w fun e w' => e = .returned (.int .i64 (foldI min x.xs)) ∧ Ext w w' := by
  obtain ⟨ab, ac, xs⟩ := x
  obtain ⟨hx, _, _, hfew⟩ := hx
  simp only [IntsV.val] at *
  obtain ⟨a, rfl⟩ : ∃ a, ab = some a := base_some (j := 0) hx (by rw [ints_length]; omega)
  refine calls_of tab tabOk Try.func77 rfl rfl rfl [] (fun _ => ⟨none, 0⟩) [.c (.slice (some a) xs.length ac)] [] (baseA w) 0 rfl rfl (by show 1 ≤ _; decide) (abs_base w) ?_
  (repeat' ((conv => whnf) <;> first | refine idx_of a 0 rfl rfl hl ?_ | refine ro_row0 (fun R w' h => rows_base h hx) _ _ (ints_get hl) rfl ?_ | (show Wp _ _ _ _ _ _ _; (refine Wp.go tabOk rfl ?_)) | (show @cmpK _ _ _; (first | refine cmp_yes (by omega) ?_ | refine cmp_no (by omega) ?_ | (refine cmp_both ?_ ?_ <;> intro _))) | (show wrapK _ _ _; (refine wrap_i64 (by omega) (by omega) ?_)) | (show leK _ _ _; (refine le_of (by first | exact Nat.le_refl _ | omega) ?_)) | (show roomK _ _ _; (refine room_of (by first | omega | (dsimp only; omega)) ?_)) | (show ltK _ _ _; (refine lt_of (by omega) ?_)) | (show _ ∧ _; (refine ⟨?_, ?_⟩)) | (show keepK _ _ _ _ _; (refine keep_of (by first | exact List.Sublist.refl _ | exact List.Sublist.cons _ (List.Sublist.refl _) | exact List.Sublist.cons _ (List.Sublist.cons _ (List.Sublist.refl _)) | exact List.Sublist.cons _ (List.Sublist.cons _ (List.Sublist.cons _ (List.Sublist.refl _)))) (by first | exact (fun _ _ h => h) | exact (fun _ _ h => h.1) | exact (fun _ _ h => h.1.1)) ?_)) | (show ownK _ _ _ _ _; (refine own_keep ?_))))
  refine Wp.loop (σ := Nat × Int) 0 (fun ⟨k, m⟩ => [(0, .c (.slice (some a) xs.length ac)), (3, .c (.int .i64 m)), (4, .c (.int .i64 k))]) (fun _ => []) (fun _ => baseA w)
      (fun s => 1 ≤ s.1 ∧ s.1 ≤ xs.length ∧ s.2 = foldI min (xs.take s.1)) (fun s => xs.length - s.1) (1, xs[0]) [] (Nat.le_refl _) (fun s => ⟨rfl, rfl⟩) ⟨by simp, hl, by cases xs with | nil => simp at hl | cons y r => simp [foldI]⟩ ⟨rfl, ⟨rfl, rfl, rfl, trivial⟩, trivial, fun _ _ h => h⟩ ?_
  rintro ⟨k, m⟩ ⟨h1, hk, he⟩
  simp only at h1 hk he
  by_cases hlt : k < xs.length
  · have hs := foldI_take (f := min) hlt h1
    rw [← he] at hs
    (repeat' ((conv => whnf) <;> first | refine idx_of a k rfl rfl hlt ?_ | refine ro_row0 (fun R w' h => rows_base h hx) _ _ (ints_get hlt) rfl ?_ | (show Wp _ _ _ _ _ _ _; (refine Wp.go tabOk rfl ?_)) | (show @cmpK _ _ _; (first | refine cmp_yes (by omega) ?_ | refine cmp_no (by omega) ?_ | (refine cmp_both ?_ ?_ <;> intro _))) | (show wrapK _ _ _; (refine wrap_i64 (by omega) (by omega) ?_)) | (show leK _ _ _; (refine le_of (by first | exact Nat.le_refl _ | omega) ?_)) | (show roomK _ _ _; (refine room_of (by first | omega | (dsimp only; omega)) ?_)) | (show ltK _ _ _; (refine lt_of (by omega) ?_)) | (show _ ∧ _; (refine ⟨?_, ?_⟩)) | (show keepK _ _ _ _ _; (refine keep_of (by first | exact List.Sublist.refl _ | exact List.Sublist.cons _ (List.Sublist.refl _) | exact List.Sublist.cons _ (List.Sublist.cons _ (List.Sublist.refl _)) | exact List.Sublist.cons _ (List.Sublist.cons _ (List.Sublist.cons _ (List.Sublist.refl _)))) (by first | exact (fun _ _ h => h) | exact (fun _ _ h => h.1) | exact (fun _ _ h => h.1.1)) ?_)) | (show ownK _ _ _ _ _; (refine own_keep ?_))))
    all_goals exact ⟨(k + 1, _), [], ⟨by simp, hlt, by simp only; omega⟩, by simp only; omega, rfl, ⟨rfl, rfl, rfl, trivial⟩, trivial, fun _ _ h => h⟩
  · rw [List.take_of_length_le (by omega)] at he
    (repeat' ((conv => whnf) <;> first | (show Wp _ _ _ _ _ _ _; (refine Wp.go tabOk rfl ?_)) | (show @cmpK _ _ _; (first | refine cmp_yes (by omega) ?_ | refine cmp_no (by omega) ?_ | (refine cmp_both ?_ ?_ <;> intro _))) | (show wrapK _ _ _; (refine wrap_i64 (by omega) (by omega) ?_)) | (show leK _ _ _; (refine le_of (by first | exact Nat.le_refl _ | omega) ?_)) | (show roomK _ _ _; (refine room_of (by first | omega | (dsimp only; omega)) ?_)) | (show ltK _ _ _; (refine lt_of (by omega) ?_)) | (show _ ∧ _; (refine ⟨?_, ?_⟩)) | (show keepK _ _ _ _ _; (refine keep_of (by first | exact List.Sublist.refl _ | exact List.Sublist.cons _ (List.Sublist.refl _) | exact List.Sublist.cons _ (List.Sublist.cons _ (List.Sublist.refl _)) | exact List.Sublist.cons _ (List.Sublist.cons _ (List.Sublist.cons _ (List.Sublist.refl _)))) (by first | exact (fun _ _ h => h) | exact (fun _ _ h => h.1) | exact (fun _ _ h => h.1.1)) ?_)) | (show ownK _ _ _ _ _; (refine own_keep ?_))))
    exact ends_of (fun _ _ h => h) (fun _ => by rw [← he]; rfl) rfl


set_option maxHeartbeats 1000000 in
theorem clone_any (w : World) (x : IntsV) (hx : x.ok w) (hs : 0 < x.xs.length) :
    Calls Try.prog 45 #[x.val] w fun e w' => ∃ v, e = .returned v ∧ Ext w w' ∧ NewRows w w' v 1 3 (ints x.xs) := by
  obtain ⟨ab, ac, xs⟩ := x
  obtain ⟨a, rfl⟩ : ∃ a, ab = some a := base_some (j := 0) hx.rows (by rw [ints_length]; exact hs)
  obtain ⟨hx, _, _, hfew⟩ := hx
  simp only [IntsV.val] at *
  refine calls_of tab tabOk Try.func45 rfl rfl rfl [] (fun _ => ⟨none, 0⟩) [.c (.slice (some a) xs.length ac)] [] (baseA w) 0 rfl rfl (by show 1 ≤ _; decide) (abs_base w) ?_
  (repeat' ((conv => whnf) <;> first | refine slice_nil_eql (ti 32 rfl) rfl ?_ | (show Wp _ _ _ _ _ _ _; (refine Wp.go tabOk rfl ?_)) | (show @cmpK _ _ _; (first | refine cmp_yes (by omega) ?_ | refine cmp_no (by omega) ?_ | (refine cmp_both ?_ ?_ <;> intro _))) | (show wrapK _ _ _; (refine wrap_i64 (by omega) (by omega) ?_)) | (show leK _ _ _; (refine le_of (by first | exact Nat.le_refl _ | omega) ?_)) | (show roomK _ _ _; (refine room_of (by first | omega | (dsimp only; omega)) ?_)) | (show ltK _ _ _; (refine lt_of (by omega) ?_)) | (show _ ∧ _; (refine ⟨?_, ?_⟩)) | (show keepK _ _ _ _ _; (refine keep_of (by first | exact List.Sublist.refl _ | exact List.Sublist.cons _ (List.Sublist.refl _) | exact List.Sublist.cons _ (List.Sublist.cons _ (List.Sublist.refl _)) | exact List.Sublist.cons _ (List.Sublist.cons _ (List.Sublist.cons _ (List.Sublist.refl _)))) (by first | exact (fun _ _ h => h) | exact (fun _ _ h => h.1) | exact (fun _ _ h => h.1.1)) ?_)) | (show ownK _ _ _ _ _; (refine own_keep ?_))))
  have hil := ints_length xs
  (repeat' ((conv => whnf) <;> first | refine slice_nil_eql (ti 32 rfl) rfl ?_ | refine roRows_in (ints_length xs) (fun R w' h => rows_base h hx) ints_row ?_ | (show Wp _ _ _ _ _ _ _; (refine Wp.go tabOk rfl ?_)) | (show @cmpK _ _ _; (first | refine cmp_yes (by omega) ?_ | refine cmp_no (by omega) ?_ | (refine cmp_both ?_ ?_ <;> intro _))) | (show wrapK _ _ _; (refine wrap_i64 (by omega) (by omega) ?_)) | (show leK _ _ _; (refine le_of (by first | exact Nat.le_refl _ | omega) ?_)) | (show roomK _ _ _; (refine room_of (by first | omega | (dsimp only; omega)) ?_)) | (show ltK _ _ _; (refine lt_of (by omega) ?_)) | (show _ ∧ _; (refine ⟨?_, ?_⟩)) | (show keepK _ _ _ _ _; (refine keep_of (by first | exact List.Sublist.refl _ | exact List.Sublist.cons _ (List.Sublist.refl _) | exact List.Sublist.cons _ (List.Sublist.cons _ (List.Sublist.refl _)) | exact List.Sublist.cons _ (List.Sublist.cons _ (List.Sublist.cons _ (List.Sublist.refl _)))) (by first | exact (fun _ _ h => h) | exact (fun _ _ h => h.1) | exact (fun _ _ h => h.1.1)) ?_)) | (show ownK _ _ _ _ _; (refine own_keep ?_))))
  exact ends_rows (fun _ _ h => h) rfl (.head _) (by simp [ints_length])
end Go.Proofs.Ytajbngkcgbehlaa
/- GD -/
namespace Go.Proofs.Ytajbngkcgbehlaa
open Go.SX
/-- a graph's node -/
structure NodeV where
  kind : Int
  a : Int
  b : Int
  shape : IntsV
  lo : Int
  hi : Int
  size : Int
  data : IntsV
  bias : IntsV
def i64 (x : Int) : Prop := -9223372036854775808 ≤ x ∧ x ≤ 9223372036854775807
structure NodeV.ok (w : World) (n : NodeV) : Prop where
  shape : n.shape.ok w
  data : n.data.ok w
  bias : n.bias.ok w
  kindFits : i64 n.kind
  aFits : i64 n.a
  bFits : i64 n.b
  loFits : i64 n.lo
  hiFits : i64 n.hi
  sizeFits : i64 n.size
def NodeV.cells (n : NodeV) : List Value := [.int .i64 n.kind, .int .i64 n.a, .int .i64 n.b, n.shape.val, .int .i64 n.lo, .int .i64 n.hi, .int .i64 n.size, n.data.val, n.bias.val]
/-- a node at its place -/
def nodeVal (n : NodeV) (at_ : Int) (sv : Value) : Value := .agg #[.int .i64 n.kind, .int .i64 n.a, .int .i64 n.b, n.shape.val, .int .i64 n.lo, .int .i64 n.hi, .int .i64 n.size, n.data.val, n.bias.val, .int .i64 at_, sv]
@[irreducible] def lacksB (n : NodeV) (a b sh sp si da bi : Bool) : Bool :=
  (a || decide (n.a = 0)) && (b || decide (n.b = 0)) && (sh || decide (n.shape.xs.length = 0)) && (sp || (decide (n.lo = 0) && decide (n.hi = 0))) && (si || decide (n.size = 0)) && (da || decide (n.data.xs.length = 0)) && (bi || decide (n.bias.xs.length = 0))

def pats : List (Bool × Bool × Bool × Bool × Bool × Bool × Bool) := [(false, false, true, true, false, false, false), (false, false, true, false, false, true, false), (true, false, false, false, false, true, true), (true, false, true, false, false, true, true), (true, false, false, false, true, false, false), (true, true, false, false, false, false, false), (true, false, false, false, false, true, false), (true, false, true, false, false, false, false)]
set_option maxRecDepth 20000 in
set_option maxHeartbeats 4000000 in
theorem lacks_any (w : World) (n : NodeV) (at_ : Int) (sv : Value) (a b sh sp si da bi : Bool) (h : (pats.contains (a, b, sh, sp, si, da, bi)) = true) :
    Calls Try.prog 82 #[nodeVal n at_ sv, .bool a, .bool b, .bool sh, .bool sp, .bool si, .bool da, .bool bi] w fun e w' => e = .returned (.bool (lacksB n a b sh sp si da bi)) ∧ Ext w w' := by
  have h' : (a, b, sh, sp, si, da, bi) ∈ pats := List.contains_iff_mem.1 h
  clear h
  simp only [pats, List.mem_cons, Prod.mk.injEq, List.not_mem_nil, or_false] at h'
  rcases h' with h | h | h | h | h | h | h | h
  · obtain ⟨rfl, rfl, rfl, rfl, rfl, rfl, rfl⟩ := h
    refine calls_of tab tabOk Try.func82 rfl rfl rfl [] (fun _ => ⟨none, 0⟩) [.agg [.c (.int .i64 n.kind), .c (.int .i64 n.a), .c (.int .i64 n.b), .c n.shape.val, .c (.int .i64 n.lo), .c (.int .i64 n.hi), .c (.int .i64 n.size), .c n.data.val, .c n.bias.val, .c (.int .i64 at_), .c sv], .c (.bool false), .c (.bool false), .c (.bool true), .c (.bool true), .c (.bool false), .c (.bool false), .c (.bool false)] [] (baseA w) 0 rfl rfl (by show 8 ≤ _; decide) (abs_base w) ?_
    (repeat' ((conv => whnf) <;> first | (show Wp _ _ _ _ _ _ _; (refine Wp.go tabOk rfl ?_)) | (show @cmpK _ _ _; (first | refine cmp_yes (by omega) ?_ | refine cmp_no (by omega) ?_ | (refine cmp_both ?_ ?_ <;> intro _))) | (show wrapK _ _ _; (refine wrap_i64 (by omega) (by omega) ?_)) | (show leK _ _ _; (refine le_of (by first | exact Nat.le_refl _ | omega) ?_)) | (show roomK _ _ _; (refine room_of (by first | omega | (dsimp only; omega)) ?_)) | (show ltK _ _ _; (refine lt_of (by omega) ?_)) | (show _ ∧ _; (refine ⟨?_, ?_⟩)) | (show keepK _ _ _ _ _; (refine keep_of (by first | exact List.Sublist.refl _ | exact List.Sublist.cons _ (List.Sublist.refl _) | exact List.Sublist.cons _ (List.Sublist.cons _ (List.Sublist.refl _)) | exact List.Sublist.cons _ (List.Sublist.cons _ (List.Sublist.cons _ (List.Sublist.refl _)))) (by first | exact (fun _ _ h => h) | exact (fun _ _ h => h.1) | exact (fun _ _ h => h.1.1)) ?_)) | (show ownK _ _ _ _ _; (refine own_keep ?_))))
    all_goals exact ends_bool (fun _ _ h => h) rfl (by simp only [lacksB, Bool.true_or, Bool.false_or, Bool.true_and, Bool.and_true, Bool.and_eq_true, Bool.and_eq_false_iff, decide_eq_true_eq, decide_eq_false_iff_not]; omega)
  · obtain ⟨rfl, rfl, rfl, rfl, rfl, rfl, rfl⟩ := h
    refine calls_of tab tabOk Try.func82 rfl rfl rfl [] (fun _ => ⟨none, 0⟩) [.agg [.c (.int .i64 n.kind), .c (.int .i64 n.a), .c (.int .i64 n.b), .c n.shape.val, .c (.int .i64 n.lo), .c (.int .i64 n.hi), .c (.int .i64 n.size), .c n.data.val, .c n.bias.val, .c (.int .i64 at_), .c sv], .c (.bool false), .c (.bool false), .c (.bool true), .c (.bool false), .c (.bool false), .c (.bool true), .c (.bool false)] [] (baseA w) 0 rfl rfl (by show 8 ≤ _; decide) (abs_base w) ?_
    (repeat' ((conv => whnf) <;> first | (show Wp _ _ _ _ _ _ _; (refine Wp.go tabOk rfl ?_)) | (show @cmpK _ _ _; (first | refine cmp_yes (by omega) ?_ | refine cmp_no (by omega) ?_ | (refine cmp_both ?_ ?_ <;> intro _))) | (show wrapK _ _ _; (refine wrap_i64 (by omega) (by omega) ?_)) | (show leK _ _ _; (refine le_of (by first | exact Nat.le_refl _ | omega) ?_)) | (show roomK _ _ _; (refine room_of (by first | omega | (dsimp only; omega)) ?_)) | (show ltK _ _ _; (refine lt_of (by omega) ?_)) | (show _ ∧ _; (refine ⟨?_, ?_⟩)) | (show keepK _ _ _ _ _; (refine keep_of (by first | exact List.Sublist.refl _ | exact List.Sublist.cons _ (List.Sublist.refl _) | exact List.Sublist.cons _ (List.Sublist.cons _ (List.Sublist.refl _)) | exact List.Sublist.cons _ (List.Sublist.cons _ (List.Sublist.cons _ (List.Sublist.refl _)))) (by first | exact (fun _ _ h => h) | exact (fun _ _ h => h.1) | exact (fun _ _ h => h.1.1)) ?_)) | (show ownK _ _ _ _ _; (refine own_keep ?_))))
    all_goals exact ends_bool (fun _ _ h => h) rfl (by simp only [lacksB, Bool.true_or, Bool.false_or, Bool.true_and, Bool.and_true, Bool.and_eq_true, Bool.and_eq_false_iff, decide_eq_true_eq, decide_eq_false_iff_not]; omega)
  · obtain ⟨rfl, rfl, rfl, rfl, rfl, rfl, rfl⟩ := h
    refine calls_of tab tabOk Try.func82 rfl rfl rfl [] (fun _ => ⟨none, 0⟩) [.agg [.c (.int .i64 n.kind), .c (.int .i64 n.a), .c (.int .i64 n.b), .c n.shape.val, .c (.int .i64 n.lo), .c (.int .i64 n.hi), .c (.int .i64 n.size), .c n.data.val, .c n.bias.val, .c (.int .i64 at_), .c sv], .c (.bool true), .c (.bool false), .c (.bool false), .c (.bool false), .c (.bool false), .c (.bool true), .c (.bool true)] [] (baseA w) 0 rfl rfl (by show 8 ≤ _; decide) (abs_base w) ?_
    (repeat' ((conv => whnf) <;> first | (show Wp _ _ _ _ _ _ _; (refine Wp.go tabOk rfl ?_)) | (show @cmpK _ _ _; (first | refine cmp_yes (by omega) ?_ | refine cmp_no (by omega) ?_ | (refine cmp_both ?_ ?_ <;> intro _))) | (show wrapK _ _ _; (refine wrap_i64 (by omega) (by omega) ?_)) | (show leK _ _ _; (refine le_of (by first | exact Nat.le_refl _ | omega) ?_)) | (show roomK _ _ _; (refine room_of (by first | omega | (dsimp only; omega)) ?_)) | (show ltK _ _ _; (refine lt_of (by omega) ?_)) | (show _ ∧ _; (refine ⟨?_, ?_⟩)) | (show keepK _ _ _ _ _; (refine keep_of (by first | exact List.Sublist.refl _ | exact List.Sublist.cons _ (List.Sublist.refl _) | exact List.Sublist.cons _ (List.Sublist.cons _ (List.Sublist.refl _)) | exact List.Sublist.cons _ (List.Sublist.cons _ (List.Sublist.cons _ (List.Sublist.refl _)))) (by first | exact (fun _ _ h => h) | exact (fun _ _ h => h.1) | exact (fun _ _ h => h.1.1)) ?_)) | (show ownK _ _ _ _ _; (refine own_keep ?_))))
    all_goals exact ends_bool (fun _ _ h => h) rfl (by simp only [lacksB, Bool.true_or, Bool.false_or, Bool.true_and, Bool.and_true, Bool.and_eq_true, Bool.and_eq_false_iff, decide_eq_true_eq, decide_eq_false_iff_not]; omega)
  · obtain ⟨rfl, rfl, rfl, rfl, rfl, rfl, rfl⟩ := h
    refine calls_of tab tabOk Try.func82 rfl rfl rfl [] (fun _ => ⟨none, 0⟩) [.agg [.c (.int .i64 n.kind), .c (.int .i64 n.a), .c (.int .i64 n.b), .c n.shape.val, .c (.int .i64 n.lo), .c (.int .i64 n.hi), .c (.int .i64 n.size), .c n.data.val, .c n.bias.val, .c (.int .i64 at_), .c sv], .c (.bool true), .c (.bool false), .c (.bool true), .c (.bool false), .c (.bool false), .c (.bool true), .c (.bool true)] [] (baseA w) 0 rfl rfl (by show 8 ≤ _; decide) (abs_base w) ?_
    (repeat' ((conv => whnf) <;> first | (show Wp _ _ _ _ _ _ _; (refine Wp.go tabOk rfl ?_)) | (show @cmpK _ _ _; (first | refine cmp_yes (by omega) ?_ | refine cmp_no (by omega) ?_ | (refine cmp_both ?_ ?_ <;> intro _))) | (show wrapK _ _ _; (refine wrap_i64 (by omega) (by omega) ?_)) | (show leK _ _ _; (refine le_of (by first | exact Nat.le_refl _ | omega) ?_)) | (show roomK _ _ _; (refine room_of (by first | omega | (dsimp only; omega)) ?_)) | (show ltK _ _ _; (refine lt_of (by omega) ?_)) | (show _ ∧ _; (refine ⟨?_, ?_⟩)) | (show keepK _ _ _ _ _; (refine keep_of (by first | exact List.Sublist.refl _ | exact List.Sublist.cons _ (List.Sublist.refl _) | exact List.Sublist.cons _ (List.Sublist.cons _ (List.Sublist.refl _)) | exact List.Sublist.cons _ (List.Sublist.cons _ (List.Sublist.cons _ (List.Sublist.refl _)))) (by first | exact (fun _ _ h => h) | exact (fun _ _ h => h.1) | exact (fun _ _ h => h.1.1)) ?_)) | (show ownK _ _ _ _ _; (refine own_keep ?_))))
    all_goals exact ends_bool (fun _ _ h => h) rfl (by simp only [lacksB, Bool.true_or, Bool.false_or, Bool.true_and, Bool.and_true, Bool.and_eq_true, Bool.and_eq_false_iff, decide_eq_true_eq, decide_eq_false_iff_not]; omega)
  · obtain ⟨rfl, rfl, rfl, rfl, rfl, rfl, rfl⟩ := h
    refine calls_of tab tabOk Try.func82 rfl rfl rfl [] (fun _ => ⟨none, 0⟩) [.agg [.c (.int .i64 n.kind), .c (.int .i64 n.a), .c (.int .i64 n.b), .c n.shape.val, .c (.int .i64 n.lo), .c (.int .i64 n.hi), .c (.int .i64 n.size), .c n.data.val, .c n.bias.val, .c (.int .i64 at_), .c sv], .c (.bool true), .c (.bool false), .c (.bool false), .c (.bool false), .c (.bool true), .c (.bool false), .c (.bool false)] [] (baseA w) 0 rfl rfl (by show 8 ≤ _; decide) (abs_base w) ?_
    (repeat' ((conv => whnf) <;> first | (show Wp _ _ _ _ _ _ _; (refine Wp.go tabOk rfl ?_)) | (show @cmpK _ _ _; (first | refine cmp_yes (by omega) ?_ | refine cmp_no (by omega) ?_ | (refine cmp_both ?_ ?_ <;> intro _))) | (show wrapK _ _ _; (refine wrap_i64 (by omega) (by omega) ?_)) | (show leK _ _ _; (refine le_of (by first | exact Nat.le_refl _ | omega) ?_)) | (show roomK _ _ _; (refine room_of (by first | omega | (dsimp only; omega)) ?_)) | (show ltK _ _ _; (refine lt_of (by omega) ?_)) | (show _ ∧ _; (refine ⟨?_, ?_⟩)) | (show keepK _ _ _ _ _; (refine keep_of (by first | exact List.Sublist.refl _ | exact List.Sublist.cons _ (List.Sublist.refl _) | exact List.Sublist.cons _ (List.Sublist.cons _ (List.Sublist.refl _)) | exact List.Sublist.cons _ (List.Sublist.cons _ (List.Sublist.cons _ (List.Sublist.refl _)))) (by first | exact (fun _ _ h => h) | exact (fun _ _ h => h.1) | exact (fun _ _ h => h.1.1)) ?_)) | (show ownK _ _ _ _ _; (refine own_keep ?_))))
    all_goals exact ends_bool (fun _ _ h => h) rfl (by simp only [lacksB, Bool.true_or, Bool.false_or, Bool.true_and, Bool.and_true, Bool.and_eq_true, Bool.and_eq_false_iff, decide_eq_true_eq, decide_eq_false_iff_not]; omega)
  · obtain ⟨rfl, rfl, rfl, rfl, rfl, rfl, rfl⟩ := h
    refine calls_of tab tabOk Try.func82 rfl rfl rfl [] (fun _ => ⟨none, 0⟩) [.agg [.c (.int .i64 n.kind), .c (.int .i64 n.a), .c (.int .i64 n.b), .c n.shape.val, .c (.int .i64 n.lo), .c (.int .i64 n.hi), .c (.int .i64 n.size), .c n.data.val, .c n.bias.val, .c (.int .i64 at_), .c sv], .c (.bool true), .c (.bool true), .c (.bool false), .c (.bool false), .c (.bool false), .c (.bool false), .c (.bool false)] [] (baseA w) 0 rfl rfl (by show 8 ≤ _; decide) (abs_base w) ?_
    (repeat' ((conv => whnf) <;> first | (show Wp _ _ _ _ _ _ _; (refine Wp.go tabOk rfl ?_)) | (show @cmpK _ _ _; (first | refine cmp_yes (by omega) ?_ | refine cmp_no (by omega) ?_ | (refine cmp_both ?_ ?_ <;> intro _))) | (show wrapK _ _ _; (refine wrap_i64 (by omega) (by omega) ?_)) | (show leK _ _ _; (refine le_of (by first | exact Nat.le_refl _ | omega) ?_)) | (show roomK _ _ _; (refine room_of (by first | omega | (dsimp only; omega)) ?_)) | (show ltK _ _ _; (refine lt_of (by omega) ?_)) | (show _ ∧ _; (refine ⟨?_, ?_⟩)) | (show keepK _ _ _ _ _; (refine keep_of (by first | exact List.Sublist.refl _ | exact List.Sublist.cons _ (List.Sublist.refl _) | exact List.Sublist.cons _ (List.Sublist.cons _ (List.Sublist.refl _)) | exact List.Sublist.cons _ (List.Sublist.cons _ (List.Sublist.cons _ (List.Sublist.refl _)))) (by first | exact (fun _ _ h => h) | exact (fun _ _ h => h.1) | exact (fun _ _ h => h.1.1)) ?_)) | (show ownK _ _ _ _ _; (refine own_keep ?_))))
    all_goals exact ends_bool (fun _ _ h => h) rfl (by simp only [lacksB, Bool.true_or, Bool.false_or, Bool.true_and, Bool.and_true, Bool.and_eq_true, Bool.and_eq_false_iff, decide_eq_true_eq, decide_eq_false_iff_not]; omega)
  · obtain ⟨rfl, rfl, rfl, rfl, rfl, rfl, rfl⟩ := h
    refine calls_of tab tabOk Try.func82 rfl rfl rfl [] (fun _ => ⟨none, 0⟩) [.agg [.c (.int .i64 n.kind), .c (.int .i64 n.a), .c (.int .i64 n.b), .c n.shape.val, .c (.int .i64 n.lo), .c (.int .i64 n.hi), .c (.int .i64 n.size), .c n.data.val, .c n.bias.val, .c (.int .i64 at_), .c sv], .c (.bool true), .c (.bool false), .c (.bool false), .c (.bool false), .c (.bool false), .c (.bool true), .c (.bool false)] [] (baseA w) 0 rfl rfl (by show 8 ≤ _; decide) (abs_base w) ?_
    (repeat' ((conv => whnf) <;> first | (show Wp _ _ _ _ _ _ _; (refine Wp.go tabOk rfl ?_)) | (show @cmpK _ _ _; (first | refine cmp_yes (by omega) ?_ | refine cmp_no (by omega) ?_ | (refine cmp_both ?_ ?_ <;> intro _))) | (show wrapK _ _ _; (refine wrap_i64 (by omega) (by omega) ?_)) | (show leK _ _ _; (refine le_of (by first | exact Nat.le_refl _ | omega) ?_)) | (show roomK _ _ _; (refine room_of (by first | omega | (dsimp only; omega)) ?_)) | (show ltK _ _ _; (refine lt_of (by omega) ?_)) | (show _ ∧ _; (refine ⟨?_, ?_⟩)) | (show keepK _ _ _ _ _; (refine keep_of (by first | exact List.Sublist.refl _ | exact List.Sublist.cons _ (List.Sublist.refl _) | exact List.Sublist.cons _ (List.Sublist.cons _ (List.Sublist.refl _)) | exact List.Sublist.cons _ (List.Sublist.cons _ (List.Sublist.cons _ (List.Sublist.refl _)))) (by first | exact (fun _ _ h => h) | exact (fun _ _ h => h.1) | exact (fun _ _ h => h.1.1)) ?_)) | (show ownK _ _ _ _ _; (refine own_keep ?_))))
    all_goals exact ends_bool (fun _ _ h => h) rfl (by simp only [lacksB, Bool.true_or, Bool.false_or, Bool.true_and, Bool.and_true, Bool.and_eq_true, Bool.and_eq_false_iff, decide_eq_true_eq, decide_eq_false_iff_not]; omega)
  · obtain ⟨rfl, rfl, rfl, rfl, rfl, rfl, rfl⟩ := h
    refine calls_of tab tabOk Try.func82 rfl rfl rfl [] (fun _ => ⟨none, 0⟩) [.agg [.c (.int .i64 n.kind), .c (.int .i64 n.a), .c (.int .i64 n.b), .c n.shape.val, .c (.int .i64 n.lo), .c (.int .i64 n.hi), .c (.int .i64 n.size), .c n.data.val, .c n.bias.val, .c (.int .i64 at_), .c sv], .c (.bool true), .c (.bool false), .c (.bool true), .c (.bool false), .c (.bool false), .c (.bool false), .c (.bool false)] [] (baseA w) 0 rfl rfl (by show 8 ≤ _; decide) (abs_base w) ?_
    (repeat' ((conv => whnf) <;> first | (show Wp _ _ _ _ _ _ _; (refine Wp.go tabOk rfl ?_)) | (show @cmpK _ _ _; (first | refine cmp_yes (by omega) ?_ | refine cmp_no (by omega) ?_ | (refine cmp_both ?_ ?_ <;> intro _))) | (show wrapK _ _ _; (refine wrap_i64 (by omega) (by omega) ?_)) | (show leK _ _ _; (refine le_of (by first | exact Nat.le_refl _ | omega) ?_)) | (show roomK _ _ _; (refine room_of (by first | omega | (dsimp only; omega)) ?_)) | (show ltK _ _ _; (refine lt_of (by omega) ?_)) | (show _ ∧ _; (refine ⟨?_, ?_⟩)) | (show keepK _ _ _ _ _; (refine keep_of (by first | exact List.Sublist.refl _ | exact List.Sublist.cons _ (List.Sublist.refl _) | exact List.Sublist.cons _ (List.Sublist.cons _ (List.Sublist.refl _)) | exact List.Sublist.cons _ (List.Sublist.cons _ (List.Sublist.cons _ (List.Sublist.refl _)))) (by first | exact (fun _ _ h => h) | exact (fun _ _ h => h.1) | exact (fun _ _ h => h.1.1)) ?_)) | (show ownK _ _ _ _ _; (refine own_keep ?_))))
    all_goals exact ends_bool (fun _ _ h => h) rfl (by simp only [lacksB, Bool.true_or, Bool.false_or, Bool.true_and, Bool.and_true, Bool.and_eq_true, Bool.and_eq_false_iff, decide_eq_true_eq, decide_eq_false_iff_not]; omega)
def aheadB (k at_ : Int) : Bool := decide (0 ≤ k ∧ k < at_)
theorem ahead_any (w : World) (n : NodeV) (at_ : Int) (sv : Value) (k : Int) :
    Calls Try.prog 83 #[nodeVal n at_ sv, .int .i64 k] w fun e w' => e = .returned (.bool (aheadB k at_)) ∧ Ext w w' := by
  refine calls_of tab tabOk Try.func83 rfl rfl rfl [] (fun _ => ⟨none, 0⟩) [.agg [.c (.int .i64 n.kind), .c (.int .i64 n.a), .c (.int .i64 n.b), .c n.shape.val, .c (.int .i64 n.lo), .c (.int .i64 n.hi), .c (.int .i64 n.size), .c n.data.val, .c n.bias.val, .c (.int .i64 at_), .c sv], .c (.int .i64 k)] [] (baseA w) 0 rfl rfl (by show 2 ≤ _; decide) (abs_base w) ?_
  (repeat' ((conv => whnf) <;> first | (show Wp _ _ _ _ _ _ _; (refine Wp.go tabOk rfl ?_)) | (show @cmpK _ _ _; (first | refine cmp_yes (by omega) ?_ | refine cmp_no (by omega) ?_ | (refine cmp_both ?_ ?_ <;> intro _))) | (show wrapK _ _ _; (refine wrap_i64 (by omega) (by omega) ?_)) | (show leK _ _ _; (refine le_of (by first | exact Nat.le_refl _ | omega) ?_)) | (show roomK _ _ _; (refine room_of (by first | omega | (dsimp only; omega)) ?_)) | (show ltK _ _ _; (refine lt_of (by omega) ?_)) | (show _ ∧ _; (refine ⟨?_, ?_⟩)) | (show keepK _ _ _ _ _; (refine keep_of (by first | exact List.Sublist.refl _ | exact List.Sublist.cons _ (List.Sublist.refl _) | exact List.Sublist.cons _ (List.Sublist.cons _ (List.Sublist.refl _)) | exact List.Sublist.cons _ (List.Sublist.cons _ (List.Sublist.cons _ (List.Sublist.refl _)))) (by first | exact (fun _ _ h => h) | exact (fun _ _ h => h.1) | exact (fun _ _ h => h.1.1)) ?_)) | (show ownK _ _ _ _ _; (refine own_keep ?_))))
  all_goals refine ends_bool (fun _ _ h => h) rfl ?_
  · exact decide_eq_true (by omega)
  · exact decide_eq_false (by omega)
  · exact decide_eq_false (by omega)

def kerLoop : Int → List Int → Int
  | n, [] => n
  | n, d :: r => if d < 1 ∨ d > 64 then 0 else kerLoop (n * d) r
@[irreducible] def kernelI (xs : List Int) : Int := if xs.length = 4 then kerLoop 1 xs else 0
set_option maxHeartbeats 1000000 in
theorem kernel_any (w : World) (n : NodeV) (hn : n.shape.ok w) (at_ : Int) (sv : Value) :
    Calls Try.prog 84 #[nodeVal n at_ sv] w fun e w' => e = .returned (.int .i64 (kernelI n.shape.xs)) ∧ Ext w w' := by
  by_cases h4 : n.shape.xs.length = 4
  · have hs : kernelI n.shape.xs = kerLoop 1 n.shape.xs := by unfold kernelI; rw [if_pos h4]
    rw [hs]
    obtain ⟨a, ha⟩ := hn.base (by omega)
    refine calls_of tab tabOk Try.func84 rfl rfl rfl [] (fun _ => ⟨none, 0⟩) [.agg [.c (.int .i64 n.kind), .c (.int .i64 n.a), .c (.int .i64 n.b), .c n.shape.val, .c (.int .i64 n.lo), .c (.int .i64 n.hi), .c (.int .i64 n.size), .c n.data.val, .c n.bias.val, .c (.int .i64 at_), .c sv]] [] (baseA w) 0 rfl rfl (by show 1 ≤ _; decide) (abs_base w) ?_
    (repeat' ((conv => whnf) <;> first | (show Wp _ _ _ _ _ _ _; (refine Wp.go tabOk rfl ?_)) | (show @cmpK _ _ _; (first | refine cmp_yes (by omega) ?_ | refine cmp_no (by omega) ?_ | (refine cmp_both ?_ ?_ <;> intro _))) | (show wrapK _ _ _; (refine wrap_i64 (by omega) (by omega) ?_)) | (show leK _ _ _; (refine le_of (by first | exact Nat.le_refl _ | omega) ?_)) | (show roomK _ _ _; (refine room_of (by first | omega | (dsimp only; omega)) ?_)) | (show ltK _ _ _; (refine lt_of (by omega) ?_)) | (show _ ∧ _; (refine ⟨?_, ?_⟩)) | (show keepK _ _ _ _ _; (refine keep_of (by first | exact List.Sublist.refl _ | exact List.Sublist.cons _ (List.Sublist.refl _) | exact List.Sublist.cons _ (List.Sublist.cons _ (List.Sublist.refl _)) | exact List.Sublist.cons _ (List.Sublist.cons _ (List.Sublist.cons _ (List.Sublist.refl _)))) (by first | exact (fun _ _ h => h) | exact (fun _ _ h => h.1) | exact (fun _ _ h => h.1.1)) ?_)) | (show ownK _ _ _ _ _; (refine own_keep ?_))))
    refine Wp.loop (σ := Nat × Int) 1 (fun ⟨k, m⟩ => [(13, .c n.shape.val), (14, .c (.int .i64 n.shape.xs.length)), (15, .c (.int .i64 k)), (3, .c (.int .i64 m))]) (fun _ => []) (fun _ => baseA w)
      (fun s => s.1 ≤ 4 ∧ 1 ≤ s.2 ∧ s.2 ≤ 64 ^ s.1 ∧ kerLoop 1 n.shape.xs = kerLoop s.2 (n.shape.xs.drop s.1)) (fun s => 4 - s.1) (0, 1) [] (by omega) (fun s => ⟨rfl, rfl⟩) ⟨by simp, by simp, by simp, rfl⟩ ⟨rfl, ⟨rfl, rfl, rfl, rfl, trivial⟩, trivial, fun _ _ h => h⟩ ?_
    rintro ⟨k, m⟩ ⟨hk, h1, h64, he⟩
    simp only at hk h1 h64 he
    by_cases hlt : k < n.shape.xs.length
    · rw [drop_at hlt] at he
      simp only [kerLoop] at he
      have hb : 1 ≤ n.shape.xs[k] → n.shape.xs[k] ≤ 64 → 1 ≤ m * n.shape.xs[k] ∧ m * n.shape.xs[k] ≤ 64 ^ (k + 1) ∧ m * n.shape.xs[k] ≤ 16777216 := fun g1 g2 => by
        have g3 : m * n.shape.xs[k] ≤ 64 ^ k * 64 := Int.mul_le_mul h64 g2 (by omega) (by omega)
        have g4 : m * 1 ≤ m * n.shape.xs[k] := Int.mul_le_mul_of_nonneg_left g1 (by omega)
        have g5 : (64 : Int) ^ k * 64 = 64 ^ (k + 1) := (Int.pow_succ 64 k).symm
        have g6 : (64 : Int) ^ (k + 1) ≤ 16777216 := by
          have : k = 0 ∨ k = 1 ∨ k = 2 ∨ k = 3 := by omega
          rcases this with rfl | rfl | rfl | rfl <;> decide
        omega
      (repeat' ((conv => whnf) <;> first | refine idx_of a k ha rfl hlt ?_ | refine ro_row0 (fun R w' h => by rw [← ha]; exact rows_base h hn.rows) _ _ (ints_get hlt) rfl ?_ | refine wrap_i64 (by have := hb (by omega) (by omega); omega) (by have := hb (by omega) (by omega); omega) ?_ | (show Wp _ _ _ _ _ _ _; (refine Wp.go tabOk rfl ?_)) | (show @cmpK _ _ _; (first | refine cmp_yes (by omega) ?_ | refine cmp_no (by omega) ?_ | (refine cmp_both ?_ ?_ <;> intro _))) | (show wrapK _ _ _; (refine wrap_i64 (by omega) (by omega) ?_)) | (show leK _ _ _; (refine le_of (by first | exact Nat.le_refl _ | omega) ?_)) | (show roomK _ _ _; (refine room_of (by first | omega | (dsimp only; omega)) ?_)) | (show ltK _ _ _; (refine lt_of (by omega) ?_)) | (show _ ∧ _; (refine ⟨?_, ?_⟩)) | (show keepK _ _ _ _ _; (refine keep_of (by first | exact List.Sublist.refl _ | exact List.Sublist.cons _ (List.Sublist.refl _) | exact List.Sublist.cons _ (List.Sublist.cons _ (List.Sublist.refl _)) | exact List.Sublist.cons _ (List.Sublist.cons _ (List.Sublist.cons _ (List.Sublist.refl _)))) (by first | exact (fun _ _ h => h) | exact (fun _ _ h => h.1) | exact (fun _ _ h => h.1.1)) ?_)) | (show ownK _ _ _ _ _; (refine own_keep ?_))))
      · rw [if_pos (.inl (by omega))] at he
        rw [he]
        exact ends_of (fun _ _ h => h) (fun _ => rfl) rfl
      · rw [if_pos (.inr (by omega))] at he
        rw [he]
        exact ends_of (fun _ _ h => h) (fun _ => rfl) rfl
      · rw [if_neg (by omega)] at he
        have := hb (by omega) (by omega)
        exact ⟨(k + 1, m * n.shape.xs[k]), [], ⟨by simp only; omega, this.1, this.2.1, he⟩, by simp only; omega, rfl, ⟨rfl, rfl, rfl, rfl, trivial⟩, trivial, fun _ _ h => h⟩
    · have hkl : n.shape.xs.drop k = [] := List.drop_of_length_le (by omega)
      rw [hkl] at he
      rw [he]
      (repeat' ((conv => whnf) <;> first | (show Wp _ _ _ _ _ _ _; (refine Wp.go tabOk rfl ?_)) | (show @cmpK _ _ _; (first | refine cmp_yes (by omega) ?_ | refine cmp_no (by omega) ?_ | (refine cmp_both ?_ ?_ <;> intro _))) | (show wrapK _ _ _; (refine wrap_i64 (by omega) (by omega) ?_)) | (show leK _ _ _; (refine le_of (by first | exact Nat.le_refl _ | omega) ?_)) | (show roomK _ _ _; (refine room_of (by first | omega | (dsimp only; omega)) ?_)) | (show ltK _ _ _; (refine lt_of (by omega) ?_)) | (show _ ∧ _; (refine ⟨?_, ?_⟩)) | (show keepK _ _ _ _ _; (refine keep_of (by first | exact List.Sublist.refl _ | exact List.Sublist.cons _ (List.Sublist.refl _) | exact List.Sublist.cons _ (List.Sublist.cons _ (List.Sublist.refl _)) | exact List.Sublist.cons _ (List.Sublist.cons _ (List.Sublist.cons _ (List.Sublist.refl _)))) (by first | exact (fun _ _ h => h) | exact (fun _ _ h => h.1) | exact (fun _ _ h => h.1.1)) ?_)) | (show ownK _ _ _ _ _; (refine own_keep ?_))))
      exact ends_of (fun _ _ h => h) (fun _ => rfl) rfl
  · have hs : kernelI n.shape.xs = 0 := by unfold kernelI; rw [if_neg h4]
    rw [hs]
    refine calls_of tab tabOk Try.func84 rfl rfl rfl [] (fun _ => ⟨none, 0⟩) [.agg [.c (.int .i64 n.kind), .c (.int .i64 n.a), .c (.int .i64 n.b), .c n.shape.val, .c (.int .i64 n.lo), .c (.int .i64 n.hi), .c (.int .i64 n.size), .c n.data.val, .c n.bias.val, .c (.int .i64 at_), .c sv]] [] (baseA w) 0 rfl rfl (by show 1 ≤ _; decide) (abs_base w) ?_
    (repeat' ((conv => whnf) <;> first | (show Wp _ _ _ _ _ _ _; (refine Wp.go tabOk rfl ?_)) | (show @cmpK _ _ _; (first | refine cmp_yes (by omega) ?_ | refine cmp_no (by omega) ?_ | (refine cmp_both ?_ ?_ <;> intro _))) | (show wrapK _ _ _; (refine wrap_i64 (by omega) (by omega) ?_)) | (show leK _ _ _; (refine le_of (by first | exact Nat.le_refl _ | omega) ?_)) | (show roomK _ _ _; (refine room_of (by first | omega | (dsimp only; omega)) ?_)) | (show ltK _ _ _; (refine lt_of (by omega) ?_)) | (show _ ∧ _; (refine ⟨?_, ?_⟩)) | (show keepK _ _ _ _ _; (refine keep_of (by first | exact List.Sublist.refl _ | exact List.Sublist.cons _ (List.Sublist.refl _) | exact List.Sublist.cons _ (List.Sublist.cons _ (List.Sublist.refl _)) | exact List.Sublist.cons _ (List.Sublist.cons _ (List.Sublist.cons _ (List.Sublist.refl _)))) (by first | exact (fun _ _ h => h) | exact (fun _ _ h => h.1) | exact (fun _ _ h => h.1.1)) ?_)) | (show ownK _ _ _ _ _; (refine own_keep ?_))))
    exact ends_of (fun _ _ h => h) (fun _ => rfl) rfl

/-- the shapes of those ahead -/
structure ShapesV where
  base : Option Addr
  cap : Nat
  l : List IntsV
def shRows (l : List IntsV) : List (List Value) := l.map fun s => [s.val]
def ShapesV.val (v : ShapesV) : Value := .slice v.base v.l.length v.cap
structure ShapesV.ok (w : World) (v : ShapesV) : Prop where
  rows : RowsI w v.base 1 (shRows v.l)
  each : ∀ s ∈ v.l, s.ok w
  few : v.l.length ≤ 24
theorem shRows_get {l : List IntsV} {k : Nat} (h : k < l.length) : (shRows l)[k]? = some [l[k].val] := by simp [shRows, h]
theorem shRows_length (l : List IntsV) : (shRows l).length = l.length := by simp [shRows]

theorem first_any (w : World) (n : NodeV) (at_ : Int) (sv : ShapesV) (hs : sv.ok w) (i : Nat) (s : IntsV) (hi : sv.l[i]? = some s) (ha : n.a = i) :
    Calls Try.prog 115 #[nodeVal n at_ sv.val] w fun e w' => e = .returned s.val ∧ Ext w w' := by
  obtain ⟨hil, rfl⟩ := List.getElem?_eq_some_iff.1 hi
  obtain ⟨a, hb⟩ : ∃ a, sv.base = some a := base_some (j := i) hs.rows (by rw [shRows_length]; exact hil)
  refine calls_of tab tabOk Try.func115 rfl rfl rfl [] (fun _ => ⟨none, 0⟩) [.agg [.c (.int .i64 n.kind), .c (.int .i64 n.a), .c (.int .i64 n.b), .c n.shape.val, .c (.int .i64 n.lo), .c (.int .i64 n.hi), .c (.int .i64 n.size), .c n.data.val, .c n.bias.val, .c (.int .i64 at_), .c sv.val]] [] (baseA w) 0 rfl rfl (by show 1 ≤ _; decide) (abs_base w) ?_
  (repeat' ((conv => whnf) <;> first | (show idxK _ _ _ _ _; (refine idx_of a i hb ha hil ?_)) | (show roK _ _ _; (refine ro_row0 (fun R w' h => by rw [← hb]; exact rows_base h hs.rows) _ _ (shRows_get hil) rfl ?_)) | (show Wp _ _ _ _ _ _ _; (refine Wp.go tabOk rfl ?_)) | (show @cmpK _ _ _; (first | refine cmp_yes (by omega) ?_ | refine cmp_no (by omega) ?_ | (refine cmp_both ?_ ?_ <;> intro _))) | (show wrapK _ _ _; (refine wrap_i64 (by omega) (by omega) ?_)) | (show leK _ _ _; (refine le_of (by first | exact Nat.le_refl _ | omega) ?_)) | (show roomK _ _ _; (refine room_of (by first | omega | (dsimp only; omega)) ?_)) | (show ltK _ _ _; (refine lt_of (by omega) ?_)) | (show _ ∧ _; (refine ⟨?_, ?_⟩)) | (show keepK _ _ _ _ _; (refine keep_of (by first | exact List.Sublist.refl _ | exact List.Sublist.cons _ (List.Sublist.refl _) | exact List.Sublist.cons _ (List.Sublist.cons _ (List.Sublist.refl _)) | exact List.Sublist.cons _ (List.Sublist.cons _ (List.Sublist.cons _ (List.Sublist.refl _)))) (by first | exact (fun _ _ h => h) | exact (fun _ _ h => h.1) | exact (fun _ _ h => h.1.1)) ?_)) | (show ownK _ _ _ _ _; (refine own_keep ?_))))
  exact ends_of (fun _ _ h => h) (fun _ => rfl) rfl
theorem IntsV.ok.later {w w' : World} {R : Nat → Prop} {v : IntsV} (h : v.ok w) (hb : (baseA w).holds R w') : v.ok w' := ⟨rows_base hb h.rows, h.fits, h.room, h.few⟩
theorem NodeV.ok.later {w w' : World} {R : Nat → Prop} {n : NodeV} (h : n.ok w) (hb : (baseA w).holds R w') : n.ok w' :=
  ⟨h.shape.later hb, h.data.later hb, h.bias.later hb, h.kindFits, h.aFits, h.bFits, h.loFits, h.hiFits, h.sizeFits⟩
theorem ShapesV.ok.later {w w' : World} {R : Nat → Prop} {v : ShapesV} (h : v.ok w) (hb : (baseA w).holds R w') : v.ok w' := ⟨rows_base hb h.rows, fun s hs => (h.each s hs).later hb, h.few⟩
end Go.Proofs.Ytajbngkcgbehlaa
/- GE -/
namespace Go.Proofs.Ytajbngkcgbehlaa
open Go.SX
theorem ints_base {w : World} {v : IntsV} (h : v.ok w) : ∃ a, 0 < v.xs.length → v.base = some a := by
  by_cases hl : 0 < v.xs.length
  · obtain ⟨a, ha⟩ := h.base hl; exact ⟨a, fun _ => ha⟩
  · exact ⟨⟨0, 0, none⟩, fun h => absurd h hl⟩
theorem ints_getD {xs : List Int} {k : Nat} (h : k < xs.length) : (ints xs)[k]? = some [.int .i64 (xs.getD k 0)] := by rw [ints_get h]; simp [List.getD, h]
theorem kernel_len {xs : List Int} (h : kernelI xs > 0) : xs.length = 4 := by
  unfold kernelI at h
  by_cases h4 : xs.length = 4
  · exact h4
  · rw [if_neg h4] at h; omega
def formB (n : NodeV) (at_ : Int) : Bool :=
  if n.kind = 1 then lacksB n false false true true false false false && decide (entries n.shape.xs > 0)
  else if n.kind = 2 then lacksB n false false true false false true false && decide (entries n.shape.xs > 0) && decide ((n.data.xs.length : Int) = entries n.shape.xs)
  else if n.kind = 3 then lacksB n true false false false false true true && aheadB n.a at_ && decide (n.bias.xs.length > 0) && decide (n.bias.xs.length ≤ 64)
  else if n.kind = 4 then lacksB n true false true false false true true && aheadB n.a at_ && decide (kernelI n.shape.xs > 0) && decide ((n.data.xs.length : Int) = kernelI n.shape.xs) && decide ((n.bias.xs.length : Int) = n.shape.xs.getD 0 0)
  else if n.kind = 5 then lacksB n true false false false true false false && aheadB n.a at_ && decide (n.size > 0)
  else if n.kind = 6 then lacksB n true true false false false false false && aheadB n.a at_ && aheadB n.b at_
  else if n.kind = 7 then lacksB n true false false false false true false && aheadB n.a at_ && decide (n.data.xs.length = 1)
  else if n.kind = 8 then lacksB n true false false false false true false && aheadB n.a at_ && decide (n.data.xs.length = 3)
  else if n.kind = 9 then lacksB n true false true false false false false && aheadB n.a at_ && decide (entries n.shape.xs > 0)
  else false

set_option maxRecDepth 20000 in
set_option maxHeartbeats 4000000 in
theorem form_any (w : World) (n : NodeV) (hn : n.ok w) (at_ : Int) (sv : Value) :
    Calls Try.prog 42 #[nodeVal n at_ sv] w fun e w' => e = .returned (.bool (formB n at_)) ∧ Ext w w' := by
  obtain ⟨a, hbase⟩ := ints_base hn.shape
  have hkl := @kernel_len n.shape.xs
  refine calls_of tab tabOk Try.func42 rfl rfl rfl [] (fun _ => ⟨none, 0⟩) [.agg [.c (.int .i64 n.kind), .c (.int .i64 n.a), .c (.int .i64 n.b), .c n.shape.val, .c (.int .i64 n.lo), .c (.int .i64 n.hi), .c (.int .i64 n.size), .c n.data.val, .c n.bias.val, .c (.int .i64 at_), .c sv]] [] (baseA w) 0 rfl rfl (by show 1 ≤ _; decide) (abs_base w) ?_
  (repeat' ((conv => whnf) <;> first | (show callK _ 20 _ _ _ _ _; (refine call_pure (f := 20) Try.call20 _ (fun ρ w' hw => entries_any w' n.shape.base n.shape.cap n.shape.xs (holds_of_abs hw fun R h => rows_base h hn.shape.rows)) ?_)) | (show callK _ 82 _ _ _ _ _; ((refine call_bool (f := 82) Try.call82 _ (fun ρ w' hw => lacks_any w' n at_ sv _ _ _ _ _ _ _ rfl) ?_ ?_ <;> intro hl))) | (show callK _ 83 _ _ _ _ _; ((refine call_bool (f := 83) Try.call83 _ (fun ρ w' hw => ahead_any w' n at_ sv _) ?_ ?_ <;> intro ha))) | (show callK _ 84 _ _ _ _ _; (refine call_pure (f := 84) Try.call84 _ (fun ρ w' hw => kernel_any w' n (holds_of_abs hw fun R h => hn.shape.later h) at_ sv) ?_)) | (show callQ _ 82 _ _ _ _ _; ((refine callQ_bool (f := 82) Try.call82 _ (fun ρ w' hw => lacks_any w' n at_ sv _ _ _ _ _ _ _ rfl) ?_ ?_ <;> intro hl))) | (show callQ _ 83 _ _ _ _ _; ((refine callQ_bool (f := 83) Try.call83 _ (fun ρ w' hw => ahead_any w' n at_ sv _) ?_ ?_ <;> intro ha))) | (show idxK _ _ _ _ _; (refine idx_of a 0 (hbase (by omega)) rfl (by omega) ?_)) | (show roK _ _ _; (refine ro_row0 (fun R w' h => by rw [← hbase (by omega)]; exact rows_base h hn.shape.rows) _ _ (ints_getD (by omega)) rfl ?_)) | (show drawK _ 11 _ _ _ _ _ _; (refine draw_quiet tabOk mixed (by kernel_rfl) ?_)) | (show Wp _ _ _ _ _ _ _; (refine Wp.go tabOk rfl ?_)) | (show @cmpK _ _ _; (first | refine cmp_yes (by omega) ?_ | refine cmp_no (by omega) ?_ | (refine cmp_both ?_ ?_ <;> intro _))) | (show wrapK _ _ _; (refine wrap_i64 (by omega) (by omega) ?_)) | (show leK _ _ _; (refine le_of (by first | exact Nat.le_refl _ | omega) ?_)) | (show roomK _ _ _; (refine room_of (by first | omega | (dsimp only; omega)) ?_)) | (show ltK _ _ _; (refine lt_of (by omega) ?_)) | (show _ ∧ _; (refine ⟨?_, ?_⟩)) | (show keepK _ _ _ _ _; (refine keep_of (by first | exact List.Sublist.refl _ | exact List.Sublist.cons _ (List.Sublist.refl _) | exact List.Sublist.cons _ (List.Sublist.cons _ (List.Sublist.refl _)) | exact List.Sublist.cons _ (List.Sublist.cons _ (List.Sublist.cons _ (List.Sublist.refl _)))) (by first | exact (fun _ _ h => h) | exact (fun _ _ h => h.1) | exact (fun _ _ h => h.1.1)) ?_)) | (show ownK _ _ _ _ _; (refine own_keep ?_))))
  all_goals refine ends_bool (fun _ _ h => h) rfl ?_
  all_goals (unfold formB; repeat (first | rw [if_pos (by omega)] | rw [if_neg (by omega)]))
  all_goals simp only [*, Bool.true_and, Bool.false_and, Bool.and_false, Bool.and_true, Bool.and_eq_true, Bool.and_eq_false_iff, decide_eq_true_eq, decide_eq_false_iff_not]
  all_goals first | omega | simp | (simp; omega)
end Go.Proofs.Ytajbngkcgbehlaa
