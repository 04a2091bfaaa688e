import Derived.Test.YtajbngkcgbehlaaSB
import Derived.Test.YtajbngkcgbehlaaSxZc
namespace Go.Proofs.Ytajbngkcgbehlaa
open Go.SX Go.RowKit
theorem rdFail_no (y : Bool) (c : Int) (bs : List Int) {e : Int} (h : e ≠ 0) : rdFail y c (bs, e) = (bs, e) := by
  unfold rdFail; rw [if_neg (fun h' => h h'.2)]
theorem rdFail_false (c : Int) (bs : List Int) (e : Int) : rdFail false c (bs, e) = (bs, e) := by
  unfold rdFail; rw [if_neg (fun h' => by cases h'.1)]
theorem rdFail_true (c : Int) (bs : List Int) : rdFail true c (bs, 0) = (bs, c) := by
  unfold rdFail; rw [if_pos ⟨rfl, rfl⟩]
theorem fail_any (w : World) (b : Nat) (u : RdV) (e : Int) (y : Bool) (c : Int) (h : RdOk 125 w b u e) : Calls Try.prog 97 #[.pointer (some ⟨b, 0, none⟩), .bool y, .int .i64 c] w (RdPost 125 w b u (fun _ : Unit => .tuple #[]) ((), rdFail y c (u.bs, e))) := by
  obtain ⟨hs, hby, hrm, hd, hb⟩ := h
  cases y with
  | false =>
    rw [rdFail_false]
    refine calls_of tab tabOk Try.func97 rfl rfl rfl [(0, boxL b)] (fun _ => boxL b) [.lp 0 0 0 0, .c (.bool false), .c (.int .i64 c)] _ (restA w b) 1 (by simp [SV.rfs, SV.rf, boxL, add_none]) rfl (by show 3 ≤ _; decide) (abs_box hb) ?_
    (repeat' ((conv => whnf) <;> first | (show Wp _ _ _ _ _ _ _; (refine Wp.go tabOk rfl ?_)) | (show @cmpK _ _ _; (first | refine cmp_yes (by omega) ?_ | refine cmp_no (by omega) ?_ | (refine cmp_both ?_ ?_ <;> intro _))) | (show wrapK _ _ _; (refine wrap_i64 (by omega) (by omega) ?_)) | (show leK _ _ _; (refine le_of (by first | exact Nat.le_refl _ | omega) ?_)) | (show roomK _ _ _; (refine room_of (by first | omega | (dsimp only; omega)) ?_)) | (show ltK _ _ _; (refine lt_of (by omega) ?_)) | (show _ ∧ _; (refine ⟨?_, ?_⟩)) | (show keepK _ _ _ _ _; (refine keep_of (by first | exact List.Sublist.refl _ | exact List.Sublist.cons _ (List.Sublist.refl _) | exact List.Sublist.cons _ (List.Sublist.cons _ (List.Sublist.refl _)) | exact List.Sublist.cons _ (List.Sublist.cons _ (List.Sublist.cons _ (List.Sublist.refl _)))) (by first | exact (fun _ _ h => h) | exact (fun _ _ h => h.1) | exact (fun _ _ h => h.1.1)) ?_)) | (show ownK _ _ _ _ _; (refine own_keep ?_))))
    all_goals (conv => whnf)
    all_goals exact rd_ends u (SX.Rest.refl hrm) rfl (fun _ => rfl) List.mem_cons_self (fun _ _ h => h)
  | true =>
    by_cases he : e = 0
    · subst he
      rw [rdFail_true]
      refine calls_of tab tabOk Try.func97 rfl rfl rfl [(0, boxL b)] (fun _ => boxL b) [.lp 0 0 0 0, .c (.bool true), .c (.int .i64 c)] _ (restA w b) 1 (by simp [SV.rfs, SV.rf, boxL, add_none]) rfl (by show 3 ≤ _; decide) (abs_box hb) ?_
      (repeat' ((conv => whnf) <;> first | (show Wp _ _ _ _ _ _ _; (refine Wp.go tabOk rfl ?_)) | (show @cmpK _ _ _; (first | refine cmp_yes (by omega) ?_ | refine cmp_no (by omega) ?_ | (refine cmp_both ?_ ?_ <;> intro _))) | (show wrapK _ _ _; (refine wrap_i64 (by omega) (by omega) ?_)) | (show leK _ _ _; (refine le_of (by first | exact Nat.le_refl _ | omega) ?_)) | (show roomK _ _ _; (refine room_of (by first | omega | (dsimp only; omega)) ?_)) | (show ltK _ _ _; (refine lt_of (by omega) ?_)) | (show _ ∧ _; (refine ⟨?_, ?_⟩)) | (show keepK _ _ _ _ _; (refine keep_of (by first | exact List.Sublist.refl _ | exact List.Sublist.cons _ (List.Sublist.refl _) | exact List.Sublist.cons _ (List.Sublist.cons _ (List.Sublist.refl _)) | exact List.Sublist.cons _ (List.Sublist.cons _ (List.Sublist.cons _ (List.Sublist.refl _)))) (by first | exact (fun _ _ h => h) | exact (fun _ _ h => h.1) | exact (fun _ _ h => h.1.1)) ?_)) | (show ownK _ _ _ _ _; (refine own_keep ?_))))
      all_goals (conv => whnf)
      all_goals exact rd_ends u (SX.Rest.refl hrm) rfl (fun _ => rfl) List.mem_cons_self (fun _ _ h => h)
    · rw [rdFail_no _ _ _ he]
      refine calls_of tab tabOk Try.func97 rfl rfl rfl [(0, boxL b)] (fun _ => boxL b) [.lp 0 0 0 0, .c (.bool true), .c (.int .i64 c)] _ (restA w b) 1 (by simp [SV.rfs, SV.rf, boxL, add_none]) rfl (by show 3 ≤ _; decide) (abs_box hb) ?_
      (repeat' ((conv => whnf) <;> first | (show Wp _ _ _ _ _ _ _; (refine Wp.go tabOk rfl ?_)) | (show @cmpK _ _ _; (first | refine cmp_yes (by omega) ?_ | refine cmp_no (by omega) ?_ | (refine cmp_both ?_ ?_ <;> intro _))) | (show wrapK _ _ _; (refine wrap_i64 (by omega) (by omega) ?_)) | (show leK _ _ _; (refine le_of (by first | exact Nat.le_refl _ | omega) ?_)) | (show roomK _ _ _; (refine room_of (by first | omega | (dsimp only; omega)) ?_)) | (show ltK _ _ _; (refine lt_of (by omega) ?_)) | (show _ ∧ _; (refine ⟨?_, ?_⟩)) | (show keepK _ _ _ _ _; (refine keep_of (by first | exact List.Sublist.refl _ | exact List.Sublist.cons _ (List.Sublist.refl _) | exact List.Sublist.cons _ (List.Sublist.cons _ (List.Sublist.refl _)) | exact List.Sublist.cons _ (List.Sublist.cons _ (List.Sublist.cons _ (List.Sublist.refl _)))) (by first | exact (fun _ _ h => h) | exact (fun _ _ h => h.1) | exact (fun _ _ h => h.1.1)) ?_)) | (show ownK _ _ _ _ _; (refine own_keep ?_))))
      all_goals (conv => whnf)
      all_goals exact rd_ends u (SX.Rest.refl hrm) rfl (fun _ => rfl) List.mem_cons_self (fun _ _ h => h)
theorem call_fail {B : Base} {m i : Nat} {H : Heap} {S : Asn} {nx : Nat} {K : SV → Heap → Asn → Nat → Prop} {u : RdV} {e : Int} {y : Bool} {c : Int} (hi : (i, Ent.box (cs (rcells u e)) 125) ∈ H) (hsm : u.bs.length ≤ 1000000) (hby : ∀ x ∈ u.bs, 0 ≤ x ∧ x ≤ 255) (hrm : u.bs.length ≤ u.cap) (hS : ∀ R w', S.holds R w' → (bytsD u).holds R w')
    (h : ∀ u', SX.Rest u u' → u'.bs = u.bs → K (.c (.tuple #[])) (setH i (.box (cs (rcells u' (rdFail y c (u.bs, e)).2)) 125) H) S nx) : callK ⟨Try.prog, B, m, tab⟩ 97 [.lp i 0 0 0, .c (.bool y), .c (.int .i64 c)] H S nx K :=
  call_rd (fun p => [p, .bool y, .int .i64 c]) (fun ρ b hb => by simp [SV.rfs, SV.rf, hb, add_none]) (fun _ : Unit => .tuple #[]) _ hi Try.call97 hsm hby hrm hS (fun w' b' h => fail_any w' b' u e y c h) h
theorem rfail_any (w : World) (b : Nat) (u : RdV) (e : Int) (y : Bool) (c : Int) (h : RdOk 100 w b u e) : Calls Try.prog 64 #[.pointer (some ⟨b, 0, none⟩), .bool y, .int .i64 c] w (RdPost 100 w b u (fun _ : Unit => .tuple #[]) ((), rdFail y c (u.bs, e))) := by
  obtain ⟨hs, hby, hrm, hd, hb⟩ := h
  cases y with
  | false =>
    rw [rdFail_false]
    refine calls_of tab tabOk Try.func64 rfl rfl rfl [(0, boxL b)] (fun _ => boxL b) [.lp 0 0 0 0, .c (.bool false), .c (.int .i64 c)] _ (restA w b) 1 (by simp [SV.rfs, SV.rf, boxL, add_none]) rfl (by show 3 ≤ _; decide) (abs_box hb) ?_
    (repeat' ((conv => whnf) <;> first | (show Wp _ _ _ _ _ _ _; (refine Wp.go tabOk rfl ?_)) | (show @cmpK _ _ _; (first | refine cmp_yes (by omega) ?_ | refine cmp_no (by omega) ?_ | (refine cmp_both ?_ ?_ <;> intro _))) | (show wrapK _ _ _; (refine wrap_i64 (by omega) (by omega) ?_)) | (show leK _ _ _; (refine le_of (by first | exact Nat.le_refl _ | omega) ?_)) | (show roomK _ _ _; (refine room_of (by first | omega | (dsimp only; omega)) ?_)) | (show ltK _ _ _; (refine lt_of (by omega) ?_)) | (show _ ∧ _; (refine ⟨?_, ?_⟩)) | (show keepK _ _ _ _ _; (refine keep_of (by first | exact List.Sublist.refl _ | exact List.Sublist.cons _ (List.Sublist.refl _) | exact List.Sublist.cons _ (List.Sublist.cons _ (List.Sublist.refl _)) | exact List.Sublist.cons _ (List.Sublist.cons _ (List.Sublist.cons _ (List.Sublist.refl _)))) (by first | exact (fun _ _ h => h) | exact (fun _ _ h => h.1) | exact (fun _ _ h => h.1.1)) ?_)) | (show ownK _ _ _ _ _; (refine own_keep ?_))))
    all_goals (conv => whnf)
    all_goals exact rd_ends u (SX.Rest.refl hrm) rfl (fun _ => rfl) List.mem_cons_self (fun _ _ h => h)
  | true =>
    by_cases he : e = 0
    · subst he
      rw [rdFail_true]
      refine calls_of tab tabOk Try.func64 rfl rfl rfl [(0, boxL b)] (fun _ => boxL b) [.lp 0 0 0 0, .c (.bool true), .c (.int .i64 c)] _ (restA w b) 1 (by simp [SV.rfs, SV.rf, boxL, add_none]) rfl (by show 3 ≤ _; decide) (abs_box hb) ?_
      (repeat' ((conv => whnf) <;> first | (show Wp _ _ _ _ _ _ _; (refine Wp.go tabOk rfl ?_)) | (show @cmpK _ _ _; (first | refine cmp_yes (by omega) ?_ | refine cmp_no (by omega) ?_ | (refine cmp_both ?_ ?_ <;> intro _))) | (show wrapK _ _ _; (refine wrap_i64 (by omega) (by omega) ?_)) | (show leK _ _ _; (refine le_of (by first | exact Nat.le_refl _ | omega) ?_)) | (show roomK _ _ _; (refine room_of (by first | omega | (dsimp only; omega)) ?_)) | (show ltK _ _ _; (refine lt_of (by omega) ?_)) | (show _ ∧ _; (refine ⟨?_, ?_⟩)) | (show keepK _ _ _ _ _; (refine keep_of (by first | exact List.Sublist.refl _ | exact List.Sublist.cons _ (List.Sublist.refl _) | exact List.Sublist.cons _ (List.Sublist.cons _ (List.Sublist.refl _)) | exact List.Sublist.cons _ (List.Sublist.cons _ (List.Sublist.cons _ (List.Sublist.refl _)))) (by first | exact (fun _ _ h => h) | exact (fun _ _ h => h.1) | exact (fun _ _ h => h.1.1)) ?_)) | (show ownK _ _ _ _ _; (refine own_keep ?_))))
      all_goals (conv => whnf)
      all_goals exact rd_ends u (SX.Rest.refl hrm) rfl (fun _ => rfl) List.mem_cons_self (fun _ _ h => h)
    · rw [rdFail_no _ _ _ he]
      refine calls_of tab tabOk Try.func64 rfl rfl rfl [(0, boxL b)] (fun _ => boxL b) [.lp 0 0 0 0, .c (.bool true), .c (.int .i64 c)] _ (restA w b) 1 (by simp [SV.rfs, SV.rf, boxL, add_none]) rfl (by show 3 ≤ _; decide) (abs_box hb) ?_
      (repeat' ((conv => whnf) <;> first | (show Wp _ _ _ _ _ _ _; (refine Wp.go tabOk rfl ?_)) | (show @cmpK _ _ _; (first | refine cmp_yes (by omega) ?_ | refine cmp_no (by omega) ?_ | (refine cmp_both ?_ ?_ <;> intro _))) | (show wrapK _ _ _; (refine wrap_i64 (by omega) (by omega) ?_)) | (show leK _ _ _; (refine le_of (by first | exact Nat.le_refl _ | omega) ?_)) | (show roomK _ _ _; (refine room_of (by first | omega | (dsimp only; omega)) ?_)) | (show ltK _ _ _; (refine lt_of (by omega) ?_)) | (show _ ∧ _; (refine ⟨?_, ?_⟩)) | (show keepK _ _ _ _ _; (refine keep_of (by first | exact List.Sublist.refl _ | exact List.Sublist.cons _ (List.Sublist.refl _) | exact List.Sublist.cons _ (List.Sublist.cons _ (List.Sublist.refl _)) | exact List.Sublist.cons _ (List.Sublist.cons _ (List.Sublist.cons _ (List.Sublist.refl _)))) (by first | exact (fun _ _ h => h) | exact (fun _ _ h => h.1) | exact (fun _ _ h => h.1.1)) ?_)) | (show ownK _ _ _ _ _; (refine own_keep ?_))))
      all_goals (conv => whnf)
      all_goals exact rd_ends u (SX.Rest.refl hrm) rfl (fun _ => rfl) List.mem_cons_self (fun _ _ h => h)
theorem call_rfail {B : Base} {m i : Nat} {H : Heap} {S : Asn} {nx : Nat} {K : SV → Heap → Asn → Nat → Prop} {u : RdV} {e : Int} {y : Bool} {c : Int} (hi : (i, Ent.box (cs (rcells u e)) 100) ∈ H) (hsm : u.bs.length ≤ 1000000) (hby : ∀ x ∈ u.bs, 0 ≤ x ∧ x ≤ 255) (hrm : u.bs.length ≤ u.cap) (hS : ∀ R w', S.holds R w' → (bytsD u).holds R w')
    (h : ∀ u', SX.Rest u u' → u'.bs = u.bs → K (.c (.tuple #[])) (setH i (.box (cs (rcells u' (rdFail y c (u.bs, e)).2)) 100) H) S nx) : callK ⟨Try.prog, B, m, tab⟩ 64 [.lp i 0 0 0, .c (.bool y), .c (.int .i64 c)] H S nx K :=
  call_rd (fun p => [p, .bool y, .int .i64 c]) (fun ρ b hb => by simp [SV.rfs, SV.rf, hb, add_none]) (fun _ : Unit => .tuple #[]) _ hi Try.call64 hsm hby hrm hS (fun w' b' h => rfail_any w' b' u e y c h) h
theorem pow_le3 {j : Nat} (h : j ≤ 3) : (256 : Int) ^ j ≤ 16777216 := by
  have : j = 0 ∨ j = 1 ∨ j = 2 ∨ j = 3 := by omega
  rcases this with rfl | rfl | rfl | rfl <;> decide
theorem take_snoc {bs : List Int} {j : Nat} (h : j < bs.length) : bs.take (j + 1) = bs.take j ++ [bs[j]] := List.take_succ_eq_append_getElem h
set_option maxRecDepth 20000 in
theorem number_any (w : World) (b : Nat) (u : RdV) (e : Int) (n : Nat) (hn : n ≤ 4) (h : RdOk 125 w b u e) : Calls Try.prog 98 #[.pointer (some ⟨b, 0, none⟩), .int .i64 n] w (RdPost 125 w b u (fun x : Int => .int .u64 x) (rdNum n (u.bs, e))) := by
  have h' := h
  obtain ⟨hs, hby, hrm, hd, hb⟩ := h
  by_cases he : e = 0
  case neg =>
    have hf1 : (rdFail true 2 (u.bs, e)).2 = e := by rw [rdFail_no _ _ _ he]
    have hf2 : (rdFail false 2 (u.bs, e)).2 = e := by rw [rdFail_no _ _ _ he]
    have hN : rdNum n (u.bs, e) = (0, u.bs, e) := by unfold rdNum; rw [if_pos he]
    rw [hN]
    refine calls_of tab tabOk Try.func98 rfl rfl rfl [(0, boxL b)] (fun _ => boxL b) [.lp 0 0 0 0, .c (.int .i64 n)] _ (restA w b) 1 (by simp [SV.rfs, SV.rf, boxL, add_none]) rfl (by show 2 ≤ _; decide) (abs_box hb) ?_
    by_cases hlen : u.bs.length < n
    all_goals
      (repeat' ((conv => whnf) <;> first | (show callK _ 97 _ _ _ _ _; (refine call_fail List.mem_cons_self hs hby hrm (fun R w' h => rest_holds hd h) (fun u' hr hbs => ?_))) | (show Wp _ _ _ _ _ _ _; (refine Wp.go tabOk rfl ?_)) | (show @cmpK _ _ _; (first | refine cmp_yes (by omega) ?_ | refine cmp_no (by omega) ?_ | (refine cmp_both ?_ ?_ <;> intro _))) | (show wrapK _ _ _; (refine wrap_i64 (by omega) (by omega) ?_)) | (show leK _ _ _; (refine le_of (by first | exact Nat.le_refl _ | omega) ?_)) | (show roomK _ _ _; (refine room_of (by first | omega | (dsimp only; omega)) ?_)) | (show ltK _ _ _; (refine lt_of (by omega) ?_)) | (show _ ∧ _; (refine ⟨?_, ?_⟩)) | (show keepK _ _ _ _ _; (refine keep_of (by first | exact List.Sublist.refl _ | exact List.Sublist.cons _ (List.Sublist.refl _) | exact List.Sublist.cons _ (List.Sublist.cons _ (List.Sublist.refl _)) | exact List.Sublist.cons _ (List.Sublist.cons _ (List.Sublist.cons _ (List.Sublist.refl _)))) (by first | exact (fun _ _ h => h) | exact (fun _ _ h => h.1) | exact (fun _ _ h => h.1.1)) ?_)) | (show ownK _ _ _ _ _; (refine own_keep ?_))))
    all_goals (conv => whnf)
    · rw [hf1]
      exact rd_ends _ (by assumption) (by assumption) (fun _ => rfl) List.mem_cons_self (fun _ _ h => h)
    · rw [hf2]
      exact rd_ends _ (by assumption) (by assumption) (fun _ => rfl) List.mem_cons_self (fun _ _ h => h)
  subst he
  by_cases hlen : u.bs.length < n
  · have hf1 : (rdFail true 2 (u.bs, 0)).2 = 2 := by rw [rdFail_true]
    have hN : rdNum n (u.bs, 0) = (0, u.bs, 2) := by unfold rdNum; rw [if_neg (by simp), if_pos hlen]
    rw [hN]
    refine calls_of tab tabOk Try.func98 rfl rfl rfl [(0, boxL b)] (fun _ => boxL b) [.lp 0 0 0 0, .c (.int .i64 n)] _ (restA w b) 1 (by simp [SV.rfs, SV.rf, boxL, add_none]) rfl (by show 2 ≤ _; decide) (abs_box hb) ?_
    (repeat' ((conv => whnf) <;> first | (show callK _ 97 _ _ _ _ _; (refine call_fail List.mem_cons_self hs hby hrm (fun R w' h => rest_holds hd h) (fun u' hr hbs => ?_))) | (show Wp _ _ _ _ _ _ _; (refine Wp.go tabOk rfl ?_)) | (show @cmpK _ _ _; (first | refine cmp_yes (by omega) ?_ | refine cmp_no (by omega) ?_ | (refine cmp_both ?_ ?_ <;> intro _))) | (show wrapK _ _ _; (refine wrap_i64 (by omega) (by omega) ?_)) | (show leK _ _ _; (refine le_of (by first | exact Nat.le_refl _ | omega) ?_)) | (show roomK _ _ _; (refine room_of (by first | omega | (dsimp only; omega)) ?_)) | (show ltK _ _ _; (refine lt_of (by omega) ?_)) | (show _ ∧ _; (refine ⟨?_, ?_⟩)) | (show keepK _ _ _ _ _; (refine keep_of (by first | exact List.Sublist.refl _ | exact List.Sublist.cons _ (List.Sublist.refl _) | exact List.Sublist.cons _ (List.Sublist.cons _ (List.Sublist.refl _)) | exact List.Sublist.cons _ (List.Sublist.cons _ (List.Sublist.cons _ (List.Sublist.refl _)))) (by first | exact (fun _ _ h => h) | exact (fun _ _ h => h.1) | exact (fun _ _ h => h.1.1)) ?_)) | (show ownK _ _ _ _ _; (refine own_keep ?_))))
    conv => whnf
    rw [hf1]
    exact rd_ends _ (by assumption) (by assumption) (fun _ => rfl) List.mem_cons_self (fun _ _ h => h)
  have hf2 : (rdFail false 2 (u.bs, 0)).2 = 0 := by rw [rdFail_false]
  have hN : rdNum n (u.bs, 0) = (valB (u.bs.take n), u.bs.drop n, 0) := by unfold rdNum; rw [if_neg (by simp), if_neg hlen]
  rw [hN]
  refine calls_of tab tabOk Try.func98 rfl rfl rfl [(0, boxL b)] (fun _ => boxL b) [.lp 0 0 0 0, .c (.int .i64 n)] _ (restA w b) 1 (by simp [SV.rfs, SV.rf, boxL, add_none]) rfl (by show 2 ≤ _; decide) (abs_box hb) ?_
  (repeat' ((conv => whnf) <;> first | (show callK _ 97 _ _ _ _ _; (refine call_fail List.mem_cons_self hs hby hrm (fun R w' h => rest_holds hd h) (fun u' hr hbs => ?_))) | (show sliceK _ _ _ _ _ _ _ _; (refine slice_first rfl (by rw [hbs]; omega) (by first | exact hr.room | omega) ?_)) | (show Wp _ _ _ _ _ _ _; (refine Wp.go tabOk rfl ?_)) | (show @cmpK _ _ _; (first | refine cmp_yes (by omega) ?_ | refine cmp_no (by omega) ?_ | (refine cmp_both ?_ ?_ <;> intro _))) | (show wrapK _ _ _; (refine wrap_i64 (by omega) (by omega) ?_)) | (show leK _ _ _; (refine le_of (by first | exact Nat.le_refl _ | omega) ?_)) | (show roomK _ _ _; (refine room_of (by first | omega | (dsimp only; omega)) ?_)) | (show ltK _ _ _; (refine lt_of (by omega) ?_)) | (show _ ∧ _; (refine ⟨?_, ?_⟩)) | (show keepK _ _ _ _ _; (refine keep_of (by first | exact List.Sublist.refl _ | exact List.Sublist.cons _ (List.Sublist.refl _) | exact List.Sublist.cons _ (List.Sublist.cons _ (List.Sublist.refl _)) | exact List.Sublist.cons _ (List.Sublist.cons _ (List.Sublist.cons _ (List.Sublist.refl _)))) (by first | exact (fun _ _ h => h) | exact (fun _ _ h => h.1) | exact (fun _ _ h => h.1.1)) ?_)) | (show ownK _ _ _ _ _; (refine own_keep ?_))))
  rw [hf2]
  have hl' : u'.bs.length = u.bs.length := by rw [hbs]
  have hD : ∀ R w', (restA w b).holds R w' → (bytsD u').holds R w' := fun R w' h => hr.data R w' (rest_holds hd h)
  refine Wp.loop (σ := Nat × Int) 1 (fun ⟨j, acc⟩ => [(0, .lp 0 0 0 0), (1, .c (.int .i64 n)), (5, .c (.int .u64 acc)), (27, .c (.slice u'.base n u'.cap)), (28, .c (.int .i64 n)), (29, .c (.int .i64 j))]) (fun _ => [(0, .box (cs (rcells u' 0)) 125)]) (fun _ => restA w b)
    (fun ⟨j, acc⟩ => j ≤ n ∧ acc = valB (u'.bs.take j) ∧ 0 ≤ acc ∧ acc < 256 ^ j) (fun s => n - s.1) (0, 0) [] (by decide) (fun s => ⟨rfl, rfl⟩) ⟨Nat.zero_le _, rfl, Int.le_refl _, by decide⟩ ⟨rfl, ⟨rfl, rfl, rfl, rfl, rfl, rfl, trivial⟩, ⟨List.mem_cons_self, trivial⟩, fun _ _ h => h⟩ ?_
  rintro ⟨j, acc⟩ ⟨hj, ha, h0, h1⟩
  by_cases hlt : j < n
  · have hjl : j < u'.bs.length := by omega
    have hx := hr.bytes hby _ (List.getElem_mem hjl)
    have hp := pow_le3 (show j ≤ 3 by omega)
    have hpow : (256 : Int) ^ (j + 1) = 256 ^ j * 256 := Int.pow_succ 256 j
    refine Wp.know (p := ∃ a, u'.base = some a) (fun ρ w' hw => (holds_of_abs hw fun R h => base_some (j := j) (rowsA_in (hD R w' h)) (by rw [byts_length]; exact hjl))) ?_
    rintro ⟨a, hba⟩
    have hrow : ∀ R w', (restA w b).holds R w' → RowsI w' (some a) 1 (byts u'.bs) := fun R w' h => hba ▸ rowsA_in (hD R w' h)
    have hget := byts_get hjl
    have hsn := take_snoc hjl
    generalize u'.bs[j] = x at *
    rw [hba]
    (repeat' ((conv => whnf) <;> first | (show idxK _ _ _ _ _; (refine idx_of a j rfl rfl hlt ?_)) | (show roK _ _ _; (refine ro_row0 hrow _ _ hget rfl ?_)) | (show shiftK _ _ _ _ _; (refine shl_of (z := acc * 256) 8 rfl (by decide) rfl (by omega) (by omega) ?_)) | (show bitsK _ _ _ _ _; (refine or_bytes h0 hx.1 hx.2 (by omega) ?_)) | (show wrapK _ _ _; (refine wrap_u64 (by omega) (by omega) ?_)) | (show Wp _ _ _ _ _ _ _; (refine Wp.go tabOk rfl ?_)) | (show @cmpK _ _ _; (first | refine cmp_yes (by omega) ?_ | refine cmp_no (by omega) ?_ | (refine cmp_both ?_ ?_ <;> intro _))) | (show wrapK _ _ _; (refine wrap_i64 (by omega) (by omega) ?_)) | (show leK _ _ _; (refine le_of (by first | exact Nat.le_refl _ | omega) ?_)) | (show roomK _ _ _; (refine room_of (by first | omega | (dsimp only; omega)) ?_)) | (show ltK _ _ _; (refine lt_of (by omega) ?_)) | (show _ ∧ _; (refine ⟨?_, ?_⟩)) | (show keepK _ _ _ _ _; (refine keep_of (by first | exact List.Sublist.refl _ | exact List.Sublist.cons _ (List.Sublist.refl _) | exact List.Sublist.cons _ (List.Sublist.cons _ (List.Sublist.refl _)) | exact List.Sublist.cons _ (List.Sublist.cons _ (List.Sublist.cons _ (List.Sublist.refl _)))) (by first | exact (fun _ _ h => h) | exact (fun _ _ h => h.1) | exact (fun _ _ h => h.1.1)) ?_)) | (show ownK _ _ _ _ _; (refine own_keep ?_))))
    conv => whnf
    exact ⟨(j + 1, acc * 256 + x), [], ⟨hlt, by rw [hsn, valB_snoc, ← ha], by omega, by rw [hpow]; omega⟩, by simp only; omega, rfl, ⟨rfl, rfl, rfl, rfl, rfl, rfl, trivial⟩, ⟨List.mem_cons_self, trivial⟩, fun _ _ h => h⟩
  · obtain rfl : j = n := by omega
    (repeat' ((conv => whnf) <;> first | (show sliceK _ _ _ _ _ _ _ _; (refine slice_rest rfl hr.room (by omega) ?_)) | (show Wp _ _ _ _ _ _ _; (refine Wp.go tabOk rfl ?_)) | (show @cmpK _ _ _; (first | refine cmp_yes (by omega) ?_ | refine cmp_no (by omega) ?_ | (refine cmp_both ?_ ?_ <;> intro _))) | (show wrapK _ _ _; (refine wrap_i64 (by omega) (by omega) ?_)) | (show leK _ _ _; (refine le_of (by first | exact Nat.le_refl _ | omega) ?_)) | (show roomK _ _ _; (refine room_of (by first | omega | (dsimp only; omega)) ?_)) | (show ltK _ _ _; (refine lt_of (by omega) ?_)) | (show _ ∧ _; (refine ⟨?_, ?_⟩)) | (show keepK _ _ _ _ _; (refine keep_of (by first | exact List.Sublist.refl _ | exact List.Sublist.cons _ (List.Sublist.refl _) | exact List.Sublist.cons _ (List.Sublist.cons _ (List.Sublist.refl _)) | exact List.Sublist.cons _ (List.Sublist.cons _ (List.Sublist.cons _ (List.Sublist.refl _)))) (by first | exact (fun _ _ h => h) | exact (fun _ _ h => h.1) | exact (fun _ _ h => h.1.1)) ?_)) | (show ownK _ _ _ _ _; (refine own_keep ?_))))
    conv => whnf
    exact rd_ends (dropB u' j) (hr.trans (dropB_rest hr.room (by omega))) (by show u'.bs.drop j = _; rw [hbs]) (fun _ => by show Value.int .u64 acc = Value.int .u64 (valB (u.bs.take j)); rw [ha, hbs]) List.mem_cons_self (fun _ _ h => h)
set_option maxRecDepth 20000 in
theorem rnum_any (w : World) (b : Nat) (u : RdV) (e : Int) (n : Nat) (hn : n ≤ 4) (h : RdOk 100 w b u e) : Calls Try.prog 102 #[.pointer (some ⟨b, 0, none⟩), .int .i64 n] w (RdPost 100 w b u (fun x : Int => .int .u64 x) (rdNum n (u.bs, e))) := by
  have h' := h
  obtain ⟨hs, hby, hrm, hd, hb⟩ := h
  by_cases he : e = 0
  case neg =>
    have hN : rdNum n (u.bs, e) = (0, u.bs, e) := by unfold rdNum; rw [if_pos he]
    rw [hN]
    refine calls_of tab tabOk Try.func102 rfl rfl rfl [(0, boxL b)] (fun _ => boxL b) [.lp 0 0 0 0, .c (.int .i64 n)] _ (restA w b) 1 (by simp [SV.rfs, SV.rf, boxL, add_none]) rfl (by show 2 ≤ _; decide) (abs_box hb) ?_
    (repeat' ((conv => whnf) <;> first | (show Wp _ _ _ _ _ _ _; (refine Wp.go tabOk rfl ?_)) | (show @cmpK _ _ _; (first | refine cmp_yes (by omega) ?_ | refine cmp_no (by omega) ?_ | (refine cmp_both ?_ ?_ <;> intro _))) | (show wrapK _ _ _; (refine wrap_i64 (by omega) (by omega) ?_)) | (show leK _ _ _; (refine le_of (by first | exact Nat.le_refl _ | omega) ?_)) | (show roomK _ _ _; (refine room_of (by first | omega | (dsimp only; omega)) ?_)) | (show ltK _ _ _; (refine lt_of (by omega) ?_)) | (show _ ∧ _; (refine ⟨?_, ?_⟩)) | (show keepK _ _ _ _ _; (refine keep_of (by first | exact List.Sublist.refl _ | exact List.Sublist.cons _ (List.Sublist.refl _) | exact List.Sublist.cons _ (List.Sublist.cons _ (List.Sublist.refl _)) | exact List.Sublist.cons _ (List.Sublist.cons _ (List.Sublist.cons _ (List.Sublist.refl _)))) (by first | exact (fun _ _ h => h) | exact (fun _ _ h => h.1) | exact (fun _ _ h => h.1.1)) ?_)) | (show ownK _ _ _ _ _; (refine own_keep ?_))))
    conv => whnf
    exact rd_ends u (SX.Rest.refl hrm) rfl (fun _ => rfl) List.mem_cons_self (fun _ _ h => h)
  subst he
  by_cases hlen : u.bs.length < n
  · have hN : rdNum n (u.bs, 0) = (0, u.bs, 2) := by unfold rdNum; rw [if_neg (by simp), if_pos hlen]
    rw [hN]
    refine calls_of tab tabOk Try.func102 rfl rfl rfl [(0, boxL b)] (fun _ => boxL b) [.lp 0 0 0 0, .c (.int .i64 n)] _ (restA w b) 1 (by simp [SV.rfs, SV.rf, boxL, add_none]) rfl (by show 2 ≤ _; decide) (abs_box hb) ?_
    (repeat' ((conv => whnf) <;> first | (show Wp _ _ _ _ _ _ _; (refine Wp.go tabOk rfl ?_)) | (show @cmpK _ _ _; (first | refine cmp_yes (by omega) ?_ | refine cmp_no (by omega) ?_ | (refine cmp_both ?_ ?_ <;> intro _))) | (show wrapK _ _ _; (refine wrap_i64 (by omega) (by omega) ?_)) | (show leK _ _ _; (refine le_of (by first | exact Nat.le_refl _ | omega) ?_)) | (show roomK _ _ _; (refine room_of (by first | omega | (dsimp only; omega)) ?_)) | (show ltK _ _ _; (refine lt_of (by omega) ?_)) | (show _ ∧ _; (refine ⟨?_, ?_⟩)) | (show keepK _ _ _ _ _; (refine keep_of (by first | exact List.Sublist.refl _ | exact List.Sublist.cons _ (List.Sublist.refl _) | exact List.Sublist.cons _ (List.Sublist.cons _ (List.Sublist.refl _)) | exact List.Sublist.cons _ (List.Sublist.cons _ (List.Sublist.cons _ (List.Sublist.refl _)))) (by first | exact (fun _ _ h => h) | exact (fun _ _ h => h.1) | exact (fun _ _ h => h.1.1)) ?_)) | (show ownK _ _ _ _ _; (refine own_keep ?_))))
    conv => whnf
    exact rd_ends u (SX.Rest.refl hrm) rfl (fun _ => rfl) List.mem_cons_self (fun _ _ h => h)
  have hN : rdNum n (u.bs, 0) = (valB (u.bs.take n), u.bs.drop n, 0) := by unfold rdNum; rw [if_neg (by simp), if_neg hlen]
  rw [hN]
  refine calls_of tab tabOk Try.func102 rfl rfl rfl [(0, boxL b)] (fun _ => boxL b) [.lp 0 0 0 0, .c (.int .i64 n)] _ (restA w b) 1 (by simp [SV.rfs, SV.rf, boxL, add_none]) rfl (by show 2 ≤ _; decide) (abs_box hb) ?_
  (repeat' ((conv => whnf) <;> first | (show sliceK _ _ _ _ _ _ _ _; (refine slice_first rfl (by omega) (by omega) ?_)) | (show Wp _ _ _ _ _ _ _; (refine Wp.go tabOk rfl ?_)) | (show @cmpK _ _ _; (first | refine cmp_yes (by omega) ?_ | refine cmp_no (by omega) ?_ | (refine cmp_both ?_ ?_ <;> intro _))) | (show wrapK _ _ _; (refine wrap_i64 (by omega) (by omega) ?_)) | (show leK _ _ _; (refine le_of (by first | exact Nat.le_refl _ | omega) ?_)) | (show roomK _ _ _; (refine room_of (by first | omega | (dsimp only; omega)) ?_)) | (show ltK _ _ _; (refine lt_of (by omega) ?_)) | (show _ ∧ _; (refine ⟨?_, ?_⟩)) | (show keepK _ _ _ _ _; (refine keep_of (by first | exact List.Sublist.refl _ | exact List.Sublist.cons _ (List.Sublist.refl _) | exact List.Sublist.cons _ (List.Sublist.cons _ (List.Sublist.refl _)) | exact List.Sublist.cons _ (List.Sublist.cons _ (List.Sublist.cons _ (List.Sublist.refl _)))) (by first | exact (fun _ _ h => h) | exact (fun _ _ h => h.1) | exact (fun _ _ h => h.1.1)) ?_)) | (show ownK _ _ _ _ _; (refine own_keep ?_))))
  have hD : ∀ R w', (restA w b).holds R w' → (bytsD u).holds R w' := fun R w' h => rest_holds hd h
  refine Wp.loop (σ := Nat × Int) 1 (fun ⟨j, acc⟩ => [(0, .lp 0 0 0 0), (1, .c (.int .i64 n)), (5, .c (.int .u64 acc)), (28, .c (.slice u.base n u.cap)), (29, .c (.int .i64 n)), (30, .c (.int .i64 j))]) (fun _ => [(0, .box (cs (rcells u 0)) 100)]) (fun _ => restA w b)
    (fun ⟨j, acc⟩ => j ≤ n ∧ acc = valB (u.bs.take j) ∧ 0 ≤ acc ∧ acc < 256 ^ j) (fun s => n - s.1) (0, 0) [] (by decide) (fun s => ⟨rfl, rfl⟩) ⟨Nat.zero_le _, rfl, Int.le_refl _, by decide⟩ ⟨rfl, ⟨rfl, rfl, rfl, rfl, rfl, rfl, trivial⟩, ⟨List.mem_cons_self, trivial⟩, fun _ _ h => h⟩ ?_
  rintro ⟨j, acc⟩ ⟨hj, ha, h0, h1⟩
  by_cases hlt : j < n
  · have hjl : j < u.bs.length := by omega
    have hx := hby _ (List.getElem_mem hjl)
    have hp := pow_le3 (show j ≤ 3 by omega)
    have hpow : (256 : Int) ^ (j + 1) = 256 ^ j * 256 := Int.pow_succ 256 j
    refine Wp.know (p := ∃ a, u.base = some a) (fun ρ w' hw => (holds_of_abs hw fun R h => base_some (j := j) (rowsA_in (hD R w' h)) (by rw [byts_length]; exact hjl))) ?_
    rintro ⟨a, hba⟩
    have hrow : ∀ R w', (restA w b).holds R w' → RowsI w' (some a) 1 (byts u.bs) := fun R w' h => hba ▸ rowsA_in (hD R w' h)
    have hget := byts_get hjl
    have hsn := take_snoc hjl
    generalize u.bs[j] = x at *
    rw [hba]
    (repeat' ((conv => whnf) <;> first | (show idxK _ _ _ _ _; (refine idx_of a j rfl rfl hlt ?_)) | (show roK _ _ _; (refine ro_row0 hrow _ _ hget rfl ?_)) | (show wrapK _ _ _; (refine wrap_u64 (by omega) (by omega) ?_)) | (show Wp _ _ _ _ _ _ _; (refine Wp.go tabOk rfl ?_)) | (show @cmpK _ _ _; (first | refine cmp_yes (by omega) ?_ | refine cmp_no (by omega) ?_ | (refine cmp_both ?_ ?_ <;> intro _))) | (show wrapK _ _ _; (refine wrap_i64 (by omega) (by omega) ?_)) | (show leK _ _ _; (refine le_of (by first | exact Nat.le_refl _ | omega) ?_)) | (show roomK _ _ _; (refine room_of (by first | omega | (dsimp only; omega)) ?_)) | (show ltK _ _ _; (refine lt_of (by omega) ?_)) | (show _ ∧ _; (refine ⟨?_, ?_⟩)) | (show keepK _ _ _ _ _; (refine keep_of (by first | exact List.Sublist.refl _ | exact List.Sublist.cons _ (List.Sublist.refl _) | exact List.Sublist.cons _ (List.Sublist.cons _ (List.Sublist.refl _)) | exact List.Sublist.cons _ (List.Sublist.cons _ (List.Sublist.cons _ (List.Sublist.refl _)))) (by first | exact (fun _ _ h => h) | exact (fun _ _ h => h.1) | exact (fun _ _ h => h.1.1)) ?_)) | (show ownK _ _ _ _ _; (refine own_keep ?_))))
    conv => whnf
    exact ⟨(j + 1, acc * 256 + x), [], ⟨hlt, by rw [hsn, valB_snoc, ← ha], by omega, by rw [hpow]; omega⟩, by simp only; omega, rfl, ⟨rfl, rfl, rfl, rfl, rfl, rfl, trivial⟩, ⟨List.mem_cons_self, trivial⟩, fun _ _ h => h⟩
  · obtain rfl : j = n := by omega
    (repeat' ((conv => whnf) <;> first | (show sliceK _ _ _ _ _ _ _ _; (refine slice_rest rfl hrm (by omega) ?_)) | (show Wp _ _ _ _ _ _ _; (refine Wp.go tabOk rfl ?_)) | (show @cmpK _ _ _; (first | refine cmp_yes (by omega) ?_ | refine cmp_no (by omega) ?_ | (refine cmp_both ?_ ?_ <;> intro _))) | (show wrapK _ _ _; (refine wrap_i64 (by omega) (by omega) ?_)) | (show leK _ _ _; (refine le_of (by first | exact Nat.le_refl _ | omega) ?_)) | (show roomK _ _ _; (refine room_of (by first | omega | (dsimp only; omega)) ?_)) | (show ltK _ _ _; (refine lt_of (by omega) ?_)) | (show _ ∧ _; (refine ⟨?_, ?_⟩)) | (show keepK _ _ _ _ _; (refine keep_of (by first | exact List.Sublist.refl _ | exact List.Sublist.cons _ (List.Sublist.refl _) | exact List.Sublist.cons _ (List.Sublist.cons _ (List.Sublist.refl _)) | exact List.Sublist.cons _ (List.Sublist.cons _ (List.Sublist.cons _ (List.Sublist.refl _)))) (by first | exact (fun _ _ h => h) | exact (fun _ _ h => h.1) | exact (fun _ _ h => h.1.1)) ?_)) | (show ownK _ _ _ _ _; (refine own_keep ?_))))
    conv => whnf
    exact rd_ends (dropB u j) (dropB_rest hrm (by omega)) rfl (fun _ => by show Value.int .u64 acc = Value.int .u64 (valB (u.bs.take j)); rw [ha]) List.mem_cons_self (fun _ _ h => h)
end Go.Proofs.Ytajbngkcgbehlaa
