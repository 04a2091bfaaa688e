import Derived.Test.YtajbngkcgbehlaaSG
namespace Go.Proofs.Ytajbngkcgbehlaa
open Go.SX Go.RowKit
theorem readOpt_write {o : OptV} (ho : o.good) : readOpt (optBytes o) = (o, 0) := by
  obtain ⟨l, t, z, g, r⟩ := o
  obtain ⟨h1, h2, h3, h4⟩ := ho
  simp only at h1 h2 h3 h4
  have e1 : (0 * 256 + r / 256 % 256) * 256 + r / 1 % 256 = r := by omega
  have e0 : (0 : Int) * 256 + l = l := by omega
  cases t <;> cases z <;> cases g <;>
    simp [readOpt, optZ, optR, optD, optC, optB, optA, rdStart, rdNum, rdFail, rdTruth, rdEnd, valB, optBytes, beL, bitI] <;> omega
theorem call_opts {B : Base} {m : Nat} {f : FuncId} {H : Heap} {S : Asn} {nx : Nat} {K : SV → Heap → Asn → Nat → Prop} {args : List SV} {o : OptV} (ho : o.good) (ha : ∀ ρ, SV.rfs ρ args = [o.val]) (hf : ∀ ar w, (callFunc f ar).run Try.prog w = .ok (.enter f ar) w)
    (hc : ∀ w, Calls Try.prog f #[o.val] w (OptPost w o))
    (h : ∀ x : RdV, x.bs = optBytes o → x.bs.length ≤ x.cap → K (.c (.tuple #[x.val, .int .i64 0])) H (S.and ((bytsD x).past B.w0.heap.size)) nx) : callK ⟨Try.prog, B, m, tab⟩ f args H S nx K := by
  refine call_past hf (fun x : RdV => .tuple #[x.val, .int .i64 0]) (fun x => bytsD x) (fun x => x.bs = optBytes o ∧ x.bs.length ≤ x.cap) (fun ρ w hw => ?_) (fun x hx => h x hx.1 hx.2)
  rw [ha ρ]
  refine (hc w).mono ?_
  rintro e w' (⟨_, v, rfl, he, hn⟩ | ⟨hb, _⟩)
  · have hcap : ∃ l : SX.Loc, v = .slice l.base (byts (optBytes o)).length l.cap ∧ (byts (optBytes o)).length ≤ l.cap := by
      obtain ⟨l, e, F, hF, hr, hc, _⟩ := id hn
      exact ⟨l, e, hc⟩
    obtain ⟨base, cap, e1, hD⟩ := newRows_data hn
    obtain ⟨l, e2, hc⟩ := hcap
    rw [e1] at e2
    simp only [Value.slice.injEq] at e2
    rw [byts_length] at hc e1
    exact ⟨⟨base, cap, optBytes o⟩, ⟨rfl, by show (optBytes o).length ≤ cap; rw [e2.2.2]; exact hc⟩, by rw [e1]; rfl, he, hD⟩
  · exact absurd ho hb
theorem optBytes_ok {o : OptV} (ho : o.good) : (∀ x ∈ optBytes o, 0 ≤ x ∧ x ≤ 255) ∧ (optBytes o).length ≤ 1000000 := by
  obtain ⟨h1, h2, h3, h4⟩ := ho
  have hb : ∀ b : Bool, 0 ≤ bitI b ∧ bitI b ≤ 255 := fun b => by cases b <;> decide
  refine ⟨fun x hx => ?_, by show 7 ≤ 1000000; decide⟩
  rcases List.mem_append.1 hx with hx | hx
  · simp only [List.mem_cons, List.not_mem_nil, or_false] at hx
    rcases hx with rfl | rfl | rfl | rfl | rfl
    · decide
    · exact ⟨h1, h2⟩
    · exact hb _
    · exact hb _
    · exact hb _
  · exact beL_byte _ _ x hx
theorem opts_base {o : OptV} (ho : o.good) {x : RdV} (hx : x.bs = optBytes o) {S : Asn} {N : Nat} : RdBase x (S.and ((bytsD x).past N)) := ⟨by rw [hx]; exact (optBytes_ok ho).2, by rw [hx]; exact (optBytes_ok ho).1, fun R w h => (bytsD x).stable (fun b hb => hb.1) (fun _ _ => rfl) h.2⟩
def o0 : OptV := ⟨1, false, false, true, 16⟩
theorem o0_good : o0.good := by unfold OptV.good o0; decide
theorem o0_fits : o0.fits := by unfold OptV.fits o0; decide
set_option maxRecDepth 20000 in
theorem scrollFixed_any (w : World) : Calls Try.prog 23 #[] w fun e w' => e = .returned (.bool true) ∧ Ext w w' := by
  refine calls_of tab tabOk Try.func23 rfl rfl rfl [] (fun _ => ⟨none, 0⟩) [] [] (baseA w) 0 rfl rfl (by show 0 ≤ _; decide) (abs_base w) ?_
  (repeat' ((conv => whnf) <;> first | (show Wp _ _ _ _ _ _ _; (refine Wp.go tabOk rfl ?_)) | (show @cmpK _ _ _; (first | refine cmp_yes (by omega) ?_ | refine cmp_no (by omega) ?_ | (refine cmp_both ?_ ?_ <;> intro _))) | (show wrapK _ _ _; (refine wrap_i64 (by omega) (by omega) ?_)) | (show leK _ _ _; (refine le_of (by first | exact Nat.le_refl _ | omega) ?_)) | (show roomK _ _ _; (refine room_of (by first | omega | (dsimp only; omega)) ?_)) | (show ltK _ _ _; (refine lt_of (by omega) ?_)) | (show _ ∧ _; (refine ⟨?_, ?_⟩)) | (show keepK _ _ _ _ _; (refine keep_of (by first | exact List.Sublist.refl _ | exact List.Sublist.cons _ (List.Sublist.refl _) | exact List.Sublist.cons _ (List.Sublist.cons _ (List.Sublist.refl _)) | exact List.Sublist.cons _ (List.Sublist.cons _ (List.Sublist.cons _ (List.Sublist.refl _)))) (by first | exact (fun _ _ h => h) | exact (fun _ _ h => h.1) | exact (fun _ _ h => h.1.1)) ?_)) | (show ownK _ _ _ _ _; (refine own_keep ?_))))
  refine call_opts (o := o0) o0_good (fun _ => rfl) Try.call24 (fun w => options_any w o0) (fun x hx hcap => ?_)
  have h0 : RdBase x ((baseA w).and ((bytsD x).past w.heap.size)) := opts_base o0_good hx
  have hrd : readOpt x.bs = (o0, 0) := by rw [hx]; exact readOpt_write o0_good
  have hRd : ∀ ρ (w' : World), Abs ⟨w, []⟩ ρ 0 [] ((baseA w).and ((bytsD x).past w.heap.size)) w' → Calls Try.prog 26 #[x.val] w' (fun e w'' => e = .returned (.tuple #[o0.val, .int .i64 0]) ∧ Ext w' w'') := fun ρ w' hw => by
    have := readOptions_any w' x (rd_into h0 hcap hw)
    unfold ROPost at this
    rw [hrd] at this
    exact this
  (repeat' ((conv => whnf) <;> first | (show callK _ 26 _ _ _ _ _; (refine call_pure (f := 26) Try.call26 _ (fun ρ w' hw => hRd ρ w' hw) ?_)) | (show callK _ 27 _ _ _ _ _; (refine call_pure (f := 27) Try.call27 _ (fun ρ w' hw => readGraph_nil w') ?_)) | (show strK _ _ _ _ _ _ _; (first | refine str_ro (bs := optBytes o0) Try.underlying35 Try.underlying5 Try.underlying9 (fun R w' h => hx ▸ rowsA_in (h0.data R w' h)) (by rw [hx]) ?_)) | (show pureK _ _ _; (first | refine str_eql (by kernel_rfl) ?_ | refine opt_eql (o := o0) o0_fits ?_)) | (show Wp _ _ _ _ _ _ _; (refine Wp.go tabOk rfl ?_)) | (show @cmpK _ _ _; (first | refine cmp_yes (by omega) ?_ | refine cmp_no (by omega) ?_ | (refine cmp_both ?_ ?_ <;> intro _))) | (show wrapK _ _ _; (refine wrap_i64 (by omega) (by omega) ?_)) | (show leK _ _ _; (refine le_of (by first | exact Nat.le_refl _ | omega) ?_)) | (show roomK _ _ _; (refine room_of (by first | omega | (dsimp only; omega)) ?_)) | (show ltK _ _ _; (refine lt_of (by omega) ?_)) | (show _ ∧ _; (refine ⟨?_, ?_⟩)) | (show keepK _ _ _ _ _; (refine keep_of (by first | exact List.Sublist.refl _ | exact List.Sublist.cons _ (List.Sublist.refl _) | exact List.Sublist.cons _ (List.Sublist.cons _ (List.Sublist.refl _)) | exact List.Sublist.cons _ (List.Sublist.cons _ (List.Sublist.cons _ (List.Sublist.refl _)))) (by first | exact (fun _ _ h => h) | exact (fun _ _ h => h.1) | exact (fun _ _ h => h.1.1)) ?_)) | (show ownK _ _ _ _ _; (refine own_keep ?_))))
  conv => whnf
  exact ends_bool (fun R w' h => h.1) rfl rfl
set_option maxRecDepth 20000 in
theorem lawOptions_any (w : World) (o : OptV) (ho : o.fits) : Calls Try.prog 7 #[o.val] w fun e w' => e = .returned (.bool true) ∧ Ext w w' := by
  refine calls_of tab tabOk Try.func7 rfl rfl rfl [] (fun _ => ⟨none, 0⟩) [.agg [.c (.int .i64 o.layout), .c (.bool o.tidy), .c (.bool o.lazy_), .c (.bool o.giant), .c (.int .i64 o.rows)]] [] (baseA w) 0 rfl rfl (by show 1 ≤ _; decide) (abs_base w) ?_
  by_cases hg : o.good
  · (repeat' ((conv => whnf) <;> first | (show callK _ 23 _ _ _ _ _; (refine call_pure (f := 23) Try.call23 (.bool true) (fun ρ w' hw => scrollFixed_any w') ?_)) | (show Wp _ _ _ _ _ _ _; (refine Wp.go tabOk rfl ?_)) | (show @cmpK _ _ _; (first | refine cmp_yes (by omega) ?_ | refine cmp_no (by omega) ?_ | (refine cmp_both ?_ ?_ <;> intro _))) | (show wrapK _ _ _; (refine wrap_i64 (by omega) (by omega) ?_)) | (show leK _ _ _; (refine le_of (by first | exact Nat.le_refl _ | omega) ?_)) | (show roomK _ _ _; (refine room_of (by first | omega | (dsimp only; omega)) ?_)) | (show ltK _ _ _; (refine lt_of (by omega) ?_)) | (show _ ∧ _; (refine ⟨?_, ?_⟩)) | (show keepK _ _ _ _ _; (refine keep_of (by first | exact List.Sublist.refl _ | exact List.Sublist.cons _ (List.Sublist.refl _) | exact List.Sublist.cons _ (List.Sublist.cons _ (List.Sublist.refl _)) | exact List.Sublist.cons _ (List.Sublist.cons _ (List.Sublist.cons _ (List.Sublist.refl _)))) (by first | exact (fun _ _ h => h) | exact (fun _ _ h => h.1) | exact (fun _ _ h => h.1.1)) ?_)) | (show ownK _ _ _ _ _; (refine own_keep ?_))))
    refine call_opts (o := o) hg (fun _ => rfl) Try.call24 (fun w => options_any w o) (fun x hx hcap => ?_)
    have h0 : RdBase x ((baseA w).and ((bytsD x).past w.heap.size)) := opts_base hg hx
    (repeat' ((conv => whnf) <;> first | (show Wp _ _ _ _ _ _ _; (refine Wp.go tabOk rfl ?_)) | (show @cmpK _ _ _; (first | refine cmp_yes (by omega) ?_ | refine cmp_no (by omega) ?_ | (refine cmp_both ?_ ?_ <;> intro _))) | (show wrapK _ _ _; (refine wrap_i64 (by omega) (by omega) ?_)) | (show leK _ _ _; (refine le_of (by first | exact Nat.le_refl _ | omega) ?_)) | (show roomK _ _ _; (refine room_of (by first | omega | (dsimp only; omega)) ?_)) | (show ltK _ _ _; (refine lt_of (by omega) ?_)) | (show _ ∧ _; (refine ⟨?_, ?_⟩)) | (show keepK _ _ _ _ _; (refine keep_of (by first | exact List.Sublist.refl _ | exact List.Sublist.cons _ (List.Sublist.refl _) | exact List.Sublist.cons _ (List.Sublist.cons _ (List.Sublist.refl _)) | exact List.Sublist.cons _ (List.Sublist.cons _ (List.Sublist.cons _ (List.Sublist.refl _)))) (by first | exact (fun _ _ h => h) | exact (fun _ _ h => h.1) | exact (fun _ _ h => h.1.1)) ?_)) | (show ownK _ _ _ _ _; (refine own_keep ?_))))
    refine call_opts (o := o) hg (fun _ => rfl) Try.call25 (fun w => refOptions_any w o) (fun y hy hcapy => ?_)
    have h1 : RdBase y (((baseA w).and ((bytsD x).past w.heap.size)).and ((bytsD y).past w.heap.size)) := opts_base hg hy
    have h2 : RdBase x (((baseA w).and ((bytsD x).past w.heap.size)).and ((bytsD y).past w.heap.size)) := ⟨h0.small, h0.bytes, fun R w h => h0.data R w h.1⟩
    have hrd : readOpt x.bs = (o, 0) := by rw [hx]; exact readOpt_write hg
    have hRd : ∀ {ρ nx H} {w' : World}, Abs ⟨w, []⟩ ρ nx H (((baseA w).and ((bytsD x).past w.heap.size)).and ((bytsD y).past w.heap.size)) w' → Calls Try.prog 26 #[x.val] w' (fun e w'' => e = .returned (.tuple #[o.val, .int .i64 0]) ∧ Ext w' w'') := fun {ρ nx H w'} hw => by
      have := readOptions_any w' x (rd_into h2 hcap hw)
      unfold ROPost at this
      rw [hrd] at this
      exact this
    (repeat' ((conv => whnf) <;> first | (show callK _ 26 _ _ _ _ _; (refine call_pure (f := 26) Try.call26 _ (fun ρ w' hw => hRd hw) ?_)) | (show strK _ _ _ _ _ _ _; (first | refine str_ro (base := x.base) (bs := optBytes o) Try.underlying35 Try.underlying5 Try.underlying9 (fun R w' h => hx ▸ rowsA_in (h2.data R w' h)) (by rw [hx]) ?_ | refine str_ro (base := y.base) (bs := optBytes o) Try.underlying35 Try.underlying5 Try.underlying9 (fun R w' h => hy ▸ rowsA_in (h1.data R w' h)) (by rw [hy]) ?_)) | (show pureK _ _ _; (first | refine str_neq rfl ?_ | refine opt_eql (o := o) ho ?_)) | (show Wp _ _ _ _ _ _ _; (refine Wp.go tabOk rfl ?_)) | (show @cmpK _ _ _; (first | refine cmp_yes (by omega) ?_ | refine cmp_no (by omega) ?_ | (refine cmp_both ?_ ?_ <;> intro _))) | (show wrapK _ _ _; (refine wrap_i64 (by omega) (by omega) ?_)) | (show leK _ _ _; (refine le_of (by first | exact Nat.le_refl _ | omega) ?_)) | (show roomK _ _ _; (refine room_of (by first | omega | (dsimp only; omega)) ?_)) | (show ltK _ _ _; (refine lt_of (by omega) ?_)) | (show _ ∧ _; (refine ⟨?_, ?_⟩)) | (show keepK _ _ _ _ _; (refine keep_of (by first | exact List.Sublist.refl _ | exact List.Sublist.cons _ (List.Sublist.refl _) | exact List.Sublist.cons _ (List.Sublist.cons _ (List.Sublist.refl _)) | exact List.Sublist.cons _ (List.Sublist.cons _ (List.Sublist.cons _ (List.Sublist.refl _)))) (by first | exact (fun _ _ h => h) | exact (fun _ _ h => h.1) | exact (fun _ _ h => h.1.1)) ?_)) | (show ownK _ _ _ _ _; (refine own_keep ?_))))
    conv => whnf
    exact ends_bool (fun R w' h => h.1.1) rfl rfl
  · have hbad : ∀ {f : FuncId}, (∀ w, Calls Try.prog f #[o.val] w (OptPost w o)) → ∀ w', Calls Try.prog f #[o.val] w' (fun e w'' => e = .returned (.tuple #[.slice none 0 0, .int .i64 1]) ∧ Ext w' w'') := fun h w' => (h w').mono fun e w'' he => he.elim (fun hh => absurd hh.1 hg) (fun hh => hh.2)
    (repeat' ((conv => whnf) <;> first | (show callK _ 23 _ _ _ _ _; (refine call_pure (f := 23) Try.call23 (.bool true) (fun ρ w' hw => scrollFixed_any w') ?_)) | (show callK _ 24 _ _ _ _ _; (refine call_pure (f := 24) Try.call24 _ (fun ρ w' hw => hbad (fun w => options_any w o) w') ?_)) | (show callK _ 25 _ _ _ _ _; (refine call_pure (f := 25) Try.call25 _ (fun ρ w' hw => hbad (fun w => refOptions_any w o) w') ?_)) | (show strK _ _ _ _ _ _ _; (refine str_ro (bs := []) Try.underlying35 Try.underlying5 Try.underlying9 (fun R w' h => .inl rfl) rfl ?_)) | (show pureK _ _ _; (refine str_neq rfl ?_)) | (show callK _ 26 _ _ _ _ _; (refine call_pure (f := 26) Try.call26 _ (fun ρ w' hw => readOptions_any w' nilV (nil_in w')) ?_)) | (show Wp _ _ _ _ _ _ _; (refine Wp.go tabOk rfl ?_)) | (show @cmpK _ _ _; (first | refine cmp_yes (by omega) ?_ | refine cmp_no (by omega) ?_ | (refine cmp_both ?_ ?_ <;> intro _))) | (show wrapK _ _ _; (refine wrap_i64 (by omega) (by omega) ?_)) | (show leK _ _ _; (refine le_of (by first | exact Nat.le_refl _ | omega) ?_)) | (show roomK _ _ _; (refine room_of (by first | omega | (dsimp only; omega)) ?_)) | (show ltK _ _ _; (refine lt_of (by omega) ?_)) | (show _ ∧ _; (refine ⟨?_, ?_⟩)) | (show keepK _ _ _ _ _; (refine keep_of (by first | exact List.Sublist.refl _ | exact List.Sublist.cons _ (List.Sublist.refl _) | exact List.Sublist.cons _ (List.Sublist.cons _ (List.Sublist.refl _)) | exact List.Sublist.cons _ (List.Sublist.cons _ (List.Sublist.cons _ (List.Sublist.refl _)))) (by first | exact (fun _ _ h => h) | exact (fun _ _ h => h.1) | exact (fun _ _ h => h.1.1)) ?_)) | (show ownK _ _ _ _ _; (refine own_keep ?_))))
    conv => whnf
    exact ends_bool (fun _ _ h => h) rfl rfl
end Go.Proofs.Ytajbngkcgbehlaa
