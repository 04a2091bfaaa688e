import Derived.Test.YtajbngkcgbehlaaHA
namespace Go.Proofs.Ytajbngkcgbehlaa
open Go.SX Go.RowKit Go.ChangeShapes Go.WideShapes Go.ChangeAt
structure BytesV.raw (w : World) (t : BytesV) : Prop where
  rows : RowsI w t.base 1 (bytesR t.bs)
  fits : ∀ x ∈ t.bs, x ≤ 255
theorem addr_plain {w : World} {a : Addr} {v : Value} (h : w.cell? a = some v) : a = ⟨a.block, a.off, none⟩ := by
  obtain ⟨b, o, p⟩ := a
  cases p with
  | none => rfl
  | some x =>
    simp only [World.cell?, Option.isSome_some, if_true] at h
    split at h <;> cases h
theorem bytesD_raw {w : World} {t : BytesV} (h : t.raw w) : (bytesD t).holds (fun b => b < w.heap.size) w := by
  refine ⟨fun r hr => ?_, ?_⟩
  · simp only [bytesR, List.mem_map] at hr
    obtain ⟨x, _, rfl⟩ := hr
    exact ⟨rfl, fun v hv => by simp at hv; subst hv; rfl⟩
  rcases h.rows with h0 | ⟨a, ha, hc⟩
  · exact .inl h0
  · cases hl : t.bs with
    | nil => exact .inl rfl
    | cons x r =>
      have h1 : w.cell? (a.add (0 * 1 + 0)) = some (.int .u8 (x : Int)) := hc 0 [.int .u8 (x : Int)] (by rw [hl]; rfl) 0 _ rfl
      have h2 : a.add (0 * 1 + 0) = a := by simp [Addr.add]
      rw [h2] at h1
      have ea := addr_plain h1
      refine .inr ⟨a.block, a.off, by rw [ha, ← ea], cell_block h1, fun i q hi j v hj => ?_⟩
      have := hc i q (by rw [hl]; exact hi) j v hj
      rw [ea, add_none] at this
      exact this
theorem base_bytes {w w' : World} {R : Nat → Prop} {t : BytesV} (h : t.raw w) (hb : (baseA w).holds R w') : (bytesD t).holds R w' :=
  (bytesD t).stable (fun b hb' => (hb b hb').1) (fun b hb' => (hb b hb').2) (bytesD_raw h)
theorem wf_u8' {x : Int} (h : (Lit.int .u8 x).wf = true) : 0 ≤ x ∧ x ≤ 255 := by
  simp [Lit.wf, IntKind.min, IntKind.max, IntKind.signed, IntKind.bits] at h
  omega
theorem opens_bytes (w : World) : Opens Try.prog w 35 fun cs => ∃ t : BytesV, cs = [t.val] ∧ t.raw w := by
  refine Opens.mono (opens_slice (k := 1) Try.underlying35 (by kernel_rfl) (opens_int Try.underlying5)) ?_
  rintro cs ⟨base, cap, xs, rfl, h1, h2, h3, h4, h5⟩
  obtain ⟨l, rfl, hl⟩ := list_map_of (f := fun (i : Nat) => [Value.int .u8 (i : Int)]) (p := fun i => i ≤ 255) fun r hr => by
    obtain ⟨_, i, hi, rfl⟩ := h2 r hr
    have := wf_u8' hi
    exact ⟨i.toNat, by omega, by rw [show ((i.toNat : Nat) : Int) = i by omega]⟩
  exact ⟨⟨base, cap, l⟩, by simp [BytesV.val], h1, hl⟩

/-- data that stood at the beginning -/
theorem slice_lo {base : Option Addr} {len cap size : Nat} {n : Nat} {z : Int} {K : SV → Prop} (hz : z = n) (hn : n ≤ cap) (h : K (.c (.slice base n cap))) : sliceK base len cap size none (some z) none K := by
  rw [sliceK_def]
  refine ⟨0, n, cap, rfl, hz, rfl, Nat.zero_le _, hn, Nat.le_refl _, fun h => (by cases h), ?_⟩
  have h1 : (if cap = 0 then base else base.map (·.add (0 * size))) = base := by
    split
    · rfl
    · cases base <;> simp [Addr.add]
  have h2 : n - 0 = n := Nat.sub_zero n
  have h3 : cap - 0 = cap := Nat.sub_zero cap
  rw [h1, h2, h3]
  exact h
theorem rows_take {w : World} {base : Option Addr} {k n : Nat} {xs : List (List Value)} (h : RowsI w base k xs) : RowsI w base k (xs.take n) := by
  rcases h with h | ⟨a, ha, h⟩
  · subst h; exact .inl (by simp)
  · refine .inr ⟨a, ha, fun i r hr => ?_⟩
    rw [List.getElem?_take] at hr
    split at hr
    · exact h i r hr
    · cases hr
set_option maxRecDepth 20000 in
set_option maxHeartbeats 4000000 in
theorem lawMade_any (w : World) (t : BytesV) (ht : t.raw w) (less : Int) (hless : 0 ≤ less ∧ less ≤ 255) : Calls Try.prog 5 #[t.val, .int .u8 less] w fun e w' => e = .returned (.bool true) ∧ Ext w w' := by
  by_cases h300 : t.bs.length ≤ 300
  · refine calls_of tab tabOk Try.func5 rfl rfl rfl [] (fun _ => ⟨none, 0⟩) [.c t.val, .c (.int .u8 less)] [] (baseA w) 0 rfl rfl (by show 2 ≤ _; decide) (abs_base w) ?_
    (repeat' ((conv => whnf) <;> first | (show callK _ 15 _ _ _ _ _; (refine call_pure (f := 15) Try.call15 (.bool true) (fun ρ w' hw => fixed_any w') ?_)) | (show Wp _ _ _ _ _ _ _; (refine Wp.go tabOk rfl ?_)) | (show @cmpK _ _ _; (first | refine cmp_yes (by omega) ?_ | refine cmp_no (by omega) ?_ | (refine cmp_both ?_ ?_ <;> intro _))) | (show wrapK _ _ _; (refine wrap_i64 (by omega) (by omega) ?_)) | (show leK _ _ _; (refine le_of (by first | exact Nat.le_refl _ | omega) ?_)) | (show roomK _ _ _; (refine room_of (by first | omega | (dsimp only; omega)) ?_)) | (show ltK _ _ _; (refine lt_of (by omega) ?_)) | (show _ ∧ _; (refine ⟨?_, ?_⟩)) | (show keepK _ _ _ _ _; (refine keep_of (by first | exact List.Sublist.refl _ | exact List.Sublist.cons _ (List.Sublist.refl _) | exact List.Sublist.cons _ (List.Sublist.cons _ (List.Sublist.refl _)) | exact List.Sublist.cons _ (List.Sublist.cons _ (List.Sublist.cons _ (List.Sublist.refl _)))) (by first | exact (fun _ _ h => h) | exact (fun _ _ h => h.1) | exact (fun _ _ h => h.1.1)) ?_)) | (show ownK _ _ _ _ _; (refine own_keep ?_))))
    refine call_graph (f := 22) t 0 (by first | exact List.mem_cons_self | exact List.mem_cons_of_mem _ List.mem_cons_self | (repeat (first | exact List.mem_cons_self | apply List.mem_cons_of_mem))) Try.call22 (by omega) ht.fits (Nat.zero_le _) (fun R w' h => base_bytes ht h) (fun w' b htk => make_any w' b t 0 htk) (fun l out k' hml h8 ho0 ho1 => ?_)
    obtain ⟨sh, hsh, hso⟩ := hml.shapes
    have hl1 := hml.one
    have hshl : sh.length = l.length := by have := checkR_length l [] (by rw [hsh]); rw [hsh] at this; simpa using this
    (repeat' ((conv => whnf) <;> first | (show Wp _ _ _ _ _ _ _; (refine Wp.go tabOk rfl ?_)) | (show @cmpK _ _ _; (first | refine cmp_yes (by omega) ?_ | refine cmp_no (by omega) ?_ | (refine cmp_both ?_ ?_ <;> intro _))) | (show wrapK _ _ _; (refine wrap_i64 (by omega) (by omega) ?_)) | (show leK _ _ _; (refine le_of (by first | exact Nat.le_refl _ | omega) ?_)) | (show roomK _ _ _; (refine room_of (by first | omega | (dsimp only; omega)) ?_)) | (show ltK _ _ _; (refine lt_of (by omega) ?_)) | (show _ ∧ _; (refine ⟨?_, ?_⟩)) | (show keepK _ _ _ _ _; (refine keep_of (by first | exact List.Sublist.refl _ | exact List.Sublist.cons _ (List.Sublist.refl _) | exact List.Sublist.cons _ (List.Sublist.cons _ (List.Sublist.refl _)) | exact List.Sublist.cons _ (List.Sublist.cons _ (List.Sublist.cons _ (List.Sublist.refl _)))) (by first | exact (fun _ _ h => h) | exact (fun _ _ h => h.1) | exact (fun _ _ h => h.1.1)) ?_)) | (show ownK _ _ _ _ _; (refine own_keep ?_))))
    refine call_check2 (f := 17) (0, sh) Try.call17 (fun ρ w' hw => by
      have hg : (⟨(ρ 1).base, (ρ 1).cap, l, out⟩ : GraphV).ok w' := holds_of_abs hw fun R h => graph_ok hml.each (by omega) (rows_of_abs hw (by first | exact List.mem_cons_self | exact List.mem_cons_of_mem _ List.mem_cons_self | (repeat (first | exact List.mem_cons_self | apply List.mem_cons_of_mem)))) ((nodesD l).mono h.2 (fun b hb => hb.1)) ⟨by omega, by omega⟩
      have := check_any w' _ hg
      rw [check_made hml.one (by omega) ⟨ho0, ho1⟩ hsh] at this
      exact this) (fun h => absurd rfl h) (fun _ sv hm hs2 hc2 => ?_)
    have hm : sv.l.map (·.xs) = sh := hm
    have hmod : 0 ≤ less % (l.length : Int) ∧ less % (l.length : Int) < l.length := ⟨Int.emod_nonneg _ (by omega), Int.emod_lt_of_pos _ (by omega)⟩
    obtain ⟨n, hn, hn1, hn2⟩ : ∃ n : Nat, 1 + less % (l.length : Int) = n ∧ 1 ≤ n ∧ n ≤ l.length := ⟨(1 + less % (l.length : Int)).toNat, by omega, by omega, by omega⟩
    (repeat' ((conv => whnf) <;> first | (show remK _ _ _; (refine rem_pos (by omega) (by omega) ?_)) | (show @cmpK _ _ _; (refine cmp_no (by simp) ?_)) | (show prefK _ _ _ _; (refine pref_of n hn (by rw [nodeRows_length]; exact hn2) ?_)) | (show Wp _ _ _ _ _ _ _; (refine Wp.go tabOk rfl ?_)) | (show @cmpK _ _ _; (first | refine cmp_yes (by omega) ?_ | refine cmp_no (by omega) ?_ | (refine cmp_both ?_ ?_ <;> intro _))) | (show wrapK _ _ _; (refine wrap_i64 (by omega) (by omega) ?_)) | (show leK _ _ _; (refine le_of (by first | exact Nat.le_refl _ | omega) ?_)) | (show roomK _ _ _; (refine room_of (by first | omega | (dsimp only; omega)) ?_)) | (show ltK _ _ _; (refine lt_of (by omega) ?_)) | (show _ ∧ _; (refine ⟨?_, ?_⟩)) | (show keepK _ _ _ _ _; (refine keep_of (by first | exact List.Sublist.refl _ | exact List.Sublist.cons _ (List.Sublist.refl _) | exact List.Sublist.cons _ (List.Sublist.cons _ (List.Sublist.refl _)) | exact List.Sublist.cons _ (List.Sublist.cons _ (List.Sublist.cons _ (List.Sublist.refl _)))) (by first | exact (fun _ _ h => h) | exact (fun _ _ h => h.1) | exact (fun _ _ h => h.1.1)) ?_)) | (show ownK _ _ _ _ _; (refine own_keep ?_))))
    have hlt : (l.take n).length = n := by rw [List.length_take]; omega
    have htk : checkR (l.take n) [] = (0, sh.take n) := by have := checkR_take n hsh; simpa using this
    refine call_check2 (f := 17) (0, sh.take n) Try.call17 (fun ρ w' hw => by
      have hr : RowsI w' (ρ 1).base 9 (nodeRows l) := rows_of_abs hw (by first | exact List.mem_cons_self | exact List.mem_cons_of_mem _ List.mem_cons_self | (repeat (first | exact List.mem_cons_self | apply List.mem_cons_of_mem)))
      have hg : (⟨(ρ 1).base, (ρ 1).cap, l.take n, (1 + less % (l.length : Int) - 1)⟩ : GraphV).ok w' := holds_of_abs hw fun R h => graph_ok (fun m hm => hml.each m (List.mem_of_mem_take hm)) (by rw [hlt]; omega) (by unfold nodeRows; rw [List.map_take]; exact rows_take hr) (fun m hm => (nodeD m false).mono (h.1.2 m (List.mem_of_mem_take hm)) (fun b hb => hb.1)) ⟨by omega, by omega⟩
      have := check_any w' _ hg
      rw [check_made (by rw [hlt]; exact hn1) (by rw [hlt]; omega) (by rw [hlt]; omega) htk] at this
      have e : GraphV.val ⟨(ρ 1).base, (ρ 1).cap, l.take n, (1 + less % (l.length : Int) - 1)⟩ = .agg #[.slice (ρ 1).base n (ρ 1).cap, .int .i64 (1 + less % (l.length : Int) - 1)] := by simp only [GraphV.val, hlt]
      rw [e] at this
      exact this) (fun h => absurd rfl h) (fun _ tv hm3 hs3 hc3 => ?_)
    have hm3 : tv.l.map (·.xs) = sh.take n := hm3
    have hsvl : sv.l.length = sh.length := by rw [← hm]; simp
    (repeat' ((conv => whnf) <;> first | (show @cmpK _ _ _; (refine cmp_yes rfl ?_)) | (show sliceK _ _ _ _ _ _ _ _; (refine slice_lo (n := n) hn (by omega) ?_)) | (show Wp _ _ _ _ _ _ _; (refine Wp.go tabOk rfl ?_)) | (show @cmpK _ _ _; (first | refine cmp_yes (by omega) ?_ | refine cmp_no (by omega) ?_ | (refine cmp_both ?_ ?_ <;> intro _))) | (show wrapK _ _ _; (refine wrap_i64 (by omega) (by omega) ?_)) | (show leK _ _ _; (refine le_of (by first | exact Nat.le_refl _ | omega) ?_)) | (show roomK _ _ _; (refine room_of (by first | omega | (dsimp only; omega)) ?_)) | (show ltK _ _ _; (refine lt_of (by omega) ?_)) | (show _ ∧ _; (refine ⟨?_, ?_⟩)) | (show keepK _ _ _ _ _; (refine keep_of (by first | exact List.Sublist.refl _ | exact List.Sublist.cons _ (List.Sublist.refl _) | exact List.Sublist.cons _ (List.Sublist.cons _ (List.Sublist.refl _)) | exact List.Sublist.cons _ (List.Sublist.cons _ (List.Sublist.cons _ (List.Sublist.refl _)))) (by first | exact (fun _ _ h => h) | exact (fun _ _ h => h.1) | exact (fun _ _ h => h.1.1)) ?_)) | (show ownK _ _ _ _ _; (refine own_keep ?_))))
    refine call_pure (f := 19) Try.call19 (.bool true) (fun ρ w' hw => by
      have h1 : tv.ok w' := holds_of_abs hw fun R h => ⟨rowsA_in h.2.1, fun u hu => intsA_ok (hs3 u hu) (h.2.2 u hu), by have : tv.l.length = (sh.take n).length := (by rw [← hm3]; simp); rw [List.length_take] at this; omega⟩
      have h2 : (⟨sv.base, sv.cap, sv.l.take n⟩ : ShapesV).ok w' := holds_of_abs hw fun R h => ⟨by unfold shRows; rw [List.map_take]; exact rows_take (rowsA_in h.1.2.1), fun u hu => intsA_ok (hs2 u (List.mem_of_mem_take hu)) (h.1.2.2 u (List.mem_of_mem_take hu)), by rw [List.length_take]; omega⟩
      have := sameShapes_any w' tv _ h1 h2 (by rw [hm3, ← hm, List.map_take])
      have e : ShapesV.val ⟨sv.base, sv.cap, sv.l.take n⟩ = .slice sv.base n sv.cap := by simp only [ShapesV.val, List.length_take]; rw [Nat.min_eq_left (by omega)]
      rw [e] at this
      exact this) ?_
    (repeat' ((conv => whnf) <;> first | (show Wp _ _ _ _ _ _ _; (refine Wp.go tabOk rfl ?_)) | (show @cmpK _ _ _; (first | refine cmp_yes (by omega) ?_ | refine cmp_no (by omega) ?_ | (refine cmp_both ?_ ?_ <;> intro _))) | (show wrapK _ _ _; (refine wrap_i64 (by omega) (by omega) ?_)) | (show leK _ _ _; (refine le_of (by first | exact Nat.le_refl _ | omega) ?_)) | (show roomK _ _ _; (refine room_of (by first | omega | (dsimp only; omega)) ?_)) | (show ltK _ _ _; (refine lt_of (by omega) ?_)) | (show _ ∧ _; (refine ⟨?_, ?_⟩)) | (show keepK _ _ _ _ _; (refine keep_of (by first | exact List.Sublist.refl _ | exact List.Sublist.cons _ (List.Sublist.refl _) | exact List.Sublist.cons _ (List.Sublist.cons _ (List.Sublist.refl _)) | exact List.Sublist.cons _ (List.Sublist.cons _ (List.Sublist.cons _ (List.Sublist.refl _)))) (by first | exact (fun _ _ h => h) | exact (fun _ _ h => h.1) | exact (fun _ _ h => h.1.1)) ?_)) | (show ownK _ _ _ _ _; (refine own_keep ?_))))
    conv => whnf
    exact ends_bool (B := ⟨w, []⟩) (S := (((baseA w).and ((nodesD l).past w.heap.size)).and ((shapesD sv).past w.heap.size)).and ((shapesD tv).past w.heap.size)) (fun R w' h => h.1.1.1) rfl rfl
  · refine calls_of tab tabOk Try.func5 rfl rfl rfl [] (fun _ => ⟨none, 0⟩) [.c t.val, .c (.int .u8 less)] [] (baseA w) 0 rfl rfl (by show 2 ≤ _; decide) (abs_base w) ?_
    (repeat' ((conv => whnf) <;> first | (show callK _ 15 _ _ _ _ _; (refine call_pure (f := 15) Try.call15 (.bool true) (fun ρ w' hw => fixed_any w') ?_)) | (show Wp _ _ _ _ _ _ _; (refine Wp.go tabOk rfl ?_)) | (show @cmpK _ _ _; (first | refine cmp_yes (by omega) ?_ | refine cmp_no (by omega) ?_ | (refine cmp_both ?_ ?_ <;> intro _))) | (show wrapK _ _ _; (refine wrap_i64 (by omega) (by omega) ?_)) | (show leK _ _ _; (refine le_of (by first | exact Nat.le_refl _ | omega) ?_)) | (show roomK _ _ _; (refine room_of (by first | omega | (dsimp only; omega)) ?_)) | (show ltK _ _ _; (refine lt_of (by omega) ?_)) | (show _ ∧ _; (refine ⟨?_, ?_⟩)) | (show keepK _ _ _ _ _; (refine keep_of (by first | exact List.Sublist.refl _ | exact List.Sublist.cons _ (List.Sublist.refl _) | exact List.Sublist.cons _ (List.Sublist.cons _ (List.Sublist.refl _)) | exact List.Sublist.cons _ (List.Sublist.cons _ (List.Sublist.cons _ (List.Sublist.refl _)))) (by first | exact (fun _ _ h => h) | exact (fun _ _ h => h.1) | exact (fun _ _ h => h.1.1)) ?_)) | (show ownK _ _ _ _ _; (refine own_keep ?_))))
    exact ends_bool (fun _ _ h => h) rfl rfl
end Go.Proofs.Ytajbngkcgbehlaa
