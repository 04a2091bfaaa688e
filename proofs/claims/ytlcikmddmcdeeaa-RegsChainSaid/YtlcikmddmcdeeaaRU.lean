import Derived.Test.YtlcikmddmcdeeaaRT
namespace Go.Proofs.Ytlcikmddmcdeeaa
open Go.SX Go.RowKit
theorem code_snoc (l : List InstrV) (x : InstrV) {i n : Nat} {T : TypeId} {H : Heap} (hn : n = l.length) : (i, Ent.rows (instrRows (l ++ [x])) 5 T) ∈ (i, Ent.rows (List.take n (instrRows l) ++ [x.cells]) 5 T) :: H := by
  subst hn
  rw [show instrRows (l ++ [x]) = List.take l.length (instrRows l) ++ [x.cells] by rw [List.take_of_length_le (by rw [instrRows_length]; exact Nat.le_refl _)]; simp [instrRows]]
  exact List.mem_cons_self
set_option maxRecDepth 20000 in
theorem lawChain_any (w : World) (v : BytesV) (hv : v.raw w) : Calls Try.prog 5 #[v.val] w fun e w' => e = .returned (.bool true) ∧ Ext w w' := by
  refine calls_of tab tabOk Try.func5 rfl rfl rfl [] (fun _ => ⟨none, 0⟩) [.c (.slice v.base v.bs.length v.cap)] [] (baseA w) 0 rfl rfl (by show 1 ≤ _; decide) (abs_base w) ?_
  by_cases hl : v.bs.length ≤ 1000
  case neg =>
    (repeat' ((conv => whnf) <;> first | (show callK _ 6 _ _ _ _ _; (refine call_pure (f := 6) Try.call6 (.bool true) (fun ρ w' hw => fixed_any w') ?_)) | (show Wp _ _ _ _ _ _ _; (refine Wp.go tabOk rfl ?_)) | (show @cmpK _ _ _; (first | refine cmp_yes (by omega) ?_ | refine cmp_no (by omega) ?_ | (refine cmp_both ?_ ?_ <;> intro _))) | (show wrapK _ _ _; (refine wrap_i64 (by omega) (by omega) ?_)) | (show leK _ _ _; (refine le_of (by first | exact Nat.le_refl _ | omega) ?_)) | (show roomK _ _ _; (refine room_of (by first | omega | (dsimp only; omega)) ?_)) | (show ltK _ _ _; (refine lt_of (by omega) ?_)) | (show _ ∧ _; (refine ⟨?_, ?_⟩)) | (show keepK _ _ _ _ _; (refine keep_of (by first | exact List.Sublist.refl _ | exact List.Sublist.cons _ (List.Sublist.refl _) | exact List.Sublist.cons _ (List.Sublist.cons _ (List.Sublist.refl _)) | exact List.Sublist.cons _ (List.Sublist.cons _ (List.Sublist.cons _ (List.Sublist.refl _)))) (by first | exact (fun _ _ h => h) | exact (fun _ _ h => h.1) | exact (fun _ _ h => h.1.1)) ?_)) | (show ownK _ _ _ _ _; (refine own_keep ?_))))
    exact ends_bool (fun _ _ h => h) rfl rfl
  (repeat' ((conv => whnf) <;> first | (show callK _ 6 _ _ _ _ _; (refine call_pure (f := 6) Try.call6 (.bool true) (fun ρ w' hw => fixed_any w') ?_)) | (show Wp _ _ _ _ _ _ _; (refine Wp.go tabOk rfl ?_)) | (show @cmpK _ _ _; (first | refine cmp_yes (by omega) ?_ | refine cmp_no (by omega) ?_ | (refine cmp_both ?_ ?_ <;> intro _))) | (show wrapK _ _ _; (refine wrap_i64 (by omega) (by omega) ?_)) | (show leK _ _ _; (refine le_of (by first | exact Nat.le_refl _ | omega) ?_)) | (show roomK _ _ _; (refine room_of (by first | omega | (dsimp only; omega)) ?_)) | (show ltK _ _ _; (refine lt_of (by omega) ?_)) | (show _ ∧ _; (refine ⟨?_, ?_⟩)) | (show keepK _ _ _ _ _; (refine keep_of (by first | exact List.Sublist.refl _ | exact List.Sublist.cons _ (List.Sublist.refl _) | exact List.Sublist.cons _ (List.Sublist.cons _ (List.Sublist.refl _)) | exact List.Sublist.cons _ (List.Sublist.cons _ (List.Sublist.cons _ (List.Sublist.refl _)))) (by first | exact (fun _ _ h => h) | exact (fun _ _ h => h.1) | exact (fun _ _ h => h.1.1)) ?_)) | (show ownK _ _ _ _ _; (refine own_keep ?_))))
  refine Wp.loop (σ := Nat) 2 (fun i => [(3, .os 1 (i + 1)), (17, .c (.slice v.base v.bs.length v.cap)), (18, .c (.int .i64 v.bs.length)), (19, .c (.int .i64 i))]) (fun i => [(1, .rows (instrRows (chainTo v.bs i)) 5 29)]) (fun _ => baseA w)
    (fun i => i ≤ v.bs.length) (fun i => v.bs.length - i) 0 [(1, some 0)] (by decide) (fun s => ⟨rfl, rfl⟩) (Nat.zero_le _) ⟨rfl, ⟨rfl, rfl, rfl, rfl, trivial⟩, ⟨List.mem_cons_self, trivial⟩, fun _ _ h => h⟩ ?_
  rintro i hi
  have hcl := chainTo_length v.bs i
  by_cases hlt : i < v.bs.length
  · obtain ⟨a, ha⟩ : ∃ a, v.base = some a := base_some (j := i) hv.rows (by rw [bytesR_length]; exact hlt)
    have hvr : ∀ R w', (baseA w).holds R w' → RowsI w' (some a) 1 (bytesR v.bs) := fun R w' h => ha ▸ rows_base h hv.rows
    have hrow := bytesR_get hlt
    have hb := hv.fits _ (List.getElem_mem hlt)
    have hgd : v.bs.getD i 0 = v.bs[i] := by simp [hlt]
    have hsucc : chainTo v.bs (i + 1) = chainTo v.bs i ++ [chainI (v.bs.getD i 0) i] := rfl
    rw [hgd] at hsucc
    generalize v.bs[i] = b at *
    rw [ha]
    have h5 : b % 5 = 0 ∨ b % 5 = 1 ∨ b % 5 = 2 ∨ b % 5 = 3 ∨ b % 5 = 4 := by omega
    have hx0 : b % 5 = 0 → chainI b i = ⟨3, (i + 1 : Nat), i, i, 0⟩ := fun h => by unfold chainI chainOp; rw [h]; rfl
    have hx1 : b % 5 = 1 → chainI b i = ⟨5, (i + 1 : Nat), i, 0, 0⟩ := fun h => by unfold chainI chainOp; rw [h]; rfl
    have hx2 : b % 5 = 2 → chainI b i = ⟨8, (i + 1 : Nat), i, 0, 0⟩ := fun h => by unfold chainI chainOp; rw [h]; rfl
    have hx3 : b % 5 = 3 → chainI b i = ⟨9, (i + 1 : Nat), i, 0, 0⟩ := fun h => by unfold chainI chainOp; rw [h]; rfl
    have hx4 : b % 5 = 4 → chainI b i = ⟨6, (i + 1 : Nat), i, i, 0⟩ := fun h => by unfold chainI chainOp; rw [h]; rfl
    rcases h5 with h5 | h5 | h5 | h5 | h5
    all_goals
      (repeat' ((conv => whnf) <;> first | (show idxK _ _ _ _ _; (refine idx_of a i rfl rfl hlt ?_)) | (show roK _ _ _; (refine ro_row0 hvr _ _ hrow rfl ?_)) | (show remK _ _ _; (refine rem_lit hb.1 (by decide) h5 ?_)) | (show idxRowK _ _ _ _ _ _; (first | refine idxRow_of 0 rfl (Nat.le_of_ble_eq_true rfl) (Nat.le_of_ble_eq_true rfl) ?_ | refine idxRow_of 1 rfl (Nat.le_of_ble_eq_true rfl) (Nat.le_of_ble_eq_true rfl) ?_ | refine idxRow_of 2 rfl (Nat.le_of_ble_eq_true rfl) (Nat.le_of_ble_eq_true rfl) ?_ | refine idxRow_of 3 rfl (Nat.le_of_ble_eq_true rfl) (Nat.le_of_ble_eq_true rfl) ?_ | refine idxRow_of 4 rfl (Nat.le_of_ble_eq_true rfl) (Nat.le_of_ble_eq_true rfl) ?_)) | (show rowK _ _ _ _; (refine row_of _ _ rfl rfl ?_)) | (show wrapK _ _ _; (first | refine wrap_nat i (by omega) (by omega) ?_ | refine wrap_nat (i + 1) (by omega) (by omega) ?_)) | (show leK _ _ _; (refine le_of (by rw [instrRows_length, hcl]; exact Nat.le_refl _) ?_)) | (show roomK _ _ _; (refine room_of (by show (i + 1 + 1) * 40 ≤ 140737488355328; omega) ?_)) | (show Wp _ _ _ _ _ _ _; (refine Wp.go tabOk rfl ?_)) | (show @cmpK _ _ _; (first | refine cmp_yes (by omega) ?_ | refine cmp_no (by omega) ?_ | (refine cmp_both ?_ ?_ <;> intro _))) | (show wrapK _ _ _; (refine wrap_i64 (by omega) (by omega) ?_)) | (show leK _ _ _; (refine le_of (by first | exact Nat.le_refl _ | omega) ?_)) | (show roomK _ _ _; (refine room_of (by first | omega | (dsimp only; omega)) ?_)) | (show ltK _ _ _; (refine lt_of (by omega) ?_)) | (show _ ∧ _; (refine ⟨?_, ?_⟩)) | (show keepK _ _ _ _ _; (refine keep_of (by first | exact List.Sublist.refl _ | exact List.Sublist.cons _ (List.Sublist.refl _) | exact List.Sublist.cons _ (List.Sublist.cons _ (List.Sublist.refl _)) | exact List.Sublist.cons _ (List.Sublist.cons _ (List.Sublist.cons _ (List.Sublist.refl _)))) (by first | exact (fun _ _ h => h) | exact (fun _ _ h => h.1) | exact (fun _ _ h => h.1.1)) ?_)) | (show ownK _ _ _ _ _; (refine own_keep ?_))))
    all_goals (conv => whnf)
    all_goals first | rw [hx0 h5] at hsucc | rw [hx1 h5] at hsucc | rw [hx2 h5] at hsucc | rw [hx3 h5] at hsucc | rw [hx4 h5] at hsucc
    all_goals exact ⟨i + 1, [(1, some 5)], hlt, by omega, rfl, ⟨rfl, rfl, rfl, rfl, trivial⟩, ⟨by rw [hsucc]; exact code_snoc _ _ hcl.symm, trivial⟩, fun _ _ h => h⟩
  · obtain rfl : i = v.bs.length := by omega
    have hs : Straight (chainTo v.bs v.bs.length) := chain_straight hl
    refine Wp.freeze 1 List.mem_cons_self (fun l1 hl1 => ?_)
    rw [instrRows_length, hcl] at hl1
    (repeat' ((conv => whnf) <;> first | (show Wp _ _ _ _ _ _ _; (refine Wp.go tabOk rfl ?_)) | (show @cmpK _ _ _; (first | refine cmp_yes (by omega) ?_ | refine cmp_no (by omega) ?_ | (refine cmp_both ?_ ?_ <;> intro _))) | (show wrapK _ _ _; (refine wrap_i64 (by omega) (by omega) ?_)) | (show leK _ _ _; (refine le_of (by first | exact Nat.le_refl _ | omega) ?_)) | (show roomK _ _ _; (refine room_of (by first | omega | (dsimp only; omega)) ?_)) | (show ltK _ _ _; (refine lt_of (by omega) ?_)) | (show _ ∧ _; (refine ⟨?_, ?_⟩)) | (show keepK _ _ _ _ _; (refine keep_of (by first | exact List.Sublist.refl _ | exact List.Sublist.cons _ (List.Sublist.refl _) | exact List.Sublist.cons _ (List.Sublist.cons _ (List.Sublist.refl _)) | exact List.Sublist.cons _ (List.Sublist.cons _ (List.Sublist.cons _ (List.Sublist.refl _)))) (by first | exact (fun _ _ h => h) | exact (fun _ _ h => h.1) | exact (fun _ _ h => h.1.1)) ?_)) | (show ownK _ _ _ _ _; (refine own_keep ?_))))
    conv => whnf
    show callK _ _ [.c (.slice l1.base (v.bs.length + 1) l1.cap)] [] _ _ _
    have e : Value.slice l1.base (v.bs.length + 1) l1.cap = (⟨l1.base, l1.cap, chainTo v.bs v.bs.length⟩ : CodeV).val := by unfold CodeV.val; simp only; rw [hcl]
    rw [e]
    refine call_assign ⟨l1.base, l1.cap, chainTo v.bs v.bs.length⟩ hs (chain_fits hl) (fun ρ w' hw => holds_of_abs hw fun R h => ⟨rowsA_in h.2, chain_fits hl, by show (chainTo v.bs v.bs.length).length ≤ l1.cap; rw [hcl]; exact hl1, by show (chainTo v.bs v.bs.length).length ≤ _; rw [hcl]; omega⟩) (fun s c hR hI hc hok => ?_)
    have hcp := hI.pos hs.1
    have hcnt : s.cnt = 1 := by
      rcases hI.most with h | ⟨j, hj, h⟩
      · omega
      · rw [chain_live hj] at h; omega
    (repeat' ((conv => whnf) <;> first | (show Wp _ _ _ _ _ _ _; (refine Wp.go tabOk rfl ?_)) | (show @cmpK _ _ _; (first | refine cmp_yes (by omega) ?_ | refine cmp_no (by omega) ?_ | (refine cmp_both ?_ ?_ <;> intro _))) | (show wrapK _ _ _; (refine wrap_i64 (by omega) (by omega) ?_)) | (show leK _ _ _; (refine le_of (by first | exact Nat.le_refl _ | omega) ?_)) | (show roomK _ _ _; (refine room_of (by first | omega | (dsimp only; omega)) ?_)) | (show ltK _ _ _; (refine lt_of (by omega) ?_)) | (show _ ∧ _; (refine ⟨?_, ?_⟩)) | (show keepK _ _ _ _ _; (refine keep_of (by first | exact List.Sublist.refl _ | exact List.Sublist.cons _ (List.Sublist.refl _) | exact List.Sublist.cons _ (List.Sublist.cons _ (List.Sublist.refl _)) | exact List.Sublist.cons _ (List.Sublist.cons _ (List.Sublist.cons _ (List.Sublist.refl _)))) (by first | exact (fun _ _ h => h) | exact (fun _ _ h => h.1) | exact (fun _ _ h => h.1.1)) ?_)) | (show ownK _ _ _ _ _; (refine own_keep ?_))))
    conv => whnf
    exact ends_bool (fun R w' h => h.1.1) rfl rfl
end Go.Proofs.Ytlcikmddmcdeeaa
