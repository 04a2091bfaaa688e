import Derived.Test.YtgndjjdeopfdkaaGreatKLowerFewer8
/- MO -/
namespace Go.Proofs.YtgndjjdeopfdkaaGreat
open Go.SX Go.RowKit
theorem ints_storeM {r : List Int} {k : Nat} {v : Int} {K : List (List Value) → Prop} (hk : k < r.length) (h : K (ints (r.set k v))) : rowStoreK (ints r) k 0 [.int .i64 v] K := by
  refine rowStore_of _ (ints_get hk) (by show 0 + 1 ≤ 1; omega) ?_
  have e : (ints r).set k (setFrom [Value.int .i64 r[k]] 0 [.int .i64 v]) = ints (r.set k v) := by
    have e2 : setFrom [Value.int .i64 r[k]] 0 [.int .i64 v] = [Value.int .i64 v] := rfl
    rw [e2]
    simp [ints, List.map_set]
  rw [e]; exact h
def wgtR (n : NodeV) (t : List Int) (o i : Nat) : Int := if n.kind = 9 then wgt9 o i else wgtI n t o i
theorem rowW_length (n : NodeV) (t : List Int) (o : Nat) : (rowW n t o).length = (entries t).toNat := by simp [rowW]
theorem rowW_take {n : NodeV} {t : List Int} {o i : Nat} (h : i < (entries t).toNat) : (rowW n t o).take (i + 1) = (rowW n t o).take i ++ [wgtR n t o i] := by
  rw [List.take_succ_eq_append_getElem (by rw [rowW_length]; exact h)]
  simp [rowW, wgtR]
theorem getD_i64 {l : List Int} (h : ∀ x ∈ l, i64 x) (k : Nat) : i64 (l.getD k 0) := by
  rcases Nat.lt_or_ge k l.length with g | g
  · have e : l.getD k 0 = l[k] := by simp [List.getD, g]
    rw [e]; exact h _ (List.getElem_mem g)
  · have e : l.getD k 0 = 0 := by simp [List.getD, g]
    rw [e]; exact ⟨by decide, by decide⟩
theorem wgtR_i64 {n : NodeV} (hd : ∀ x ∈ n.data.xs, i64 x) (t : List Int) (o i : Nat) : i64 (wgtR n t o i) := by
  have z : i64 0 := ⟨by decide, by decide⟩
  have one : i64 1 := ⟨by decide, by decide⟩
  unfold wgtR wgt9 wgtI
  split
  · split <;> assumption
  · split
    · exact getD_i64 hd _
    · split
      · simp only
        split
        · exact z
        · exact getD_i64 hd _
      · split <;> assumption
theorem biasI_i64 {n : NodeV} (hb : ∀ x ∈ n.bias.xs, i64 x) (cnt o : Nat) : i64 (biasI n cnt o) := by
  unfold biasI
  split
  · exact getD_i64 hb _
  · split
    · exact getD_i64 hb _
    · exact ⟨by decide, by decide⟩
structure RowsPre (n : NodeV) (t : List Int) (cnt o i : Nat) (L : List DCell) : Prop where
  len : L.length = cnt
  each : ∀ p ∈ L, RIs p
  fits : ∀ p ∈ L, (∀ x ∈ p.2, i64 x) ∧ p.2.length ≤ 1000000
  is : ∀ k, k < cnt → (L.map Prod.snd).getD k [] = if k < o then rowW n t k else if k = o then (rowW n t o).take i else []
theorem RowsPre.start (n : NodeV) (t : List Int) (cnt : Nat) : RowsPre n t cnt 0 0 (nilD cnt) := ⟨by simp [nilD], fun p hp => .inl (by rw [(List.mem_replicate.1 hp).2]; exact ⟨rfl, rfl⟩), fun p hp => by rw [(List.mem_replicate.1 hp).2]; exact ⟨fun x hx => (by cases hx), Nat.zero_le _⟩, fun k hk => by
  rw [nilD_snd]
  simp only [List.getD, List.getElem?_replicate]
  simp [hk]⟩
theorem RowsPre.next {n : NodeV} {t : List Int} {cnt o : Nat} {L : List DCell} (h : RowsPre n t cnt o (entries t).toNat L) : RowsPre n t cnt (o + 1) 0 L := ⟨h.len, h.each, h.fits, fun k hk => by
  rw [h.is k hk]
  by_cases g : k < o
  · rw [if_pos g, if_pos (by omega)]
  · rw [if_neg g]
    by_cases g2 : k = o
    · rw [if_pos g2, if_pos (by omega), g2, List.take_of_length_le (by rw [rowW_length]; exact Nat.le_refl _)]
    · rw [if_neg g2, if_neg (by omega)]; simp⟩
theorem RowsPre.push {n : NodeV} {t : List Int} {cnt o i : Nat} {L : List DCell} {q : DCell} {l' : SX.Loc} (h : RowsPre n t cnt o i L) (hd : ∀ x ∈ n.data.xs, i64 x) (hi : i < (entries t).toNat) (hi64 : i ≤ 64) (hq : L[o]? = some q) (hl : ∃ b off, l'.base = some ⟨b, off, none⟩) (hcap : q.2.length + 1 ≤ l'.cap) : RowsPre n t cnt o (i + 1) (L.set o (l', q.2 ++ [wgtR n t o i])) := by
  have ho : o < L.length := (List.getElem?_eq_some_iff.1 hq).1
  have hq2 : q.2 = (rowW n t o).take i := by
    have := h.is o (by rw [← h.len]; exact ho)
    rw [snd_getD hq, if_neg (Nat.lt_irrefl o), if_pos rfl] at this
    exact this
  have hql : q.2.length = i := by rw [hq2, List.length_take, rowW_length]; omega
  refine ⟨by rw [List.length_set]; exact h.len, fun p hp => ?_, fun p hp => ?_, fun k hk => ?_⟩
  · rcases List.mem_or_eq_of_mem_set hp with hp | hp
    · exact h.each p hp
    · rw [hp]; exact .inr ⟨hl, by simp, by simpa using hcap⟩
  · rcases List.mem_or_eq_of_mem_set hp with hp | hp
    · exact h.fits p hp
    · rw [hp]
      refine ⟨fun x hx => ?_, by simp; omega⟩
      rcases List.mem_append.1 hx with hx | hx
      · exact (h.fits q (List.mem_of_getElem? hq)).1 x hx
      · rw [List.mem_singleton.1 hx]; exact wgtR_i64 hd t o i
  · rw [List.map_set]
    by_cases e : o = k
    · subst e
      rw [if_neg (Nat.lt_irrefl o), if_pos rfl, rowW_take hi, ← hq2]
      simp [List.getD, ho]
    · have := h.is k hk
      have e2 : ((L.map Prod.snd).set o (l', q.2 ++ [wgtR n t o i]).2).getD k [] = (L.map Prod.snd).getD k [] := by simp [List.getD, List.getElem?_set_ne e]
      rw [e2, this]
      by_cases g : k < o
      · rw [if_pos g, if_pos g]
      · rw [if_neg g, if_neg g, if_neg (fun e' => e e'.symm), if_neg (fun e' => e e'.symm)]
structure BiasPre (n : NodeV) (cnt o : Nat) (bs : List Int) : Prop where
  len : bs.length = cnt
  is : ∀ k, k < cnt → bs.getD k 0 = if k < o then biasI n cnt k else 0
theorem BiasPre.next {n : NodeV} {cnt o : Nat} {bs : List Int} (h : BiasPre n cnt o bs) (ho : o < cnt) : BiasPre n cnt (o + 1) (bs.set o (biasI n cnt o)) := by
  refine ⟨by rw [List.length_set]; exact h.len, fun k hk => ?_⟩
  by_cases e : o = k
  · subst e
    rw [if_pos (Nat.lt_succ_self o)]
    simp [List.getD, h.len, ho]
  · have := h.is k hk
    have e2 : (bs.set o (biasI n cnt o)).getD k 0 = bs.getD k 0 := by simp [List.getD, List.getElem?_set_ne e]
    rw [e2, this]
    by_cases g : k < o
    · rw [if_pos g, if_pos (by omega)]
    · rw [if_neg g, if_neg (by omega)]
theorem BiasPre.done {n : NodeV} {cnt : Nat} {bs : List Int} (h : BiasPre n cnt cnt bs) : bs = (List.range cnt).map (biasI n cnt) := by
  apply List.ext_getElem
  · simp [h.len]
  · intro k h1 h2
    have hk : k < cnt := by rw [← h.len]; exact h1
    have := h.is k hk
    rw [if_pos hk] at this
    simp [List.getD, h1] at this
    simp [this]
theorem RowsPre.done {n : NodeV} {t : List Int} {cnt : Nat} {L : List DCell} (h : RowsPre n t cnt cnt 0 L) : L.map Prod.snd = rowsW n t cnt := by
  apply List.ext_getElem
  · simp [rowsW, h.len]
  · intro k h1 h2
    have hk : k < cnt := by rw [← h.len]; simpa using h1
    have := h.is k hk
    rw [if_pos hk] at this
    have e : (rowsW n t cnt)[k] = rowW n t k := by simp [rowsW]
    rw [e, ← this]
    simp [List.getD, h.len, hk]
set_option maxRecDepth 20000 in
set_option maxHeartbeats 8000000 in
theorem rowsLin_ok (w : World) (n : NodeV) (t : IntsV) (hn : n.ok w) (hsm : n.small) (ht : t.ok w) (hok : okRows n t) : Calls Tryz.prog 63 #[n.valA, t.val] w (RowsPost w (rowsR n t)) := by
  obtain ⟨s, hsh, hcs, hR⟩ := rows_in hok
  have hcnt := hR.place.few
  have hsz := hR.size
  have heb := (entries_bd t.xs).2
  rw [rowsR, if_pos hok]
  obtain ⟨cnt, hce⟩ : ∃ c, cntR n t = c := ⟨_, rfl⟩
  rw [hce] at hcs hR hcnt ⊢
  obtain ⟨E, hE⟩ : ∃ E : Nat, entries t.xs = E := ⟨(entries t.xs).toNat, by omega⟩
  have ha := hok.2.1
  have hk := hok.1
  have hkk := hk
  unfold isLin at hk
  refine calls_of tab tabOk Tryz.func63 rfl rfl rfl [] (fun _ => ⟨none, 0⟩) [.agg [.c (.int .i64 n.kind), .c (.int .i64 n.a), .c (.int .i64 n.b), .c n.shape.val, .c (.int .i64 n.lo), .c (.int .i64 n.hi), .c (.int .i64 n.size), .c n.data.val, .c n.bias.val], .c t.val] [] (baseA w) 0 rfl rfl (by show 2 ≤ _; decide) (abs_base w) ?_
  (repeat' ((conv => whnf) <;> first | (show drawK _ 14 _ _ _ _ _ _; refine draw_tree tabOk mixed [] _ dtMN0 (by kernel_rfl) (by kernel_rfl) (by kernel_rfl) (List.Sublist.refl _) ?_) | (show drawK _ 22 _ _ _ _ _ _; refine draw_tree tabOk mixed [13] _ dtMN1 (by kernel_rfl) (by kernel_rfl) (by kernel_rfl) (List.Sublist.refl _) ?_) | (show Wp _ _ _ _ _ _ _; refine Wp.go tabOk rfl ?_) | (show @cmpK _ _ _; (first | refine cmpY ?_ | refine cmpN ?_ | (refine cmp_both ?_ ?_ <;> intro _))) | (show wrapK _ _ _; refine wrapA ?_) | (show leK _ _ _; refine leA ?_) | (show roomK _ _ _; refine roomA ?_) | (show ltK _ _ _; refine ltA ?_) | (show _ ∧ _; refine ⟨?_, ?_⟩) | (show keepK _ _ _ _ _; refine keepA ?_) | refine ap_old ?_))
  all_goals first | (exfalso; omega) | skip
  all_goals
    (repeat' ((conv => whnf) <;> first | (show drawK _ 14 _ _ _ _ _ _; refine draw_tree tabOk mixed [] _ dtMN0 (by kernel_rfl) (by kernel_rfl) (by kernel_rfl) (List.Sublist.refl _) ?_) | (show drawK _ 22 _ _ _ _ _ _; refine draw_tree tabOk mixed [13] _ dtMN1 (by kernel_rfl) (by kernel_rfl) (by kernel_rfl) (List.Sublist.refl _) ?_) | (show Wp _ _ _ _ _ _ _; refine Wp.go tabOk rfl ?_) | (show @cmpK _ _ _; (first | refine cmpY ?_ | refine cmpN ?_ | (refine cmp_both ?_ ?_ <;> intro _))) | (show wrapK _ _ _; refine wrapA ?_) | (show leK _ _ _; refine leA ?_) | (show roomK _ _ _; refine roomA ?_) | (show ltK _ _ _; refine ltA ?_) | (show _ ∧ _; refine ⟨?_, ?_⟩) | (show keepK _ _ _ _ _; refine keepA ?_) | refine ap_old ?_))
    refine own_freeze 0 (fun _ _ _ _ hb => absurd hb (Nat.not_lt_zero _)) (fun l1 hl1 => ?_)
    (repeat' ((conv => whnf) <;> first | (show callK _ 24 _ _ _ _ _; (refine call_check3 (f := 24) (chk2 n t) Tryz.call24 (fun ρ w' hw => by have := check_any w' ⟨l1.base, l1.cap, [inpN t, n], 1⟩ (holds_of_abs hw fun R h => g2n_ok (hn.later h.1) hsm (ht.later h.1) h.2); rw [chk2_eq] at this; exact this) (fun hne => absurd hok.2.2 hne) (fun he sv hm hsv hsb => ?_))) | (show @cmpK _ _ _; (first | refine cmp_yes (by omega) ?_ | refine cmp_no (fun h => h rfl) ?_ | refine cmp_no (fun h => h ha) ?_)) | (show drawK _ 14 _ _ _ _ _ _; refine draw_tree tabOk mixed [] _ dtMN0 (by kernel_rfl) (by kernel_rfl) (by kernel_rfl) (List.Sublist.refl _) ?_) | (show drawK _ 22 _ _ _ _ _ _; refine draw_tree tabOk mixed [13] _ dtMN1 (by kernel_rfl) (by kernel_rfl) (by kernel_rfl) (List.Sublist.refl _) ?_) | (show Wp _ _ _ _ _ _ _; refine Wp.go tabOk rfl ?_) | (show @cmpK _ _ _; (first | refine cmpY ?_ | refine cmpN ?_ | (refine cmp_both ?_ ?_ <;> intro _))) | (show wrapK _ _ _; refine wrapA ?_) | (show leK _ _ _; refine leA ?_) | (show roomK _ _ _; refine roomA ?_) | (show ltK _ _ _; refine ltA ?_) | (show _ ∧ _; refine ⟨?_, ?_⟩) | (show keepK _ _ _ _ _; refine keepA ?_) | refine ap_old ?_))
    rw [hsh] at hm
    obtain ⟨vb, vc, vl⟩ := sv
    obtain ⟨u0, u1, rfl, hu0, hu1⟩ : ∃ u v, vl = [u, v] ∧ u.xs = t.xs ∧ v.xs = s := by
      have h2 : vl.length = 2 := by have := congrArg List.length hm; simpa using this
      match vl, h2, hm with
      | [u, v], _, h => exact ⟨u, v, rfl, by simpa using (List.cons.inj h).1, by simpa using (List.cons.inj (List.cons.inj h).2).1⟩
    obtain ⟨va, rfl⟩ : ∃ a, vb = some a := hsb (show 0 < 2 by decide)
    (repeat' ((conv => whnf) <;> first | (show idxK _ _ _ _ _; refine idx_of va 1 rfl rfl (show 1 < 2 by decide) ?_) | (show roK _ _ _; refine ro_row0 (fun R w' h => rowsA_in h.2.1) [u1.val] u1.val rfl rfl ?_) | (show callK _ 61 _ _ _ _ _; (refine call_pure (f := 61) Tryz.call61 (.int .i64 (cnt : Nat)) (fun ρ w' hw => by have := entries_any w' u1.base u1.cap u1.xs (holds_of_abs hw fun R h => rowsA_in (h.2.2 u1 (by repeat (first | exact List.mem_cons_self | apply List.mem_cons_of_mem)))); rw [show entries u1.xs = (cnt : Int) by rw [hu1]; exact hcs] at this; exact this) ?_)) | (show makeK _ _ _ _; (first | refine make_of cnt rfl rfl (by show 24 * _ ≤ _; omega) (by omega) ?_ | refine make_of cnt rfl rfl (by show 8 * _ ≤ _; omega) (by omega) ?_)) | (show drawK _ 14 _ _ _ _ _ _; refine draw_tree tabOk mixed [] _ dtMN0 (by kernel_rfl) (by kernel_rfl) (by kernel_rfl) (List.Sublist.refl _) ?_) | (show drawK _ 22 _ _ _ _ _ _; refine draw_tree tabOk mixed [13] _ dtMN1 (by kernel_rfl) (by kernel_rfl) (by kernel_rfl) (List.Sublist.refl _) ?_) | (show Wp _ _ _ _ _ _ _; refine Wp.go tabOk rfl ?_) | (show @cmpK _ _ _; (first | refine cmpY ?_ | refine cmpN ?_ | (refine cmp_both ?_ ?_ <;> intro _))) | (show wrapK _ _ _; refine wrapA ?_) | (show leK _ _ _; refine leA ?_) | (show roomK _ _ _; refine roomA ?_) | (show ltK _ _ _; refine ltA ?_) | (show _ ∧ _; refine ⟨?_, ?_⟩) | (show keepK _ _ _ _ _; refine keepA ?_) | refine own_keep ?_ | refine ap_old ?_))
    all_goals (conv => whnf)
  all_goals
    refine Wp.grp 3 cnt ?_
    first
    | refine Wp.loop (σ := Nat × List DCell × List Int) 9 (fun x => [(1, .c t.val), (10, .lp 3 0 0 0), (11, .fn (.func 124) [.agg [.c (.int .i64 n.kind), .c (.int .i64 n.a), .c (.int .i64 n.b), .c n.shape.val, .c (.int .i64 n.lo), .c (.int .i64 n.hi), .c (.int .i64 n.size), .c n.data.val, .c n.bias.val, .c t.val]] []), (12, .c (.int .i64 (cnt : Nat))), (13, .os 7 cnt), (14, .os 8 cnt), (55, .c (.int .i64 (cnt : Nat))), (56, .c (.int .i64 x.1))]) (fun x => [(3, .box [.c (.int .i64 n.kind), .c (.int .i64 n.a), .c (.int .i64 n.b), .c n.shape.val, .c (.int .i64 n.lo), .c (.int .i64 n.hi), .c (.int .i64 n.size), .c n.data.val, .c n.bias.val, .c t.val] 158), (7, .rows (dRows x.2.1) 1 32), (6, .ext (grpO 3 (dGrp x.2.1))), (8, .rows (ints x.2.2) 1 3)]) (fun _ => baseA w)
        (fun x => x.1 ≤ cnt ∧ RowsPre n t.xs cnt x.1 0 x.2.1 ∧ BiasPre n cnt x.1 x.2.2) (fun x => cnt - x.1) (0, nilD cnt, List.replicate cnt 0) [(7, some 5), (8, some 4)] (by decide) (fun _ => ⟨rfl, rfl⟩)
        ⟨Nat.zero_le _, RowsPre.start n t.xs cnt, by simp, fun k hk => by simp only [List.getD, List.getElem?_replicate]; simp [hk]⟩ ⟨rfl, ⟨rfl, rfl, rfl, rfl, rfl, rfl, rfl, rfl, trivial⟩, ?_, fun _ _ h => h.1.1⟩ ?_
    | refine Wp.loop (σ := Nat × List DCell × List Int) 9 (fun x => [(1, .c t.val), (10, .lp 3 0 0 0), (11, .fn (.func 124) [.agg [.c (.int .i64 n.kind), .c (.int .i64 n.a), .c (.int .i64 n.b), .c n.shape.val, .c (.int .i64 n.lo), .c (.int .i64 n.hi), .c (.int .i64 n.size), .c n.data.val, .c n.bias.val, .c t.val]] []), (12, .c (.int .i64 (cnt : Nat))), (13, .os 7 cnt), (14, .os 8 cnt), (55, .c (.int .i64 (cnt : Nat))), (56, .c (.int .i64 x.1))]) (fun x => [(3, .box [.c (.int .i64 n.kind), .c (.int .i64 n.a), .c (.int .i64 n.b), .c n.shape.val, .c (.int .i64 n.lo), .c (.int .i64 n.hi), .c (.int .i64 n.size), .c n.data.val, .c n.bias.val, .c t.val] 158), (7, .rows (dRows x.2.1) 1 32), (6, .ext (grpO 3 (dGrp x.2.1))), (8, .rows (ints x.2.2) 1 3)]) (fun _ => baseA w)
        (fun x => x.1 ≤ cnt ∧ RowsPre n t.xs cnt x.1 0 x.2.1 ∧ BiasPre n cnt x.1 x.2.2) (fun x => cnt - x.1) (0, nilD cnt, List.replicate cnt 0) [(7, some 4), (8, some 5)] (by decide) (fun _ => ⟨rfl, rfl⟩)
        ⟨Nat.zero_le _, RowsPre.start n t.xs cnt, by simp, fun k hk => by simp only [List.getD, List.getElem?_replicate]; simp [hk]⟩ ⟨rfl, ⟨rfl, rfl, rfl, rfl, rfl, rfl, rfl, rfl, trivial⟩, ?_, fun _ _ h => h.1.1⟩ ?_
    · show heapInto _ _ [(3, .box [.c (.int .i64 n.kind), .c (.int .i64 n.a), .c (.int .i64 n.b), .c n.shape.val, .c (.int .i64 n.lo), .c (.int .i64 n.hi), .c (.int .i64 n.size), .c n.data.val, .c n.bias.val, .c t.val] 158), (7, .rows (dRows (nilD cnt)) 1 32), (6, .ext (grpO 3 (dGrp (nilD cnt)))), (8, .rows (ints (List.replicate cnt 0)) 1 3)]
      rw [dRows_nil, dGrp_nil, show ints (List.replicate cnt 0) = List.replicate cnt [Value.int .i64 0] by simp [ints]]
      exact ⟨(by repeat (first | exact List.mem_cons_self | apply List.mem_cons_of_mem)), (by repeat (first | exact List.mem_cons_self | apply List.mem_cons_of_mem)), (by repeat (first | exact List.mem_cons_self | apply List.mem_cons_of_mem)), (by repeat (first | exact List.mem_cons_self | apply List.mem_cons_of_mem)), trivial⟩
    rintro ⟨o, L, bs⟩ ⟨ho, hL, hB⟩
    dsimp only at ho hL hB
    by_cases hoc : o < cnt
    · have hwb : ∀ (w' : World), n.ok w' → Calls Tryz.prog 125 #[weigherV n t, .int .i64 o, .int .i64 cnt] w' fun e w2 => e = .returned (.int .i64 (biasI n cnt o)) ∧ Ext w' w2 := fun w' hn' => bias_of w' n t s cnt hR hn' o hoc
      (repeat' ((conv => whnf) <;> first | (show callK _ 125 _ _ _ _ _; refine call_pure (f := 125) Tryz.call125 (.int .i64 (biasI n cnt o)) (fun ρ w' hw => hwb w' (holds_of_abs hw fun R h => hn.later h)) ?_) | (show idxRowK _ _ _ _ _ _; (refine idxRow_of o rfl hoc (Nat.le_of_eq (by rw [ints_length]; exact hB.len.symm)) ?_)) | (show rowStoreK _ _ _ _ _; refine ints_storeM (Nat.lt_of_lt_of_eq hoc hB.len.symm) ?_) | (show callK _ 61 _ _ _ _ _; (refine call_pure (f := 61) Tryz.call61 (.int .i64 (E : Nat)) (fun ρ w' hw => by have := entries_any w' t.base t.cap t.xs (holds_of_abs hw fun R h => rows_base h ht.rows); rw [hE] at this; exact this) ?_)) | (show drawK _ 14 _ _ _ _ _ _; refine draw_tree tabOk mixed [] _ dtMN0 (by kernel_rfl) (by kernel_rfl) (by kernel_rfl) (List.Sublist.refl _) ?_) | (show drawK _ 22 _ _ _ _ _ _; refine draw_tree tabOk mixed [13] _ dtMN1 (by kernel_rfl) (by kernel_rfl) (by kernel_rfl) (List.Sublist.refl _) ?_) | (show Wp _ _ _ _ _ _ _; refine Wp.go tabOk rfl ?_) | (show @cmpK _ _ _; (first | refine cmpY ?_ | refine cmpN ?_ | (refine cmp_both ?_ ?_ <;> intro _))) | (show wrapK _ _ _; refine wrapA ?_) | (show leK _ _ _; refine leA ?_) | (show roomK _ _ _; refine roomA ?_) | (show ltK _ _ _; refine ltA ?_) | (show _ ∧ _; refine ⟨?_, ?_⟩) | (show keepK _ _ _ _ _; refine keepA ?_) | refine own_keep ?_ | refine ap_old ?_))
      all_goals (conv => whnf)
      have hB' := hB.next hoc
      clear hB
      obtain ⟨bs', hbs⟩ : ∃ b, bs.set o (biasI n cnt o) = b := ⟨_, rfl⟩
      rw [hbs] at hB' ⊢
      have hEt : (entries t.xs).toNat = E := by rw [hE]; rfl
      refine Wp.loop (σ := Nat × List DCell) 9 (fun x => [(1, .c t.val), (10, .lp 3 0 0 0), (11, .fn (.func 124) [.agg [.c (.int .i64 n.kind), .c (.int .i64 n.a), .c (.int .i64 n.b), .c n.shape.val, .c (.int .i64 n.lo), .c (.int .i64 n.hi), .c (.int .i64 n.size), .c n.data.val, .c n.bias.val, .c t.val]] []), (12, .c (.int .i64 (cnt : Nat))), (13, .os 7 cnt), (14, .os 8 cnt), (55, .c (.int .i64 (cnt : Nat))), (56, .c (.int .i64 o)), (15, .c (.int .i64 o)), (67, .c (.int .i64 (E : Nat))), (68, .c (.int .i64 x.1))]) (fun x => [(3, .box [.c (.int .i64 n.kind), .c (.int .i64 n.a), .c (.int .i64 n.b), .c n.shape.val, .c (.int .i64 n.lo), .c (.int .i64 n.hi), .c (.int .i64 n.size), .c n.data.val, .c n.bias.val, .c t.val] 158), (7, .rows (dRows x.2) 1 32), (6, .ext (grpO 3 (dGrp x.2))), (8, .rows (ints bs') 1 3)]) (fun _ => baseA w)
        (fun x => x.1 ≤ E ∧ RowsPre n t.xs cnt o x.1 x.2) (fun x => E - x.1) (0, L) [] (by decide) (fun _ => ⟨rfl, rfl⟩) ⟨Nat.zero_le _, hL⟩ ⟨rfl, ⟨rfl, rfl, rfl, rfl, rfl, rfl, rfl, rfl, rfl, rfl, rfl, trivial⟩, ⟨(by repeat (first | exact List.mem_cons_self | apply List.mem_cons_of_mem)), (by repeat (first | exact List.mem_cons_self | apply List.mem_cons_of_mem)), (by repeat (first | exact List.mem_cons_self | apply List.mem_cons_of_mem)), (by repeat (first | exact List.mem_cons_self | apply List.mem_cons_of_mem)), trivial⟩, fun _ _ h => h⟩ ?_
      clear hL
      rintro ⟨i, M⟩ ⟨hi, hM⟩
      dsimp only at hi hM
      by_cases hiE : i < E
      · have hww : ∀ (w' : World), n.ok w' → t.ok w' → Calls Tryz.prog 124 #[weigherV n t, .int .i64 o, .int .i64 i] w' fun e w2 => e = .returned (.int .i64 (wgtR n t.xs o i)) ∧ Ext w' w2 := fun w' hn' ht' => weight_any w' n t s cnt hR hn' ht' o i hoc (by rw [hE]; omega)
        have hoM : o < M.length := by rw [hM.len]; exact hoc
        have hdl := dRows_length M
        obtain ⟨q, hq⟩ : ∃ q, M[o]? = some q := ⟨_, List.getElem?_eq_getElem hoM⟩
        have hqm := List.mem_of_getElem? hq
        have hq2 : q.2 = (rowW n t.xs o).take i := by
          have := hM.is o hoc
          rw [snd_getD hq, if_neg (Nat.lt_irrefl o), if_pos rfl] at this
          exact this
        have hql : q.2.length = i := by rw [hq2, List.length_take, rowW_length]; omega
        have hpush := fun l' => hM.push (l' := l') hn.data.fits (by rw [hEt]; exact hiE) (by omega) hq
        rcases hM.each q hqm with ⟨e1, e2⟩ | ⟨⟨b, off, e1⟩, e2, e3⟩
        · obtain ⟨ql, qv⟩ := q
          simp only at e1 e2
          subst e1 e2
          (repeat' ((conv => whnf) <;> first | (show drawK _ 22 _ _ _ _ _ _; refine draw_tree tabOk mixed [13] _ dtMN1 (by kernel_rfl) (by kernel_rfl) (by kernel_rfl) (List.Sublist.cons_cons _ (List.Sublist.cons_cons _ (List.Sublist.cons _ (List.Sublist.refl _)))) ?_) | (show keepK _ _ _ _ _; (first | refine keep_of (List.Sublist.cons _ (List.Sublist.cons_cons _ (List.Sublist.cons_cons _ (List.Sublist.cons _ (List.Sublist.refl _))))) (fun _ _ h => h) ?_ | refine keep_of (List.Sublist.cons_cons _ (List.Sublist.cons_cons _ (List.Sublist.cons _ (List.Sublist.refl _)))) (fun _ _ h => h) ?_)) | (show callK _ 124 _ _ _ _ _; refine call_pure (f := 124) Tryz.call124 (.int .i64 (wgtR n t.xs o i)) (fun ρ w' hw => hww w' (holds_of_abs hw fun R h => hn.later h) (holds_of_abs hw fun R h => ht.later h)) ?_) | (show idxRowK _ _ _ _ _ _; refine idxRow_of o rfl hoc (Nat.le_of_eq (hdl.trans hM.len).symm) ?_) | (show rowK _ _ _ _; refine row_of _ _ (dRows_get hq) rfl ?_) | (show drawK _ 14 _ _ _ _ _ _; refine draw_tree tabOk mixed [] _ dtMN0 (by kernel_rfl) (by kernel_rfl) (by kernel_rfl) (List.Sublist.refl _) ?_) | (show Wp _ _ _ _ _ _ _; refine Wp.go tabOk rfl ?_) | (show @cmpK _ _ _; (first | refine cmpY ?_ | refine cmpN ?_ | (refine cmp_both ?_ ?_ <;> intro _))) | (show wrapK _ _ _; refine wrapA ?_) | (show leK _ _ _; refine leA ?_) | (show roomK _ _ _; refine roomA ?_) | (show ltK _ _ _; refine ltA ?_) | (show _ ∧ _; refine ⟨?_, ?_⟩) | (show keepK _ _ _ _ _; refine keepA ?_) | refine ap_old ?_))
          refine own_keep ?_
          (repeat' ((conv => whnf) <;> first | (show drawK _ 22 _ _ _ _ _ _; refine draw_tree tabOk mixed [13] _ dtMN1 (by kernel_rfl) (by kernel_rfl) (by kernel_rfl) (List.Sublist.cons_cons _ (List.Sublist.cons_cons _ (List.Sublist.cons _ (List.Sublist.refl _)))) ?_) | (show keepK _ _ _ _ _; (first | refine keep_of (List.Sublist.cons _ (List.Sublist.cons_cons _ (List.Sublist.cons_cons _ (List.Sublist.cons _ (List.Sublist.refl _))))) (fun _ _ h => h) ?_ | refine keep_of (List.Sublist.cons_cons _ (List.Sublist.cons_cons _ (List.Sublist.cons _ (List.Sublist.refl _)))) (fun _ _ h => h) ?_)) | (show leK _ _ _; refine le_of (Nat.le_refl _) ?_) | (show roomK _ _ _; refine room_of (show 1 * 8 ≤ 140737488355328 by decide) ?_) | (show drawK _ 14 _ _ _ _ _ _; refine draw_tree tabOk mixed [] _ dtMN0 (by kernel_rfl) (by kernel_rfl) (by kernel_rfl) (List.Sublist.refl _) ?_) | (show Wp _ _ _ _ _ _ _; refine Wp.go tabOk rfl ?_) | (show @cmpK _ _ _; (first | refine cmpY ?_ | refine cmpN ?_ | (refine cmp_both ?_ ?_ <;> intro _))) | (show wrapK _ _ _; refine wrapA ?_) | (show leK _ _ _; refine leA ?_) | (show roomK _ _ _; refine roomA ?_) | (show ltK _ _ _; refine ltA ?_) | (show _ ∧ _; refine ⟨?_, ?_⟩) | (show keepK _ _ _ _ _; refine keepA ?_) | refine ap_old ?_))
          all_goals (conv => whnf)
          refine own_group (T := 3) (g := 6) (d := o) (us := []) (l0 := ⟨none, 0⟩) (L := dGrp M) (vs := [.int .i64 (wgtR n t.xs o i)]) ?_ (dGrp_get hq) rfl rfl rfl Nat.zero_lt_one (fun l' hlc hlb => ?_)
          · exact (by repeat (first | exact List.mem_cons_self | apply List.mem_cons_of_mem))
          have hp := hpush l' hlb hlc
          have er : dRows (M.set o (l', [] ++ [wgtR n t.xs o i])) = (dRows M).set o [.slice l'.base 1 l'.cap] := by rw [dRows_set]; rfl
          have eg : dGrp (M.set o (l', [] ++ [wgtR n t.xs o i])) = (dGrp M).set o (l', [.int .i64 (wgtR n t.xs o i)]) := by rw [dGrp_set]; rfl
          (repeat' ((conv => whnf) <;> first | (show drawK _ 22 _ _ _ _ _ _; refine draw_tree tabOk mixed [13] _ dtMN1 (by kernel_rfl) (by kernel_rfl) (by kernel_rfl) (List.Sublist.cons_cons _ (List.Sublist.cons_cons _ (List.Sublist.cons _ (List.Sublist.refl _)))) ?_) | (show keepK _ _ _ _ _; (first | refine keep_of (List.Sublist.cons _ (List.Sublist.cons_cons _ (List.Sublist.cons_cons _ (List.Sublist.cons _ (List.Sublist.refl _))))) (fun _ _ h => h) ?_ | refine keep_of (List.Sublist.cons_cons _ (List.Sublist.cons_cons _ (List.Sublist.cons _ (List.Sublist.refl _)))) (fun _ _ h => h) ?_)) | (show rowStoreK _ _ _ _ _; (refine rowStore_of _ (dRows_get hq) (by show 0 + 1 ≤ 1; omega) ?_)) | (show idxRowK _ _ _ _ _ _; refine idxRow_of o rfl hoc (Nat.le_of_eq (hdl.trans hM.len).symm) ?_) | (show drawK _ 14 _ _ _ _ _ _; refine draw_tree tabOk mixed [] _ dtMN0 (by kernel_rfl) (by kernel_rfl) (by kernel_rfl) (List.Sublist.refl _) ?_) | (show Wp _ _ _ _ _ _ _; refine Wp.go tabOk rfl ?_) | (show @cmpK _ _ _; (first | refine cmpY ?_ | refine cmpN ?_ | (refine cmp_both ?_ ?_ <;> intro _))) | (show wrapK _ _ _; refine wrapA ?_) | (show leK _ _ _; refine leA ?_) | (show roomK _ _ _; refine roomA ?_) | (show ltK _ _ _; refine ltA ?_) | (show _ ∧ _; refine ⟨?_, ?_⟩) | (show keepK _ _ _ _ _; refine keepA ?_) | refine own_keep ?_ | refine ap_old ?_))
          all_goals (conv => whnf)
          refine ⟨(i + 1, M.set o (l', [] ++ [wgtR n t.xs o i])), [], ⟨hiE, hp⟩, by show E - (i + 1) < E - i; omega, rfl, ⟨rfl, rfl, rfl, rfl, rfl, rfl, rfl, rfl, rfl, rfl, rfl, trivial⟩, ?_, fun _ _ h => h⟩
          show heapInto [] _ [(3, .box [.c (.int .i64 n.kind), .c (.int .i64 n.a), .c (.int .i64 n.b), .c n.shape.val, .c (.int .i64 n.lo), .c (.int .i64 n.hi), .c (.int .i64 n.size), .c n.data.val, .c n.bias.val, .c t.val] 158), (7, .rows (dRows (M.set o (l', [] ++ [wgtR n t.xs o i]))) 1 32), (6, .ext (grpO 3 (dGrp (M.set o (l', [] ++ [wgtR n t.xs o i]))))), (8, .rows (ints bs') 1 3)]
          rw [eg, er]
          exact ⟨(by repeat (first | exact List.mem_cons_self | apply List.mem_cons_of_mem)), (by repeat (first | exact List.mem_cons_self | apply List.mem_cons_of_mem)), (by repeat (first | exact List.mem_cons_self | apply List.mem_cons_of_mem)), (by repeat (first | exact List.mem_cons_self | apply List.mem_cons_of_mem)), trivial⟩
        · obtain ⟨ql, qv⟩ := q
          simp only at e1 e2 e3 hql
          have hrow : (dRows M)[o]? = some [.slice (some ⟨b, off, none⟩) i ql.cap] := by rw [dRows_get hq, dRow, e1, hql]
          (repeat' ((conv => whnf) <;> first | (show drawK _ 22 _ _ _ _ _ _; refine draw_tree tabOk mixed [13] _ dtMN1 (by kernel_rfl) (by kernel_rfl) (by kernel_rfl) (List.Sublist.cons_cons _ (List.Sublist.cons_cons _ (List.Sublist.cons _ (List.Sublist.refl _)))) ?_) | (show keepK _ _ _ _ _; (first | refine keep_of (List.Sublist.cons _ (List.Sublist.cons_cons _ (List.Sublist.cons_cons _ (List.Sublist.cons _ (List.Sublist.refl _))))) (fun _ _ h => h) ?_ | refine keep_of (List.Sublist.cons_cons _ (List.Sublist.cons_cons _ (List.Sublist.cons _ (List.Sublist.refl _)))) (fun _ _ h => h) ?_)) | (show callK _ 124 _ _ _ _ _; refine call_pure (f := 124) Tryz.call124 (.int .i64 (wgtR n t.xs o i)) (fun ρ w' hw => hww w' (holds_of_abs hw fun R h => hn.later h) (holds_of_abs hw fun R h => ht.later h)) ?_) | (show idxRowK _ _ _ _ _ _; refine idxRow_of o rfl hoc (Nat.le_of_eq (hdl.trans hM.len).symm) ?_) | (show rowK _ _ _ _; refine row_of _ _ hrow rfl ?_) | (show drawK _ 14 _ _ _ _ _ _; refine draw_tree tabOk mixed [] _ dtMN0 (by kernel_rfl) (by kernel_rfl) (by kernel_rfl) (List.Sublist.refl _) ?_) | (show Wp _ _ _ _ _ _ _; refine Wp.go tabOk rfl ?_) | (show @cmpK _ _ _; (first | refine cmpY ?_ | refine cmpN ?_ | (refine cmp_both ?_ ?_ <;> intro _))) | (show wrapK _ _ _; refine wrapA ?_) | (show leK _ _ _; refine leA ?_) | (show roomK _ _ _; refine roomA ?_) | (show ltK _ _ _; refine ltA ?_) | (show _ ∧ _; refine ⟨?_, ?_⟩) | (show keepK _ _ _ _ _; refine keepA ?_)))
          all_goals (conv => whnf)
          refine own_keep ?_
          (repeat' ((conv => whnf) <;> first | (show drawK _ 22 _ _ _ _ _ _; refine draw_tree tabOk mixed [13] _ dtMN1 (by kernel_rfl) (by kernel_rfl) (by kernel_rfl) (List.Sublist.cons_cons _ (List.Sublist.cons_cons _ (List.Sublist.cons _ (List.Sublist.refl _)))) ?_) | (show keepK _ _ _ _ _; (first | refine keep_of (List.Sublist.cons _ (List.Sublist.cons_cons _ (List.Sublist.cons_cons _ (List.Sublist.cons _ (List.Sublist.refl _))))) (fun _ _ h => h) ?_ | refine keep_of (List.Sublist.cons_cons _ (List.Sublist.cons_cons _ (List.Sublist.cons _ (List.Sublist.refl _)))) (fun _ _ h => h) ?_)) | (show leK _ _ _; refine le_of (Nat.le_refl _) ?_) | (show drawK _ 14 _ _ _ _ _ _; refine draw_tree tabOk mixed [] _ dtMN0 (by kernel_rfl) (by kernel_rfl) (by kernel_rfl) (List.Sublist.refl _) ?_) | (show Wp _ _ _ _ _ _ _; refine Wp.go tabOk rfl ?_) | (show @cmpK _ _ _; (first | refine cmpY ?_ | refine cmpN ?_ | (refine cmp_both ?_ ?_ <;> intro _))) | (show wrapK _ _ _; refine wrapA ?_) | (show leK _ _ _; refine leA ?_) | (show roomK _ _ _; refine roomA ?_) | (show ltK _ _ _; refine ltA ?_) | (show _ ∧ _; refine ⟨?_, ?_⟩) | (show keepK _ _ _ _ _; refine keepA ?_)))
          all_goals (conv => whnf)
          obtain ⟨ii, hii, hi0, hi1, hi2⟩ := info_parts ap_info
          refine ⟨.inr ?_⟩
          refine ap_group (T := 3) (xe := 3) (g := 6) (d := o) (L := dGrp M) (l := ql) (vs := qv.map (Value.int .i64)) (v := .int .i64 (wgtR n t.xs o i)) (b := b) (off := off) (i := ii) (z := .int .i64 0) Tryz.underlying32 Tryz.underlying32 hii hi0 hi1 hi2 rfl ?_ (dGrp_get hq) e1 (by rw [List.length_map]; exact e3) (by rw [List.length_map]; omega) (fun u hu => by obtain ⟨x, _, rfl⟩ := List.mem_map.1 hu; rfl) rfl i (by rw [List.length_map]; exact hql.symm) ql.cap rfl (fun l' hlc hlb => ?_)
          · exact (by repeat (first | exact List.mem_cons_self | apply List.mem_cons_of_mem))
          rw [List.length_map] at hlc
          rw [List.length_map, hql]
          have hp := hpush l' hlb hlc
          have er : dRows (M.set o (l', qv ++ [wgtR n t.xs o i])) = (dRows M).set o [.slice l'.base (i + 1) l'.cap] := by rw [dRows_set]; simp [dRow, hql]
          have eg : dGrp (M.set o (l', qv ++ [wgtR n t.xs o i])) = (dGrp M).set o (l', qv.map (Value.int .i64) ++ [.int .i64 (wgtR n t.xs o i)]) := by rw [dGrp_set]; simp
          (repeat' ((conv => whnf) <;> first | (show drawK _ 22 _ _ _ _ _ _; refine draw_tree tabOk mixed [13] _ dtMN1 (by kernel_rfl) (by kernel_rfl) (by kernel_rfl) (List.Sublist.cons_cons _ (List.Sublist.cons_cons _ (List.Sublist.cons _ (List.Sublist.refl _)))) ?_) | (show keepK _ _ _ _ _; (first | refine keep_of (List.Sublist.cons _ (List.Sublist.cons_cons _ (List.Sublist.cons_cons _ (List.Sublist.cons _ (List.Sublist.refl _))))) (fun _ _ h => h) ?_ | refine keep_of (List.Sublist.cons_cons _ (List.Sublist.cons_cons _ (List.Sublist.cons _ (List.Sublist.refl _)))) (fun _ _ h => h) ?_)) | (show rowStoreK _ _ _ _ _; (refine rowStore_of _ (dRows_get hq) (by show 0 + 1 ≤ 1; omega) ?_)) | (show idxRowK _ _ _ _ _ _; refine idxRow_of o rfl hoc (Nat.le_of_eq (hdl.trans hM.len).symm) ?_) | (show drawK _ 14 _ _ _ _ _ _; refine draw_tree tabOk mixed [] _ dtMN0 (by kernel_rfl) (by kernel_rfl) (by kernel_rfl) (List.Sublist.refl _) ?_) | (show Wp _ _ _ _ _ _ _; refine Wp.go tabOk rfl ?_) | (show @cmpK _ _ _; (first | refine cmpY ?_ | refine cmpN ?_ | (refine cmp_both ?_ ?_ <;> intro _))) | (show wrapK _ _ _; refine wrapA ?_) | (show leK _ _ _; refine leA ?_) | (show roomK _ _ _; refine roomA ?_) | (show ltK _ _ _; refine ltA ?_) | (show _ ∧ _; refine ⟨?_, ?_⟩) | (show keepK _ _ _ _ _; refine keepA ?_) | refine own_keep ?_ | refine ap_old ?_))
          all_goals (conv => whnf)
          refine ⟨(i + 1, M.set o (l', qv ++ [wgtR n t.xs o i])), [], ⟨hiE, hp⟩, by show E - (i + 1) < E - i; omega, rfl, ⟨rfl, rfl, rfl, rfl, rfl, rfl, rfl, rfl, rfl, rfl, rfl, trivial⟩, ?_, fun _ _ h => h⟩
          show heapInto [] _ [(3, .box [.c (.int .i64 n.kind), .c (.int .i64 n.a), .c (.int .i64 n.b), .c n.shape.val, .c (.int .i64 n.lo), .c (.int .i64 n.hi), .c (.int .i64 n.size), .c n.data.val, .c n.bias.val, .c t.val] 158), (7, .rows (dRows (M.set o (l', qv ++ [wgtR n t.xs o i]))) 1 32), (6, .ext (grpO 3 (dGrp (M.set o (l', qv ++ [wgtR n t.xs o i]))))), (8, .rows (ints bs') 1 3)]
          rw [eg, er]
          exact ⟨(by repeat (first | exact List.mem_cons_self | apply List.mem_cons_of_mem)), (by repeat (first | exact List.mem_cons_self | apply List.mem_cons_of_mem)), (by repeat (first | exact List.mem_cons_self | apply List.mem_cons_of_mem)), (by repeat (first | exact List.mem_cons_self | apply List.mem_cons_of_mem)), trivial⟩
      · (repeat' ((conv => whnf) <;> first | (show drawK _ 14 _ _ _ _ _ _; refine draw_tree tabOk mixed [] _ dtMN0 (by kernel_rfl) (by kernel_rfl) (by kernel_rfl) (List.Sublist.refl _) ?_) | (show drawK _ 22 _ _ _ _ _ _; refine draw_tree tabOk mixed [13] _ dtMN1 (by kernel_rfl) (by kernel_rfl) (by kernel_rfl) (List.Sublist.refl _) ?_) | (show Wp _ _ _ _ _ _ _; refine Wp.go tabOk rfl ?_) | (show @cmpK _ _ _; (first | refine cmpY ?_ | refine cmpN ?_ | (refine cmp_both ?_ ?_ <;> intro _))) | (show wrapK _ _ _; refine wrapA ?_) | (show leK _ _ _; refine leA ?_) | (show roomK _ _ _; refine roomA ?_) | (show ltK _ _ _; refine ltA ?_) | (show _ ∧ _; refine ⟨?_, ?_⟩) | (show keepK _ _ _ _ _; refine keepA ?_) | refine own_keep ?_ | refine ap_old ?_))
        all_goals (conv => whnf)
        have hie : i = E := by omega
        rw [hie, ← hEt] at hM
        exact ⟨(o + 1, M, bs'), [], ⟨hoc, hM.next, hB'⟩, by show cnt - (o + 1) < cnt - o; omega, rfl, ⟨rfl, rfl, rfl, rfl, rfl, rfl, rfl, rfl, trivial⟩, ⟨(by repeat (first | exact List.mem_cons_self | apply List.mem_cons_of_mem)), (by repeat (first | exact List.mem_cons_self | apply List.mem_cons_of_mem)), (by repeat (first | exact List.mem_cons_self | apply List.mem_cons_of_mem)), (by repeat (first | exact List.mem_cons_self | apply List.mem_cons_of_mem)), trivial⟩, fun _ _ h => h⟩
    · (repeat' ((conv => whnf) <;> first | (show drawK _ 14 _ _ _ _ _ _; refine draw_tree tabOk mixed [] _ dtMN0 (by kernel_rfl) (by kernel_rfl) (by kernel_rfl) (List.Sublist.refl _) ?_) | (show drawK _ 22 _ _ _ _ _ _; refine draw_tree tabOk mixed [13] _ dtMN1 (by kernel_rfl) (by kernel_rfl) (by kernel_rfl) (List.Sublist.refl _) ?_) | (show Wp _ _ _ _ _ _ _; refine Wp.go tabOk rfl ?_) | (show @cmpK _ _ _; (first | refine cmpY ?_ | refine cmpN ?_ | (refine cmp_both ?_ ?_ <;> intro _))) | (show wrapK _ _ _; refine wrapA ?_) | (show leK _ _ _; refine leA ?_) | (show roomK _ _ _; refine roomA ?_) | (show ltK _ _ _; refine ltA ?_) | (show _ ∧ _; refine ⟨?_, ?_⟩) | (show keepK _ _ _ _ _; refine keepA ?_) | refine own_keep ?_ | refine ap_old ?_))
      all_goals (conv => whnf)
      have hoe : o = cnt := by omega
      rw [hoe] at hL hB
      exact rows_end (i := 7) (g := 6) (j := 8) (fun _ _ h => h) rfl hL.each hL.fits hL.len.symm hB.len.symm (fun x hx => by rw [hB.done] at hx; obtain ⟨k, _, rfl⟩ := List.mem_map.1 hx; exact biasI_i64 hn.bias.fits cnt k) (by rw [hB.len]; omega) (by repeat (first | exact List.mem_cons_self | apply List.mem_cons_of_mem)) (by repeat (first | exact List.mem_cons_self | apply List.mem_cons_of_mem)) (by repeat (first | exact List.mem_cons_self | apply List.mem_cons_of_mem)) (by rw [hL.done, ← hB.done])
theorem rowsLin_any (w : World) (n : NodeV) (t : IntsV) (hn : n.ok w) (hsm : n.small) (ht : t.ok w) : Calls Tryz.prog 63 #[n.valA, t.val] w (RowsPost w (rowsR n t)) := by
  by_cases hok : okRows n t
  · exact rowsLin_ok w n t hn hsm ht hok
  · exact rowsLin_no w n t hn hsm ht hok
end Go.Proofs.YtgndjjdeopfdkaaGreat

/- QM -/
namespace Go.Proofs.YtgndjjdeopfdkaaGreat
open Go.SX Go.RowKit
theorem nz_any (w : World) (b : Int) : Calls Tryz.prog 67 #[.int .i64 b] w fun e w' => e = .returned (.bool (decide (b ≠ 0))) ∧ Ext w w' := by
  refine calls_of tab tabOk Tryz.func67 rfl rfl rfl [] (fun _ => ⟨none, 0⟩) [.c (.int .i64 b)] [] (baseA w) 0 rfl rfl (by show 1 ≤ _; decide) (abs_base w) ?_
  (repeat' ((conv => whnf) <;> first | (show @cmpK _ _ _; ((refine cmp_both ?_ ?_ <;> intro _))) | (show Wp _ _ _ _ _ _ _; refine Wp.go tabOk rfl ?_) | (show @cmpK _ _ _; (first | refine cmpY ?_ | refine cmpN ?_ | (refine cmp_both ?_ ?_ <;> intro _))) | (show wrapK _ _ _; refine wrapA ?_) | (show leK _ _ _; refine leA ?_) | (show roomK _ _ _; refine roomA ?_) | (show ltK _ _ _; refine ltA ?_) | (show _ ∧ _; refine ⟨?_, ?_⟩) | (show keepK _ _ _ _ _; refine keepA ?_) | refine own_keep ?_ | refine ap_old ?_))
  all_goals (conv => whnf)
  all_goals first | exact ends_bool (fun _ _ h => h) rfl (decide_eq_true (by omega)) | exact ends_bool (fun _ _ h => h) rfl (decide_eq_false (by omega))
def nzs (l : List Int) (i : Nat) : Prop := ∀ k, k < i → ∀ h : k < l.length, l[k] = 0
set_option maxHeartbeats 1000000 in
theorem indexNz_any (w : World) (u : IntsV) (hu : u.ok w) : Calls Tryz.prog 131 #[u.val, .func (.func 67) #[] #[]] w fun e w' => (∃ k : Int, e = .returned (.int .i64 k) ∧ (0 ≤ k ↔ u.xs.any (fun b => decide (b ≠ 0)) = true)) ∧ Ext w w' := by
  have hf := hu.few
  refine calls_of tab tabOk Tryz.func131 rfl rfl rfl [] (fun _ => ⟨none, 0⟩) [.c u.val, .c (.func (.func 67) #[] #[])] [] (baseA w) 0 rfl rfl (by show 2 ≤ _; decide) (abs_base w) ?_
  (repeat' ((conv => whnf) <;> first | (show Wp _ _ _ _ _ _ _; refine Wp.go tabOk rfl ?_) | (show @cmpK _ _ _; (first | refine cmpY ?_ | refine cmpN ?_ | (refine cmp_both ?_ ?_ <;> intro _))) | (show wrapK _ _ _; refine wrapA ?_) | (show leK _ _ _; refine leA ?_) | (show roomK _ _ _; refine roomA ?_) | (show ltK _ _ _; refine ltA ?_) | (show _ ∧ _; refine ⟨?_, ?_⟩) | (show keepK _ _ _ _ _; refine keepA ?_) | refine own_keep ?_ | refine ap_old ?_))
  refine Wp.loop (σ := Nat) 0 (fun i => [(0, .c u.val), (1, .c (.func (.func 67) #[] #[])), (7, .c (.int .i64 u.xs.length)), (8, .c (.int .i64 i))]) (fun _ => []) (fun _ => baseA w)
    (fun i => nzs u.xs i) (fun i => u.xs.length - i) 0 [] (by decide) (fun s => ⟨rfl, rfl⟩) (fun k hk => absurd hk (Nat.not_lt_zero k)) ⟨rfl, ⟨rfl, rfl, rfl, rfl, trivial⟩, trivial, fun _ _ h => h⟩ ?_
  intro i hi
  by_cases hlt : i < u.xs.length
  · obtain ⟨ra, hra⟩ : ∃ a, u.base = some a := base_some (j := i) hu.rows (by rw [ints_length]; exact hlt)
    have hx : u.xs.getD i 0 = u.xs[i] := by rw [List.getD_eq_getElem?_getD, List.getElem?_eq_getElem hlt]; rfl
    by_cases hne : u.xs[i] = 0
    · (repeat' ((conv => whnf) <;> first | (show idxK _ _ _ _ _; refine idx_of ra i hra rfl hlt ?_) | (show roK _ _ _; (refine ro_intq (fun R w' h => by rw [← hra]; exact rows_base h hu.rows) (j := i) hlt (hx.trans hne) ?_)) | (show callK _ 67 _ _ _ _ _; refine call_pure (f := 67) Tryz.call67 (.bool false) (fun ρ w' hw => nz_any w' 0) ?_) | (show Wp _ _ _ _ _ _ _; refine Wp.go tabOk rfl ?_) | (show @cmpK _ _ _; (first | refine cmpY ?_ | refine cmpN ?_ | (refine cmp_both ?_ ?_ <;> intro _))) | (show wrapK _ _ _; refine wrapA ?_) | (show leK _ _ _; refine leA ?_) | (show roomK _ _ _; refine roomA ?_) | (show ltK _ _ _; refine ltA ?_) | (show _ ∧ _; refine ⟨?_, ?_⟩) | (show keepK _ _ _ _ _; refine keepA ?_) | refine own_keep ?_ | refine ap_old ?_))
      all_goals (conv => whnf)
      all_goals refine ⟨i + 1, [], fun k hk h => ?_, by omega, rfl, ⟨rfl, rfl, rfl, rfl, trivial⟩, trivial, fun _ _ h => h⟩
      rcases Nat.lt_or_ge k i with h1 | h1
      · exact hi k h1 h
      · obtain rfl : k = i := by omega
        exact hne
    · (repeat' ((conv => whnf) <;> first | (show idxK _ _ _ _ _; refine idx_of ra i hra rfl hlt ?_) | (show roK _ _ _; (refine ro_intq (fun R w' h => by rw [← hra]; exact rows_base h hu.rows) (j := i) hlt hx ?_)) | (show callK _ 67 _ _ _ _ _; (refine call_pure (f := 67) Tryz.call67 (.bool true) (fun ρ w' hw => by have := nz_any w' u.xs[i]; rw [decide_eq_true hne] at this; exact this) ?_)) | (show Wp _ _ _ _ _ _ _; refine Wp.go tabOk rfl ?_) | (show @cmpK _ _ _; (first | refine cmpY ?_ | refine cmpN ?_ | (refine cmp_both ?_ ?_ <;> intro _))) | (show wrapK _ _ _; refine wrapA ?_) | (show leK _ _ _; refine leA ?_) | (show roomK _ _ _; refine roomA ?_) | (show ltK _ _ _; refine ltA ?_) | (show _ ∧ _; refine ⟨?_, ?_⟩) | (show keepK _ _ _ _ _; refine keepA ?_) | refine own_keep ?_ | refine ap_old ?_))
      all_goals (conv => whnf)
      refine fin_of fun ρ w' hw => ⟨⟨i, rfl, fun _ => List.any_eq_true.2 ⟨u.xs[i], List.getElem_mem hlt, by simpa using hne⟩, fun _ => by omega⟩, ext_of_abs hw (fun _ _ h => h)⟩
  · (repeat' ((conv => whnf) <;> first | (show Wp _ _ _ _ _ _ _; refine Wp.go tabOk rfl ?_) | (show @cmpK _ _ _; (first | refine cmpY ?_ | refine cmpN ?_ | (refine cmp_both ?_ ?_ <;> intro _))) | (show wrapK _ _ _; refine wrapA ?_) | (show leK _ _ _; refine leA ?_) | (show roomK _ _ _; refine roomA ?_) | (show ltK _ _ _; refine ltA ?_) | (show _ ∧ _; refine ⟨?_, ?_⟩) | (show keepK _ _ _ _ _; refine keepA ?_) | refine own_keep ?_ | refine ap_old ?_))
    all_goals (conv => whnf)
    refine fin_of fun ρ w' hw => ⟨⟨-1, rfl, fun h => absurd h (by decide), fun h => ?_⟩, ext_of_abs hw (fun _ _ h => h)⟩
    obtain ⟨b, hb, hx⟩ := List.any_eq_true.1 h
    obtain ⟨k, hk, rfl⟩ := List.mem_iff_getElem.1 hb
    exact absurd (hi k (by omega) hk) (by simpa using hx)
theorem containsNz_any (w : World) (u : IntsV) (hu : u.ok w) : Calls Tryz.prog 66 #[u.val, .func (.func 67) #[] #[]] w fun e w' => e = .returned (.bool (u.xs.any fun b => decide (b ≠ 0))) ∧ Ext w w' := by
  refine calls_of tab tabOk Tryz.func66 rfl rfl rfl [] (fun _ => ⟨none, 0⟩) [.c u.val, .c (.func (.func 67) #[] #[])] [] (baseA w) 0 rfl rfl (by show 2 ≤ _; decide) (abs_base w) ?_
  (repeat' ((conv => whnf) <;> first | (show callK _ 131 _ _ _ _ _; refine call_some (f := 131) Tryz.call131 (fun k : Int => .int .i64 k) (fun k => 0 ≤ k ↔ u.xs.any (fun b => decide (b ≠ 0)) = true) (fun ρ w' hw => ?_) (fun k hk => ?_)) | (show Wp _ _ _ _ _ _ _; refine Wp.go tabOk rfl ?_) | (show @cmpK _ _ _; (first | refine cmpY ?_ | refine cmpN ?_ | (refine cmp_both ?_ ?_ <;> intro _))) | (show wrapK _ _ _; refine wrapA ?_) | (show leK _ _ _; refine leA ?_) | (show roomK _ _ _; refine roomA ?_) | (show ltK _ _ _; refine ltA ?_) | (show _ ∧ _; refine ⟨?_, ?_⟩) | (show keepK _ _ _ _ _; refine keepA ?_) | refine own_keep ?_ | refine ap_old ?_))
  · refine (indexNz_any w' u (holds_of_abs hw fun R h => hu.later h)).mono ?_
    rintro e w2 ⟨⟨k, h1, h2⟩, h3⟩
    exact ⟨k, h2, h1, h3⟩
  all_goals (conv => whnf)
  all_goals rename_i h0
  · exact ends_bool (fun _ _ h => h) rfl (hk.1 h0)
  · exact ends_bool (fun _ _ h => h) rfl (Bool.eq_false_iff.2 fun h => h0 (hk.2 h))
/-- the biases' entries -/
theorem biasOf_any (w : World) (b e : Nat) (u : IntsV) (T : TypeId) (he : e < u.xs.length) (hu : RowsI w u.base 1 (ints u.xs)) (h : w.heap[b]? = some (.cells [u.val].toArray T (0, 0))) : Calls Tryz.prog 70 #[.int .i64 e, .pointer (some ⟨b, 0, none⟩)] w fun en w' => en = .returned (.int .i64 (u.xs.getD e 0)) ∧ Ext w w' := by
  have hc : w.cell? ⟨b, 0, none⟩ = some u.val := by simp [World.cell?, h]
  obtain ⟨da, hda⟩ : ∃ a, u.base = some a := base_some (j := e) hu (by rw [ints_length]; exact he)
  refine calls_of tab tabOk Tryz.func70 rfl rfl rfl [] (fun _ => ⟨none, 0⟩) [.c (.int .i64 e), .c (.pointer (some ⟨b, 0, none⟩))] [] (baseA w) 0 rfl rfl (by show 2 ≤ _; decide) (abs_base w) ?_
  (repeat' ((conv => whnf) <;> first | (show idxK _ _ _ _ _; refine idx_of da e hda rfl he ?_) | (show roK _ _ _; (first | refine ro_cell (fun R w' h => by rw [cell_same (h _ (cell_block hc)).2]; exact hc) ?_ | refine ro_intq (fun R w' h => by rw [← hda]; exact rows_base h hu) (j := e) he rfl ?_)) | (show Wp _ _ _ _ _ _ _; refine Wp.go tabOk rfl ?_) | (show @cmpK _ _ _; (first | refine cmpY ?_ | refine cmpN ?_ | (refine cmp_both ?_ ?_ <;> intro _))) | (show wrapK _ _ _; refine wrapA ?_) | (show leK _ _ _; refine leA ?_) | (show roomK _ _ _; refine roomA ?_) | (show ltK _ _ _; refine ltA ?_) | (show _ ∧ _; refine ⟨?_, ?_⟩) | (show keepK _ _ _ _ _; refine keepA ?_) | refine own_keep ?_ | refine ap_old ?_))
  all_goals (conv => whnf)
  all_goals exact ends_of (fun _ _ h => h) (fun _ => rfl) rfl
end Go.Proofs.YtgndjjdeopfdkaaGreat

/- QO -/
namespace Go.Proofs.YtgndjjdeopfdkaaGreat
structure GrowP (k : Nat) (a b : LowP) : Prop where
  more : a.code.length ≤ b.code.length
  few : b.code.length ≤ a.code.length + k
  plains : b.plains.length + a.code.length ≤ a.plains.length + b.code.length
  inputs : b.inputs.length + a.code.length ≤ a.inputs.length + b.code.length
theorem GrowP.refl (a : LowP) : GrowP 0 a a := ⟨Nat.le_refl _, Nat.le_refl _, Nat.le_refl _, Nat.le_refl _⟩
theorem GrowP.trans {j k : Nat} {a b c : LowP} (h1 : GrowP j a b) (h2 : GrowP k b c) : GrowP (j + k) a c := by
  obtain ⟨a1, a2, a3, a4⟩ := h1
  obtain ⟨b1, b2, b3, b4⟩ := h2
  exact ⟨by omega, by omega, by omega, by omega⟩
theorem GrowP.mono {j k : Nat} {a b : LowP} (h : GrowP j a b) (hk : j ≤ k) : GrowP k a b := by
  obtain ⟨a1, a2, a3, a4⟩ := h
  exact ⟨by omega, by omega, by omega, by omega⟩
theorem GrowP.lay (s : LowP) (op a b k : Int) : GrowP 1 s (lowLay s op a b k).1 := by
  have e : (lowLay s op a b k).1.code.length = s.code.length + 1 := by simp [lowLay]
  exact ⟨by omega, by omega, by rw [e]; show s.plains.length + _ ≤ _; omega, by rw [e]; show s.inputs.length + _ ≤ _; omega⟩
theorem lowPlain_len (s : LowP) (r : List Int) : (lowPlain s r).1.code = s.code ∧ (lowPlain s r).1.inputs = s.inputs ∧ (lowPlain s r).1.plains.length ≤ s.plains.length + 1 := by
  unfold lowPlain
  split
  · exact ⟨rfl, rfl, Nat.le_succ _⟩
  · exact ⟨rfl, rfl, by simp⟩
theorem GrowP.plain (s : LowP) (r : List Int) (op a b k : Int) : GrowP 1 s (lowLay (lowPlain s r).1 op a b k).1 := by
  obtain ⟨h1, h2, h3⟩ := lowPlain_len s r
  have e : (lowLay (lowPlain s r).1 op a b k).1.code.length = s.code.length + 1 := by simp [lowLay, h1]
  exact ⟨by omega, by omega, by rw [e]; show (lowPlain s r).1.plains.length + _ ≤ _; omega, by rw [e]; show (lowPlain s r).1.inputs.length + _ ≤ _; rw [h2]; omega⟩
theorem GrowP.add (s : LowP) (m : Option Int) (v : Int) : GrowP 1 s (sumAdd s m v).1 := by
  cases m with
  | none => exact (GrowP.refl s).mono (Nat.zero_le _)
  | some a => exact .lay _ _ _ _ _
theorem GrowP.turn (s : LowP) (t : Int → Option Int) (x : Int) (i : Nat) : GrowP 1 s (turnAt s t x i).1 := by
  unfold turnAt
  split
  · exact (GrowP.refl s).mono (Nat.zero_le _)
  · exact .lay _ _ _ _ _
theorem GrowP.inner (n base : Nat) (x : Int) (y : RowsS) (i : Nat) (d : List Int) : GrowP 3 y.s (innerS n base x y i d).s := by
  unfold innerS
  split
  · exact (GrowP.refl _).mono (Nat.zero_le _)
  · exact ((GrowP.turn y.s y.t x i).trans (GrowP.plain _ _ _ _ _ _)).trans (GrowP.add _ _ _)
theorem GrowP.ofInner (n base : Nat) (x : Int) : ∀ (l : List (List Int)) (i : Nat) (y : RowsS), GrowP (3 * l.length) y.s (innerL n base x l i y).s
  | [], _, y => GrowP.refl _
  | d :: r, i, y => by
    have h1 := GrowP.inner n base x y i d
    have h2 := GrowP.ofInner n base x r (i + 1) (innerS n base x y i d)
    exact (h1.trans h2).mono (by rw [List.length_cons]; omega)
theorem GrowP.giant (n base : Nat) (x : Int) (y : RowsS) (ds : List (List Int)) : GrowP (3 * ds.length + 2) y.s (giantS n base x y ds).s := by
  have h := GrowP.ofInner n base x ds 0 ⟨y.s, y.t, none⟩
  unfold giantS
  dsimp only
  split
  · exact h.mono (by omega)
  · refine h.trans (k := 2) ?_
    split
    · exact (GrowP.lay _ _ _ _ _).trans (GrowP.add _ _ _)
    · exact (GrowP.add _ _ _).mono (by omega)
theorem GrowP.ofGiant (n g : Nat) (x : Int) (all : List (List Int)) (hg : 1 ≤ g) (hl : all.length ≤ n) : ∀ (f base : Nat) (y : RowsS), GrowP (5 * (n - base)) y.s (giantL n g x all f base y).s
  | 0, base, y => (GrowP.refl _).mono (Nat.zero_le _)
  | f + 1, base, y => by
    unfold giantL
    split
    · rename_i hb
      have h1 := GrowP.giant n base x y ((all.drop base).take (min n (base + g) - base))
      have h2 := GrowP.ofGiant n g x all hg hl f (base + g) (giantS n base x y ((all.drop base).take (min n (base + g) - base)))
      refine (h1.trans h2).mono ?_
      have : ((all.drop base).take (min n (base + g) - base)).length ≤ min n (base + g) - base := by rw [List.length_take]; omega
      omega
    · exact (GrowP.refl _).mono (Nat.zero_le _)
theorem stepG_pos : ∀ (f n g : Nat), 1 ≤ g → 1 ≤ stepG f n g
  | 0, _, _, h => h
  | f + 1, n, g, h => by
    unfold stepG
    split
    · exact stepG_pos f n (2 * g) (by omega)
    · exact h
theorem giantOf_pos (b : Bool) (n : Nat) (hn : 1 ≤ n) : 1 ≤ giantOf b n := by
  unfold giantOf
  split
  · exact stepG_pos _ _ _ (Nat.le_refl _)
  · exact hn
theorem GrowP.rows (n : Nat) (b : Bool) (s : LowP) (x : Int) (all : List (List Int)) (hn : 1 ≤ n) (hl : all.length ≤ n) : GrowP (5 * n + 1) s (lowRows n b s x all).1 := by
  have h := GrowP.ofGiant n (giantOf b n) x all (giantOf_pos b n hn) hl n 0 ⟨s, startT x, none⟩
  unfold lowRows
  dsimp only
  split
  · exact h.trans (GrowP.plain _ _ _ _ _ _)
  · exact h.mono (by omega)
end Go.Proofs.YtgndjjdeopfdkaaGreat

/- LR -/
namespace Go.Proofs.YtgndjjdeopfdkaaGreat
open Go.RowKit Go.SX
def up : Nat → Int → Int → Int
  | 0, _, p => p
  | k + 1, size, p => if p < size then up k size (p * 2) else p
def sizeL (xs : List Int) (layout : Int) : Int := if layout = 1 ∧ xs.length = 3 then xs.getD 1 0 * xs.getD 2 0 else entries xs
def pitchL (xs : List Int) (layout : Int) : Int := if layout = 1 ∧ xs.length = 3 then up 7 (xs.getD 1 0 * xs.getD 2 0) 1 else entries xs
def placeL (size pitch : Int) (i : Nat) : Int := (i : Int) / size * pitch + i % size
def rangeL (size pitch : Int) (k : Nat) : List Int := (List.range k).map (placeL size pitch)
def slotsL (xs : List Int) (layout slots : Int) : List Int × Int :=
  if entries xs = 0 ∨ layout < 0 ∨ 1 < layout then ([], 4)
  else if slots ≤ placeL (sizeL xs layout) (pitchL xs layout) ((entries xs).toNat - 1) then ([], 7)
  else (rangeL (sizeL xs layout) (pitchL xs layout) (entries xs).toNat, 0)
theorem rangeL_length (size pitch : Int) (k : Nat) : (rangeL size pitch k).length = k := by simp [rangeL]
theorem rangeL_succ (size pitch : Int) (k : Nat) : rangeL size pitch (k + 1) = rangeL size pitch k ++ [placeL size pitch k] := by simp [rangeL, List.range_succ]
theorem rangeL_getD (size pitch : Int) {k i : Nat} (h : i < k) : (rangeL size pitch k).getD i 0 = placeL size pitch i := by simp [rangeL, List.getD, h]
theorem up_ge : ∀ (k : Nat) (size p : Int), 1 ≤ p → p * 2 ^ k = 128 → size ≤ 64 → size ≤ up k size p ∧ 1 ≤ up k size p ∧ up k size p ≤ 128
  | 0, size, p, h1, h2, h3 => by
    have : p = 128 := by simpa using h2
    simp only [up]; omega
  | k + 1, size, p, h1, h2, h3 => by
    rw [up]
    split
    · exact up_ge k size (p * 2) (by omega) (by rw [Int.mul_assoc, ← Int.pow_succ']; exact h2) h3
    · refine ⟨by omega, by omega, ?_⟩
      have h4 : (1 : Int) ≤ 2 ^ (k + 1) := by have : (0 : Int) < 2 ^ (k + 1) := Int.pow_pos (by decide); omega
      have : p * 1 ≤ p * 2 ^ (k + 1) := Int.mul_le_mul_of_nonneg_left h4 (by omega)
      omega
theorem entries_three {xs : List Int} (h : entries xs ≠ 0) (h3 : xs.length = 3) : entries xs = xs.getD 0 0 * (xs.getD 1 0 * xs.getD 2 0) ∧ 1 ≤ xs.getD 0 0 ∧ 1 ≤ xs.getD 1 0 ∧ 1 ≤ xs.getD 2 0 := by
  match xs, h3 with
  | [a, b, c], _ =>
    have h0 : entries [a, b, c] = entLoop 1 [a, b, c] := by unfold entries; rfl
    rw [h0] at h ⊢
    simp only [entLoop] at h ⊢
    split at h
    · exact absurd rfl h
    split at h
    · exact absurd rfl h
    split at h
    · exact absurd rfl h
    rename_i g1 g2 g3
    rw [if_neg g1, if_neg g2, if_neg g3]
    refine ⟨?_, ?_, ?_, ?_⟩
    · show 1 * a * b * c = a * (b * c)
      rw [Int.one_mul, Int.mul_assoc]
    all_goals simp only [List.getD_cons_zero, List.getD_cons_succ]; omega
/-- so many channels, each of so many entries, so far apart -/
theorem slots_geo {xs : List Int} {layout : Int} (h : entries xs ≠ 0) : ∃ c s p : Nat, entries xs = (c * s : Nat) ∧ sizeL xs layout = s ∧ pitchL xs layout = p ∧ 1 ≤ c ∧ 1 ≤ s ∧ s ≤ p ∧ p ≤ 128 ∧ c * s ≤ 64 ∧ c ≤ 64 ∧ s ≤ 64 ∧ (¬ (layout = 1 ∧ xs.length = 3) → c = 1 ∧ s = p) := by
  have hb := entries_bd xs
  by_cases h1 : layout = 1 ∧ xs.length = 3
  · obtain ⟨e, h2, h3, h4⟩ := entries_three h h1.2
    obtain ⟨a, ha⟩ := Int.eq_ofNat_of_zero_le (show 0 ≤ xs.getD 0 0 by omega)
    obtain ⟨b, hb'⟩ := Int.eq_ofNat_of_zero_le (show 0 ≤ xs.getD 1 0 by omega)
    obtain ⟨c, hc⟩ := Int.eq_ofNat_of_zero_le (show 0 ≤ xs.getD 2 0 by omega)
    rw [sizeL, pitchL, if_pos h1, if_pos h1]
    rw [ha, hb', hc] at e
    rw [ha] at h2
    rw [hb'] at h3 ⊢
    rw [hc] at h4 ⊢
    have e2 : (b : Int) * (c : Int) = ((b * c : Nat) : Int) := by simp
    have e3 : (a : Int) * ((b : Int) * (c : Int)) = ((a * (b * c) : Nat) : Int) := by simp
    rw [e3] at e
    rw [e2]
    have hbc : 1 ≤ b * c := Nat.mul_pos (by omega) (by omega)
    have hle : a * (b * c) ≤ 64 := by omega
    have hsl : b * c ≤ a * (b * c) := Nat.le_mul_of_pos_left _ (by omega)
    have hal : a ≤ a * (b * c) := Nat.le_mul_of_pos_right _ hbc
    obtain ⟨u1, u2, u3⟩ := up_ge 7 ((b * c : Nat) : Int) 1 (by decide) (by decide) (by omega)
    obtain ⟨p, hp⟩ := Int.eq_ofNat_of_zero_le (show 0 ≤ up 7 ((b * c : Nat) : Int) 1 by omega)
    exact ⟨a, b * c, p, e, rfl, hp, by omega, hbc, by omega, by omega, hle, by omega, by omega, fun g => absurd h1 g⟩
  · obtain ⟨n, hn⟩ := Int.eq_ofNat_of_zero_le hb.1
    rw [sizeL, pitchL, if_neg h1, if_neg h1, hn]
    rw [hn] at h hb
    exact ⟨1, n, n, by simp, rfl, rfl, by decide, by omega, by omega, by omega, by omega, by omega, by omega, fun _ => ⟨rfl, rfl⟩⟩
theorem placeL_at {c i s p : Nat} (h : i < s) : placeL s p (c * s + i) = (c * p + i : Nat) := by
  have hs : 0 < s := by omega
  have e1 : ((c * s + i : Nat) : Int) / (s : Int) = (c : Int) := by
    rw [← Int.natCast_ediv, Nat.add_comm, Nat.add_mul_div_right _ _ hs, Nat.div_eq_of_lt h, Nat.zero_add]
  have e2 : ((c * s + i : Nat) : Int) % (s : Int) = (i : Int) := by
    rw [← Int.natCast_emod, Nat.add_comm, Nat.add_mul_mod_self_right, Nat.mod_eq_of_lt h]
  rw [placeL, e1, e2]; simp
theorem placeL_nat {s p : Nat} (i : Nat) : placeL s p i = ((i / s * p + i % s : Nat) : Int) := by simp [placeL]
theorem placeL_lt {s p i : Nat} (hs : 1 ≤ s) (hp : s ≤ p) : placeL s p i < placeL s p (i + 1) := by
  rw [placeL_nat, placeL_nat, Int.ofNat_lt]
  have h1 := Nat.div_add_mod i s
  have h2 := Nat.mod_lt i (show s > 0 by omega)
  rcases Nat.lt_or_ge (i % s + 1) s with h | h
  · have e1 : (i + 1) / s = i / s := by
      have : i + 1 = i % s + 1 + (i / s) * s := by rw [Nat.mul_comm]; omega
      rw [this, Nat.add_mul_div_right _ _ (by omega), Nat.div_eq_of_lt h, Nat.zero_add]
    have e2 : (i + 1) % s = i % s + 1 := by
      have : i + 1 = i % s + 1 + (i / s) * s := by rw [Nat.mul_comm]; omega
      rw [this, Nat.add_mul_mod_self_right, Nat.mod_eq_of_lt h]
    rw [e1, e2]; omega
  · have e3 : i + 1 = (i / s + 1) * s := by rw [Nat.succ_mul, Nat.mul_comm]; omega
    have e1 : (i + 1) / s = i / s + 1 := by rw [e3, Nat.mul_div_cancel _ (by omega)]
    have e2 : (i + 1) % s = 0 := by rw [e3, Nat.mul_mod_left]
    rw [e1, e2, Nat.succ_mul]; omega
theorem placeL_mono {s p : Nat} (hs : 1 ≤ s) (hp : s ≤ p) : ∀ {i j : Nat}, i ≤ j → placeL s p i ≤ placeL s p j := by
  intro i j h
  induction h with
  | refl => exact Int.le_refl _
  | step _ ih => exact Int.le_trans ih (Int.le_of_lt (placeL_lt hs hp))
theorem placeL_bd {s p i n : Nat} (hs : 1 ≤ s) (hp : s ≤ p) (hi : i < n) (hn : n ≤ 64) (hp2 : p ≤ 128) : 0 ≤ placeL s p i ∧ placeL s p i ≤ 10000 := by
  rw [placeL_nat]
  have h1 : i / s ≤ i := Nat.div_le_self _ _
  have h2 := Nat.mod_lt i (show s > 0 by omega)
  have h3 : i / s * p ≤ 64 * 128 := Nat.mul_le_mul (by omega) hp2
  have h4 := Nat.mod_le i s
  omega
end Go.Proofs.YtgndjjdeopfdkaaGreat

/- LS -/
namespace Go.Proofs.YtgndjjdeopfdkaaGreat
open Go.RowKit Go.SX
def SlotsPost (w : World) (r : List Int × Int) : Ending → World → Prop := fun e w' => ∃ x : IntsV, (x.xs = r.1 ∧ x.sane) ∧ e = .returned (.tuple #[x.val, .int .i64 r.2]) ∧ Ext w w' ∧ (intsA x).holds (fun b => w.heap.size ≤ b ∧ b < w'.heap.size) w'
theorem slots_fail {w : World} {B : Base} {H : Heap} {S : Asn} {nx : Nat} {er : Int} {r : List Int × Int} (hb : ∀ R w', S.holds R w' → (baseA B.w0).holds R w') (hw0 : B.w0 = w) (hr : r = ([], er)) : finK B (.tup [.c (.slice none 0 0), .c (.int .i64 er)]) H S nx (SlotsPost w r) := by
  subst hw0 hr
  refine fin_of fun ρ w' hw => ⟨⟨none, 0, []⟩, ⟨rfl, ⟨fun _ h => (by cases h), Nat.le_refl _, by decide⟩⟩, rfl, ext_of_abs hw hb, ⟨fun _ h => (by cases h), .inl rfl⟩⟩
theorem slots_end {w : World} {B : Base} {H : Heap} {S : Asn} {nx i m : Nat} {l : List Int} {r : List Int × Int} (hb : ∀ R w', S.holds R w' → (baseA B.w0).holds R w') (hw0 : B.w0 = w) (hm : m = l.length) (hf : ∀ x ∈ l, i64 x) (hl : l.length ≤ 1000000) (hi : (i, Ent.rows (ints l) 1 3) ∈ H) (hr : r = (l, 0)) :
    finK B (.tup [.os i m, .c (.int .i64 0)]) H S nx (SlotsPost w r) := by
  subst hw0 hm hr
  refine fin_of fun ρ w' hw => ?_
  have hn := new_of_abs hw hb hi
  rw [ints_length] at hn
  obtain ⟨u, e, h1, h2, h3⟩ := newInts hn hf hl
  refine ⟨u, ⟨h1, h2⟩, ?_, ext_of_abs hw hb, h3⟩
  have : (SV.tup [.os i l.length, .c (.int .i64 0)]).rf ρ = .tuple #[(SV.os i l.length).rf ρ, .int .i64 0] := rfl
  rw [this, e]
theorem wrap_isS {z : Int} (y : Int) {K : Int → Prop} (h : z = y) (h1 : -9223372036854775808 ≤ y) (h2 : y ≤ 9223372036854775807) (hk : K y) : wrapK .i64 z K := by
  subst h; exact wrap_i64 h1 h2 hk
theorem div_isS {x y q : Int} {K : Int → Prop} (e : x / y = q) (h0 : 0 ≤ x) (h1 : x ≤ 9223372036854775807) (hy : 0 < y) (h : K q) : divK .i64 x y K := div_pos rfl h0 h1 hy (by rw [e]; exact h)
theorem ints_snocS (xs : List Int) (x : Int) {m i : Nat} (hm : m = xs.length) {T : TypeId} {H : Heap} : (i, Ent.rows (ints (xs ++ [x])) 1 T) ∈ (i, Ent.rows (List.take m (ints xs) ++ [[.int .i64 x]]) 1 T) :: H := by
  subst hm
  rw [show ints (xs ++ [x]) = List.take xs.length (ints xs) ++ [[.int .i64 x]] by rw [List.take_of_length_le (by rw [ints_length]; exact Nat.le_refl _)]; simp [ints]]
  exact List.mem_cons_self
theorem range_fits {s p n : Nat} (hs : 1 ≤ s) (hp : s ≤ p) (hn : n ≤ 64) (hp2 : p ≤ 128) : ∀ x ∈ rangeL s p n, i64 x := fun x hx => by
  obtain ⟨i, hi, rfl⟩ := List.mem_map.1 hx
  have := placeL_bd hs hp (List.mem_range.1 hi) hn hp2
  exact ⟨by omega, by omega⟩
theorem up_stop {k : Nat} {size q : Int} (h : ¬ q < size) : up k size q = q := by cases k <;> simp [up, h]
theorem up_step {k : Nat} {size q : Int} (h : q < size) (h64 : size ≤ 64) (e : q * 2 ^ k = 128) : ∃ k', k = k' + 1 ∧ up k size q = up k' size (q * 2) ∧ q * 2 * 2 ^ k' = 128 := by
  cases k with
  | zero => simp at e; omega
  | succ k => exact ⟨k, rfl, by simp [up, h], by rw [Int.mul_assoc, ← Int.pow_succ']; exact e⟩
set_option maxHeartbeats 2000000 in
theorem slots_any (w : World) (u : IntsV) (hx : RowsI w u.base 1 (ints u.xs)) (layout slots : Int) : Calls Tryz.prog 25 #[u.val, .int .i64 layout, .int .i64 slots] w (SlotsPost w (slotsL u.xs layout slots)) := by
  by_cases hA : entries u.xs = 0 ∨ layout < 0 ∨ 1 < layout
  · refine calls_of tab tabOk Tryz.func25 rfl rfl rfl [] (fun _ => ⟨none, 0⟩) [.c u.val, .c (.int .i64 layout), .c (.int .i64 slots)] [] (baseA w) 0 rfl rfl (by show 3 ≤ _; decide) (abs_base w) ?_
    (repeat' ((conv => whnf) <;> first | (show callK _ 61 _ _ _ _ _; refine call_pure (f := 61) Tryz.call61 (.int .i64 (entries u.xs)) (fun ρ w' hw => entries_any w' u.base u.cap u.xs (holds_of_abs hw fun R h => rows_base h hx)) ?_) | (show drawK _ _ _ _ _ _ _ _; refine draw_quiet tabOk mixed (by kernel_rfl) ?_) | (show Wp _ _ _ _ _ _ _; refine Wp.go tabOk rfl ?_) | (show @cmpK _ _ _; (first | refine cmpY ?_ | refine cmpN ?_ | (refine cmp_both ?_ ?_ <;> intro _))) | (show wrapK _ _ _; refine wrapA ?_) | (show leK _ _ _; refine leA ?_) | (show roomK _ _ _; refine roomA ?_) | (show ltK _ _ _; refine ltA ?_) | (show _ ∧ _; refine ⟨?_, ?_⟩) | (show keepK _ _ _ _ _; refine keepA ?_) | refine own_keep ?_ | refine ap_old ?_))
    all_goals (conv => whnf)
    all_goals first | (exfalso; omega) | skip
    all_goals exact slots_fail (fun _ _ h => h) rfl (by rw [slotsL, if_pos hA])
  · obtain ⟨c, s, p, hcs, hs, hp, hc1, hs1, hsp, hp2, hn64, hc64, hs64, hel⟩ := slots_geo (xs := u.xs) (layout := layout) (by omega)
    have hdef : slotsL u.xs layout slots = if slots ≤ placeL s p (c * s - 1) then ([], 7) else (rangeL s p (c * s), 0) := by
      rw [slotsL, if_neg hA, hs, hp, hcs, Int.toNat_natCast]
    obtain ⟨n, hn⟩ : ∃ n, c * s = n := ⟨_, rfl⟩
    have hn1 : 1 ≤ n := by rw [← hn]; exact Nat.mul_pos hc1 hs1
    rw [hn] at hdef hcs hn64
    have hq : ((n : Nat) : Int) / (s : Int) = c := by rw [← hn, ← Int.natCast_ediv, Nat.mul_div_cancel _ (by omega)]
    rw [hdef]
    have hent : ∀ {ρ : Nat → SX.Loc} {w' : World} {nx : Nat} {H : Heap}, Abs ⟨w, []⟩ ρ nx H (baseA w) w' → Calls Tryz.prog 61 #[u.val] w' fun e w2 => e = .returned (.int .i64 (n : Nat)) ∧ Ext w' w2 := fun hw => by
      have := entries_any _ u.base u.cap u.xs (holds_of_abs hw fun R h => rows_base h hx)
      rw [hcs] at this; exact this
    by_cases h1 : layout = 1 ∧ u.xs.length = 3
    · obtain ⟨ua, hua⟩ : ∃ a, u.base = some a := base_some (j := 0) hx (by rw [ints_length]; omega)
      have hur : ∀ (R : Nat → Prop) w', (baseA w).holds R w' → RowsI w' (some ua) 1 (ints u.xs) := fun R w' h => by rw [← hua]; exact rows_base h hx
      rw [sizeL, if_pos h1] at hs
      rw [pitchL, if_pos h1, hs] at hp
      refine calls_of tab tabOk Tryz.func25 rfl rfl rfl [] (fun _ => ⟨none, 0⟩) [.c u.val, .c (.int .i64 layout), .c (.int .i64 slots)] [] (baseA w) 0 rfl rfl (by show 3 ≤ _; decide) (abs_base w) ?_
      (repeat' ((conv => whnf) <;> first | (show callK _ 61 _ _ _ _ _; refine call_pure (f := 61) Tryz.call61 (.int .i64 (n : Nat)) (fun ρ w' hw => hent hw) ?_) | (show idxK _ _ _ _ _; (first | refine idx_of ua 1 hua rfl (by omega) ?_ | refine idx_of ua 2 hua rfl (by omega) ?_)) | (show roK _ _ _; (first | refine ro_int hur (j := 1) (by omega) ?_ | refine ro_int hur (j := 2) (by omega) ?_)) | (show wrapK _ _ _; refine wrap_isS (s : Int) hs (by omega) (by omega) ?_) | (show drawK _ _ _ _ _ _ _ _; refine draw_quiet tabOk mixed (by kernel_rfl) ?_) | (show Wp _ _ _ _ _ _ _; refine Wp.go tabOk rfl ?_) | (show @cmpK _ _ _; (first | refine cmpY ?_ | refine cmpN ?_ | (refine cmp_both ?_ ?_ <;> intro _))) | (show wrapK _ _ _; refine wrapA ?_) | (show leK _ _ _; refine leA ?_) | (show roomK _ _ _; refine roomA ?_) | (show ltK _ _ _; refine ltA ?_) | (show _ ∧ _; refine ⟨?_, ?_⟩) | (show keepK _ _ _ _ _; refine keepA ?_) | refine own_keep ?_ | refine ap_old ?_))
      all_goals (conv => whnf)
      refine Wp.loop (σ := Nat × Nat) 0 (fun ⟨q, k⟩ => [(2, .c (.int .i64 slots)), (8, .c (.int .i64 (n : Nat))), (9, .c (.int .i64 (s : Nat))), (10, .c (.int .i64 q))]) (fun _ => []) (fun _ => baseA w)
        (fun ⟨q, k⟩ => (q : Int) * 2 ^ k = 128 ∧ 1 ≤ q ∧ up k s q = p) (fun x => x.2) (1, 7) [] (by decide) (fun s => ⟨rfl, rfl⟩) ⟨by decide, by decide, hp⟩ ⟨rfl, ⟨rfl, rfl, rfl, rfl, trivial⟩, trivial, fun _ _ h => h⟩ ?_
      rintro ⟨q, k⟩ ⟨hq1, hq2, hq3⟩
      by_cases hqs : (q : Int) < s
      · obtain ⟨k', rfl, hk2, hk3⟩ := up_step hqs (by omega) hq1
        (repeat' ((conv => whnf) <;> first | (show wrapK _ _ _; refine wrap_isS ((q * 2 : Nat) : Int) (by simp) (by omega) (by omega) ?_) | (show drawK _ _ _ _ _ _ _ _; refine draw_quiet tabOk mixed (by kernel_rfl) ?_) | (show Wp _ _ _ _ _ _ _; refine Wp.go tabOk rfl ?_) | (show @cmpK _ _ _; (first | refine cmpY ?_ | refine cmpN ?_ | (refine cmp_both ?_ ?_ <;> intro _))) | (show wrapK _ _ _; refine wrapA ?_) | (show leK _ _ _; refine leA ?_) | (show roomK _ _ _; refine roomA ?_) | (show ltK _ _ _; refine ltA ?_) | (show _ ∧ _; refine ⟨?_, ?_⟩) | (show keepK _ _ _ _ _; refine keepA ?_) | refine own_keep ?_ | refine ap_old ?_))
        all_goals (conv => whnf)
        exact ⟨(q * 2, k'), [], ⟨by simpa using hk3, by show 1 ≤ q * 2; omega, by rw [← hq3, hk2]; simp⟩, Nat.lt_succ_self _, rfl, ⟨rfl, rfl, rfl, rfl, trivial⟩, trivial, fun _ _ h => h⟩
      · rw [up_stop hqs] at hq3
        have hqp : p = q := by omega
        subst hqp
        (repeat' ((conv => whnf) <;> first | (show makeK _ _ _ _; (refine make_cap 0 n rfl rfl (Nat.zero_le _) (by show 8 * _ ≤ _; omega) (by omega) ?_)) | (show divK _ _ _ _; refine div_isS hq (by omega) (by omega) (by omega) ?_) | (show drawK _ _ _ _ _ _ _ _; refine draw_quiet tabOk mixed (by kernel_rfl) ?_) | (show Wp _ _ _ _ _ _ _; refine Wp.go tabOk rfl ?_) | (show @cmpK _ _ _; (first | refine cmpY ?_ | refine cmpN ?_ | (refine cmp_both ?_ ?_ <;> intro _))) | (show wrapK _ _ _; refine wrapA ?_) | (show leK _ _ _; refine leA ?_) | (show roomK _ _ _; refine roomA ?_) | (show ltK _ _ _; refine ltA ?_) | (show _ ∧ _; refine ⟨?_, ?_⟩) | (show keepK _ _ _ _ _; refine keepA ?_) | refine own_keep ?_ | refine ap_old ?_))
        all_goals (conv => whnf)
        refine Wp.loop (σ := Nat × Nat) 2 (fun x => [(2, .c (.int .i64 slots)), (8, .c (.int .i64 (n : Nat))), (9, .c (.int .i64 (s : Nat))), (10, .c (.int .i64 (p : Nat))), (11, .os 1 x.2), (51, .c (.int .i64 (c : Nat))), (52, .c (.int .i64 x.1))]) (fun x => [(1, .rows (ints (rangeL s p x.2)) 1 3)]) (fun _ => baseA w)
          (fun x => x.1 ≤ c ∧ x.2 = x.1 * s) (fun x => c - x.1) (0, 0) [(1, some 0)] (by decide) (fun _ => ⟨rfl, rfl⟩) ⟨Nat.zero_le _, (Nat.zero_mul s).symm⟩ ⟨rfl, ⟨rfl, rfl, rfl, rfl, rfl, rfl, rfl, trivial⟩, ⟨List.mem_cons_self, trivial⟩, fun _ _ h => h⟩ ?_
        rintro ⟨cc, m⟩ ⟨hcc, hm⟩
        dsimp only at hcc hm
        by_cases hlt : cc < c
        · (repeat' ((conv => whnf) <;> first | (show drawK _ _ _ _ _ _ _ _; refine draw_quiet tabOk mixed (by kernel_rfl) ?_) | (show Wp _ _ _ _ _ _ _; refine Wp.go tabOk rfl ?_) | (show @cmpK _ _ _; (first | refine cmpY ?_ | refine cmpN ?_ | (refine cmp_both ?_ ?_ <;> intro _))) | (show wrapK _ _ _; refine wrapA ?_) | (show leK _ _ _; refine leA ?_) | (show roomK _ _ _; refine roomA ?_) | (show ltK _ _ _; refine ltA ?_) | (show _ ∧ _; refine ⟨?_, ?_⟩) | (show keepK _ _ _ _ _; refine keepA ?_) | refine own_keep ?_ | refine ap_old ?_))
          all_goals (conv => whnf)
          have hcp : cc * p ≤ 64 * 128 := Nat.mul_le_mul (by omega) hp2
          have hms : cc * s + s ≤ c * s := by rw [← Nat.succ_mul]; exact Nat.mul_le_mul_right s hlt
          refine Wp.loop (σ := Nat × Nat) 3 (fun x => [(2, .c (.int .i64 slots)), (8, .c (.int .i64 (n : Nat))), (9, .c (.int .i64 (s : Nat))), (10, .c (.int .i64 (p : Nat))), (11, .os 2 x.2), (51, .c (.int .i64 (c : Nat))), (52, .c (.int .i64 cc)), (12, .c (.int .i64 cc)), (55, .c (.int .i64 (s : Nat))), (56, .c (.int .i64 x.1))]) (fun x => [(2, .rows (ints (rangeL s p x.2)) 1 3)]) (fun _ => baseA w)
            (fun x => x.1 ≤ s ∧ x.2 = cc * s + x.1) (fun x => s - x.1) (0, m) [(2, some 1)] (by decide) (fun _ => ⟨rfl, rfl⟩) ⟨Nat.zero_le _, hm⟩ ⟨rfl, ⟨rfl, rfl, rfl, rfl, rfl, rfl, rfl, rfl, rfl, rfl, trivial⟩, ⟨List.mem_cons_self, trivial⟩, fun _ _ h => h⟩ ?_
          rintro ⟨i, k⟩ ⟨hi, hk⟩
          dsimp only at hi hk
          by_cases hli : i < s
          · have hpl : (((cc * p : Nat) : Int) + (i : Int)) = placeL s p k := by rw [hk, placeL_at hli]; simp
            have hrl := rangeL_length s p k
            (repeat' ((conv => whnf) <;> first | (show wrapK _ _ _; (first | refine wrap_isS ((cc * p : Nat) : Int) (Int.natCast_mul cc p).symm (by omega) (by omega) ?_ | refine wrap_isS (placeL s p k) hpl (by omega) (by omega) ?_ | refine wrap_i64 (by omega) (by omega) ?_)) | (show leK _ _ _; refine le_of (Nat.le_of_eq (by rw [ints_length, rangeL_length])) ?_) | (show roomK _ _ _; (refine room_of (by show (k + 1) * 8 ≤ 140737488355328; omega) ?_)) | (show drawK _ _ _ _ _ _ _ _; refine draw_quiet tabOk mixed (by kernel_rfl) ?_) | (show Wp _ _ _ _ _ _ _; refine Wp.go tabOk rfl ?_) | (show @cmpK _ _ _; (first | refine cmpY ?_ | refine cmpN ?_ | (refine cmp_both ?_ ?_ <;> intro _))) | (show wrapK _ _ _; refine wrapA ?_) | (show leK _ _ _; refine leA ?_) | (show roomK _ _ _; refine roomA ?_) | (show ltK _ _ _; refine ltA ?_) | (show _ ∧ _; refine ⟨?_, ?_⟩) | (show keepK _ _ _ _ _; refine keepA ?_) | refine own_keep ?_ | refine ap_old ?_))
            all_goals (conv => whnf)
            exact ⟨(i + 1, k + 1), [(2, some 4)], ⟨hli, by show k + 1 = cc * s + (i + 1); omega⟩, by show s - (i + 1) < s - i; omega, rfl, ⟨rfl, rfl, rfl, rfl, rfl, rfl, rfl, rfl, rfl, rfl, trivial⟩, ⟨by show (4, Ent.rows (ints (rangeL s p (k + 1))) 1 3) ∈ _; rw [rangeL_succ]; exact ints_snocS _ _ (rangeL_length s p k).symm, trivial⟩, fun _ _ h => h⟩
          · (repeat' ((conv => whnf) <;> first | (show drawK _ _ _ _ _ _ _ _; refine draw_quiet tabOk mixed (by kernel_rfl) ?_) | (show Wp _ _ _ _ _ _ _; refine Wp.go tabOk rfl ?_) | (show @cmpK _ _ _; (first | refine cmpY ?_ | refine cmpN ?_ | (refine cmp_both ?_ ?_ <;> intro _))) | (show wrapK _ _ _; refine wrapA ?_) | (show leK _ _ _; refine leA ?_) | (show roomK _ _ _; refine roomA ?_) | (show ltK _ _ _; refine ltA ?_) | (show _ ∧ _; refine ⟨?_, ?_⟩) | (show keepK _ _ _ _ _; refine keepA ?_) | refine own_keep ?_ | refine ap_old ?_))
            all_goals (conv => whnf)
            exact ⟨(cc + 1, k), [(1, some 2)], ⟨hlt, by show k = (cc + 1) * s; rw [Nat.succ_mul]; omega⟩, by show c - (cc + 1) < c - cc; omega, rfl, ⟨rfl, rfl, rfl, rfl, rfl, rfl, rfl, trivial⟩, ⟨List.mem_cons_self, trivial⟩, fun _ _ h => h⟩
        · have hcc2 : cc = c := by omega
          rw [hcc2, hn] at hm
          have hpb := placeL_bd (i := n - 1) (n := n) hs1 hsp (by omega) hn64 hp2
          have hlast := rangeL_getD s p (k := n) (i := n - 1) (by omega)
          have hll := rangeL_length s p n
          have hm' := hm.symm
          subst hm'
          (repeat' ((conv => whnf) <;> first | (show idxRowK _ _ _ _ _ _; refine idxRow_of (n - 1) (by omega) (by omega) (Nat.le_of_eq (by rw [ints_length, rangeL_length])) ?_) | (show rowK _ _ _ _; refine ro_own (xs := rangeL s p n) (j := n - 1) (by omega) ?_) | (show drawK _ _ _ _ _ _ _ _; refine draw_quiet tabOk mixed (by kernel_rfl) ?_) | (show Wp _ _ _ _ _ _ _; refine Wp.go tabOk rfl ?_) | (show @cmpK _ _ _; (first | refine cmpY ?_ | refine cmpN ?_ | (refine cmp_both ?_ ?_ <;> intro _))) | (show wrapK _ _ _; refine wrapA ?_) | (show leK _ _ _; refine leA ?_) | (show roomK _ _ _; refine roomA ?_) | (show ltK _ _ _; refine ltA ?_) | (show _ ∧ _; refine ⟨?_, ?_⟩) | (show keepK _ _ _ _ _; refine keepA ?_) | refine own_keep ?_ | refine ap_old ?_))
          all_goals (conv => whnf)
          · exact slots_fail (fun _ _ h => h) rfl (if_pos (by omega))
          · exact slots_end (i := 1) (fun _ _ h => h) rfl hll.symm (range_fits hs1 hsp hn64 hp2) (by omega) (by repeat (first | exact List.mem_cons_self | apply List.mem_cons_of_mem)) (if_neg (by omega))
    · obtain ⟨hc, hsp'⟩ := hel h1
      have hns : n = s := by rw [← hn, hc, Nat.one_mul]
      subst hsp'
      subst hns
      refine calls_of tab tabOk Tryz.func25 rfl rfl rfl [] (fun _ => ⟨none, 0⟩) [.c u.val, .c (.int .i64 layout), .c (.int .i64 slots)] [] (baseA w) 0 rfl rfl (by show 3 ≤ _; decide) (abs_base w) ?_
      (repeat' ((conv => whnf) <;> first | (show callK _ 61 _ _ _ _ _; refine call_pure (f := 61) Tryz.call61 (.int .i64 (n : Nat)) (fun ρ w' hw => hent hw) ?_) | (show makeK _ _ _ _; (refine make_cap 0 n rfl rfl (Nat.zero_le _) (by show 8 * _ ≤ _; omega) (by omega) ?_)) | (show divK _ _ _ _; refine div_isS (q := (c : Int)) hq (by omega) (by omega) (by omega) ?_) | (show drawK _ _ _ _ _ _ _ _; refine draw_quiet tabOk mixed (by kernel_rfl) ?_) | (show Wp _ _ _ _ _ _ _; refine Wp.go tabOk rfl ?_) | (show @cmpK _ _ _; (first | refine cmpY ?_ | refine cmpN ?_ | (refine cmp_both ?_ ?_ <;> intro _))) | (show wrapK _ _ _; refine wrapA ?_) | (show leK _ _ _; refine leA ?_) | (show roomK _ _ _; refine roomA ?_) | (show ltK _ _ _; refine ltA ?_) | (show _ ∧ _; refine ⟨?_, ?_⟩) | (show keepK _ _ _ _ _; refine keepA ?_) | refine own_keep ?_ | refine ap_old ?_))
      all_goals (conv => whnf)
      · skip
        refine Wp.loop (σ := Nat × Nat) 2 (fun x => [(2, .c (.int .i64 slots)), (8, .c (.int .i64 (n : Nat))), (9, .c (.int .i64 (n : Nat))), (10, .c (.int .i64 (n : Nat))), (11, .os 1 x.2), (51, .c (.int .i64 (c : Nat))), (52, .c (.int .i64 x.1))]) (fun x => [(1, .rows (ints (rangeL n n x.2)) 1 3)]) (fun _ => baseA w)
          (fun x => x.1 ≤ c ∧ x.2 = x.1 * n) (fun x => c - x.1) (0, 0) [(1, some 0)] (by decide) (fun _ => ⟨rfl, rfl⟩) ⟨Nat.zero_le _, (Nat.zero_mul n).symm⟩ ⟨rfl, ⟨rfl, rfl, rfl, rfl, rfl, rfl, rfl, trivial⟩, ⟨List.mem_cons_self, trivial⟩, fun _ _ h => h⟩ ?_
        rintro ⟨cc, m⟩ ⟨hcc, hm⟩
        dsimp only at hcc hm
        by_cases hlt : cc < c
        · (repeat' ((conv => whnf) <;> first | (show drawK _ _ _ _ _ _ _ _; refine draw_quiet tabOk mixed (by kernel_rfl) ?_) | (show Wp _ _ _ _ _ _ _; refine Wp.go tabOk rfl ?_) | (show @cmpK _ _ _; (first | refine cmpY ?_ | refine cmpN ?_ | (refine cmp_both ?_ ?_ <;> intro _))) | (show wrapK _ _ _; refine wrapA ?_) | (show leK _ _ _; refine leA ?_) | (show roomK _ _ _; refine roomA ?_) | (show ltK _ _ _; refine ltA ?_) | (show _ ∧ _; refine ⟨?_, ?_⟩) | (show keepK _ _ _ _ _; refine keepA ?_) | refine own_keep ?_ | refine ap_old ?_))
          all_goals (conv => whnf)
          have hcp : cc * n ≤ 64 * 128 := Nat.mul_le_mul (by omega) hp2
          have hms : cc * n + n ≤ c * n := by rw [← Nat.succ_mul]; exact Nat.mul_le_mul_right n hlt
          refine Wp.loop (σ := Nat × Nat) 3 (fun x => [(2, .c (.int .i64 slots)), (8, .c (.int .i64 (n : Nat))), (9, .c (.int .i64 (n : Nat))), (10, .c (.int .i64 (n : Nat))), (11, .os 2 x.2), (51, .c (.int .i64 (c : Nat))), (52, .c (.int .i64 cc)), (12, .c (.int .i64 cc)), (55, .c (.int .i64 (n : Nat))), (56, .c (.int .i64 x.1))]) (fun x => [(2, .rows (ints (rangeL n n x.2)) 1 3)]) (fun _ => baseA w)
            (fun x => x.1 ≤ n ∧ x.2 = cc * n + x.1) (fun x => n - x.1) (0, m) [(2, some 1)] (by decide) (fun _ => ⟨rfl, rfl⟩) ⟨Nat.zero_le _, hm⟩ ⟨rfl, ⟨rfl, rfl, rfl, rfl, rfl, rfl, rfl, rfl, rfl, rfl, trivial⟩, ⟨List.mem_cons_self, trivial⟩, fun _ _ h => h⟩ ?_
          rintro ⟨i, k⟩ ⟨hi, hk⟩
          dsimp only at hi hk
          by_cases hli : i < n
          · have hpl : (((cc * n : Nat) : Int) + (i : Int)) = placeL n n k := by rw [hk, placeL_at hli]; simp
            have hrl := rangeL_length n n k
            (repeat' ((conv => whnf) <;> first | (show wrapK _ _ _; (first | refine wrap_isS ((cc * n : Nat) : Int) (Int.natCast_mul cc n).symm (by omega) (by omega) ?_ | refine wrap_isS (placeL n n k) hpl (by omega) (by omega) ?_ | refine wrap_i64 (by omega) (by omega) ?_)) | (show leK _ _ _; refine le_of (Nat.le_of_eq (by rw [ints_length, rangeL_length])) ?_) | (show roomK _ _ _; (refine room_of (by show (k + 1) * 8 ≤ 140737488355328; omega) ?_)) | (show drawK _ _ _ _ _ _ _ _; refine draw_quiet tabOk mixed (by kernel_rfl) ?_) | (show Wp _ _ _ _ _ _ _; refine Wp.go tabOk rfl ?_) | (show @cmpK _ _ _; (first | refine cmpY ?_ | refine cmpN ?_ | (refine cmp_both ?_ ?_ <;> intro _))) | (show wrapK _ _ _; refine wrapA ?_) | (show leK _ _ _; refine leA ?_) | (show roomK _ _ _; refine roomA ?_) | (show ltK _ _ _; refine ltA ?_) | (show _ ∧ _; refine ⟨?_, ?_⟩) | (show keepK _ _ _ _ _; refine keepA ?_) | refine own_keep ?_ | refine ap_old ?_))
            all_goals (conv => whnf)
            exact ⟨(i + 1, k + 1), [(2, some 4)], ⟨hli, by show k + 1 = cc * n + (i + 1); omega⟩, by show n - (i + 1) < n - i; omega, rfl, ⟨rfl, rfl, rfl, rfl, rfl, rfl, rfl, rfl, rfl, rfl, trivial⟩, ⟨by show (4, Ent.rows (ints (rangeL n n (k + 1))) 1 3) ∈ _; rw [rangeL_succ]; exact ints_snocS _ _ (rangeL_length n n k).symm, trivial⟩, fun _ _ h => h⟩
          · (repeat' ((conv => whnf) <;> first | (show drawK _ _ _ _ _ _ _ _; refine draw_quiet tabOk mixed (by kernel_rfl) ?_) | (show Wp _ _ _ _ _ _ _; refine Wp.go tabOk rfl ?_) | (show @cmpK _ _ _; (first | refine cmpY ?_ | refine cmpN ?_ | (refine cmp_both ?_ ?_ <;> intro _))) | (show wrapK _ _ _; refine wrapA ?_) | (show leK _ _ _; refine leA ?_) | (show roomK _ _ _; refine roomA ?_) | (show ltK _ _ _; refine ltA ?_) | (show _ ∧ _; refine ⟨?_, ?_⟩) | (show keepK _ _ _ _ _; refine keepA ?_) | refine own_keep ?_ | refine ap_old ?_))
            all_goals (conv => whnf)
            exact ⟨(cc + 1, k), [(1, some 2)], ⟨hlt, by show k = (cc + 1) * n; rw [Nat.succ_mul]; omega⟩, by show c - (cc + 1) < c - cc; omega, rfl, ⟨rfl, rfl, rfl, rfl, rfl, rfl, rfl, trivial⟩, ⟨List.mem_cons_self, trivial⟩, fun _ _ h => h⟩
        · have hcc2 : cc = c := by omega
          rw [hcc2, hn] at hm
          have hpb := placeL_bd (i := n - 1) (n := n) hs1 hsp (by omega) hn64 hp2
          have hlast := rangeL_getD n n (k := n) (i := n - 1) (by omega)
          have hll := rangeL_length n n n
          have hm' := hm.symm
          subst hm'
          (repeat' ((conv => whnf) <;> first | (show idxRowK _ _ _ _ _ _; refine idxRow_of (n - 1) (by omega) (by omega) (Nat.le_of_eq (by rw [ints_length, rangeL_length])) ?_) | (show rowK _ _ _ _; refine ro_own (xs := rangeL n n n) (j := n - 1) (by omega) ?_) | (show drawK _ _ _ _ _ _ _ _; refine draw_quiet tabOk mixed (by kernel_rfl) ?_) | (show Wp _ _ _ _ _ _ _; refine Wp.go tabOk rfl ?_) | (show @cmpK _ _ _; (first | refine cmpY ?_ | refine cmpN ?_ | (refine cmp_both ?_ ?_ <;> intro _))) | (show wrapK _ _ _; refine wrapA ?_) | (show leK _ _ _; refine leA ?_) | (show roomK _ _ _; refine roomA ?_) | (show ltK _ _ _; refine ltA ?_) | (show _ ∧ _; refine ⟨?_, ?_⟩) | (show keepK _ _ _ _ _; refine keepA ?_) | refine own_keep ?_ | refine ap_old ?_))
          all_goals (conv => whnf)
          · exact slots_fail (fun _ _ h => h) rfl (if_pos (by omega))
          · exact slots_end (i := 1) (fun _ _ h => h) rfl hll.symm (range_fits hs1 hsp hn64 hp2) (by omega) (by repeat (first | exact List.mem_cons_self | apply List.mem_cons_of_mem)) (if_neg (by omega))
      · skip
        refine Wp.loop (σ := Nat × Nat) 2 (fun x => [(2, .c (.int .i64 slots)), (8, .c (.int .i64 (n : Nat))), (9, .c (.int .i64 (n : Nat))), (10, .c (.int .i64 (n : Nat))), (11, .os 1 x.2), (51, .c (.int .i64 (c : Nat))), (52, .c (.int .i64 x.1))]) (fun x => [(1, .rows (ints (rangeL n n x.2)) 1 3)]) (fun _ => baseA w)
          (fun x => x.1 ≤ c ∧ x.2 = x.1 * n) (fun x => c - x.1) (0, 0) [(1, some 0)] (by decide) (fun _ => ⟨rfl, rfl⟩) ⟨Nat.zero_le _, (Nat.zero_mul n).symm⟩ ⟨rfl, ⟨rfl, rfl, rfl, rfl, rfl, rfl, rfl, trivial⟩, ⟨List.mem_cons_self, trivial⟩, fun _ _ h => h⟩ ?_
        rintro ⟨cc, m⟩ ⟨hcc, hm⟩
        dsimp only at hcc hm
        by_cases hlt : cc < c
        · (repeat' ((conv => whnf) <;> first | (show drawK _ _ _ _ _ _ _ _; refine draw_quiet tabOk mixed (by kernel_rfl) ?_) | (show Wp _ _ _ _ _ _ _; refine Wp.go tabOk rfl ?_) | (show @cmpK _ _ _; (first | refine cmpY ?_ | refine cmpN ?_ | (refine cmp_both ?_ ?_ <;> intro _))) | (show wrapK _ _ _; refine wrapA ?_) | (show leK _ _ _; refine leA ?_) | (show roomK _ _ _; refine roomA ?_) | (show ltK _ _ _; refine ltA ?_) | (show _ ∧ _; refine ⟨?_, ?_⟩) | (show keepK _ _ _ _ _; refine keepA ?_) | refine own_keep ?_ | refine ap_old ?_))
          all_goals (conv => whnf)
          have hcp : cc * n ≤ 64 * 128 := Nat.mul_le_mul (by omega) hp2
          have hms : cc * n + n ≤ c * n := by rw [← Nat.succ_mul]; exact Nat.mul_le_mul_right n hlt
          refine Wp.loop (σ := Nat × Nat) 3 (fun x => [(2, .c (.int .i64 slots)), (8, .c (.int .i64 (n : Nat))), (9, .c (.int .i64 (n : Nat))), (10, .c (.int .i64 (n : Nat))), (11, .os 2 x.2), (51, .c (.int .i64 (c : Nat))), (52, .c (.int .i64 cc)), (12, .c (.int .i64 cc)), (55, .c (.int .i64 (n : Nat))), (56, .c (.int .i64 x.1))]) (fun x => [(2, .rows (ints (rangeL n n x.2)) 1 3)]) (fun _ => baseA w)
            (fun x => x.1 ≤ n ∧ x.2 = cc * n + x.1) (fun x => n - x.1) (0, m) [(2, some 1)] (by decide) (fun _ => ⟨rfl, rfl⟩) ⟨Nat.zero_le _, hm⟩ ⟨rfl, ⟨rfl, rfl, rfl, rfl, rfl, rfl, rfl, rfl, rfl, rfl, trivial⟩, ⟨List.mem_cons_self, trivial⟩, fun _ _ h => h⟩ ?_
          rintro ⟨i, k⟩ ⟨hi, hk⟩
          dsimp only at hi hk
          by_cases hli : i < n
          · have hpl : (((cc * n : Nat) : Int) + (i : Int)) = placeL n n k := by rw [hk, placeL_at hli]; simp
            have hrl := rangeL_length n n k
            (repeat' ((conv => whnf) <;> first | (show wrapK _ _ _; (first | refine wrap_isS ((cc * n : Nat) : Int) (Int.natCast_mul cc n).symm (by omega) (by omega) ?_ | refine wrap_isS (placeL n n k) hpl (by omega) (by omega) ?_ | refine wrap_i64 (by omega) (by omega) ?_)) | (show leK _ _ _; refine le_of (Nat.le_of_eq (by rw [ints_length, rangeL_length])) ?_) | (show roomK _ _ _; (refine room_of (by show (k + 1) * 8 ≤ 140737488355328; omega) ?_)) | (show drawK _ _ _ _ _ _ _ _; refine draw_quiet tabOk mixed (by kernel_rfl) ?_) | (show Wp _ _ _ _ _ _ _; refine Wp.go tabOk rfl ?_) | (show @cmpK _ _ _; (first | refine cmpY ?_ | refine cmpN ?_ | (refine cmp_both ?_ ?_ <;> intro _))) | (show wrapK _ _ _; refine wrapA ?_) | (show leK _ _ _; refine leA ?_) | (show roomK _ _ _; refine roomA ?_) | (show ltK _ _ _; refine ltA ?_) | (show _ ∧ _; refine ⟨?_, ?_⟩) | (show keepK _ _ _ _ _; refine keepA ?_) | refine own_keep ?_ | refine ap_old ?_))
            all_goals (conv => whnf)
            exact ⟨(i + 1, k + 1), [(2, some 4)], ⟨hli, by show k + 1 = cc * n + (i + 1); omega⟩, by show n - (i + 1) < n - i; omega, rfl, ⟨rfl, rfl, rfl, rfl, rfl, rfl, rfl, rfl, rfl, rfl, trivial⟩, ⟨by show (4, Ent.rows (ints (rangeL n n (k + 1))) 1 3) ∈ _; rw [rangeL_succ]; exact ints_snocS _ _ (rangeL_length n n k).symm, trivial⟩, fun _ _ h => h⟩
          · (repeat' ((conv => whnf) <;> first | (show drawK _ _ _ _ _ _ _ _; refine draw_quiet tabOk mixed (by kernel_rfl) ?_) | (show Wp _ _ _ _ _ _ _; refine Wp.go tabOk rfl ?_) | (show @cmpK _ _ _; (first | refine cmpY ?_ | refine cmpN ?_ | (refine cmp_both ?_ ?_ <;> intro _))) | (show wrapK _ _ _; refine wrapA ?_) | (show leK _ _ _; refine leA ?_) | (show roomK _ _ _; refine roomA ?_) | (show ltK _ _ _; refine ltA ?_) | (show _ ∧ _; refine ⟨?_, ?_⟩) | (show keepK _ _ _ _ _; refine keepA ?_) | refine own_keep ?_ | refine ap_old ?_))
            all_goals (conv => whnf)
            exact ⟨(cc + 1, k), [(1, some 2)], ⟨hlt, by show k = (cc + 1) * n; rw [Nat.succ_mul]; omega⟩, by show c - (cc + 1) < c - cc; omega, rfl, ⟨rfl, rfl, rfl, rfl, rfl, rfl, rfl, trivial⟩, ⟨List.mem_cons_self, trivial⟩, fun _ _ h => h⟩
        · have hcc2 : cc = c := by omega
          rw [hcc2, hn] at hm
          have hpb := placeL_bd (i := n - 1) (n := n) hs1 hsp (by omega) hn64 hp2
          have hlast := rangeL_getD n n (k := n) (i := n - 1) (by omega)
          have hll := rangeL_length n n n
          have hm' := hm.symm
          subst hm'
          (repeat' ((conv => whnf) <;> first | (show idxRowK _ _ _ _ _ _; refine idxRow_of (n - 1) (by omega) (by omega) (Nat.le_of_eq (by rw [ints_length, rangeL_length])) ?_) | (show rowK _ _ _ _; refine ro_own (xs := rangeL n n n) (j := n - 1) (by omega) ?_) | (show drawK _ _ _ _ _ _ _ _; refine draw_quiet tabOk mixed (by kernel_rfl) ?_) | (show Wp _ _ _ _ _ _ _; refine Wp.go tabOk rfl ?_) | (show @cmpK _ _ _; (first | refine cmpY ?_ | refine cmpN ?_ | (refine cmp_both ?_ ?_ <;> intro _))) | (show wrapK _ _ _; refine wrapA ?_) | (show leK _ _ _; refine leA ?_) | (show roomK _ _ _; refine roomA ?_) | (show ltK _ _ _; refine ltA ?_) | (show _ ∧ _; refine ⟨?_, ?_⟩) | (show keepK _ _ _ _ _; refine keepA ?_) | refine own_keep ?_ | refine ap_old ?_))
          all_goals (conv => whnf)
          · exact slots_fail (fun _ _ h => h) rfl (if_pos (by omega))
          · exact slots_end (i := 1) (fun _ _ h => h) rfl hll.symm (range_fits hs1 hsp hn64 hp2) (by omega) (by repeat (first | exact List.mem_cons_self | apply List.mem_cons_of_mem)) (if_neg (by omega))
end Go.Proofs.YtgndjjdeopfdkaaGreat

/- LT -/
namespace Go.Proofs.YtgndjjdeopfdkaaGreat
open Go.RowKit Go.SX
end Go.Proofs.YtgndjjdeopfdkaaGreat

/- LU -/
namespace Go.Proofs.YtgndjjdeopfdkaaGreat
open Go.RowKit Go.SX
theorem diagA_ok {x : ShapesV} {D : List (List Int)} {R : Nat → Prop} {w : World} (hx : DiagIs D x) (hl : D.length ≤ 1000000) (h : (diagA x).holds R w) : x.okB w := ⟨rowsA_in h.1, fun u hu => intsA_ok (hx.sane u hu) (h.2 u hu), by have := congrArg List.length hx.rows; rw [List.length_map] at this; omega⟩
theorem call_slots {cx : Cx} {f : FuncId} {args : List SV} {H : Heap} {S : Asn} {nx : Nat} {K : SV → Heap → Asn → Nat → Prop} (r : List Int × Int) (hf : ∀ ar w, (callFunc f ar).run cx.P w = .ok (.enter f ar) w)
    (hc : ∀ ρ w, Abs cx.B ρ nx H S w → Calls cx.P f (SV.rfs ρ args).toArray w (SlotsPost w r)) (h : ∀ x : IntsV, x.xs = r.1 → x.sane → K (.c (.tuple #[x.val, .int .i64 r.2])) H (S.and ((intsA x).past cx.B.w0.heap.size)) nx) : callK cx f args H S nx K := by
  refine call_past hf (fun x : IntsV => .tuple #[x.val, .int .i64 r.2]) intsA (fun x => x.xs = r.1 ∧ x.sane) (fun ρ w' hw => (hc ρ w' hw).mono ?_) (fun x hx => h x hx.1 hx.2)
  rintro e w2 ⟨x, h1, h2, h3, h4⟩
  exact ⟨x, h1, h2, h3, h4⟩
end Go.Proofs.YtgndjjdeopfdkaaGreat

/- QN -/
namespace Go.Proofs.YtgndjjdeopfdkaaGreat
abbrev dtQN0 : Go.SX.DT := (.take 0 (.take 1 (.take 2 (.take 3 (.take 4 (.take 5 (.take 6 (.take 7 (.take 8 (.alt 9 (.take 10 (.take 11 (.take 12 (.take 13 (.one 14 (.take 15 (.one 16 (.take 17 (.done))))))))) (.one 14 (.one 9 (.take 10 (.take 11 (.take 12 (.take 13 (.take 15 (.one 16 (.take 17 (.done))))))))))))))))))))
abbrev dtQN1 : Go.SX.DT := (.take 0 (.take 1 (.take 2 (.take 3 (.take 4 (.take 5 (.take 6 (.take 7 (.take 8 (.take 9 (.take 10 (.take 11 (.take 12 (.take 13 (.take 14 (.take 15 (.take 16 (.take 17 (.take 18 (.take 19 (.take 20 (.one 21 (.take 22 (.take 23 (.take 24 (.take 25 (.take 26 (.done))))))))))))))))))))))))))))
abbrev dtQN2 : Go.SX.DT := (.take 0 (.take 1 (.take 2 (.take 3 (.take 4 (.take 5 (.take 6 (.take 7 (.take 8 (.alt 9 (.take 10 (.take 11 (.take 12 (.alt 13 (.one 14 (.take 15 (.one 16 (.one 17 (.done))))) (.one 14 (.take 15 (.alt 13 (.one 16 (.one 17 (.done))) (.one 16 (.one 13 (.one 17 (.done))))))))))) (.one 14 (.one 9 (.take 10 (.take 11 (.take 12 (.take 15 (.alt 13 (.one 16 (.one 17 (.done))) (.one 16 (.one 13 (.one 17 (.done)))))))))))))))))))))
open Go.SX Go.RowKit
def lowWeighed (n : Nat) (giant : Bool) (s : LowP) (x : Int) (r : List (List Int) × List Int) (fr to : List Int) : LowP × Int :=
  let q := lowRows n giant s x (diagL r.1 fr to n).1
  if r.2.any (fun b => decide (b ≠ 0)) = true then
    let p := lowSpread n q.1 to (fun e => r.2.getD e 0)
    lowLay p.1 4 q.2 0 p.2
  else q
def shapesA (c : LowC) : Asn := (rowsA c.shapes.base 1 (shRows c.shapes.l)).and (intsL c.shapes.l)
abbrev weiF (c : LowC) (s : LowV) (n : NodeV) : Asn := (nodeF c s n).and (shapesA c)
def n0 (n : NodeV) : NodeV := { n with a := 0 }
theorem call_diagN {cx : Cx} {f : FuncId} {args : List SV} {H : Heap} {S : Asn} {nx : Nat} {K : SV → Heap → Asn → Nat → Prop} (n : Nat) (r : List (List Int) × Int) (hf : ∀ ar w, (callFunc f ar).run cx.P w = .ok (.enter f ar) w)
    (hc : ∀ ρ w, Abs cx.B ρ nx H S w → Calls cx.P f (SV.rfs ρ args).toArray w (DiagPostN w n r.1 r.2)) (h : ∀ x : ShapesV, DiagIs r.1 x → DiagN n x → K (.c (.tuple #[x.val, .int .i64 r.2])) H (S.and ((diagA x).past cx.B.w0.heap.size)) nx) : callK cx f args H S nx K := by
  refine call_past hf (fun x : ShapesV => .tuple #[x.val, .int .i64 r.2]) diagA (fun x => DiagIs r.1 x ∧ DiagN n x) (fun ρ w' hw => (hc ρ w' hw).mono ?_) (fun x hx => h x hx.1 hx.2)
  rintro e w2 ⟨x, h1, h2, h3, h4⟩
  exact ⟨x, h1, h2, h3, h4⟩
def rowsD' (p : ShapesV × IntsV) : Asn := (diagA p.1).and (intsA p.2)
theorem call_rowsW {cx : Cx} {f : FuncId} {args : List SV} {H : Heap} {S : Asn} {nx : Nat} {K : SV → Heap → Asn → Nat → Prop} (r : (List (List Int) × List Int) × Int) (hf : ∀ ar w, (callFunc f ar).run cx.P w = .ok (.enter f ar) w)
    (hc : ∀ ρ w, Abs cx.B ρ nx H S w → Calls cx.P f (SV.rfs ρ args).toArray w (RowsPost w r)) (h : ∀ (x : ShapesV) (y : IntsV), DiagIs r.1.1 x → y.xs = r.1.2 → y.sane → K (.c (.tuple #[x.val, y.val, .int .i64 r.2])) H (S.and ((rowsD' (x, y)).past cx.B.w0.heap.size)) nx) : callK cx f args H S nx K := by
  refine call_past hf (fun p : ShapesV × IntsV => .tuple #[p.1.val, p.2.val, .int .i64 r.2]) rowsD' (fun p => DiagIs r.1.1 p.1 ∧ p.2.xs = r.1.2 ∧ p.2.sane) (fun ρ w' hw => (hc ρ w' hw).mono ?_) (fun p hp => h p.1 p.2 hp.1 hp.2.1 hp.2.2)
  rintro e w2 ⟨x, y, h1, h2, h3, h4, h5⟩
  exact ⟨(x, y), h1, h2, h3, h4, h5⟩
theorem nodeA_ok {n : NodeV} {R : Nat → Prop} {w : World} (hn : n.saneN) (h : (nodeA n).holds R w) : n.ok w := ⟨⟨know_in h.1, hn.shape.fits, hn.shape.room, hn.shape.few⟩, ⟨know_in h.2.1, hn.data.fits, hn.data.room, hn.data.few⟩, ⟨know_in h.2.2, hn.bias.fits, hn.bias.room, hn.bias.few⟩, hn.kindFits, hn.aFits, hn.bFits, hn.loFits, hn.hiFits, hn.sizeFits⟩
theorem n0_ok {n : NodeV} {R : Nat → Prop} {w : World} (hn : n.saneN) (h : (nodeA n).holds R w) : (n0 n).ok w := by
  have := nodeA_ok hn h
  exact ⟨this.shape, this.data, this.bias, hn.kindFits, by show i64 0; unfold i64; omega, hn.bFits, hn.loFits, hn.hiFits, hn.sizeFits⟩
theorem foldl_len {α : Type} {f : List (List Int) → α → List (List Int)} (h : ∀ D a, (f D a).length = D.length) : ∀ (l : List α) (D : List (List Int)), (l.foldl f D).length = D.length
  | [], _ => rfl
  | a :: l, D => by rw [List.foldl_cons, foldl_len h l, h]
theorem diagL_length {rows : List (List Int)} {fr to : List Int} {n : Nat} (hd : diagOk rows fr to n) : (diagL rows fr to n).1.length = n := by
  rw [diagL, if_pos hd]
  show (outerD _ _ _ _ _).length = n
  unfold outerD
  rw [foldl_len]
  · simp
  · intro D a
    unfold innerD
    refine foldl_len (fun D a => ?_) _ _
    unfold stepPD
    split <;> simp
set_option maxRecDepth 20000 in
set_option maxHeartbeats 4000000 in
theorem low_weighed (c : LowC) (s : LowV) (vl : List Int) (n : NodeV) (i : Nat) (sh fr to : IntsV) (r : List (List Int) × List Int) (hN : NodeAt c s vl) (h0 : 0 ≤ n.a) (ha : n.a.toNat < vl.length) (hn : n.saneN) (hsm : n.small) (hsh : c.shapes.l[n.a.toNat]? = some sh) (hshs : sh.sane) (hfr : c.spots.l[n.a.toNat]? = some fr) (hfrs : fr.sane) (hto : c.spots.l[i]? = some to) (htos : to.sane) (hk : ¬ (n.kind = 9 ∧ fr.xs = to.xs)) (hr : (rowsR (n0 n) sh).1 = r) (hd : diagOk r.1 fr.xs to.xs c.slots) (hb : to.xs.length ≤ r.2.length)
    (w : World) (ρ : Nat → SX.Loc) (F : Nat → Prop) (h : ObjIn w ρ F 2 5 (lowH c s vl) (weiF c s n)) :
    Calls Tryz.prog 26 (SV.rfs ρ [.lp 0 0 0 0, .agg [.c (.int .i64 n.kind), .c (.int .i64 n.a), .c (.int .i64 n.b), .c n.shape.val, .c (.int .i64 n.lo), .c (.int .i64 n.hi), .c (.int .i64 n.size), .c n.data.val, .c n.bias.val], .c (.int .i64 i)]).toArray w (NodePost w ρ F c s vl (lowWeighed c.slots c.giant s.pl (vl.getD n.a.toNat 0) r fr.xs to.xs)) := by
  have hcl := hN.fewC
  have hpl := hN.fewP
  have hn1 := hN.slots.1
  have hn2 := hN.slots.2
  have fsl : ∀ {j : Nat} {u : IntsV} {l : List IntsV}, l[j]? = some u → (shRows l)[j]? = some [u.val] := fun h => by unfold shRows; rw [List.getElem?_map, h]; rfl
  have ln : ∀ {j : Nat} {u : IntsV} {l : List IntsV}, l[j]? = some u → j < l.length := fun h => (List.getElem?_eq_some_iff.1 h).1
  refine calls_of tab tabOk Tryz.func26 rfl rfl rfl (pinL 2 ρ) ρ [.lp 0 0 0 0, .agg [.c (.int .i64 n.kind), .c (.int .i64 n.a), .c (.int .i64 n.b), .c n.shape.val, .c (.int .i64 n.lo), .c (.int .i64 n.hi), .c (.int .i64 n.size), .c n.data.val, .c n.bias.val], .c (.int .i64 i)] (lowH c s vl) ((weiF c s n).and (restF w F)) 5 rfl rfl (by show 3 ≤ _; decide) h.abs ?_
  
  refine Wp.know (p := ∃ a, c.spots.base = some a) (fun ρ w' hw => holds_of_abs hw fun R h => base_some (j := i) (rowsA_in h.1.1.1.2.1) (by rw [shRows_length]; exact ln hto)) ?_
  rintro ⟨sa, hsa⟩
  refine Wp.know (p := ∃ a, c.shapes.base = some a) (fun ρ w' hw => holds_of_abs hw fun R h => base_some (j := n.a.toNat) (rowsA_in h.1.2.1) (by rw [shRows_length]; exact ln hsh)) ?_
  rintro ⟨ha', hha⟩
  by_cases hk9 : n.kind = 9
  all_goals
    (repeat' ((conv => whnf) <;> first | (show drawK _ 6 _ _ _ _ _ _; refine draw_tree tabOk mixed [] _ dtQN0 (by kernel_rfl) (by kernel_rfl) (by kernel_rfl) (List.Sublist.refl _) ?_) | (show drawK _ 7 _ _ _ _ _ _; refine draw_tree tabOk mixed [] _ dtQN1 (by kernel_rfl) (by kernel_rfl) (by kernel_rfl) (List.Sublist.refl _) ?_) | (show keepK _ _ _ _ _; refine keepB ?_) | (show @cmpK _ _ _; (first | refine cmp_yes (by omega) ?_ | refine cmp_no (by omega) ?_)) | (show idxK _ _ _ _ _; (first | refine idx_of sa n.a.toNat hsa (by omega) (ln hfr) ?_ | refine idx_of sa i hsa rfl (ln hto) ?_ | refine idx_of ha' n.a.toNat hha (by omega) (ln hsh) ?_)) | (show roK _ _ _; (first | refine ro_row0 (fun R w' h => by rw [← hsa]; first | exact rowsA_in h.1.1.1.2.1 | exact rowsA_in h.1.1.1.1.2.1) _ _ (fsl hfr) rfl ?_ | refine ro_row0 (fun R w' h => by rw [← hsa]; first | exact rowsA_in h.1.1.1.2.1 | exact rowsA_in h.1.1.1.1.2.1) _ _ (fsl hto) rfl ?_ | refine ro_row0 (fun R w' h => by rw [← hha]; exact rowsA_in h.1.2.1) _ _ (fsl hsh) rfl ?_)) | (show idxRowK _ _ _ _ _ _; (refine idxRow_of n.a.toNat (by omega) ha (by rw [ints_length]; exact Nat.le_refl _) ?_)) | (show rowK _ _ _ _; refine ro_own ha ?_) | (show callQ _ 62 _ _ _ _ _; (refine callQ_of (f := 62) Tryz.call62 (.bool false) (fun ρ w' hw => by have := equal_any w' fr to (holds_of_abs hw fun R h => intsA_ok hfrs (h.1.1.1.2.2 _ (List.mem_of_getElem? hfr))) (holds_of_abs hw fun R h => intsA_ok htos (h.1.1.1.2.2 _ (List.mem_of_getElem? hto))); rw [decide_eq_false (fun e => hk ⟨hk9, e⟩)] at this; exact this) ?_)) | (show callK _ 63 _ _ _ _ _; refine call_rowsW (rowsR (n0 n) sh) Tryz.call63 (fun ρ w' hw => rowsLin_any w' (n0 n) sh (holds_of_abs hw fun R h => n0_ok hn h.1.1.2) ⟨hsm.data, hsm.bias⟩ (holds_of_abs hw fun R h => intsA_ok hshs (h.1.2.2 _ (List.mem_of_getElem? hsh)))) (fun x y hx hy hys => ?_)) | (show callK _ 64 _ _ _ _ _; (refine call_diagN c.slots (diagL (x.l.map IntsV.xs) fr.xs to.xs c.slots) Tryz.call64 (fun ρ w' hw => diag_anyN w' x (holds_of_abs hw fun R h => diagA_ok hx (by rw [hr, hd.2.2.1]; exact htos.few) ((diagA x).mono h.2.1 (fun _ hb => hb.1))) fr to (holds_of_abs hw fun R h => intsA_ok hfrs (h.1.1.1.1.2.2 _ (List.mem_of_getElem? hfr))) (holds_of_abs hw fun R h => intsA_ok htos (h.1.1.1.1.2.2 _ (List.mem_of_getElem? hto))) c.slots ⟨by omega, by omega⟩) (fun d hdx hdn => ?_))) | (show drawK _ _ _ _ _ _ _ _; refine draw_quiet tabOk mixed (by kernel_rfl) ?_) | (show Wp _ _ _ _ _ _ _; refine Wp.go tabOk rfl ?_) | (show @cmpK _ _ _; (first | refine cmpY ?_ | refine cmpN ?_ | (refine cmp_both ?_ ?_ <;> intro _))) | (show wrapK _ _ _; refine wrapA ?_) | (show leK _ _ _; refine leA ?_) | (show roomK _ _ _; refine roomA ?_) | (show ltK _ _ _; refine ltA ?_) | (show _ ∧ _; refine ⟨?_, ?_⟩) | (show keepK _ _ _ _ _; refine keepA ?_) | refine own_keep ?_ | refine ap_old ?_))
  all_goals
    have hdl : d.l.length = c.slots := by have := congrArg List.length hdx.rows; rw [List.length_map, hx.rows, hr, diagL_length hd] at this; exact this
    have hDr : d.l.map IntsV.xs = (diagL r.1 fr.xs to.xs c.slots).1 := by rw [hdx.rows, hx.rows, hr]
    have hG := GrowP.rows c.slots c.giant s.pl (vl.getD n.a.toNat 0) (d.l.map IntsV.xs) hn1 (by rw [List.length_map]; omega)
    refine call_lowG [(7, .box [.c y.val] 32), (6, .box [.c (.int .i64 n.kind), .c (.int .i64 0), .c (.int .i64 n.b), .c n.shape.val, .c (.int .i64 n.lo), .c (.int .i64 n.hi), .c (.int .i64 n.size), .c n.data.val, .c n.bias.val] 41), (5, .box (cs n.cells) 41)] 0 1 2 3 4 c s vl ((intsL s.plains).and (diagA d)) [.lp 0 0 0 0, .c (.int .i64 (vl.getD n.a.toNat 0)), .c d.val] _ _ _ _ Tryz.call65 rfl rfl rfl (fun R w' h => ⟨h.1.1.1.1.1.1, (diagA d).mono h.2 (fun _ hb => hb.1)⟩) (othF w F) (fun R w' h b hb => (h.1.1.2 b hb).1) (fun w' ρ' F' h' => low_rows c s vl (vl.getD n.a.toNat 0) d hN hdl hdn hdx.sane hdx.room w' ρ' F' h') (fun q ⟨hq1, hq2, hq3⟩ => ?_)
    rw [← hq1] at hG
    have hGf : q.1.code.length ≤ s.code.length + (5 * c.slots + 1) := hG.few
    have hGp : q.1.plains.length ≤ 1000000 := by
      have := hG.plains
      have e1 : q.1.pl.plains.length = q.1.plains.length := List.length_map _
      have e2 : s.pl.plains.length = s.plains.length := List.length_map _
      have e3 : q.1.pl.code.length = q.1.code.length := rfl
      have e4 : s.pl.code.length = s.code.length := rfl
      omega
    have hyr : y.xs = r.2 := by rw [hy, hr]
    have hw0 : ∀ v, lowRows c.slots c.giant s.pl (vl.getD n.a.toNat 0) (d.l.map IntsV.xs) = v → lowWeighed c.slots c.giant s.pl (vl.getD n.a.toNat 0) r fr.xs to.xs = (if y.xs.any (fun b => decide (b ≠ 0)) = true then lowLay (lowSpread c.slots v.1 to.xs (fun e => y.xs.getD e 0)).1 4 v.2 0 (lowSpread c.slots v.1 to.xs (fun e => y.xs.getD e 0)).2 else v) := fun v hv => by unfold lowWeighed; rw [← hDr, hv, hyr]
    have hw1 := hw0 (q.1.pl, q.2) (Prod.ext hq1.symm hq2.symm)
    by_cases hnz : y.xs.any (fun b => decide (b ≠ 0)) = true
    · rw [if_pos hnz] at hw1
      rw [hw1]
      (repeat' ((conv => whnf) <;> first | (show callK _ 66 _ _ _ _ _; (refine call_pure (f := 66) Tryz.call66 (.bool true) (fun ρ w' hw => by have := containsNz_any w' y (holds_of_abs hw fun R h => intsA_ok hys ((intsA y).mono h.1.1.2.2 (fun _ hb => hb.1))); rw [hnz] at this; exact this) ?_)) | (show drawK _ 6 _ _ _ _ _ _; refine draw_tree tabOk mixed [16] _ dtQN2 (by kernel_rfl) (by kernel_rfl) (by kernel_rfl) (List.Sublist.refl _) ?_) | (show drawK _ _ _ _ _ _ _ _; refine draw_quiet tabOk mixed (by kernel_rfl) ?_) | (show Wp _ _ _ _ _ _ _; refine Wp.go tabOk rfl ?_) | (show @cmpK _ _ _; (first | refine cmpY ?_ | refine cmpN ?_ | (refine cmp_both ?_ ?_ <;> intro _))) | (show wrapK _ _ _; refine wrapA ?_) | (show leK _ _ _; refine leA ?_) | (show roomK _ _ _; refine roomA ?_) | (show ltK _ _ _; refine ltA ?_) | (show _ ∧ _; refine ⟨?_, ?_⟩) | (show keepK _ _ _ _ _; refine keepA ?_) | refine own_keep ?_ | refine ap_old ?_))
      refine call_spreadG rfl [(6, .box [.c (.int .i64 n.kind), .c (.int .i64 0), .c (.int .i64 n.b), .c n.shape.val, .c (.int .i64 n.lo), .c (.int .i64 n.hi), .c (.int .i64 n.size), .c n.data.val, .c n.bias.val] 41), (5, .box (cs n.cells) 41)] 7 0 1 10 11 12 c q.1 vl 70 [y.val] 32 i (fun e => y.xs.getD e 0) (intsA y) to hn2 hq3.plains hGp hto htos (placesL_of hd.2.2.2.2.1).1 (fun e he => by rw [List.getD_eq_getElem?_getD, List.getElem?_eq_getElem (by rw [hyr]; omega)]; exact hys.fits _ (List.getElem_mem _)) Tryz.call70 (fun R w' b e he hh hA => biasOf_any w' b e y _ (by rw [hyr]; omega) (rowsA_in hA) hh) rfl rfl rfl (fun R w' h => ⟨⟨newL_join h.1.1.1.1.1.1.1 h.2, h.1.1.1.1.1.1.2⟩, (intsA y).mono h.1.1.2.2 (fun _ hb => hb.1)⟩) (othF w F) (fun R w' h b hb => (h.1.1.1.2 b hb).1) (fun u hu hus => ?_)
      (repeat' ((conv => whnf) <;> first | (show drawK _ 6 _ _ _ _ _ _; refine draw_tree tabOk mixed [16] _ dtQN2 (by kernel_rfl) (by kernel_rfl) (by kernel_rfl) (List.Sublist.refl _) ?_) | (show drawK _ _ _ _ _ _ _ _; refine draw_quiet tabOk mixed (by kernel_rfl) ?_) | (show Wp _ _ _ _ _ _ _; refine Wp.go tabOk rfl ?_) | (show @cmpK _ _ _; (first | refine cmpY ?_ | refine cmpN ?_ | (refine cmp_both ?_ ?_ <;> intro _))) | (show wrapK _ _ _; refine wrapA ?_) | (show leK _ _ _; refine leA ?_) | (show roomK _ _ _; refine roomA ?_) | (show ltK _ _ _; refine ltA ?_) | (show _ ∧ _; refine ⟨?_, ?_⟩) | (show keepK _ _ _ _ _; refine keepA ?_) | refine own_keep ?_ | refine ap_old ?_))
      refine call_lowG [(6, .box [.c (.int .i64 n.kind), .c (.int .i64 0), .c (.int .i64 n.b), .c n.shape.val, .c (.int .i64 n.lo), .c (.int .i64 n.hi), .c (.int .i64 n.size), .c n.data.val, .c n.bias.val] 41), (5, .box (cs n.cells) 41)] 0 1 15 16 17 c (plainV q.1 u).1 vl trueA [.lp 0 0 0 0, .c (.int .i64 4), .c (.int .i64 q.2), .c (.int .i64 0), .c (.int .i64 (plainV q.1 u).2)] _ _ _ _ Tryz.call68 rfl rfl rfl (fun R w' h => trivial) (othF w F) (fun R w' h b hb => (h.1.1.1.1.2 b hb).1) (fun w' ρ' F' h' => low_lay c (plainV q.1 u).1 vl 4 q.2 0 (plainV q.1 u).2 (by rw [plainV_code]; omega) w' ρ' F' h') (fun _ _ => ?_)
      (repeat' ((conv => whnf) <;> first | (show drawK _ 6 _ _ _ _ _ _; refine draw_tree tabOk mixed [16] _ dtQN2 (by kernel_rfl) (by kernel_rfl) (by kernel_rfl) (List.Sublist.refl _) ?_) | (show drawK _ _ _ _ _ _ _ _; refine draw_quiet tabOk mixed (by kernel_rfl) ?_) | (show Wp _ _ _ _ _ _ _; refine Wp.go tabOk rfl ?_) | (show @cmpK _ _ _; (first | refine cmpY ?_ | refine cmpN ?_ | (refine cmp_both ?_ ?_ <;> intro _))) | (show wrapK _ _ _; refine wrapA ?_) | (show leK _ _ _; refine leA ?_) | (show roomK _ _ _; refine roomA ?_) | (show ltK _ _ _; refine ltA ?_) | (show _ ∧ _; refine ⟨?_, ?_⟩) | (show keepK _ _ _ _ _; refine keepA ?_) | refine own_keep ?_ | refine ap_old ?_))
      all_goals (conv => whnf)
      exact obj_end _ _ _ _ (layV (plainV q.1 u).1 4 q.2 0 (plainV q.1 u).2, ((plainV q.1 u).1.code.length : Int)) [(2, some 21), (3, some 22), (4, some 23)] ⟨by rw [lowSpread_pl hu, lowLay_pl], by rw [lowSpread_pl hu, lowLay_pl], layV_ok (plainV_ok hq3 hus) _ _ _ _⟩ (by decide) rfl rfl rfl rfl ⟨(by repeat (first | exact List.mem_cons_self | apply List.mem_cons_of_mem)), (by repeat (first | exact List.mem_cons_self | apply List.mem_cons_of_mem)), (by repeat (first | exact List.mem_cons_self | apply List.mem_cons_of_mem)), (by repeat (first | exact List.mem_cons_self | apply List.mem_cons_of_mem)), (by repeat (first | exact List.mem_cons_self | apply List.mem_cons_of_mem)), trivial⟩ (fun R w' h => ⟨h.1.1.1.1.1.2, newL_more h.1.1.2 h.1.2⟩)
    · rw [if_neg hnz] at hw1
      rw [hw1]
      have hnf := Bool.eq_false_iff.2 hnz
      (repeat' ((conv => whnf) <;> first | (show callK _ 66 _ _ _ _ _; (refine call_pure (f := 66) Tryz.call66 (.bool false) (fun ρ w' hw => by have := containsNz_any w' y (holds_of_abs hw fun R h => intsA_ok hys ((intsA y).mono h.1.1.2.2 (fun _ hb => hb.1))); rw [hnf] at this; exact this) ?_)) | (show drawK _ 6 _ _ _ _ _ _; refine draw_tree tabOk mixed [16] _ dtQN2 (by kernel_rfl) (by kernel_rfl) (by kernel_rfl) (List.Sublist.refl _) ?_) | (show drawK _ _ _ _ _ _ _ _; refine draw_quiet tabOk mixed (by kernel_rfl) ?_) | (show Wp _ _ _ _ _ _ _; refine Wp.go tabOk rfl ?_) | (show @cmpK _ _ _; (first | refine cmpY ?_ | refine cmpN ?_ | (refine cmp_both ?_ ?_ <;> intro _))) | (show wrapK _ _ _; refine wrapA ?_) | (show leK _ _ _; refine leA ?_) | (show roomK _ _ _; refine roomA ?_) | (show ltK _ _ _; refine ltA ?_) | (show _ ∧ _; refine ⟨?_, ?_⟩) | (show keepK _ _ _ _ _; refine keepA ?_) | refine own_keep ?_ | refine ap_old ?_))
      all_goals (conv => whnf)
      exact obj_end _ _ _ _ q [(2, some 10), (3, some 11), (4, some 12)] ⟨rfl, rfl, hq3⟩ (by decide) rfl rfl rfl rfl ⟨(by repeat (first | exact List.mem_cons_self | apply List.mem_cons_of_mem)), (by repeat (first | exact List.mem_cons_self | apply List.mem_cons_of_mem)), (by repeat (first | exact List.mem_cons_self | apply List.mem_cons_of_mem)), (by repeat (first | exact List.mem_cons_self | apply List.mem_cons_of_mem)), (by repeat (first | exact List.mem_cons_self | apply List.mem_cons_of_mem)), trivial⟩ (fun R w' h => ⟨h.1.1.1.2, h.2⟩)
end Go.Proofs.YtgndjjdeopfdkaaGreat

/- QP -/
namespace Go.Proofs.YtgndjjdeopfdkaaGreat
open Go.SX Go.RowKit
set_option maxRecDepth 20000 in
set_option maxHeartbeats 4000000 in
theorem low_flat (c : LowC) (s : LowV) (vl : List Int) (n : NodeV) (i : Nat) (fr to : IntsV) (hN : NodeAt c s vl) (h0 : 0 ≤ n.a) (ha : n.a.toNat < vl.length) (hfr : c.spots.l[n.a.toNat]? = some fr) (hfrs : fr.sane) (hto : c.spots.l[i]? = some to) (htos : to.sane) (hk9 : n.kind = 9) (hft : fr.xs = to.xs)
    (w : World) (ρ : Nat → SX.Loc) (F : Nat → Prop) (h : ObjIn w ρ F 2 5 (lowH c s vl) (weiF c s n)) :
    Calls Tryz.prog 26 (SV.rfs ρ [.lp 0 0 0 0, .agg [.c (.int .i64 n.kind), .c (.int .i64 n.a), .c (.int .i64 n.b), .c n.shape.val, .c (.int .i64 n.lo), .c (.int .i64 n.hi), .c (.int .i64 n.size), .c n.data.val, .c n.bias.val], .c (.int .i64 i)]).toArray w (NodePost w ρ F c s vl (s.pl, vl.getD n.a.toNat 0)) := by
  have fsl : ∀ {j : Nat} {u : IntsV} {l : List IntsV}, l[j]? = some u → (shRows l)[j]? = some [u.val] := fun h => by unfold shRows; rw [List.getElem?_map, h]; rfl
  have ln : ∀ {j : Nat} {u : IntsV} {l : List IntsV}, l[j]? = some u → j < l.length := fun h => (List.getElem?_eq_some_iff.1 h).1
  refine calls_of tab tabOk Tryz.func26 rfl rfl rfl (pinL 2 ρ) ρ [.lp 0 0 0 0, .agg [.c (.int .i64 n.kind), .c (.int .i64 n.a), .c (.int .i64 n.b), .c n.shape.val, .c (.int .i64 n.lo), .c (.int .i64 n.hi), .c (.int .i64 n.size), .c n.data.val, .c n.bias.val], .c (.int .i64 i)] (lowH c s vl) ((weiF c s n).and (restF w F)) 5 rfl rfl (by show 3 ≤ _; decide) h.abs ?_
  
  refine Wp.know (p := ∃ a, c.spots.base = some a) (fun ρ w' hw => holds_of_abs hw fun R h => base_some (j := i) (rowsA_in h.1.1.1.2.1) (by rw [shRows_length]; exact ln hto)) ?_
  rintro ⟨sa, hsa⟩
  (repeat' ((conv => whnf) <;> first | (show keepK _ _ _ _ _; refine keepB ?_) | (show @cmpK _ _ _; refine cmp_yes (by omega) ?_) | (show idxK _ _ _ _ _; (first | refine idx_of sa n.a.toNat hsa (by omega) (ln hfr) ?_ | refine idx_of sa i hsa rfl (ln hto) ?_)) | (show roK _ _ _; (first | refine ro_row0 (fun R w' h => by rw [← hsa]; exact rowsA_in h.1.1.1.2.1) _ _ (fsl hfr) rfl ?_ | refine ro_row0 (fun R w' h => by rw [← hsa]; exact rowsA_in h.1.1.1.2.1) _ _ (fsl hto) rfl ?_)) | (show idxRowK _ _ _ _ _ _; (refine idxRow_of n.a.toNat (by omega) ha (by rw [ints_length]; exact Nat.le_refl _) ?_)) | (show rowK _ _ _ _; refine ro_own ha ?_) | (show callQ _ 62 _ _ _ _ _; (refine callQ_of (f := 62) Tryz.call62 (.bool true) (fun ρ w' hw => by have := equal_any w' fr to (holds_of_abs hw fun R h => intsA_ok hfrs (h.1.1.1.2.2 _ (List.mem_of_getElem? hfr))) (holds_of_abs hw fun R h => intsA_ok htos (h.1.1.1.2.2 _ (List.mem_of_getElem? hto))); rw [decide_eq_true hft] at this; exact this) ?_)) | (show drawK _ 6 _ _ _ _ _ _; refine draw_tree tabOk mixed [16] _ dtQN2 (by kernel_rfl) (by kernel_rfl) (by kernel_rfl) (List.Sublist.refl _) ?_) | (show drawK _ _ _ _ _ _ _ _; refine draw_quiet tabOk mixed (by kernel_rfl) ?_) | (show Wp _ _ _ _ _ _ _; refine Wp.go tabOk rfl ?_) | (show @cmpK _ _ _; (first | refine cmpY ?_ | refine cmpN ?_ | (refine cmp_both ?_ ?_ <;> intro _))) | (show wrapK _ _ _; refine wrapA ?_) | (show leK _ _ _; refine leA ?_) | (show roomK _ _ _; refine roomA ?_) | (show ltK _ _ _; refine ltA ?_) | (show _ ∧ _; refine ⟨?_, ?_⟩) | (show keepK _ _ _ _ _; refine keepA ?_) | refine own_keep ?_ | refine ap_old ?_))
  all_goals (conv => whnf)
  all_goals exact obj_end _ _ _ _ (s, vl.getD n.a.toNat 0) [] ⟨rfl, rfl, hN.ok⟩ (by decide) rfl rfl rfl rfl ⟨(by repeat (first | exact List.mem_cons_self | apply List.mem_cons_of_mem)), (by repeat (first | exact List.mem_cons_self | apply List.mem_cons_of_mem)), (by repeat (first | exact List.mem_cons_self | apply List.mem_cons_of_mem)), (by repeat (first | exact List.mem_cons_self | apply List.mem_cons_of_mem)), (by repeat (first | exact List.mem_cons_self | apply List.mem_cons_of_mem)), trivial⟩ (fun R w' h => ⟨h.2, newL_refl _ _ _⟩)
end Go.Proofs.YtgndjjdeopfdkaaGreat

/- QR -/
namespace Go.Proofs.YtgndjjdeopfdkaaGreat
abbrev dtQR0 : Go.SX.DT := (.take 0 (.take 1 (.take 2 (.take 3 (.take 4 (.take 5 (.take 6 (.take 7 (.take 8 (.one 9 (.one 10 (.one 11 (.one 12 (.take 13 (.one 14 (.done))))))))))))))))
abbrev dtQR1 : Go.SX.DT := (.take 0 (.take 2 (.take 3 (.take 4 (.take 5 (.take 6 (.take 7 (.take 8 (.take 9 (.alt 1 (.alt 10 (.alt 11 (.alt 12 (.take 13 (.one 14 (.one 15 (.one 16 (.take 17 (.one 18 (.one 19 (.one 20 (.take 21 (.one 22 (.one 23 (.one 24 (.one 25 (.one 26 (.done))))))))))))))) (.one 14 (.alt 12 (.take 13 (.one 15 (.one 16 (.take 17 (.one 18 (.one 19 (.one 20 (.take 21 (.one 22 (.one 23 (.one 24 (.one 25 (.one 26 (.done)))))))))))))) (.one 15 (.one 12 (.take 13 (.one 16 (.take 17 (.one 18 (.one 19 (.one 20 (.take 21 (.one 22 (.one 23 (.one 24 (.one 25 (.one 26 (.done)))))))))))))))))) (.one 14 (.alt 11 (.alt 12 (.take 13 (.one 15 (.one 16 (.take 17 (.one 18 (.one 19 (.one 20 (.take 21 (.one 22 (.one 23 (.one 24 (.one 25 (.one 26 (.done)))))))))))))) (.one 15 (.one 12 (.take 13 (.one 16 (.take 17 (.one 18 (.one 19 (.one 20 (.take 21 (.one 22 (.one 23 (.one 24 (.one 25 (.one 26 (.done)))))))))))))))) (.one 15 (.one 11 (.one 12 (.take 13 (.one 16 (.take 17 (.one 18 (.one 19 (.one 20 (.take 21 (.one 22 (.one 23 (.one 24 (.one 25 (.one 26 (.done))))))))))))))))))) (.one 14 (.alt 10 (.alt 11 (.alt 12 (.take 13 (.one 15 (.one 16 (.take 17 (.one 18 (.one 19 (.one 20 (.take 21 (.one 22 (.one 23 (.one 24 (.one 25 (.one 26 (.done)))))))))))))) (.one 15 (.one 12 (.take 13 (.one 16 (.take 17 (.one 18 (.one 19 (.one 20 (.take 21 (.one 22 (.one 23 (.one 24 (.one 25 (.one 26 (.done)))))))))))))))) (.one 15 (.one 11 (.one 12 (.take 13 (.one 16 (.take 17 (.one 18 (.one 19 (.one 20 (.take 21 (.one 22 (.one 23 (.one 24 (.one 25 (.one 26 (.done))))))))))))))))) (.one 15 (.one 10 (.one 11 (.one 12 (.take 13 (.one 16 (.take 17 (.one 18 (.one 19 (.one 20 (.take 21 (.one 22 (.one 23 (.one 24 (.one 25 (.one 26 (.done)))))))))))))))))))) (.alt 10 (.alt 1 (.alt 11 (.alt 12 (.take 13 (.one 14 (.one 15 (.one 16 (.take 17 (.one 18 (.one 19 (.one 20 (.take 21 (.one 22 (.one 23 (.one 24 (.one 25 (.one 26 (.done))))))))))))))) (.one 14 (.alt 12 (.take 13 (.one 15 (.one 16 (.take 17 (.one 18 (.one 19 (.one 20 (.take 21 (.one 22 (.one 23 (.one 24 (.one 25 (.one 26 (.done)))))))))))))) (.one 15 (.one 12 (.take 13 (.one 16 (.take 17 (.one 18 (.one 19 (.one 20 (.take 21 (.one 22 (.one 23 (.one 24 (.one 25 (.one 26 (.done)))))))))))))))))) (.one 14 (.alt 11 (.alt 12 (.take 13 (.one 15 (.one 16 (.take 17 (.one 18 (.one 19 (.one 20 (.take 21 (.one 22 (.one 23 (.one 24 (.one 25 (.one 26 (.done)))))))))))))) (.one 15 (.one 12 (.take 13 (.one 16 (.take 17 (.one 18 (.one 19 (.one 20 (.take 21 (.one 22 (.one 23 (.one 24 (.one 25 (.one 26 (.done)))))))))))))))) (.one 15 (.one 11 (.one 12 (.take 13 (.one 16 (.take 17 (.one 18 (.one 19 (.one 20 (.take 21 (.one 22 (.one 23 (.one 24 (.one 25 (.one 26 (.done))))))))))))))))))) (.alt 11 (.alt 1 (.alt 12 (.take 13 (.one 14 (.one 15 (.one 16 (.take 17 (.one 18 (.one 19 (.one 20 (.take 21 (.one 22 (.one 23 (.one 24 (.one 25 (.one 26 (.done))))))))))))))) (.one 14 (.alt 12 (.take 13 (.one 15 (.one 16 (.take 17 (.one 18 (.one 19 (.one 20 (.take 21 (.one 22 (.one 23 (.one 24 (.one 25 (.one 26 (.done)))))))))))))) (.one 15 (.one 12 (.take 13 (.one 16 (.take 17 (.one 18 (.one 19 (.one 20 (.take 21 (.one 22 (.one 23 (.one 24 (.one 25 (.one 26 (.done)))))))))))))))))) (.alt 12 (.take 13 (.alt 1 (.one 14 (.one 15 (.one 16 (.take 17 (.one 18 (.one 19 (.one 20 (.take 21 (.one 22 (.one 23 (.one 24 (.one 25 (.one 26 (.done)))))))))))))) (.one 14 (.alt 1 (.one 15 (.one 16 (.take 17 (.one 18 (.one 19 (.one 20 (.take 21 (.one 22 (.one 23 (.one 24 (.one 25 (.one 26 (.done))))))))))))) (.one 15 (.alt 1 (.one 16 (.take 17 (.one 18 (.one 19 (.one 20 (.take 21 (.one 22 (.one 23 (.one 24 (.one 25 (.one 26 (.done)))))))))))) (.one 16 (.take 17 (.alt 1 (.one 18 (.one 19 (.one 20 (.take 21 (.one 22 (.one 23 (.one 24 (.one 25 (.one 26 (.done)))))))))) (.one 18 (.alt 1 (.one 19 (.one 20 (.take 21 (.one 22 (.one 23 (.one 24 (.one 25 (.one 26 (.done))))))))) (.one 19 (.alt 1 (.one 20 (.take 21 (.one 22 (.one 23 (.one 24 (.one 25 (.one 26 (.done)))))))) (.one 20 (.take 21 (.alt 1 (.one 22 (.one 23 (.one 24 (.one 25 (.one 26 (.done)))))) (.one 22 (.one 1 (.one 23 (.one 24 (.one 25 (.one 26 (.done))))))))))))))))))))))) (.one 14 (.alt 1 (.alt 12 (.take 13 (.one 15 (.one 16 (.take 17 (.one 18 (.one 19 (.one 20 (.take 21 (.one 22 (.one 23 (.one 24 (.one 25 (.one 26 (.done)))))))))))))) (.one 15 (.one 12 (.take 13 (.one 16 (.take 17 (.one 18 (.one 19 (.one 20 (.take 21 (.one 22 (.one 23 (.one 24 (.one 25 (.one 26 (.done)))))))))))))))) (.alt 12 (.take 13 (.alt 1 (.one 15 (.one 16 (.take 17 (.one 18 (.one 19 (.one 20 (.take 21 (.one 22 (.one 23 (.one 24 (.one 25 (.one 26 (.done))))))))))))) (.one 15 (.alt 1 (.one 16 (.take 17 (.one 18 (.one 19 (.one 20 (.take 21 (.one 22 (.one 23 (.one 24 (.one 25 (.one 26 (.done)))))))))))) (.one 16 (.take 17 (.alt 1 (.one 18 (.one 19 (.one 20 (.take 21 (.one 22 (.one 23 (.one 24 (.one 25 (.one 26 (.done)))))))))) (.one 18 (.alt 1 (.one 19 (.one 20 (.take 21 (.one 22 (.one 23 (.one 24 (.one 25 (.one 26 (.done))))))))) (.one 19 (.alt 1 (.one 20 (.take 21 (.one 22 (.one 23 (.one 24 (.one 25 (.one 26 (.done)))))))) (.one 20 (.take 21 (.alt 1 (.one 22 (.one 23 (.one 24 (.one 25 (.one 26 (.done)))))) (.one 22 (.one 1 (.one 23 (.one 24 (.one 25 (.one 26 (.done))))))))))))))))))))) (.one 15 (.alt 1 (.one 12 (.take 13 (.one 16 (.take 17 (.one 18 (.one 19 (.one 20 (.take 21 (.one 22 (.one 23 (.one 24 (.one 25 (.one 26 (.done)))))))))))))) (.one 12 (.take 13 (.alt 1 (.one 16 (.take 17 (.one 18 (.one 19 (.one 20 (.take 21 (.one 22 (.one 23 (.one 24 (.one 25 (.one 26 (.done)))))))))))) (.one 16 (.take 17 (.alt 1 (.one 18 (.one 19 (.one 20 (.take 21 (.one 22 (.one 23 (.one 24 (.one 25 (.one 26 (.done)))))))))) (.one 18 (.alt 1 (.one 19 (.one 20 (.take 21 (.one 22 (.one 23 (.one 24 (.one 25 (.one 26 (.done))))))))) (.one 19 (.alt 1 (.one 20 (.take 21 (.one 22 (.one 23 (.one 24 (.one 25 (.one 26 (.done)))))))) (.one 20 (.take 21 (.alt 1 (.one 22 (.one 23 (.one 24 (.one 25 (.one 26 (.done)))))) (.one 22 (.one 1 (.one 23 (.one 24 (.one 25 (.one 26 (.done))))))))))))))))))))))))))) (.one 14 (.alt 1 (.alt 11 (.alt 12 (.take 13 (.one 15 (.one 16 (.take 17 (.one 18 (.one 19 (.one 20 (.take 21 (.one 22 (.one 23 (.one 24 (.one 25 (.one 26 (.done)))))))))))))) (.one 15 (.one 12 (.take 13 (.one 16 (.take 17 (.one 18 (.one 19 (.one 20 (.take 21 (.one 22 (.one 23 (.one 24 (.one 25 (.one 26 (.done)))))))))))))))) (.one 15 (.one 11 (.one 12 (.take 13 (.one 16 (.take 17 (.one 18 (.one 19 (.one 20 (.take 21 (.one 22 (.one 23 (.one 24 (.one 25 (.one 26 (.done))))))))))))))))) (.alt 11 (.alt 1 (.alt 12 (.take 13 (.one 15 (.one 16 (.take 17 (.one 18 (.one 19 (.one 20 (.take 21 (.one 22 (.one 23 (.one 24 (.one 25 (.one 26 (.done)))))))))))))) (.one 15 (.one 12 (.take 13 (.one 16 (.take 17 (.one 18 (.one 19 (.one 20 (.take 21 (.one 22 (.one 23 (.one 24 (.one 25 (.one 26 (.done)))))))))))))))) (.alt 12 (.take 13 (.alt 1 (.one 15 (.one 16 (.take 17 (.one 18 (.one 19 (.one 20 (.take 21 (.one 22 (.one 23 (.one 24 (.one 25 (.one 26 (.done))))))))))))) (.one 15 (.alt 1 (.one 16 (.take 17 (.one 18 (.one 19 (.one 20 (.take 21 (.one 22 (.one 23 (.one 24 (.one 25 (.one 26 (.done)))))))))))) (.one 16 (.take 17 (.alt 1 (.one 18 (.one 19 (.one 20 (.take 21 (.one 22 (.one 23 (.one 24 (.one 25 (.one 26 (.done)))))))))) (.one 18 (.alt 1 (.one 19 (.one 20 (.take 21 (.one 22 (.one 23 (.one 24 (.one 25 (.one 26 (.done))))))))) (.one 19 (.alt 1 (.one 20 (.take 21 (.one 22 (.one 23 (.one 24 (.one 25 (.one 26 (.done)))))))) (.one 20 (.take 21 (.alt 1 (.one 22 (.one 23 (.one 24 (.one 25 (.one 26 (.done)))))) (.one 22 (.one 1 (.one 23 (.one 24 (.one 25 (.one 26 (.done))))))))))))))))))))) (.one 15 (.alt 1 (.one 12 (.take 13 (.one 16 (.take 17 (.one 18 (.one 19 (.one 20 (.take 21 (.one 22 (.one 23 (.one 24 (.one 25 (.one 26 (.done)))))))))))))) (.one 12 (.take 13 (.alt 1 (.one 16 (.take 17 (.one 18 (.one 19 (.one 20 (.take 21 (.one 22 (.one 23 (.one 24 (.one 25 (.one 26 (.done)))))))))))) (.one 16 (.take 17 (.alt 1 (.one 18 (.one 19 (.one 20 (.take 21 (.one 22 (.one 23 (.one 24 (.one 25 (.one 26 (.done)))))))))) (.one 18 (.alt 1 (.one 19 (.one 20 (.take 21 (.one 22 (.one 23 (.one 24 (.one 25 (.one 26 (.done))))))))) (.one 19 (.alt 1 (.one 20 (.take 21 (.one 22 (.one 23 (.one 24 (.one 25 (.one 26 (.done)))))))) (.one 20 (.take 21 (.alt 1 (.one 22 (.one 23 (.one 24 (.one 25 (.one 26 (.done)))))) (.one 22 (.one 1 (.one 23 (.one 24 (.one 25 (.one 26 (.done)))))))))))))))))))))))) (.one 15 (.alt 1 (.one 11 (.one 12 (.take 13 (.one 16 (.take 17 (.one 18 (.one 19 (.one 20 (.take 21 (.one 22 (.one 23 (.one 24 (.one 25 (.one 26 (.done))))))))))))))) (.one 11 (.alt 1 (.one 12 (.take 13 (.one 16 (.take 17 (.one 18 (.one 19 (.one 20 (.take 21 (.one 22 (.one 23 (.one 24 (.one 25 (.one 26 (.done)))))))))))))) (.one 12 (.take 13 (.alt 1 (.one 16 (.take 17 (.one 18 (.one 19 (.one 20 (.take 21 (.one 22 (.one 23 (.one 24 (.one 25 (.one 26 (.done)))))))))))) (.one 16 (.take 17 (.alt 1 (.one 18 (.one 19 (.one 20 (.take 21 (.one 22 (.one 23 (.one 24 (.one 25 (.one 26 (.done)))))))))) (.one 18 (.alt 1 (.one 19 (.one 20 (.take 21 (.one 22 (.one 23 (.one 24 (.one 25 (.one 26 (.done))))))))) (.one 19 (.alt 1 (.one 20 (.take 21 (.one 22 (.one 23 (.one 24 (.one 25 (.one 26 (.done)))))))) (.one 20 (.take 21 (.alt 1 (.one 22 (.one 23 (.one 24 (.one 25 (.one 26 (.done)))))) (.one 22 (.one 1 (.one 23 (.one 24 (.one 25 (.one 26 (.done))))))))))))))))))))))))))))) (.one 14 (.alt 1 (.alt 10 (.alt 11 (.alt 12 (.take 13 (.one 15 (.one 16 (.take 17 (.one 18 (.one 19 (.one 20 (.take 21 (.one 22 (.one 23 (.one 24 (.one 25 (.one 26 (.done)))))))))))))) (.one 15 (.one 12 (.take 13 (.one 16 (.take 17 (.one 18 (.one 19 (.one 20 (.take 21 (.one 22 (.one 23 (.one 24 (.one 25 (.one 26 (.done)))))))))))))))) (.one 15 (.one 11 (.one 12 (.take 13 (.one 16 (.take 17 (.one 18 (.one 19 (.one 20 (.take 21 (.one 22 (.one 23 (.one 24 (.one 25 (.one 26 (.done))))))))))))))))) (.one 15 (.one 10 (.one 11 (.one 12 (.take 13 (.one 16 (.take 17 (.one 18 (.one 19 (.one 20 (.take 21 (.one 22 (.one 23 (.one 24 (.one 25 (.one 26 (.done)))))))))))))))))) (.alt 10 (.alt 1 (.alt 11 (.alt 12 (.take 13 (.one 15 (.one 16 (.take 17 (.one 18 (.one 19 (.one 20 (.take 21 (.one 22 (.one 23 (.one 24 (.one 25 (.one 26 (.done)))))))))))))) (.one 15 (.one 12 (.take 13 (.one 16 (.take 17 (.one 18 (.one 19 (.one 20 (.take 21 (.one 22 (.one 23 (.one 24 (.one 25 (.one 26 (.done)))))))))))))))) (.one 15 (.one 11 (.one 12 (.take 13 (.one 16 (.take 17 (.one 18 (.one 19 (.one 20 (.take 21 (.one 22 (.one 23 (.one 24 (.one 25 (.one 26 (.done))))))))))))))))) (.alt 11 (.alt 1 (.alt 12 (.take 13 (.one 15 (.one 16 (.take 17 (.one 18 (.one 19 (.one 20 (.take 21 (.one 22 (.one 23 (.one 24 (.one 25 (.one 26 (.done)))))))))))))) (.one 15 (.one 12 (.take 13 (.one 16 (.take 17 (.one 18 (.one 19 (.one 20 (.take 21 (.one 22 (.one 23 (.one 24 (.one 25 (.one 26 (.done)))))))))))))))) (.alt 12 (.take 13 (.alt 1 (.one 15 (.one 16 (.take 17 (.one 18 (.one 19 (.one 20 (.take 21 (.one 22 (.one 23 (.one 24 (.one 25 (.one 26 (.done))))))))))))) (.one 15 (.alt 1 (.one 16 (.take 17 (.one 18 (.one 19 (.one 20 (.take 21 (.one 22 (.one 23 (.one 24 (.one 25 (.one 26 (.done)))))))))))) (.one 16 (.take 17 (.alt 1 (.one 18 (.one 19 (.one 20 (.take 21 (.one 22 (.one 23 (.one 24 (.one 25 (.one 26 (.done)))))))))) (.one 18 (.alt 1 (.one 19 (.one 20 (.take 21 (.one 22 (.one 23 (.one 24 (.one 25 (.one 26 (.done))))))))) (.one 19 (.alt 1 (.one 20 (.take 21 (.one 22 (.one 23 (.one 24 (.one 25 (.one 26 (.done)))))))) (.one 20 (.take 21 (.alt 1 (.one 22 (.one 23 (.one 24 (.one 25 (.one 26 (.done)))))) (.one 22 (.one 1 (.one 23 (.one 24 (.one 25 (.one 26 (.done))))))))))))))))))))) (.one 15 (.alt 1 (.one 12 (.take 13 (.one 16 (.take 17 (.one 18 (.one 19 (.one 20 (.take 21 (.one 22 (.one 23 (.one 24 (.one 25 (.one 26 (.done)))))))))))))) (.one 12 (.take 13 (.alt 1 (.one 16 (.take 17 (.one 18 (.one 19 (.one 20 (.take 21 (.one 22 (.one 23 (.one 24 (.one 25 (.one 26 (.done)))))))))))) (.one 16 (.take 17 (.alt 1 (.one 18 (.one 19 (.one 20 (.take 21 (.one 22 (.one 23 (.one 24 (.one 25 (.one 26 (.done)))))))))) (.one 18 (.alt 1 (.one 19 (.one 20 (.take 21 (.one 22 (.one 23 (.one 24 (.one 25 (.one 26 (.done))))))))) (.one 19 (.alt 1 (.one 20 (.take 21 (.one 22 (.one 23 (.one 24 (.one 25 (.one 26 (.done)))))))) (.one 20 (.take 21 (.alt 1 (.one 22 (.one 23 (.one 24 (.one 25 (.one 26 (.done)))))) (.one 22 (.one 1 (.one 23 (.one 24 (.one 25 (.one 26 (.done)))))))))))))))))))))))) (.one 15 (.alt 1 (.one 11 (.one 12 (.take 13 (.one 16 (.take 17 (.one 18 (.one 19 (.one 20 (.take 21 (.one 22 (.one 23 (.one 24 (.one 25 (.one 26 (.done))))))))))))))) (.one 11 (.alt 1 (.one 12 (.take 13 (.one 16 (.take 17 (.one 18 (.one 19 (.one 20 (.take 21 (.one 22 (.one 23 (.one 24 (.one 25 (.one 26 (.done)))))))))))))) (.one 12 (.take 13 (.alt 1 (.one 16 (.take 17 (.one 18 (.one 19 (.one 20 (.take 21 (.one 22 (.one 23 (.one 24 (.one 25 (.one 26 (.done)))))))))))) (.one 16 (.take 17 (.alt 1 (.one 18 (.one 19 (.one 20 (.take 21 (.one 22 (.one 23 (.one 24 (.one 25 (.one 26 (.done)))))))))) (.one 18 (.alt 1 (.one 19 (.one 20 (.take 21 (.one 22 (.one 23 (.one 24 (.one 25 (.one 26 (.done))))))))) (.one 19 (.alt 1 (.one 20 (.take 21 (.one 22 (.one 23 (.one 24 (.one 25 (.one 26 (.done)))))))) (.one 20 (.take 21 (.alt 1 (.one 22 (.one 23 (.one 24 (.one 25 (.one 26 (.done)))))) (.one 22 (.one 1 (.one 23 (.one 24 (.one 25 (.one 26 (.done)))))))))))))))))))))))))) (.one 15 (.alt 1 (.one 10 (.one 11 (.one 12 (.take 13 (.one 16 (.take 17 (.one 18 (.one 19 (.one 20 (.take 21 (.one 22 (.one 23 (.one 24 (.one 25 (.one 26 (.done)))))))))))))))) (.one 10 (.alt 1 (.one 11 (.one 12 (.take 13 (.one 16 (.take 17 (.one 18 (.one 19 (.one 20 (.take 21 (.one 22 (.one 23 (.one 24 (.one 25 (.one 26 (.done))))))))))))))) (.one 11 (.alt 1 (.one 12 (.take 13 (.one 16 (.take 17 (.one 18 (.one 19 (.one 20 (.take 21 (.one 22 (.one 23 (.one 24 (.one 25 (.one 26 (.done)))))))))))))) (.one 12 (.take 13 (.alt 1 (.one 16 (.take 17 (.one 18 (.one 19 (.one 20 (.take 21 (.one 22 (.one 23 (.one 24 (.one 25 (.one 26 (.done)))))))))))) (.one 16 (.take 17 (.alt 1 (.one 18 (.one 19 (.one 20 (.take 21 (.one 22 (.one 23 (.one 24 (.one 25 (.one 26 (.done)))))))))) (.one 18 (.alt 1 (.one 19 (.one 20 (.take 21 (.one 22 (.one 23 (.one 24 (.one 25 (.one 26 (.done))))))))) (.one 19 (.alt 1 (.one 20 (.take 21 (.one 22 (.one 23 (.one 24 (.one 25 (.one 26 (.done)))))))) (.one 20 (.take 21 (.alt 1 (.one 22 (.one 23 (.one 24 (.one 25 (.one 26 (.done)))))) (.one 22 (.one 1 (.one 23 (.one 24 (.one 25 (.one 26 (.done))))))))))))))))))))))))))))))))))))))))
open Go.SX Go.RowKit
structure VecV where
  slots : Int
  ib : Option Addr
  ic : Nat
  inputs : List InpV
  plains : ShapesV
  cb : Option Addr
  cc : Nat
  code : List InsP
  last : Int
  out : IntsV
structure VecP where
  slots : Int
  low : LowP
  last : Int
  out : List Int
def VecV.val (v : VecV) : Value := .agg #[.int .i64 v.slots, .slice v.ib v.inputs.length v.ic, v.plains.val, .slice v.cb v.code.length v.cc, .int .i64 v.last, v.out.val]
def VecV.pl (v : VecV) : VecP := ⟨v.slots, ⟨v.inputs.map InpV.pl, v.plains.l.map IntsV.xs, v.code⟩, v.last, v.out.xs⟩
structure VecV.sane (v : VecV) : Prop where
  plains : ∀ p ∈ v.plains.l, p.sane
  inputs : ∀ x ∈ v.inputs, x.slots.sane ∧ i64 x.lo ∧ i64 x.hi
  out : v.out.sane
  fewP : v.plains.l.length ≤ 1000000
  fewI : v.inputs.length ≤ 1000000
  fewC : v.code.length ≤ 1000000
def inpsL (l : List InpV) : Asn where
  holds R w := ∀ x ∈ l, (intsA x.slots).holds R w
  stable := fun hR hw h x hx => (intsA x.slots).stable hR hw (h x hx)
def vecA (v : VecV) : Asn := (((rowsA v.ib 3 (inpRows v.inputs)).and (inpsL v.inputs)).and ((rowsA v.plains.base 1 (shRows v.plains.l)).and (intsL v.plains.l))).and ((rowsA v.cb 5 (insRows v.code)).and (intsA v.out))
def nilVec : VecP := ⟨0, ⟨[], [], []⟩, 0, []⟩
def VecPost (w : World) (r : VecP × Int) : Ending → World → Prop := fun e w' => ∃ v : VecV, (v.pl = r.1 ∧ v.sane) ∧ e = .returned (.tuple #[v.val, .int .i64 r.2]) ∧ Ext w w' ∧ (vecA v).holds (fun b => w.heap.size ≤ b ∧ b < w'.heap.size) w'
structure OptV where
  layout : Int
  tidy : Bool
  lazy : Bool
  giant : Bool
  rows : Int
def OptV.val (o : OptV) : Value := .agg #[.int .i64 o.layout, .bool o.tidy, .bool o.lazy, .bool o.giant, .int .i64 o.rows]
def slotsOk (o : OptV) (slots : Int) : Prop := 0 ≤ o.layout ∧ o.layout ≤ 1 ∧ 4 ≤ slots ∧ slots ≤ 2048 ∧ bitsOf .and .i64 slots (slots - 1) = 0
instance (o : OptV) (slots : Int) : Decidable (slotsOk o slots) := by unfold slotsOk; infer_instance
theorem bits_is {op : BinOp} {k : IntKind} {x y : Int} {K : Int → Prop} (h : K (bitsOf op k x y)) : bitsK op k x y K := by rw [bitsK_def]; exact h
theorem vec_fail {w : World} {B : Base} {H : Heap} {S : Asn} {nx : Nat} {er : Int} {v : SV} {r : VecP × Int} (hb : ∀ R w', S.holds R w' → (baseA B.w0).holds R w') (hw0 : B.w0 = w) (hr : r = (nilVec, er)) (hv : ∀ ρ, v.rf ρ = .tuple #[.agg #[.int .i64 0, .slice none 0 0, .slice none 0 0, .slice none 0 0, .int .i64 0, .slice none 0 0], .int .i64 er]) : finK B v H S nx (VecPost w r) := by
  subst hw0 hr
  refine fin_of fun ρ w' hw => ⟨⟨0, none, 0, [], ⟨none, 0, []⟩, none, 0, [], 0, ⟨none, 0, []⟩⟩, ⟨rfl, ⟨fun _ h => (by cases h), fun _ h => (by cases h), ⟨fun _ h => (by cases h), Nat.le_refl _, Nat.zero_le _⟩, Nat.zero_le _, Nat.zero_le _, Nat.zero_le _⟩⟩, by rw [hv]; rfl, ext_of_abs hw hb, ?_⟩
  have z : ∀ k, (rowsA none k []).holds (fun b => B.w0.heap.size ≤ b ∧ b < w'.heap.size) w' := fun k => ⟨fun _ h => (by cases h), .inl rfl⟩
  exact ⟨⟨⟨z 3, fun _ h => (by cases h)⟩, ⟨z 1, fun _ h => (by cases h)⟩⟩, ⟨z 5, z 1⟩⟩
end Go.Proofs.YtgndjjdeopfdkaaGreat

/- QS -/
namespace Go.Proofs.YtgndjjdeopfdkaaGreat
open Go.SX Go.RowKit
def lowNodeV (c : LowC) (n : NodeV) (i : Nat) (s : LowP) (vl : List Int) : LowP × Int :=
  if n.kind = 1 then lowInput s n.lo n.hi (c.spots.l.getD i nilI).xs
  else if n.kind = 2 then lowLay (lowSpread c.slots s (c.spots.l.getD i nilI).xs (fun e => n.data.xs.getD e 0)).1 2 0 0 (lowSpread c.slots s (c.spots.l.getD i nilI).xs (fun e => n.data.xs.getD e 0)).2
  else if n.kind = 6 then lowLay s 3 (vl.getD n.a.toNat 0) (vl.getD n.b.toNat 0) 0
  else if n.kind = 7 then lowLay (lowSpread c.slots s (c.spots.l.getD i nilI).xs (fun _ => n.data.xs.getD 0 0)).1 5 (vl.getD n.a.toNat 0) 0 (lowSpread c.slots s (c.spots.l.getD i nilI).xs (fun _ => n.data.xs.getD 0 0)).2
  else if n.kind = 8 then lowPower c.slots s (vl.getD n.a.toNat 0) n.data.xs (c.spots.l.getD i nilI).xs
  else if n.kind = 9 ∧ (c.spots.l.getD n.a.toNat nilI).xs = (c.spots.l.getD i nilI).xs then (s, vl.getD n.a.toNat 0)
  else lowWeighed c.slots c.giant s (vl.getD n.a.toNat 0) (rowsR (n0 n) (c.shapes.l.getD n.a.toNat nilI)).1 (c.spots.l.getD n.a.toNat nilI).xs (c.spots.l.getD i nilI).xs
def lowNodes (c : LowC) : List NodeV → Nat → LowP → List Int → Option (LowP × List Int)
  | [], _, s, vl => some (s, vl)
  | n :: r, i, s, vl => if 2048 < (lowNodeV c n i s vl).1.code.length then none else lowNodes c r (i + 1) (lowNodeV c n i s vl).1 (vl ++ [(lowNodeV c n i s vl).2])
def lowerT (c : LowC) (g : GraphV) : Option (LowP × List Int) → VecP × Int
  | none => (nilVec, 6)
  | some q => (⟨c.slots, q.1, q.2.getD g.out.toNat 0, (c.spots.l.getD g.out.toNat nilI).xs⟩, 0)
def lowerR (c : LowC) (g : GraphV) : VecP × Int := lowerT c g (lowNodes c g.l 0 ⟨[], [], []⟩ [])
def spotsL (layout slots : Int) : List (List Int) → List (List Int) → List (List Int) × Int
  | [], acc => (acc, 0)
  | x :: r, acc => if (slotsL x layout slots).2 ≠ 0 then ([], (slotsL x layout slots).2) else spotsL layout slots r (acc ++ [(slotsL x layout slots).1])
theorem GrowP.power (n : Nat) (s : LowP) (x : Int) (data sl : List Int) : GrowP 8 s (lowPower n s x data sl).1 := by
  have pl : ∀ (s : LowP) (f : Nat → Int) (op a b : Int), GrowP 1 s (lowLay (lowSpread n s sl f).1 op a b (lowSpread n s sl f).2).1 := fun s f op a b => GrowP.plain s _ _ _ _ _
  obtain ⟨y, hy⟩ : ∃ y : LowP × Option Int, y = (if data.getD 2 0 = 0 then (s, none) else if data.getD 2 0 = 1 then ((lowLay s 6 x x 0).1, some (lowLay s 6 x x 0).2) else ((lowLay (lowSpread n (lowLay s 6 x x 0).1 sl (fun _ => data.getD 2 0)).1 5 (lowLay s 6 x x 0).2 0 (lowSpread n (lowLay s 6 x x 0).1 sl (fun _ => data.getD 2 0)).2).1, some (lowLay (lowSpread n (lowLay s 6 x x 0).1 sl (fun _ => data.getD 2 0)).1 5 (lowLay s 6 x x 0).2 0 (lowSpread n (lowLay s 6 x x 0).1 sl (fun _ => data.getD 2 0)).2).2)) := ⟨_, rfl⟩
  have g1 : GrowP 2 s y.1 := by
    rw [hy]
    split
    · exact (GrowP.refl s).mono (Nat.zero_le _)
    · split
      · exact (GrowP.lay _ _ _ _ _).mono (by decide)
      · exact (GrowP.lay _ _ _ _ _).trans (pl _ _ _ _ _)
  obtain ⟨z, hz⟩ : ∃ z : LowP × Option Int, z = (if data.getD 1 0 = 0 then y else if data.getD 1 0 = 1 then ((sumAdd y.1 y.2 x).1, some (sumAdd y.1 y.2 x).2) else ((sumAdd (lowLay (lowSpread n y.1 sl (fun _ => data.getD 1 0)).1 5 x 0 (lowSpread n y.1 sl (fun _ => data.getD 1 0)).2).1 y.2 (lowLay (lowSpread n y.1 sl (fun _ => data.getD 1 0)).1 5 x 0 (lowSpread n y.1 sl (fun _ => data.getD 1 0)).2).2).1, some (sumAdd (lowLay (lowSpread n y.1 sl (fun _ => data.getD 1 0)).1 5 x 0 (lowSpread n y.1 sl (fun _ => data.getD 1 0)).2).1 y.2 (lowLay (lowSpread n y.1 sl (fun _ => data.getD 1 0)).1 5 x 0 (lowSpread n y.1 sl (fun _ => data.getD 1 0)).2).2).2)) := ⟨_, rfl⟩
  have g2 : GrowP 2 y.1 z.1 := by
    rw [hz]
    split
    · exact (GrowP.refl _).mono (Nat.zero_le _)
    · split
      · exact (GrowP.add _ _ _).mono (by decide)
      · exact (pl _ _ _ _ _).trans (GrowP.add _ _ _)
  obtain ⟨o, ho⟩ : ∃ o : LowP × Int, o = (match z.2 with | none => lowZero n z.1 x | some m => (z.1, m)) := ⟨_, rfl⟩
  have g3 : GrowP 1 z.1 o.1 := by
    rw [ho]
    split
    · exact GrowP.plain _ _ _ _ _ _
    · exact (GrowP.refl _).mono (Nat.zero_le _)
  have e : lowPower n s x data sl = (if data.getD 0 0 = 0 then o else lowLay (lowSpread n o.1 sl (fun _ => data.getD 0 0)).1 4 o.2 0 (lowSpread n o.1 sl (fun _ => data.getD 0 0)).2) := by
    rw [ho, hz, hy]; rfl
  rw [e]
  split
  · exact ((g1.trans g2).trans g3).mono (by decide)
  · exact (((g1.trans g2).trans g3).trans (pl _ _ _ _ _)).mono (by decide)
theorem GrowP.input (s : LowP) (lo hi : Int) (sl : List Int) : GrowP 1 s (lowInput s lo hi sl).1 := by
  have e : (lowInput s lo hi sl).1.code.length = s.code.length + 1 := by simp [lowInput, lowLay]
  exact ⟨by omega, by omega, by rw [e]; show s.plains.length + _ ≤ _; omega, by rw [e]; show (s.inputs ++ _).length + _ ≤ _; rw [List.length_append, List.length_singleton]; omega⟩
theorem diagL_few (rows : List (List Int)) (fr to : List Int) (n : Nat) : (diagL rows fr to n).1.length ≤ n := by
  by_cases hd : diagOk rows fr to n
  · exact Nat.le_of_eq (diagL_length hd)
  · rw [diagL, if_neg hd]; exact Nat.zero_le _
theorem GrowP.weighed' (n : Nat) (b : Bool) (s : LowP) (x : Int) (r : List (List Int) × List Int) (fr to : List Int) (hn : 1 ≤ n) : GrowP (5 * n + 2) s (lowWeighed n b s x r fr to).1 := by
  have h := GrowP.rows n b s x (diagL r.1 fr to n).1 hn (diagL_few _ _ _ _)
  unfold lowWeighed
  dsimp only
  split
  · exact h.trans (GrowP.plain _ _ _ _ _ _)
  · exact h.mono (by omega)
theorem GrowP.node (c : LowC) (n : NodeV) (i : Nat) (s : LowP) (vl : List Int) (hn : 1 ≤ c.slots) : GrowP (5 * c.slots + 8) s (lowNodeV c n i s vl).1 := by
  unfold lowNodeV
  repeat' split
  · exact (GrowP.input _ _ _ _).mono (by omega)
  · exact (GrowP.plain _ _ _ _ _ _).mono (by omega)
  · exact (GrowP.lay _ _ _ _ _).mono (by omega)
  · exact (GrowP.plain _ _ _ _ _ _).mono (by omega)
  · exact (GrowP.power _ _ _ _ _).mono (by omega)
  · exact (GrowP.refl _).mono (Nat.zero_le _)
  · exact (GrowP.weighed' _ _ _ _ _ _ _ hn).mono (by omega)
def layF (k : Int) : FuncId := if k = 1 then 27 else if k = 2 then 28 else if k = 6 then 29 else if k = 7 then 30 else if k = 8 then 31 else 26
theorem layF_is (k : Int) : (k = 1 ∧ layF k = 27) ∨ (k = 2 ∧ layF k = 28) ∨ (k = 6 ∧ layF k = 29) ∨ (k = 7 ∧ layF k = 30) ∨ (k = 8 ∧ layF k = 31) ∨ ((k ≠ 1 ∧ k ≠ 2 ∧ k ≠ 6 ∧ k ≠ 7 ∧ k ≠ 8) ∧ layF k = 26) := by
  by_cases h1 : k = 1
  · subst h1; exact .inl ⟨rfl, rfl⟩
  by_cases h2 : k = 2
  · subst h2; exact .inr (.inl ⟨rfl, rfl⟩)
  by_cases h3 : k = 6
  · subst h3; exact .inr (.inr (.inl ⟨rfl, rfl⟩))
  by_cases h4 : k = 7
  · subst h4; exact .inr (.inr (.inr (.inl ⟨rfl, rfl⟩)))
  by_cases h5 : k = 8
  · subst h5; exact .inr (.inr (.inr (.inr (.inl ⟨rfl, rfl⟩))))
  · exact .inr (.inr (.inr (.inr (.inr ⟨⟨h1, h2, h3, h4, h5⟩, by unfold layF; rw [if_neg h1, if_neg h2, if_neg h3, if_neg h4, if_neg h5]⟩))))
/-- what is asked of a node's method -/
def NodeC (c : LowC) (n : NodeV) (i : Nat) (f : FuncId) : Prop := ∀ (s : LowV) (vl : List Int) (w : World) (ρ : Nat → SX.Loc) (F : Nat → Prop), NodeAt c s vl → vl.length = i → ObjIn w ρ F 2 5 (lowH c s vl) (weiF c s n) →
  Calls Tryz.prog f (SV.rfs ρ [.lp 0 0 0 0, .agg [.c (.int .i64 n.kind), .c (.int .i64 n.a), .c (.int .i64 n.b), .c n.shape.val, .c (.int .i64 n.lo), .c (.int .i64 n.hi), .c (.int .i64 n.size), .c n.data.val, .c n.bias.val], .c (.int .i64 i)]).toArray w (NodePost w ρ F c s vl (lowNodeV c n i s.pl vl))
end Go.Proofs.YtgndjjdeopfdkaaGreat

