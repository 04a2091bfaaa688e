import Derived.Test.YtlcikmddmcdeeaaRD
namespace Go.Proofs.Ytlcikmddmcdeeaa
open Go.SX Go.RowKit
structure InstrV where
  op : Int
  to : Int
  a : Int
  b : Int
  k : Int
deriving DecidableEq
def InstrV.cells (x : InstrV) : List Value := [.int .i64 x.op, .int .i64 x.to, .int .i64 x.a, .int .i64 x.b, .int .i64 x.k]
def InstrV.val (x : InstrV) : Value := .agg x.cells.toArray
def takesN (op : Int) : Int := if op = 1 ∨ op = 2 then 0 else if op = 4 ∨ op = 5 ∨ op = 7 ∨ op = 8 ∨ op = 9 then 1 else if op = 3 ∨ op = 6 then 2 else -1
def takenL (x : InstrV) : List Int := [x.a, x.b].take (takesN x.op).toNat
theorem takesN_cases (op : Int) : takesN op = 0 ∨ takesN op = 1 ∨ takesN op = 2 ∨ takesN op = -1 := by
  unfold takesN; split; simp; split; simp; split <;> simp
theorem takes_any (w : World) (op : Int) : Calls Try.prog 17 #[.int .i64 op] w fun e w' => e = .returned (.int .i64 (takesN op)) ∧ Ext w w' := by
  refine calls_of tab tabOk Try.func17 rfl rfl rfl [] (fun _ => ⟨none, 0⟩) [.c (.int .i64 op)] [] (baseA w) 0 rfl rfl (by show 1 ≤ _; decide) (abs_base w) ?_
  (repeat' ((conv => whnf) <;> first | (show Wp _ _ _ _ _ _ _; (refine Wp.go tabOk rfl ?_)) | (show @cmpK _ _ _; (first | refine cmp_yes (by omega) ?_ | refine cmp_no (by omega) ?_ | (refine cmp_both ?_ ?_ <;> intro _))) | (show wrapK _ _ _; (refine wrap_i64 (by omega) (by omega) ?_)) | (show leK _ _ _; (refine le_of (by first | exact Nat.le_refl _ | omega) ?_)) | (show roomK _ _ _; (refine room_of (by first | omega | (dsimp only; omega)) ?_)) | (show ltK _ _ _; (refine lt_of (by omega) ?_)) | (show _ ∧ _; (refine ⟨?_, ?_⟩)) | (show keepK _ _ _ _ _; (refine keep_of (by first | exact List.Sublist.refl _ | exact List.Sublist.cons _ (List.Sublist.refl _) | exact List.Sublist.cons _ (List.Sublist.cons _ (List.Sublist.refl _)) | exact List.Sublist.cons _ (List.Sublist.cons _ (List.Sublist.cons _ (List.Sublist.refl _)))) (by first | exact (fun _ _ h => h) | exact (fun _ _ h => h.1) | exact (fun _ _ h => h.1.1)) ?_)) | (show ownK _ _ _ _ _; (refine own_keep ?_))))
  all_goals (conv => whnf)
  all_goals refine ends_of (fun _ _ h => h) (fun _ => ?_) rfl
  all_goals
    show Value.int .i64 _ = Value.int .i64 _
    congr 1
    unfold takesN
    first | rw [if_pos (by omega)] | rw [if_neg (by omega), if_pos (by omega)] | rw [if_neg (by omega), if_neg (by omega), if_pos (by omega)] | rw [if_neg (by omega), if_neg (by omega), if_neg (by omega)]
theorem ends_rows {B : Base} {H : Heap} {S : Asn} {nx i n k : Nat} {T : TypeId} {xs : List (List Value)} {w : World} (hb : ∀ R w', S.holds R w' → (baseA B.w0).holds R w') (hw0 : B.w0 = w) (he : (i, Ent.rows xs k T) ∈ H) (hn : n ≤ xs.length) :
    finK B (.os i n) H S nx (fun e w' => ∃ v, e = .returned v ∧ Ext w w' ∧ NewRows w w' v k T (xs.take n)) := by
  subst hw0
  refine fin_of fun ρ w' hw => ⟨_, rfl, ext_of_abs hw hb, ?_⟩
  obtain ⟨l, e, F, hF, h⟩ := new_of_abs hw hb he
  have hl : (xs.take n).length = n := by simp; omega
  refine ⟨ρ i, by rw [hl]; rfl, F, hF, ?_⟩
  have e1 : l.base = (ρ i).base ∧ l.cap = (ρ i).cap := by
    simp only [SV.rf, Value.slice.injEq] at e
    exact ⟨e.1.symm, e.2.2.symm⟩
  have e2 : l = ρ i := by
    cases l; cases h : ρ i; simp only [h] at e1; simp [e1.1, e1.2]
  rw [e2] at h
  exact rows_take n h
theorem taken_ends {w : World} {B : Base} {H : Heap} {S : Asn} {nx i n : Nat} {xs : List (List Value)} {x : InstrV} (hb : ∀ R w', S.holds R w' → (baseA B.w0).holds R w') (hw0 : B.w0 = w) (hn : n = (takesN x.op).toNat) (h2 : n ≤ 2) (he : (i, Ent.rows xs 1 3) ∈ H) (hx : xs = ints [x.a, x.b]) :
    finK B (.os i n) H S nx (fun e w' => ∃ v, e = .returned v ∧ Ext w w' ∧ NewRows w w' v 1 3 (ints (takenL x))) := by
  have h := ends_rows (n := n) (nx := nx) hb hw0 he (by rw [hx]; simpa [ints] using h2)
  have e : xs.take n = ints (takenL x) := by rw [hx, hn, takenL, ints, ints, List.map_take]
  rw [e] at h
  exact h
theorem taken_any (w : World) (x : InstrV) : Calls Try.prog 13 #[x.val] w fun e w' => ∃ v, e = .returned v ∧ Ext w w' ∧ NewRows w w' v 1 3 (ints (takenL x)) := by
  have h : takesN x.op = 0 ∨ takesN x.op = 1 ∨ takesN x.op = 2 ∨ takesN x.op = -1 := takesN_cases x.op
  have h2 : (takesN x.op).toNat ≤ 2 := by omega
  refine calls_of tab tabOk Try.func13 rfl rfl rfl [] (fun _ => ⟨none, 0⟩) [.agg [.c (.int .i64 x.op), .c (.int .i64 x.to), .c (.int .i64 x.a), .c (.int .i64 x.b), .c (.int .i64 x.k)]] [] (baseA w) 0 rfl rfl (by show 1 ≤ _; decide) (abs_base w) ?_
  (repeat' ((conv => whnf) <;> first | (show callK _ 17 _ _ _ _ _; (refine call_pure (f := 17) Try.call17 _ (fun ρ w' hw => takes_any w' x.op) ?_)) | (show prefK _ _ _ _; (refine pref_of (takesN x.op).toNat (by omega) h2 ?_)) | (show drawK _ 1 _ _ _ _ _ _; (refine draw_tree tabOk mixed [] _ (.take 0 (.take 1 (.take 2 (.take 3 (.take 5 (.take 6 (.alt 4 (.one 7 (.take 8 (.one 9 (.take 10 (.done))))) (.one 7 (.take 8 (.one 4 (.one 9 (.take 10 (.done))))))))))))) (by kernel_rfl) (by kernel_rfl) (by kernel_rfl) (List.Sublist.refl _) ?_)) | (show Wp _ _ _ _ _ _ _; (refine Wp.go tabOk rfl ?_)) | (show @cmpK _ _ _; (first | refine cmp_yes (by omega) ?_ | refine cmp_no (by omega) ?_ | (refine cmp_both ?_ ?_ <;> intro _))) | (show wrapK _ _ _; (refine wrap_i64 (by omega) (by omega) ?_)) | (show leK _ _ _; (refine le_of (by first | exact Nat.le_refl _ | omega) ?_)) | (show roomK _ _ _; (refine room_of (by first | omega | (dsimp only; omega)) ?_)) | (show ltK _ _ _; (refine lt_of (by omega) ?_)) | (show _ ∧ _; (refine ⟨?_, ?_⟩)) | (show keepK _ _ _ _ _; (refine keep_of (by first | exact List.Sublist.refl _ | exact List.Sublist.cons _ (List.Sublist.refl _) | exact List.Sublist.cons _ (List.Sublist.cons _ (List.Sublist.refl _)) | exact List.Sublist.cons _ (List.Sublist.cons _ (List.Sublist.cons _ (List.Sublist.refl _)))) (by first | exact (fun _ _ h => h) | exact (fun _ _ h => h.1) | exact (fun _ _ h => h.1.1)) ?_)) | (show ownK _ _ _ _ _; (refine own_keep ?_))))
  all_goals (conv => whnf)
  all_goals exact taken_ends (fun _ _ h => h) rfl rfl h2 List.mem_cons_self rfl
end Go.Proofs.Ytlcikmddmcdeeaa
