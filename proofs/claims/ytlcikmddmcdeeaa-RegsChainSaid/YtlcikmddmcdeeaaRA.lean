import Derived.Test.YtlcikmddmcdeeaaSxZa
import Derived.Test.YtlcikmddmcdeeaaProg
namespace Go.Proofs.Ytlcikmddmcdeeaa
open Go.SX Go.RowKit
def tab : List (Nat × TI) :=
  [(3, ⟨1, false, 6, 0, 8, .i64, [], true, [.int .i64 0]⟩),
   (4, ⟨1, false, 5, 0, 1, .i64, [], true, [.bool false]⟩),
   (5, ⟨1, false, 6, 0, 1, .u8, [], true, [.int .u8 0]⟩),
   (20, ⟨1, false, 9, 0, 16, .i64, [], true, [.nilIface]⟩),
   (22, ⟨1, false, 1, 29, 24, .i64, [], true, [.slice none 0 0]⟩),
   (24, ⟨1, false, 6, 0, 8, .i64, [], true, [.int .i64 0]⟩),
   (27, ⟨1, false, 1, 3, 24, .i64, [], true, [.slice none 0 0]⟩),
   (29, ⟨5, true, 3, 0, 40, .i64, [(0, 1, 0), (1, 1, 0), (2, 1, 0), (3, 1, 0), (4, 1, 0)], true, [.int .i64 0, .int .i64 0, .int .i64 0, .int .i64 0, .int .i64 0]⟩),
   (33, ⟨1, false, 1, 5, 24, .i64, [], true, [.slice none 0 0]⟩),
   (36, ⟨1, false, 7, 37, 8, .i64, [], true, [.pointer none]⟩),
   (37, ⟨1, false, 1, 3, 24, .i64, [], true, [.slice none 0 0]⟩),
   (39, ⟨1, false, 9, 0, 16, .i64, [], true, [.nilIface]⟩),
   (41, ⟨1, false, 0, 0, 8, .i64, [], true, [.nilFunc]⟩)]
theorem tabOk : ∀ p ∈ tab, mkTI Try.prog p.1 = some p.2 := by
  have h : tab.map (fun p => mkTI Try.prog p.1) = tab.map (fun p => some p.2) := by kernel_rfl
  intro p hp
  obtain ⟨i, hi⟩ := List.getElem?_of_mem hp
  have h1 := congrArg (fun l => l[i]?) h
  simp only [List.getElem?_map, hi, Option.map_some, Option.some.injEq] at h1
  exact h1

theorem ti (t : Nat) {i : TI} (h : tab.find? (fun p => Nat.beq p.1 t) = some (t, i)) : mkTI Try.prog t = some i := tabOk (t, i) (List.mem_of_find?_eq_some h)
theorem mixed : Try.prog.follows .mixedOrders = true := by kernel_rfl
theorem ends_of {B : Base} {v : SV} {H : Heap} {S : Asn} {nx : Nat} {w : World} {val : Value} (hb : ∀ R w', S.holds R w' → (baseA B.w0).holds R w') (hv : ∀ ρ, v.rf ρ = val) (hw0 : B.w0 = w) : finK B v H S nx (fun e w' => e = .returned val ∧ Ext w w') := by
  subst hw0
  exact fin_of fun ρ w' hw => ⟨by rw [hv], ext_of_abs hw hb⟩
theorem ends_bool {B : Base} {b : Bool} {c : Bool} {H : Heap} {S : Asn} {nx : Nat} {w : World} (hb : ∀ R w', S.holds R w' → (baseA B.w0).holds R w') (hw0 : B.w0 = w) (h : c = b) : finK B (.c (.bool b)) H S nx (fun e w' => e = .returned (.bool c) ∧ Ext w w') :=
  ends_of hb (fun _ => by rw [h]; rfl) hw0
/-! rows handed on by their slice -/
theorem abs_rows {TE : TypeId} {k : Nat} {xs : List (List Value)} {v : SX.Loc} {G : Nat → Prop} {w : World} (h : (Ent.rows xs k TE).holds (fun _ => v) v G w) :
    Abs ⟨w, [(0, v)]⟩ (fun _ => v) 1 [(0, .rows xs k TE)] (restF w G) w := by
  refine ⟨othF w G, fun _ => G, rfl, rfl, rfl, Nat.le_refl _, ?_, fun x hx => hx.1, fun x hx => ⟨hx, rfl⟩, ?_, ?_, ?_, ?_⟩
  · intro p hp; simp at hp; subst hp; exact ⟨Nat.lt_succ_self _, rfl⟩
  · intro p hp; simp at hp; subst hp; exact ⟨Nat.lt_succ_self _, fun i hi => by simp [Ent.hass] at hi⟩
  · intro p hp; simp at hp; subst hp; exact h
  · intro p hp x hx hR; exact hR.2 hx
  · exact List.pairwise_singleton _ _
theorem rows_end {TE : TypeId} {k : Nat} {xs : List (List Value)} {v : SX.Loc} {G : Nat → Prop} {w w' : World} {ρ : Nat → SX.Loc} {nx : Nat} {H : Heap} {S : Asn} (hw : Abs ⟨w, [(0, v)]⟩ ρ nx H S w') (hS : ∀ R w', S.holds R w' → (restF w G).holds R w') (h0 : (0, Ent.rows xs k TE) ∈ H) :
    Step G w w' ∧ ∃ G' : Nat → Prop, (∀ y, G' y → G y ∨ w.heap.size ≤ y) ∧ (Ent.rows xs k TE).holds (fun _ => v) v G' w' := by
  obtain ⟨R, φ, hw⟩ := hw
  have hp := (hw.pin (0, v) List.mem_cons_self).2
  simp only at hp
  have he := hw.ent _ h0
  simp only [hp] at he
  have hrest := hS R w' hw.asn
  refine ⟨⟨hw.os, hw.tape, hw.output, hw.size, fun x hx hne => (hrest x ⟨hx, hne⟩).2⟩, φ 0, fun y hy => ?_, he⟩
  rcases Nat.lt_or_ge y w.heap.size with hl | hl
  · by_cases hGy : G y
    · exact .inl hGy
    · exact absurd (hrest y ⟨hl, hGy⟩).1 (hw.apart _ h0 y hy)
  · exact .inr hl

/-! ### the free registers -/
abbrev FreeAt (xs : List Int) (b : Nat) (F : Nat → Prop) (w : World) : Prop := SliceAt 37 3 1 (ints xs) b F w
abbrev FreePost {α : Type} (w : World) (b : Nat) (F : Nat → Prop) (val : α → Value) (rows : α → List Int) (p : α → Prop) : Ending → World → Prop := SlicePost w b F 37 3 1 val (fun x => ints (rows x)) p
theorem rows_in {TE : TypeId} {k : Nat} {xs : List (List Value)} {v : SX.Loc} {G : Nat → Prop} {ρ : Nat → SX.Loc} {w : World} (h : (Ent.rows xs k TE).holds ρ v G w) : RowsI w v.base k xs := by
  obtain ⟨_, hcap, h⟩ := h
  rcases h with ⟨h1, h2, _⟩ | ⟨b, off, c, h1, _, h3, h4, h5⟩
  · rw [h2] at hcap
    exact .inl (List.length_eq_zero_iff.1 (by omega))
  · refine .inr ⟨⟨b, off, none⟩, h1, fun i r hi j v hj => ?_⟩
    have := h5 i r hi j v hj
    rw [Nat.add_assoc] at this
    rw [add_none]
    simpa [World.cell?, h3] using this
theorem len_any (w : World) (sb : Option Addr) (n c : Nat) (hn : n ≤ 1000000) : Calls Try.prog 36 #[.slice sb n c] w fun e w' => e = .returned (.int .i64 n) ∧ Ext w w' := by
  refine calls_of tab tabOk Try.func36 rfl rfl rfl [] (fun _ => ⟨none, 0⟩) [.c (.slice sb n c)] [] (baseA w) 0 rfl rfl (by show 1 ≤ _; decide) (abs_base w) ?_
  (repeat' ((conv => whnf) <;> first | (show Wp _ _ _ _ _ _ _; (refine Wp.go tabOk rfl ?_)) | (show @cmpK _ _ _; (first | refine cmp_yes (by omega) ?_ | refine cmp_no (by omega) ?_ | (refine cmp_both ?_ ?_ <;> intro _))) | (show wrapK _ _ _; (refine wrap_i64 (by omega) (by omega) ?_)) | (show leK _ _ _; (refine le_of (by first | exact Nat.le_refl _ | omega) ?_)) | (show roomK _ _ _; (refine room_of (by first | omega | (dsimp only; omega)) ?_)) | (show ltK _ _ _; (refine lt_of (by omega) ?_)) | (show _ ∧ _; (refine ⟨?_, ?_⟩)) | (show keepK _ _ _ _ _; (refine keep_of (by first | exact List.Sublist.refl _ | exact List.Sublist.cons _ (List.Sublist.refl _) | exact List.Sublist.cons _ (List.Sublist.cons _ (List.Sublist.refl _)) | exact List.Sublist.cons _ (List.Sublist.cons _ (List.Sublist.cons _ (List.Sublist.refl _)))) (by first | exact (fun _ _ h => h) | exact (fun _ _ h => h.1) | exact (fun _ _ h => h.1.1)) ?_)) | (show ownK _ _ _ _ _; (refine own_keep ?_))))
  exact ends_of (fun _ _ h => h) (fun _ => rfl) rfl
theorem less_any (w : World) (sb : Option Addr) (c : Nat) (xs : List Int) (i j : Nat) (hi : i < xs.length) (hj : j < xs.length) (hx : RowsI w sb 1 (ints xs)) : Calls Try.prog 37 #[.slice sb xs.length c, .int .i64 i, .int .i64 j] w fun e w' => e = .returned (.bool (decide (xs.getD i 0 < xs.getD j 0))) ∧ Ext w w' := by
  obtain ⟨a, rfl⟩ : ∃ a, sb = some a := base_some (j := i) hx (by rw [ints_length]; exact hi)
  refine calls_of tab tabOk Try.func37 rfl rfl rfl [] (fun _ => ⟨none, 0⟩) [.c (.slice (some a) xs.length c), .c (.int .i64 i), .c (.int .i64 j)] [] (baseA w) 0 rfl rfl (by show 3 ≤ _; decide) (abs_base w) ?_
  (repeat' ((conv => whnf) <;> first | (show idxK _ _ _ _ _; (first | refine idx_of a i rfl rfl hi ?_ | refine idx_of a j rfl rfl hj ?_)) | (show roK _ _ _; (first | refine ro_int (xs := xs) (j := i) (fun R w' h => rows_base h hx) hi ?_ | refine ro_int (xs := xs) (j := j) (fun R w' h => rows_base h hx) hj ?_)) | (show drawK _ 1 _ _ _ _ _ _; (refine draw_quiet tabOk mixed (by kernel_rfl) ?_)) | (show Wp _ _ _ _ _ _ _; (refine Wp.go tabOk rfl ?_)) | (show @cmpK _ _ _; (first | refine cmp_yes (by omega) ?_ | refine cmp_no (by omega) ?_ | (refine cmp_both ?_ ?_ <;> intro _))) | (show wrapK _ _ _; (refine wrap_i64 (by omega) (by omega) ?_)) | (show leK _ _ _; (refine le_of (by first | exact Nat.le_refl _ | omega) ?_)) | (show roomK _ _ _; (refine room_of (by first | omega | (dsimp only; omega)) ?_)) | (show ltK _ _ _; (refine lt_of (by omega) ?_)) | (show _ ∧ _; (refine ⟨?_, ?_⟩)) | (show keepK _ _ _ _ _; (refine keep_of (by first | exact List.Sublist.refl _ | exact List.Sublist.cons _ (List.Sublist.refl _) | exact List.Sublist.cons _ (List.Sublist.cons _ (List.Sublist.refl _)) | exact List.Sublist.cons _ (List.Sublist.cons _ (List.Sublist.cons _ (List.Sublist.refl _)))) (by first | exact (fun _ _ h => h) | exact (fun _ _ h => h.1) | exact (fun _ _ h => h.1.1)) ?_)) | (show ownK _ _ _ _ _; (refine own_keep ?_))))
  all_goals (conv => whnf)
  · rename_i h
    exact ends_bool (fun _ _ h => h) rfl (decide_eq_true h)
  · rename_i h
    exact ends_bool (fun _ _ h => h) rfl (decide_eq_false h)
/-- two places changed -/
def swapL (xs : List Int) (i j : Nat) : List Int := (xs.set i (xs.getD j 0)).set j (xs.getD i 0)
theorem swapL_length (xs : List Int) (i j : Nat) : (swapL xs i j).length = xs.length := by simp [swapL]
theorem istore {xs : List Int} {j : Nat} {y : Int} {K : List (List Value) → Prop} (hj : j < xs.length) (h : K (ints (xs.set j y))) : rowStoreK (ints xs) j 0 [.int .i64 y] K := by
  refine rowStore_of _ (ints_get hj) (by simp) ?_
  have : (ints xs).set j (setFrom [Value.int .i64 xs[j]] 0 [.int .i64 y]) = ints (xs.set j y) := by
    simp only [ints, List.map_set]; rfl
  rw [this]; exact h
theorem swap_rows (w : World) (v : SX.Loc) (G : Nat → Prop) (xs : List Int) (i j : Nat) (hi : i < xs.length) (hj : j < xs.length) (hx : (Ent.rows (ints xs) 1 3).holds (fun _ => v) v G w) :
    Calls Try.prog 40 #[.slice v.base xs.length v.cap, .int .i64 i, .int .i64 j] w fun e w' => e = .returned (.tuple #[]) ∧ Step G w w' ∧ ∃ G' : Nat → Prop, (∀ y, G' y → G y ∨ w.heap.size ≤ y) ∧ (Ent.rows (ints (swapL xs i j)) 1 3).holds (fun _ => v) v G' w' := by
  
  refine calls_of tab tabOk Try.func40 rfl rfl rfl [(0, v)] (fun _ => v) [.os 0 xs.length, .c (.int .i64 i), .c (.int .i64 j)] _ (restF w G) 1 rfl rfl (by show 3 ≤ _; decide) (abs_rows hx) ?_
  (repeat' ((conv => whnf) <;> first | (show drawK _ 0 _ _ _ _ _ _; (refine draw_tree tabOk mixed [] [] (.take 0 (.take 1 (.take 2 (.take 3 (.take 4 (.take 5 (.take 8 (.take 9 (.alt 6 (.alt 7 (.one 10 (.one 11 (.one 12 (.one 13 (.one 14 (.one 15 (.done))))))) (.one 10 (.alt 7 (.one 11 (.one 12 (.one 13 (.one 14 (.one 15 (.done)))))) (.one 11 (.one 7 (.one 12 (.one 13 (.one 14 (.one 15 (.done)))))))))) (.one 10 (.alt 6 (.alt 7 (.one 11 (.one 12 (.one 13 (.one 14 (.one 15 (.done)))))) (.one 11 (.one 7 (.one 12 (.one 13 (.one 14 (.one 15 (.done)))))))) (.one 11 (.one 6 (.one 7 (.one 12 (.one 13 (.one 14 (.one 15 (.done))))))))))))))))))) (by kernel_rfl) (by kernel_rfl) (by kernel_rfl) (List.nil_sublist _) ?_)) | (show idxRowK _ _ _ _ _ _; (first | refine idxRow_of i rfl hi (by simp [ints_length]) ?_ | refine idxRow_of j rfl hj (by simp [ints_length]) ?_)) | (show rowK _ _ _ _; (first | refine row_of _ _ (ints_get hi) rfl ?_ | refine row_of _ _ (ints_get hj) rfl ?_)) | (show rowStoreK _ _ _ _ _; (first | refine istore (by first | exact hi | exact hj) ?_ | refine istore (by rw [List.length_set]; first | exact hi | exact hj) ?_)) | (show Wp _ _ _ _ _ _ _; (refine Wp.go tabOk rfl ?_)) | (show @cmpK _ _ _; (first | refine cmp_yes (by omega) ?_ | refine cmp_no (by omega) ?_ | (refine cmp_both ?_ ?_ <;> intro _))) | (show wrapK _ _ _; (refine wrap_i64 (by omega) (by omega) ?_)) | (show leK _ _ _; (refine le_of (by first | exact Nat.le_refl _ | omega) ?_)) | (show roomK _ _ _; (refine room_of (by first | omega | (dsimp only; omega)) ?_)) | (show ltK _ _ _; (refine lt_of (by omega) ?_)) | (show _ ∧ _; (refine ⟨?_, ?_⟩)) | (show keepK _ _ _ _ _; (refine keep_of (by first | exact List.Sublist.refl _ | exact List.Sublist.cons _ (List.Sublist.refl _) | exact List.Sublist.cons _ (List.Sublist.cons _ (List.Sublist.refl _)) | exact List.Sublist.cons _ (List.Sublist.cons _ (List.Sublist.cons _ (List.Sublist.refl _)))) (by first | exact (fun _ _ h => h) | exact (fun _ _ h => h.1) | exact (fun _ _ h => h.1.1)) ?_)) | (show ownK _ _ _ _ _; (refine own_keep ?_))))
  all_goals (conv => whnf)
  all_goals
    refine fin_of fun ρ w' hw => ⟨rfl, ?_⟩
    have e : (xs.set i xs[j]).set j xs[i] = swapL xs i j := by simp [swapL, List.getD, hi, hj]
    rw [e] at hw
    exact rows_end hw (fun _ _ h => h) List.mem_cons_self
/-- the number in an interface -/
theorem assert_int {cx : Cx} {x : Nat} {xt T : TypeId} {k : IntKind} {env : Env} {H : Heap} {S : Asn} {K : SV → Prop} {r : Value} (hv : env.get x = some (.c (.iface T r))) (hx : x < cx.n) (hd : cx.P.underlying T = some (.int k)) (hK : K (.tup [.c r, .c (.bool true)])) : rawQ cx (.typeAssert (.tmp x) xt T true) env H S K := by
  rw [rawQ_def]
  refine ⟨_, hK, fun ρ nx a w d type pos af g hs hw => ⟨SV.lt_tup.2 (SV.lts_iff.2 fun v hv => ?_), ?_⟩⟩
  · simp at hv; rcases hv with rfl | rfl <;> exact SV.lt_c _
  · have h1 := hs.val x _ hv hx
    have h2 : a.eval (.tmp x) = .iface T r := by simp [Act.eval, Array.getD_eq_getD_getElem?, h1, SV.rf]
    simp [execOp, h2, Instr.typeAssert, run_underlying hd, SV.rf, SV.rfs]
theorem free_end {α : Type} {w : World} {b : Nat} {F : Nat → Prop} {val : α → Value} {rows : α → List Int} {p : α → Prop} {v : SV} {H : Heap} {S : Asn} {nx j n : Nat} {ys : List (List Value)} (x : α) (hFb : F b) (hp : p x) (hv : ∀ ρ, v.rf ρ = val x) (h0 : (0, Ent.box [.os j n] 37) ∈ H) (hj : (j, Ent.rows ys 1 3) ∈ H) (hne : j ≠ 0) (hn : n ≤ ys.length) (he : ys.take n = ints (rows x))
    (hS : ∀ R w', S.holds R w' → (restF w F).holds R w') : finK ⟨w, [(0, boxL b)]⟩ v H S nx (FreePost w b F val rows p) :=
  fin_of fun ρ w' hw => ⟨x, hp, by rw [hv], (slice_end hw hS h0 hj hne hn hFb).1, by
    have := (slice_end hw hS h0 hj hne hn hFb).2
    rw [he] at this
    exact this⟩
theorem push_any (w : World) (b : Nat) (F : Nat → Prop) (xs : List Int) (r : Int) (hl : xs.length ≤ 1000000) (h : FreeAt xs b F w) : Calls Try.prog 39 #[.pointer (some ⟨b, 0, none⟩), .iface 3 (.int .i64 r)] w (FreePost w b F (fun _ : Unit => .tuple #[]) (fun _ => xs ++ [r]) (fun _ => True)) := by
  obtain ⟨v, habs⟩ := abs_slice h
  rw [ints_length] at habs
  
  refine calls_of tab tabOk Try.func39 rfl rfl rfl [(0, boxL b)] (fun i => if i = 0 then boxL b else v) [.lp 0 0 0 0, .c (.iface 3 (.int .i64 r))] _ (restF w F) 2 (by simp [SV.rfs, SV.rf, boxL, add_none]) rfl (by show 2 ≤ _; decide) habs ?_
  (repeat' ((conv => whnf) <;> first | refine assert_int rfl (Nat.le_of_ble_eq_true rfl) Try.underlying3 ?_ | (show roomK _ _ _; (refine room_of (by show (xs.length + 1) * 8 ≤ 140737488355328; omega) ?_)) | (show leK _ _ _; (refine le_of (by rw [ints_length]; exact Nat.le_refl _) ?_)) | (show Wp _ _ _ _ _ _ _; (refine Wp.go tabOk rfl ?_)) | (show @cmpK _ _ _; (first | refine cmp_yes (by omega) ?_ | refine cmp_no (by omega) ?_ | (refine cmp_both ?_ ?_ <;> intro _))) | (show wrapK _ _ _; (refine wrap_i64 (by omega) (by omega) ?_)) | (show leK _ _ _; (refine le_of (by first | exact Nat.le_refl _ | omega) ?_)) | (show roomK _ _ _; (refine room_of (by first | omega | (dsimp only; omega)) ?_)) | (show ltK _ _ _; (refine lt_of (by omega) ?_)) | (show _ ∧ _; (refine ⟨?_, ?_⟩)) | (show keepK _ _ _ _ _; (refine keep_of (by first | exact List.Sublist.refl _ | exact List.Sublist.cons _ (List.Sublist.refl _) | exact List.Sublist.cons _ (List.Sublist.cons _ (List.Sublist.refl _)) | exact List.Sublist.cons _ (List.Sublist.cons _ (List.Sublist.cons _ (List.Sublist.refl _)))) (by first | exact (fun _ _ h => h) | exact (fun _ _ h => h.1) | exact (fun _ _ h => h.1.1)) ?_)) | (show ownK _ _ _ _ _; (refine own_keep ?_))))
  conv => whnf
  exact free_end () h.at trivial (fun _ => rfl) (List.mem_cons_of_mem _ (List.mem_cons_of_mem _ List.mem_cons_self)) List.mem_cons_self (by decide) (by show xs.length + 1 ≤ _; rw [List.length_append, List.length_take, ints_length]; show xs.length + 1 ≤ min xs.length xs.length + 1; omega) (by
    rw [List.take_of_length_le (by rw [List.length_append, List.length_take]; exact Nat.add_le_add_right (Nat.min_le_left _ _) _)]
    rw [List.take_of_length_le (by rw [ints_length]; exact Nat.le_refl _)]
    simp [ints]; rfl) (fun _ _ h => h)
theorem pop_any (w : World) (b : Nat) (F : Nat → Prop) (xs : List Int) (r : Int) (hl : (xs ++ [r]).length ≤ 1000000) (h : FreeAt (xs ++ [r]) b F w) : Calls Try.prog 38 #[.pointer (some ⟨b, 0, none⟩)] w (FreePost w b F (fun _ : Unit => .iface 3 (.int .i64 r)) (fun _ => xs) (fun _ => True)) := by
  obtain ⟨v, habs⟩ := abs_slice h
  rw [ints_length] at habs
  
  refine calls_of tab tabOk Try.func38 rfl rfl rfl [(0, boxL b)] (fun i => if i = 0 then boxL b else v) [.lp 0 0 0 0] _ (restF w F) 2 (by simp [SV.rfs, SV.rf, boxL, add_none]) rfl (by show 1 ≤ _; decide) habs ?_
  (repeat' ((conv => whnf) <;> first | (show idxRowK _ _ _ _ _ _; (refine idxRow_of xs.length (by rw [List.length_append]; simp) (by simp) (by rw [ints_length]; exact Nat.le_refl _) ?_)) | (show rowK _ _ _ _; (refine row_of _ _ (ints_get (k := xs.length) (by simp)) rfl ?_)) | (show prefK _ _ _ _; (refine pref_of xs.length (by rw [List.length_append]; simp) (by rw [ints_length]; simp) ?_)) | (show Wp _ _ _ _ _ _ _; (refine Wp.go tabOk rfl ?_)) | (show @cmpK _ _ _; (first | refine cmp_yes (by omega) ?_ | refine cmp_no (by omega) ?_ | (refine cmp_both ?_ ?_ <;> intro _))) | (show wrapK _ _ _; (refine wrap_i64 (by omega) (by omega) ?_)) | (show leK _ _ _; (refine le_of (by first | exact Nat.le_refl _ | omega) ?_)) | (show roomK _ _ _; (refine room_of (by first | omega | (dsimp only; omega)) ?_)) | (show ltK _ _ _; (refine lt_of (by omega) ?_)) | (show _ ∧ _; (refine ⟨?_, ?_⟩)) | (show keepK _ _ _ _ _; (refine keep_of (by first | exact List.Sublist.refl _ | exact List.Sublist.cons _ (List.Sublist.refl _) | exact List.Sublist.cons _ (List.Sublist.cons _ (List.Sublist.refl _)) | exact List.Sublist.cons _ (List.Sublist.cons _ (List.Sublist.cons _ (List.Sublist.refl _)))) (by first | exact (fun _ _ h => h) | exact (fun _ _ h => h.1) | exact (fun _ _ h => h.1.1)) ?_)) | (show ownK _ _ _ _ _; (refine own_keep ?_))))
  conv => whnf
  exact free_end () h.at trivial (fun _ => by show Value.iface _ (Value.int .i64 (xs ++ [r])[xs.length]) = _; simp) List.mem_cons_self (List.mem_cons_of_mem _ List.mem_cons_self) (by decide) (by rw [ints_length]; simp) (by simp [ints]) (fun _ _ h => h)
end Go.Proofs.Ytlcikmddmcdeeaa
