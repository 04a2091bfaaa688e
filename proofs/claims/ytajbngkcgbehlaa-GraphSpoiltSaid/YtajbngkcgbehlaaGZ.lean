import Derived.Test.YtajbngkcgbehlaaGY
import Derived.Test.YtajbngkcgbehlaaGQ
namespace Go.Proofs.Ytajbngkcgbehlaa
open Go.SX Go.RowKit
/-! Plain: made graphs -/
theorem checkR_snoc : ∀ {l : List NodeV} {sh0 sh : List (List Int)} {n : NodeV} {s : List Int}, checkR l sh0 = (0, sh) → formB n sh.length = true → shapeO n sh = some s → nearB n = true → checkR (l ++ [n]) sh0 = (0, sh ++ [s])
  | [], sh0, sh, n, s, h, h1, h2, h3 => by
    obtain rfl : sh0 = sh := by simpa [checkR] using h
    rw [List.nil_append, checkR_next h1 h2 h3]; rfl
  | m :: r, sh0, sh, n, s, h, h1, h2, h3 => by
    by_cases hf : formB m sh0.length = false
    · rw [checkR_form hf] at h; simp at h
    have hf : formB m sh0.length = true := by simpa using hf
    cases hs : shapeO m sh0 with
    | none => rw [checkR_shape hf hs] at h; simp at h
    | some q =>
      by_cases hn : nearB m = false
      · rw [checkR_near hf hs hn] at h; simp at h
      have hn : nearB m = true := by simpa using hn
      rw [checkR_next hf hs hn] at h
      rw [List.cons_append, checkR_next hf hs hn]
      exact checkR_snoc h h1 h2 h3
theorem checkR_take : ∀ {l : List NodeV} {sh0 sh : List (List Int)} (n : Nat), checkR l sh0 = (0, sh) → checkR (l.take n) sh0 = (0, sh.take (sh0.length + n))
  | [], sh0, sh, n, h => by
    obtain rfl : sh0 = sh := by simpa [checkR] using h
    rw [List.take_nil, List.take_of_length_le (by omega)]; rfl
  | m :: r, sh0, sh, 0, h => by
    obtain ⟨q, hq⟩ : ∃ q, sh = sh0 ++ q := by
      have : ∀ (l : List NodeV) (a b : List (List Int)), checkR l a = (0, b) → ∃ q, b = a ++ q := by
        intro l
        induction l with
        | nil => intro a b h; exact ⟨[], by simpa [checkR] using h.symm⟩
        | cons m r ih =>
          intro a b h
          by_cases hf : formB m a.length = false
          · rw [checkR_form hf] at h; simp at h
          have hf : formB m a.length = true := by simpa using hf
          cases hs : shapeO m a with
          | none => rw [checkR_shape hf hs] at h; simp at h
          | some q =>
            by_cases hn : nearB m = false
            · rw [checkR_near hf hs hn] at h; simp at h
            have hn : nearB m = true := by simpa using hn
            rw [checkR_next hf hs hn] at h
            obtain ⟨z, rfl⟩ := ih _ _ h
            exact ⟨[q] ++ z, by simp⟩
      exact this _ _ _ h
    subst hq
    rw [List.take_zero, Nat.add_zero, List.take_left' rfl]; rfl
  | m :: r, sh0, sh, n + 1, h => by
    by_cases hf : formB m sh0.length = false
    · rw [checkR_form hf] at h; simp at h
    have hf : formB m sh0.length = true := by simpa using hf
    cases hs : shapeO m sh0 with
    | none => rw [checkR_shape hf hs] at h; simp at h
    | some q =>
      by_cases hn : nearB m = false
      · rw [checkR_near hf hs hn] at h; simp at h
      have hn : nearB m = true := by simpa using hn
      rw [checkR_next hf hs hn] at h
      rw [List.take_succ_cons, checkR_next hf hs hn, checkR_take n h]
      congr 2
      simp; omega
theorem checkR_length : ∀ (l : List NodeV) (sh : List (List Int)), (checkR l sh).1 = 0 → (checkR l sh).2.length = sh.length + l.length
  | [], sh, _ => by simp [checkR]
  | n :: r, sh, h => by
    by_cases hf : formB n sh.length = false
    · rw [checkR_form hf] at h; simp at h
    have hf : formB n sh.length = true := by simpa using hf
    cases hs : shapeO n sh with
    | none => rw [checkR_shape hf hs] at h; simp at h
    | some s =>
      by_cases hn : nearB n = false
      · rw [checkR_near hf hs hn] at h; simp at h
      have hn : nearB n = true := by simpa using hn
      rw [checkR_next hf hs hn] at h ⊢
      rw [checkR_length r _ h]
      simp; omega
structure MadeL (l : List NodeV) : Prop where
  one : 1 ≤ l.length
  shapes : ∃ sh, checkR l [] = (0, sh) ∧ ∀ s ∈ sh, ShOk s
  each : ∀ n ∈ l, Made n
theorem madeL_snoc {l : List NodeV} {n : NodeV} {sh : List (List Int)} (h : MadeL l) (hsh : checkR l [] = (0, sh)) (hn : GoodNode n sh) (hok : ∀ s ∈ sh, ShOk s) : MadeL (l ++ [n]) := by
  obtain ⟨s, hs, hso⟩ := hn.shape
  refine ⟨by simp, ⟨sh ++ [s], checkR_snoc hsh hn.form hs hn.near, ?_⟩, ?_⟩
  · intro x hx
    rcases List.mem_append.1 hx with hx | hx
    · exact hok x hx
    · simp at hx; subst hx; exact hso
  · intro x hx
    rcases List.mem_append.1 hx with hx | hx
    · exact h.each x hx
    · simp at hx; subst hx; exact hn.made
theorem madeL_one {n : NodeV} (hn : GoodNode n []) : MadeL [n] := by
  obtain ⟨s, hs, hso⟩ := hn.shape
  refine ⟨by simp, ⟨[s], checkR_snoc (l := []) rfl hn.form hs hn.near, ?_⟩, ?_⟩
  · intro x hx; simp at hx; subst hx; exact hso
  · intro x hx; simp at hx; subst hx; exact hn.made
theorem check_made {l : List NodeV} {base : Option Addr} {cap : Nat} {out : Int} {sh : List (List Int)} (h1 : 1 ≤ l.length) (h24 : l.length ≤ 24) (ho : 0 ≤ out ∧ out < l.length) (h : checkR l [] = (0, sh)) : check ⟨base, cap, l, out⟩ = (0, sh) := by
  unfold check
  rw [if_neg (by simp only; omega)]
  exact h
/-- the numbers of several nodes -/
def nodesD (l : List NodeV) : Asn where
  holds R w := ∀ n ∈ l, (nodeD n false).holds R w
  stable := fun hR hw h n hn => (nodeD n false).stable hR hw (h n hn)
theorem made_ok {n : NodeV} {R : Nat → Prop} {w : World} (hm : Made n) (h : (nodeD n false).holds R w) : n.ok w :=
  ⟨intsA_ok hm.shape (h.1 rfl), intsA_ok hm.data h.2.1, intsA_ok hm.bias h.2.2, hm.kindFits, hm.aFits, hm.bFits, hm.loFits, hm.hiFits, hm.sizeFits⟩
theorem graph_ok {l : List NodeV} {base : Option Addr} {cap : Nat} {out : Int} {R : Nat → Prop} {w : World} (hm : ∀ n ∈ l, Made n) (hl : l.length ≤ 1000) (hr : RowsI w base 9 (nodeRows l)) (h : (nodesD l).holds R w) (ho : i64 out) : (⟨base, cap, l, out⟩ : GraphV).ok w :=
  ⟨hr, fun n hn => made_ok (hm n hn) (h n hn), fun n hn => ⟨by have := (hm n hn).dataFew; omega, by have := (hm n hn).biasFew; omega⟩, by simp only; omega, ho⟩
def GraphPost (w : World) (b : Nat) (t : BytesV) (e : Ending) (w' : World) : Prop :=
  ∃ (l : List NodeV) (out : Int) (k : Nat) (l0 : SX.Loc) (F : Nat → Prop), MadeL l ∧ l.length ≤ 8 ∧ 0 ≤ out ∧ out < l.length ∧ k ≤ t.bs.length ∧ e = .returned (.agg #[.slice l0.base l.length l0.cap, .int .i64 out]) ∧ Step (fun y => y = b) w w' ∧
    w'.heap[b]? = some (.cells (tcells t k).toArray 39 (0, 0)) ∧ (∀ x, F x → w.heap.size ≤ x) ∧ (Ent.rows (nodeRows l) 9 43).holds (fun _ => l0) l0 F w' ∧ (nodesD l).holds (fun y => (w.heap.size ≤ y ∧ y < w'.heap.size) ∧ ¬ F y) w'
theorem ends_graph {w : World} {b : Nat} {t : BytesV} {H : Heap} {S : Asn} {nx j m k : Nat} {l : List NodeV} {out : Int} (h0 : (0, Ent.box (cs (tcells t k)) 39) ∈ H) (he : (j, Ent.rows (nodeRows l) 9 43) ∈ H) (hj : j ≠ 0) (hm : m = l.length) (hk : k ≤ t.bs.length) (hml : MadeL l) (h8 : l.length ≤ 8) (ho : 0 ≤ out ∧ out < l.length)
    (hS : ∀ R w', S.holds R w' → (restA w b).holds R w') (hD : ∀ R w', S.holds R w' → ((nodesD l).past w.heap.size).holds R w') : finK ⟨w, [(0, boxL b)]⟩ (.agg [.os j m, .c (.int .i64 out)]) H S nx (GraphPost w b t) := by
  subst hm
  refine fin_of fun ρ w' hw => ?_
  have hend := box_end hw hS h0
  obtain ⟨R, φ, hw⟩ := hw
  have hp := (hw.pin (0, boxL b) List.mem_cons_self).2
  obtain ⟨b', h1, h2, h3⟩ := hw.ent _ h0
  simp only at hp h1
  rw [hp] at h1
  obtain rfl : b = b' := by simpa [boxL] using h1
  refine ⟨l, out, k, ρ j, φ j, hml, h8, ho.1, ho.2, hk, rfl, hend.1, hend.2, fun x hx => ?_, hw.ent _ he, (nodesD l).mono (hD R w' hw.asn) (fun x hx => ⟨⟨hx.2, hw.ro x hx.1⟩, fun hF => hw.apart _ he x hF hx.1⟩)⟩
  rcases Nat.lt_or_ge x w.heap.size with hl | hl
  · exfalso
    by_cases hxb : x = b
    · exact sep_two hw.sep he h0 hj x hx ((h2 x).2 hxb)
    · exact hw.apart _ he x hx (hS R w' hw.asn x ⟨hl, hxb⟩).1
  · exact hl
theorem nodesD_one {n : NodeV} {N : Nat} {R : Nat → Prop} {w : World} (h : ((nodeD n false).past N).holds R w) : ((nodesD [n]).past N).holds R w := fun m hm => by simp at hm; subst hm; exact h
theorem nodesD_snoc {l : List NodeV} {n : NodeV} {N : Nat} {R : Nat → Prop} {w : World} (hl : ((nodesD l).past N).holds R w) (h : ((nodeD n false).past N).holds R w) : ((nodesD (l ++ [n])).past N).holds R w := fun m hm => by
  rcases List.mem_append.1 hm with hm | hm
  · exact hl m hm
  · simp at hm; subst hm; exact h
theorem node_snoc (l : List NodeV) (n : NodeV) {i : Nat} {T : TypeId} {H : Heap} : (i, Ent.rows (nodeRows (l ++ [n])) 9 T) ∈ (i, Ent.rows (List.take l.length (nodeRows l) ++ [n.cells]) 9 T) :: H := by
  rw [show nodeRows (l ++ [n]) = List.take l.length (nodeRows l) ++ [n.cells] by rw [List.take_of_length_le (by rw [nodeRows_length]; exact Nat.le_refl _)]; simp [nodeRows]]
  exact List.mem_cons_self
theorem unalias {sv : ShapesV} {x : NodeV × Bool} {N : Nat} {R : Nat → Prop} {w : World} (ha : x.2 = true → x.1.shape ∈ sv.l) (hs : ((shapesD sv).past N).holds R w) (hn : ((nodeD x.1 x.2).past N).holds R w) : ((nodeD x.1 false).past N).holds R w :=
  ⟨fun _ => by
    cases h2 : x.2 with
    | true => exact hs.2 _ (ha h2)
    | false => exact hn.1 h2, hn.2⟩
set_option maxRecDepth 20000 in
set_option maxHeartbeats 8000000 in
theorem make_any (w : World) (b : Nat) (t : BytesV) (k : Nat) (h : TapeOk w b t k) : Calls Try.prog 22 #[.pointer (some ⟨b, 0, none⟩)] w (GraphPost w b t) := by
  obtain ⟨hs, hby, hd, hk, hb⟩ := h
  refine calls_of tab tabOk Try.func22 rfl rfl rfl [(0, boxL b)] (fun _ => boxL b) [.lp 0 0 0 0] _ (restA w b) 1 (by simp [SV.rfs, SV.rf, boxL, add_none]) rfl (by show 1 ≤ _; decide) (abs_box hb) ?_
  (repeat' ((conv => whnf) <;> first | (show Wp _ _ _ _ _ _ _; (refine Wp.go tabOk rfl ?_)) | (show @cmpK _ _ _; (first | refine cmp_yes (by omega) ?_ | refine cmp_no (by omega) ?_ | (refine cmp_both ?_ ?_ <;> intro _))) | (show wrapK _ _ _; (refine wrap_i64 (by omega) (by omega) ?_)) | (show leK _ _ _; (refine le_of (by first | exact Nat.le_refl _ | omega) ?_)) | (show roomK _ _ _; (refine room_of (by first | omega | (dsimp only; omega)) ?_)) | (show ltK _ _ _; (refine lt_of (by omega) ?_)) | (show _ ∧ _; (refine ⟨?_, ?_⟩)) | (show keepK _ _ _ _ _; (refine keep_of (by first | exact List.Sublist.refl _ | exact List.Sublist.cons _ (List.Sublist.refl _) | exact List.Sublist.cons _ (List.Sublist.cons _ (List.Sublist.refl _)) | exact List.Sublist.cons _ (List.Sublist.cons _ (List.Sublist.cons _ (List.Sublist.refl _)))) (by first | exact (fun _ _ h => h) | exact (fun _ _ h => h.1) | exact (fun _ _ h => h.1.1)) ?_)) | (show ownK _ _ _ _ _; (refine own_keep ?_))))
  refine call_t (f := 49) [] t k NodeV.valA (fun n => nodeD n false) _ (by first | exact List.mem_cons_self | exact List.mem_cons_of_mem _ List.mem_cons_self | (repeat (first | exact List.mem_cons_self | apply List.mem_cons_of_mem))) Try.call49 hs hby hk (fun R w' h => rest_holds hd (by first | exact h | exact h.1 | exact h.1.1 | exact h.1.1.1 | exact h.1.1.1.1)) (fun R w' b' ht _ _ => input_any w' b' t k ht) (fun n0 k1 hn0 hk1 => ?_)
  (repeat' ((conv => whnf) <;> first | (show Wp _ _ _ _ _ _ _; (refine Wp.go tabOk rfl ?_)) | (show @cmpK _ _ _; (first | refine cmp_yes (by omega) ?_ | refine cmp_no (by omega) ?_ | (refine cmp_both ?_ ?_ <;> intro _))) | (show wrapK _ _ _; (refine wrap_i64 (by omega) (by omega) ?_)) | (show leK _ _ _; (refine le_of (by first | exact Nat.le_refl _ | omega) ?_)) | (show roomK _ _ _; (refine room_of (by first | omega | (dsimp only; omega)) ?_)) | (show ltK _ _ _; (refine lt_of (by omega) ?_)) | (show _ ∧ _; (refine ⟨?_, ?_⟩)) | (show keepK _ _ _ _ _; (refine keep_of (by first | exact List.Sublist.refl _ | exact List.Sublist.cons _ (List.Sublist.refl _) | exact List.Sublist.cons _ (List.Sublist.cons _ (List.Sublist.refl _)) | exact List.Sublist.cons _ (List.Sublist.cons _ (List.Sublist.cons _ (List.Sublist.refl _)))) (by first | exact (fun _ _ h => h) | exact (fun _ _ h => h.1) | exact (fun _ _ h => h.1.1)) ?_)) | (show ownK _ _ _ _ _; (refine own_keep ?_))))
  refine call_num (f := 50) [.int .i64 8] t k1 _ (by first | exact List.mem_cons_self | exact List.mem_cons_of_mem _ List.mem_cons_self | (repeat (first | exact List.mem_cons_self | apply List.mem_cons_of_mem))) Try.call50 hs hby hk1 (fun R w' h => rest_holds hd (by first | exact h | exact h.1 | exact h.1.1 | exact h.1.1.1 | exact h.1.1.1.1)) (fun w' b' ht => next_any w' b' t k1 ht 8 ⟨by decide, by decide⟩) (fun q k2 hq hk2 => ?_)
  have hq0 := hq.1
  have hq1 := hq.2.1 (by omega)
  (repeat' ((conv => whnf) <;> first | (show Wp _ _ _ _ _ _ _; (refine Wp.go tabOk rfl ?_)) | (show @cmpK _ _ _; (first | refine cmp_yes (by omega) ?_ | refine cmp_no (by omega) ?_ | (refine cmp_both ?_ ?_ <;> intro _))) | (show wrapK _ _ _; (refine wrap_i64 (by omega) (by omega) ?_)) | (show leK _ _ _; (refine le_of (by first | exact Nat.le_refl _ | omega) ?_)) | (show roomK _ _ _; (refine room_of (by first | omega | (dsimp only; omega)) ?_)) | (show ltK _ _ _; (refine lt_of (by omega) ?_)) | (show _ ∧ _; (refine ⟨?_, ?_⟩)) | (show keepK _ _ _ _ _; (refine keep_of (by first | exact List.Sublist.refl _ | exact List.Sublist.cons _ (List.Sublist.refl _) | exact List.Sublist.cons _ (List.Sublist.cons _ (List.Sublist.refl _)) | exact List.Sublist.cons _ (List.Sublist.cons _ (List.Sublist.cons _ (List.Sublist.refl _)))) (by first | exact (fun _ _ h => h) | exact (fun _ _ h => h.1) | exact (fun _ _ h => h.1.1)) ?_)) | (show ownK _ _ _ _ _; (refine own_keep ?_))))
  refine Wp.loop (σ := Int × Nat × Nat × Int × List NodeV) 5 (fun ⟨i, _, _, _, _⟩ => [(0, .lp 0 0 0 0), (3, .lp 3 0 0 0), (4, .c (.int .i64 i)), (2, .lp 1 0 0 0)])
    (fun ⟨_, kt, m, out, l⟩ => [(4, .rows (nodeRows l) 9 43), (3, .box [.os 4 m, .c (.int .i64 out)] 24), (1, .box (cs [.slice none 0 0, .int .i64 0]) 24), (0, .box (cs (tcells t kt)) 39)])
    (fun ⟨_, _, _, _, l⟩ => (restA w b).and ((nodesD l).past w.heap.size))
    (fun ⟨i, kt, m, out, l⟩ => kt ≤ t.bs.length ∧ l.length = m ∧ 0 ≤ i ∧ m + i ≤ 8 ∧ MadeL l ∧ 0 ≤ out ∧ out < m) (fun s => s.1.toNat) (q, k2, 1, 0, [n0]) [(4, some 2)] (by decide) (fun s => ⟨rfl, rfl⟩) ⟨hk2, rfl, hq0, by omega, madeL_one (good_input hn0), by decide, by decide⟩ ⟨rfl, ⟨rfl, rfl, rfl, rfl, trivial⟩, ⟨(by first | exact List.mem_cons_self | exact List.mem_cons_of_mem _ List.mem_cons_self | (repeat (first | exact List.mem_cons_self | apply List.mem_cons_of_mem))), (by first | exact List.mem_cons_self | exact List.mem_cons_of_mem _ List.mem_cons_self | (repeat (first | exact List.mem_cons_self | apply List.mem_cons_of_mem))), (by first | exact List.mem_cons_self | exact List.mem_cons_of_mem _ List.mem_cons_self | (repeat (first | exact List.mem_cons_self | apply List.mem_cons_of_mem))), (by first | exact List.mem_cons_self | exact List.mem_cons_of_mem _ List.mem_cons_self | (repeat (first | exact List.mem_cons_self | apply List.mem_cons_of_mem))), trivial⟩, fun R w' h => ⟨h.1, nodesD_one h.2⟩⟩ ?_
  rintro ⟨i, kt, m, out, l⟩ ⟨hkt, hlm, hi0, hmi, hml, ho0, ho1⟩
  subst hlm
  obtain ⟨sh, hsh, hso⟩ := hml.shapes
  have hshl : sh.length = l.length := by have := checkR_length l [] (by rw [hsh]); rw [hsh] at this; simpa using this
  have hl1 := hml.one
  by_cases hi : 0 < i
  · (repeat' ((conv => whnf) <;> first | (show Wp _ _ _ _ _ _ _; (refine Wp.go tabOk rfl ?_)) | (show @cmpK _ _ _; (first | refine cmp_yes (by omega) ?_ | refine cmp_no (by omega) ?_ | (refine cmp_both ?_ ?_ <;> intro _))) | (show wrapK _ _ _; (refine wrap_i64 (by omega) (by omega) ?_)) | (show leK _ _ _; (refine le_of (by first | exact Nat.le_refl _ | omega) ?_)) | (show roomK _ _ _; (refine room_of (by first | omega | (dsimp only; omega)) ?_)) | (show ltK _ _ _; (refine lt_of (by omega) ?_)) | (show _ ∧ _; (refine ⟨?_, ?_⟩)) | (show keepK _ _ _ _ _; (refine keep_of (by first | exact List.Sublist.refl _ | exact List.Sublist.cons _ (List.Sublist.refl _) | exact List.Sublist.cons _ (List.Sublist.cons _ (List.Sublist.refl _)) | exact List.Sublist.cons _ (List.Sublist.cons _ (List.Sublist.cons _ (List.Sublist.refl _)))) (by first | exact (fun _ _ h => h) | exact (fun _ _ h => h.1) | exact (fun _ _ h => h.1.1)) ?_)) | (show ownK _ _ _ _ _; (refine own_keep ?_))))
    refine call_check (f := 18) (0, sh) Try.call18 (fun ρ w' hw => by
      have hg : (⟨(ρ 4).base, (ρ 4).cap, l, out⟩ : GraphV).ok w' := holds_of_abs hw fun R h => graph_ok hml.each (by omega) (rows_of_abs hw (by first | exact List.mem_cons_self | exact List.mem_cons_of_mem _ List.mem_cons_self | (repeat (first | exact List.mem_cons_self | apply List.mem_cons_of_mem)))) ((nodesD l).mono h.2 (fun b hb => hb.1)) ⟨by omega, by omega⟩
      have := refCheck_any w' _ hg
      rw [check_made hml.one (by omega) ⟨ho0, ho1⟩ hsh] at this
      exact this) (fun h => absurd rfl h) (fun _ sv hm hs2 => ?_)
    have hm : sv.l.map (·.xs) = sh := hm
    (repeat' ((conv => whnf) <;> first | (show Wp _ _ _ _ _ _ _; (refine Wp.go tabOk rfl ?_)) | (show @cmpK _ _ _; (first | refine cmp_yes (by omega) ?_ | refine cmp_no (by omega) ?_ | (refine cmp_both ?_ ?_ <;> intro _))) | (show wrapK _ _ _; (refine wrap_i64 (by omega) (by omega) ?_)) | (show leK _ _ _; (refine le_of (by first | exact Nat.le_refl _ | omega) ?_)) | (show roomK _ _ _; (refine room_of (by first | omega | (dsimp only; omega)) ?_)) | (show ltK _ _ _; (refine lt_of (by omega) ?_)) | (show _ ∧ _; (refine ⟨?_, ?_⟩)) | (show keepK _ _ _ _ _; (refine keep_of (by first | exact List.Sublist.refl _ | exact List.Sublist.cons _ (List.Sublist.refl _) | exact List.Sublist.cons _ (List.Sublist.cons _ (List.Sublist.refl _)) | exact List.Sublist.cons _ (List.Sublist.cons _ (List.Sublist.cons _ (List.Sublist.refl _)))) (by first | exact (fun _ _ h => h) | exact (fun _ _ h => h.1) | exact (fun _ _ h => h.1.1)) ?_)) | (show ownK _ _ _ _ _; (refine own_keep ?_))))
    refine call_t (f := 49) [] t kt NodeV.valA (fun n => nodeD n false) _ (by first | exact List.mem_cons_self | exact List.mem_cons_of_mem _ List.mem_cons_self | (repeat (first | exact List.mem_cons_self | apply List.mem_cons_of_mem))) Try.call49 hs hby hkt (fun R w' h => rest_holds hd (by first | exact h | exact h.1 | exact h.1.1 | exact h.1.1.1 | exact h.1.1.1.1)) (fun R w' b' ht _ _ => input_any w' b' t kt ht) (fun n1 k3 hn1 hk3 => ?_)
    (repeat' ((conv => whnf) <;> first | (show Wp _ _ _ _ _ _ _; (refine Wp.go tabOk rfl ?_)) | (show @cmpK _ _ _; (first | refine cmp_yes (by omega) ?_ | refine cmp_no (by omega) ?_ | (refine cmp_both ?_ ?_ <;> intro _))) | (show wrapK _ _ _; (refine wrap_i64 (by omega) (by omega) ?_)) | (show leK _ _ _; (refine le_of (by first | exact Nat.le_refl _ | omega) ?_)) | (show roomK _ _ _; (refine room_of (by first | omega | (dsimp only; omega)) ?_)) | (show ltK _ _ _; (refine lt_of (by omega) ?_)) | (show _ ∧ _; (refine ⟨?_, ?_⟩)) | (show keepK _ _ _ _ _; (refine keep_of (by first | exact List.Sublist.refl _ | exact List.Sublist.cons _ (List.Sublist.refl _) | exact List.Sublist.cons _ (List.Sublist.cons _ (List.Sublist.refl _)) | exact List.Sublist.cons _ (List.Sublist.cons _ (List.Sublist.cons _ (List.Sublist.refl _)))) (by first | exact (fun _ _ h => h) | exact (fun _ _ h => h.1) | exact (fun _ _ h => h.1.1)) ?_)) | (show ownK _ _ _ _ _; (refine own_keep ?_))))
    refine call_num (f := 50) [.int .i64 6] t k3 _ (by first | exact List.mem_cons_self | exact List.mem_cons_of_mem _ List.mem_cons_self | (repeat (first | exact List.mem_cons_self | apply List.mem_cons_of_mem))) Try.call50 hs hby hk3 (fun R w' h => rest_holds hd (by first | exact h | exact h.1 | exact h.1.1 | exact h.1.1.1 | exact h.1.1.1.1)) (fun w' b' ht => next_any w' b' t k3 ht 6 ⟨by decide, by decide⟩) (fun z k4 hz hk4 => ?_)
    (repeat' ((conv => whnf) <;> first | (show leK _ _ _; (refine le_of (by rw [nodeRows_length]; exact Nat.le_refl _) ?_)) | (show roomK _ _ _; (refine room_of (by show (l.length + 1) * 120 ≤ 140737488355328; omega) ?_)) | (show wrapK _ _ _; (first | refine wrap_i64 (by omega) (by omega) ?_ | (show wrapK .i64 (((l.length + 1 : Nat) : Int) - 1) _; refine wrap_i64 (by omega) (by omega) ?_))) | (show Wp _ _ _ _ _ _ _; (refine Wp.go tabOk rfl ?_)) | (show @cmpK _ _ _; (first | refine cmp_yes (by omega) ?_ | refine cmp_no (by omega) ?_ | (refine cmp_both ?_ ?_ <;> intro _))) | (show wrapK _ _ _; (refine wrap_i64 (by omega) (by omega) ?_)) | (show leK _ _ _; (refine le_of (by first | exact Nat.le_refl _ | omega) ?_)) | (show roomK _ _ _; (refine room_of (by first | omega | (dsimp only; omega)) ?_)) | (show ltK _ _ _; (refine lt_of (by omega) ?_)) | (show _ ∧ _; (refine ⟨?_, ?_⟩)) | (show keepK _ _ _ _ _; (refine keep_of (by first | exact List.Sublist.refl _ | exact List.Sublist.cons _ (List.Sublist.refl _) | exact List.Sublist.cons _ (List.Sublist.cons _ (List.Sublist.refl _)) | exact List.Sublist.cons _ (List.Sublist.cons _ (List.Sublist.cons _ (List.Sublist.refl _)))) (by first | exact (fun _ _ h => h) | exact (fun _ _ h => h.1) | exact (fun _ _ h => h.1.1)) ?_)) | (show ownK _ _ _ _ _; (refine own_keep ?_))))
    · have hsl : sv.l.length = sh.length := by rw [← hm]; simp
      refine call_t (f := 51) [sv.val] t k4 (fun x : NodeV × Bool => x.1.valA) (fun x => nodeD x.1 x.2) _ (by first | exact List.mem_cons_self | exact List.mem_cons_of_mem _ List.mem_cons_self | (repeat (first | exact List.mem_cons_self | apply List.mem_cons_of_mem))) Try.call51 hs hby hk4 (fun R w' h => rest_holds hd (by first | exact h | exact h.1 | exact h.1.1 | exact h.1.1.1 | exact h.1.1.1.1)) (fun R w' b' ht hR hRo => node_any w' b' t k4 ht sv ((shapesD sv).mono hR.1.2 (fun x hx => hRo x hx.1)) ⟨by omega, by omega⟩ hs2 (fun u hu => hso _ (by rw [← hm]; exact List.mem_map.2 ⟨u, hu, rfl⟩))) (fun x k5 hx hk5 => ?_)
      have hxg := hx.good
      rw [hm] at hxg
      (repeat' ((conv => whnf) <;> first | (show leK _ _ _; (refine le_of (by rw [nodeRows_length]; exact Nat.le_refl _) ?_)) | (show roomK _ _ _; (refine room_of (by show (l.length + 1) * 120 ≤ 140737488355328; omega) ?_)) | (show wrapK _ _ _; (first | refine wrap_i64 (by omega) (by omega) ?_ | (show wrapK .i64 (((l.length + 1 : Nat) : Int) - 1) _; refine wrap_i64 (by omega) (by omega) ?_))) | (show Wp _ _ _ _ _ _ _; (refine Wp.go tabOk rfl ?_)) | (show @cmpK _ _ _; (first | refine cmp_yes (by omega) ?_ | refine cmp_no (by omega) ?_ | (refine cmp_both ?_ ?_ <;> intro _))) | (show wrapK _ _ _; (refine wrap_i64 (by omega) (by omega) ?_)) | (show leK _ _ _; (refine le_of (by first | exact Nat.le_refl _ | omega) ?_)) | (show roomK _ _ _; (refine room_of (by first | omega | (dsimp only; omega)) ?_)) | (show ltK _ _ _; (refine lt_of (by omega) ?_)) | (show _ ∧ _; (refine ⟨?_, ?_⟩)) | (show keepK _ _ _ _ _; (refine keep_of (by first | exact List.Sublist.refl _ | exact List.Sublist.cons _ (List.Sublist.refl _) | exact List.Sublist.cons _ (List.Sublist.cons _ (List.Sublist.refl _)) | exact List.Sublist.cons _ (List.Sublist.cons _ (List.Sublist.cons _ (List.Sublist.refl _)))) (by first | exact (fun _ _ h => h) | exact (fun _ _ h => h.1) | exact (fun _ _ h => h.1.1)) ?_)) | (show ownK _ _ _ _ _; (refine own_keep ?_))))
      exact ⟨(i - 1, k5, l.length + 1, ((l.length + 1 : Nat) : Int) - 1, l ++ [x.1]), [(4, some 7)], ⟨by assumption, by simp, by omega, by omega, madeL_snoc hml hsh (hxg) hso, by omega, by omega⟩, by simp only; omega, rfl, ⟨rfl, rfl, rfl, rfl, trivial⟩, ⟨node_snoc l _, (by first | exact List.mem_cons_self | exact List.mem_cons_of_mem _ List.mem_cons_self | (repeat (first | exact List.mem_cons_self | apply List.mem_cons_of_mem))), (by first | exact List.mem_cons_self | exact List.mem_cons_of_mem _ List.mem_cons_self | (repeat (first | exact List.mem_cons_self | apply List.mem_cons_of_mem))), (by first | exact List.mem_cons_self | exact List.mem_cons_of_mem _ List.mem_cons_self | (repeat (first | exact List.mem_cons_self | apply List.mem_cons_of_mem))), trivial⟩, fun R w' h => ⟨h.1.1.1.1, nodesD_snoc h.1.1.1.2 (unalias hx.alias_ h.1.1.2 h.2)⟩⟩
    · exact ⟨(i - 1, k4, l.length + 1, ((l.length + 1 : Nat) : Int) - 1, l ++ [n1]), [(4, some 7)], ⟨by assumption, by simp, by omega, by omega, madeL_snoc hml hsh (good_input hn1) hso, by omega, by omega⟩, by simp only; omega, rfl, ⟨rfl, rfl, rfl, rfl, trivial⟩, ⟨node_snoc l _, (by first | exact List.mem_cons_self | exact List.mem_cons_of_mem _ List.mem_cons_self | (repeat (first | exact List.mem_cons_self | apply List.mem_cons_of_mem))), (by first | exact List.mem_cons_self | exact List.mem_cons_of_mem _ List.mem_cons_self | (repeat (first | exact List.mem_cons_self | apply List.mem_cons_of_mem))), (by first | exact List.mem_cons_self | exact List.mem_cons_of_mem _ List.mem_cons_self | (repeat (first | exact List.mem_cons_self | apply List.mem_cons_of_mem))), trivial⟩, fun R w' h => ⟨h.1.1.1, nodesD_snoc h.1.1.2 h.2⟩⟩
  · (repeat' ((conv => whnf) <;> first | (show Wp _ _ _ _ _ _ _; (refine Wp.go tabOk rfl ?_)) | (show @cmpK _ _ _; (first | refine cmp_yes (by omega) ?_ | refine cmp_no (by omega) ?_ | (refine cmp_both ?_ ?_ <;> intro _))) | (show wrapK _ _ _; (refine wrap_i64 (by omega) (by omega) ?_)) | (show leK _ _ _; (refine le_of (by first | exact Nat.le_refl _ | omega) ?_)) | (show roomK _ _ _; (refine room_of (by first | omega | (dsimp only; omega)) ?_)) | (show ltK _ _ _; (refine lt_of (by omega) ?_)) | (show _ ∧ _; (refine ⟨?_, ?_⟩)) | (show keepK _ _ _ _ _; (refine keep_of (by first | exact List.Sublist.refl _ | exact List.Sublist.cons _ (List.Sublist.refl _) | exact List.Sublist.cons _ (List.Sublist.cons _ (List.Sublist.refl _)) | exact List.Sublist.cons _ (List.Sublist.cons _ (List.Sublist.cons _ (List.Sublist.refl _)))) (by first | exact (fun _ _ h => h) | exact (fun _ _ h => h.1) | exact (fun _ _ h => h.1.1)) ?_)) | (show ownK _ _ _ _ _; (refine own_keep ?_))))
    refine call_num (f := 50) [.int .i64 6] t kt _ (by first | exact List.mem_cons_self | exact List.mem_cons_of_mem _ List.mem_cons_self | (repeat (first | exact List.mem_cons_self | apply List.mem_cons_of_mem))) Try.call50 hs hby hkt (fun R w' h => rest_holds hd h.1) (fun w' b' ht => next_any w' b' t kt ht 6 ⟨by decide, by decide⟩) (fun z k4 hz hk4 => ?_)
    (repeat' ((conv => whnf) <;> first | (show Wp _ _ _ _ _ _ _; (refine Wp.go tabOk rfl ?_)) | (show @cmpK _ _ _; (first | refine cmp_yes (by omega) ?_ | refine cmp_no (by omega) ?_ | (refine cmp_both ?_ ?_ <;> intro _))) | (show wrapK _ _ _; (refine wrap_i64 (by omega) (by omega) ?_)) | (show leK _ _ _; (refine le_of (by first | exact Nat.le_refl _ | omega) ?_)) | (show roomK _ _ _; (refine room_of (by first | omega | (dsimp only; omega)) ?_)) | (show ltK _ _ _; (refine lt_of (by omega) ?_)) | (show _ ∧ _; (refine ⟨?_, ?_⟩)) | (show keepK _ _ _ _ _; (refine keep_of (by first | exact List.Sublist.refl _ | exact List.Sublist.cons _ (List.Sublist.refl _) | exact List.Sublist.cons _ (List.Sublist.cons _ (List.Sublist.refl _)) | exact List.Sublist.cons _ (List.Sublist.cons _ (List.Sublist.cons _ (List.Sublist.refl _)))) (by first | exact (fun _ _ h => h) | exact (fun _ _ h => h.1) | exact (fun _ _ h => h.1.1)) ?_)) | (show ownK _ _ _ _ _; (refine own_keep ?_))))
    · refine call_num (f := 50) [.int .i64 l.length] t k4 _ (by first | exact List.mem_cons_self | exact List.mem_cons_of_mem _ List.mem_cons_self | (repeat (first | exact List.mem_cons_self | apply List.mem_cons_of_mem))) Try.call50 hs hby hk4 (fun R w' h => rest_holds hd h.1) (fun w' b' ht => next_any w' b' t k4 ht l.length ⟨by omega, by omega⟩) (fun o k5 ho hk5 => ?_)
      (repeat' ((conv => whnf) <;> first | (show Wp _ _ _ _ _ _ _; (refine Wp.go tabOk rfl ?_)) | (show @cmpK _ _ _; (first | refine cmp_yes (by omega) ?_ | refine cmp_no (by omega) ?_ | (refine cmp_both ?_ ?_ <;> intro _))) | (show wrapK _ _ _; (refine wrap_i64 (by omega) (by omega) ?_)) | (show leK _ _ _; (refine le_of (by first | exact Nat.le_refl _ | omega) ?_)) | (show roomK _ _ _; (refine room_of (by first | omega | (dsimp only; omega)) ?_)) | (show ltK _ _ _; (refine lt_of (by omega) ?_)) | (show _ ∧ _; (refine ⟨?_, ?_⟩)) | (show keepK _ _ _ _ _; (refine keep_of (by first | exact List.Sublist.refl _ | exact List.Sublist.cons _ (List.Sublist.refl _) | exact List.Sublist.cons _ (List.Sublist.cons _ (List.Sublist.refl _)) | exact List.Sublist.cons _ (List.Sublist.cons _ (List.Sublist.cons _ (List.Sublist.refl _)))) (by first | exact (fun _ _ h => h) | exact (fun _ _ h => h.1) | exact (fun _ _ h => h.1.1)) ?_)) | (show ownK _ _ _ _ _; (refine own_keep ?_))))
      conv => whnf
      exact ends_graph (by first | exact List.mem_cons_self | exact List.mem_cons_of_mem _ List.mem_cons_self | (repeat (first | exact List.mem_cons_self | apply List.mem_cons_of_mem))) (by first | exact List.mem_cons_self | exact List.mem_cons_of_mem _ List.mem_cons_self | (repeat (first | exact List.mem_cons_self | apply List.mem_cons_of_mem))) (by decide) rfl hk5 hml (by omega) (by have := ho.1; have := ho.2.1; have := ho.2.2; omega) (fun _ _ h => h.1) (fun _ _ h => h.2)
    · conv => whnf
      exact ends_graph (by first | exact List.mem_cons_self | exact List.mem_cons_of_mem _ List.mem_cons_self | (repeat (first | exact List.mem_cons_self | apply List.mem_cons_of_mem))) (by first | exact List.mem_cons_self | exact List.mem_cons_of_mem _ List.mem_cons_self | (repeat (first | exact List.mem_cons_self | apply List.mem_cons_of_mem))) (by decide) rfl hk4 hml (by omega) ⟨ho0, ho1⟩ (fun _ _ h => h.1) (fun _ _ h => h.2)
end Go.Proofs.Ytajbngkcgbehlaa
