import Derived.Test.YtajbngkcgbehlaaGU
namespace Go.Proofs.Ytajbngkcgbehlaa
open Go.SX Go.RowKit
theorem ends_ints {w : World} {b : Nat} {t : BytesV} {p : IntsV → Prop} {H : Heap} {S : Asn} {nx j m k : Nat} {xs : List Int} (h0 : (0, Ent.box (cs (tcells t k)) 39) ∈ H) (he : (j, Ent.rows (ints xs) 1 3) ∈ H) (hj : j ≠ 0) (hm : m = xs.length) (hf : ∀ x ∈ xs, i64 x) (hl : xs.length ≤ 1000000) (hk : k ≤ t.bs.length)
    (hp : ∀ u : IntsV, u.xs = xs → u.sane → p u) (hS : ∀ R w', S.holds R w' → (restA w b).holds R w') : finK ⟨w, [(0, boxL b)]⟩ (.os j m) H S nx (TPost w b t IntsV.val intsA p) := by
  subst hm
  refine fin_of fun ρ w' hw => ?_
  have hn := box_rows hw hS h0 he hj
  rw [ints_length] at hn
  obtain ⟨u, e, h1, h2, h3⟩ := newInts hn hf hl
  exact ⟨(u, k), ⟨hp u h1 h2, hk⟩, by rw [e], (box_end hw hS h0).1, (box_end hw hS h0).2, h3⟩
def smallL (xs : List Int) : Prop := ∀ x ∈ xs, -4 ≤ x ∧ x ≤ 4
theorem small_i64 {xs : List Int} (h : smallL xs) : ∀ x ∈ xs, i64 x := fun x hx => ⟨by have := (h x hx).1; omega, by have := (h x hx).2; omega⟩
theorem smallL_snoc {xs : List Int} {x : Int} (h : smallL xs) (hx : -4 ≤ x ∧ x ≤ 4) : smallL (xs ++ [x]) := by
  intro y hy
  rcases List.mem_append.1 hy with hy | hy
  · exact h y hy
  · simp at hy; subst hy; exact hx
theorem ints_snoc (xs : List Int) (x : Int) {i : Nat} {T : TypeId} {H : Heap} : (i, Ent.rows (ints (xs ++ [x])) 1 T) ∈ (i, Ent.rows (List.take xs.length (ints xs) ++ [[.int .i64 x]]) 1 T) :: H := by
  rw [show ints (xs ++ [x]) = List.take xs.length (ints xs) ++ [[.int .i64 x]] by rw [List.take_of_length_le (by rw [ints_length]; exact Nat.le_refl _)]; simp [ints]]
  exact List.mem_cons_self
abbrev RowPost (w : World) (b : Nat) (t : BytesV) (n : Int) : Ending → World → Prop := TPost w b t IntsV.val intsA (fun u => u.xs.length = n.toNat ∧ smallL u.xs ∧ u.sane)
set_option maxRecDepth 20000 in
theorem row_any (w : World) (b : Nat) (t : BytesV) (k : Nat) (h : TapeOk w b t k) (n : Int) (hn : n ≤ 1000000) (hn0 : 0 ≤ n) :
    Calls Try.prog 95 #[.pointer (some ⟨b, 0, none⟩), .int .i64 n] w (RowPost w b t n) := by
  obtain ⟨hs, hby, hd, hk, hb⟩ := h
  refine calls_of tab tabOk Try.func95 rfl rfl rfl [(0, boxL b)] (fun _ => boxL b) [.lp 0 0 0 0, .c (.int .i64 n)] _ (restA w b) 1 (by simp [SV.rfs, SV.rf, boxL, add_none]) rfl (by show 2 ≤ _; decide) (abs_box hb) ?_
  (repeat' ((conv => whnf) <;> first | (show Wp _ _ _ _ _ _ _; (refine Wp.go tabOk rfl ?_)) | (show @cmpK _ _ _; (first | refine cmp_yes (by omega) ?_ | refine cmp_no (by omega) ?_ | (refine cmp_both ?_ ?_ <;> intro _))) | (show wrapK _ _ _; (refine wrap_i64 (by omega) (by omega) ?_)) | (show leK _ _ _; (refine le_of (by first | exact Nat.le_refl _ | omega) ?_)) | (show roomK _ _ _; (refine room_of (by first | omega | (dsimp only; omega)) ?_)) | (show ltK _ _ _; (refine lt_of (by omega) ?_)) | (show _ ∧ _; (refine ⟨?_, ?_⟩)) | (show keepK _ _ _ _ _; (refine keep_of (by first | exact List.Sublist.refl _ | exact List.Sublist.cons _ (List.Sublist.refl _) | exact List.Sublist.cons _ (List.Sublist.cons _ (List.Sublist.refl _)) | exact List.Sublist.cons _ (List.Sublist.cons _ (List.Sublist.cons _ (List.Sublist.refl _)))) (by first | exact (fun _ _ h => h) | exact (fun _ _ h => h.1) | exact (fun _ _ h => h.1.1)) ?_)) | (show ownK _ _ _ _ _; (refine own_keep ?_))))
  refine Wp.loop (σ := Nat × Nat × List Int) 2 (fun ⟨i, _, _⟩ => [(0, .lp 0 0 0 0), (1, .c (.int .i64 n)), (5, .os 1 i), (6, .c (.int .i64 i))]) (fun ⟨_, k, xs⟩ => [(1, .rows (ints xs) 1 3), (0, .box (cs (tcells t k)) 39)]) (fun _ => restA w b)
    (fun ⟨i, k, xs⟩ => (i : Int) ≤ n ∧ k ≤ t.bs.length ∧ xs.length = i ∧ smallL xs) (fun s => n.toNat - s.1) (0, k, []) [(1, none)] (by decide) (fun s => ⟨rfl, rfl⟩) ⟨hn0, hk, rfl, fun x hx => by simp at hx⟩ ⟨rfl, ⟨rfl, rfl, rfl, rfl, trivial⟩, ⟨rfl, List.mem_cons_self, trivial⟩, fun R w' h => h⟩ ?_
  rintro ⟨i, k, xs⟩ ⟨hi, hk, hl, hsm⟩
  subst hl
  by_cases hlt : (xs.length : Int) < n
  · (repeat' ((conv => whnf) <;> first | (show callK _ 94 _ _ _ _ _; (refine call_num (f := 94) [] t k _ (List.mem_cons_of_mem _ List.mem_cons_self) Try.call94 hs hby hk (fun R w' h => rest_holds hd h) (fun w' b' ht => small_any w' b' t k ht) (fun r k' hr hk' => ?_))) | (show leK _ _ _; (refine le_of (by rw [ints_length]; exact Nat.le_refl _) ?_)) | (show roomK _ _ _; (refine room_of (by show (xs.length + 1) * 8 ≤ 140737488355328; omega) ?_)) | (show Wp _ _ _ _ _ _ _; (refine Wp.go tabOk rfl ?_)) | (show @cmpK _ _ _; (first | refine cmp_yes (by omega) ?_ | refine cmp_no (by omega) ?_ | (refine cmp_both ?_ ?_ <;> intro _))) | (show wrapK _ _ _; (refine wrap_i64 (by omega) (by omega) ?_)) | (show leK _ _ _; (refine le_of (by first | exact Nat.le_refl _ | omega) ?_)) | (show roomK _ _ _; (refine room_of (by first | omega | (dsimp only; omega)) ?_)) | (show ltK _ _ _; (refine lt_of (by omega) ?_)) | (show _ ∧ _; (refine ⟨?_, ?_⟩)) | (show keepK _ _ _ _ _; (refine keep_of (by first | exact List.Sublist.refl _ | exact List.Sublist.cons _ (List.Sublist.refl _) | exact List.Sublist.cons _ (List.Sublist.cons _ (List.Sublist.refl _)) | exact List.Sublist.cons _ (List.Sublist.cons _ (List.Sublist.cons _ (List.Sublist.refl _)))) (by first | exact (fun _ _ h => h) | exact (fun _ _ h => h.1) | exact (fun _ _ h => h.1.1)) ?_)) | (show ownK _ _ _ _ _; (refine own_keep ?_))))
    exact ⟨(xs.length + 1, k', xs ++ [r]), [(1, some 3)], ⟨by show ((xs.length + 1 : Nat) : Int) ≤ n; omega, hk', by simp, smallL_snoc hsm hr⟩, by simp only; omega, rfl, ⟨rfl, rfl, rfl, rfl, trivial⟩, ⟨ints_snoc xs r, List.mem_cons_of_mem _ (List.mem_cons_of_mem _ (List.mem_cons_self : (0, Ent.box (cs (tcells t k')) 39) ∈ (0, Ent.box (cs (tcells t k')) 39) :: [])), trivial⟩, fun R w' h => h⟩
  · (repeat' ((conv => whnf) <;> first | (show Wp _ _ _ _ _ _ _; (refine Wp.go tabOk rfl ?_)) | (show @cmpK _ _ _; (first | refine cmp_yes (by omega) ?_ | refine cmp_no (by omega) ?_ | (refine cmp_both ?_ ?_ <;> intro _))) | (show wrapK _ _ _; (refine wrap_i64 (by omega) (by omega) ?_)) | (show leK _ _ _; (refine le_of (by first | exact Nat.le_refl _ | omega) ?_)) | (show roomK _ _ _; (refine room_of (by first | omega | (dsimp only; omega)) ?_)) | (show ltK _ _ _; (refine lt_of (by omega) ?_)) | (show _ ∧ _; (refine ⟨?_, ?_⟩)) | (show keepK _ _ _ _ _; (refine keep_of (by first | exact List.Sublist.refl _ | exact List.Sublist.cons _ (List.Sublist.refl _) | exact List.Sublist.cons _ (List.Sublist.cons _ (List.Sublist.refl _)) | exact List.Sublist.cons _ (List.Sublist.cons _ (List.Sublist.cons _ (List.Sublist.refl _)))) (by first | exact (fun _ _ h => h) | exact (fun _ _ h => h.1) | exact (fun _ _ h => h.1.1)) ?_)) | (show ownK _ _ _ _ _; (refine own_keep ?_))))
    conv => whnf
    exact ends_ints (List.mem_cons_of_mem _ List.mem_cons_self) List.mem_cons_self (by decide) rfl (small_i64 hsm) (by omega) hk (fun u hu hs => ⟨by rw [hu]; omega, hu ▸ hsm, hs⟩) (fun _ _ h => h)
end Go.Proofs.Ytajbngkcgbehlaa
