import Derived.Test.YtajbngkcgbehlaaGK
namespace Go.Proofs.Ytajbngkcgbehlaa
open Go.SX Go.RowKit
structure BytesV where
  base : Option Addr
  cap : Nat
  bs : List Nat
def BytesV.val (v : BytesV) : Value := .slice v.base v.bs.length v.cap
def bytesR (l : List Nat) : List (List Value) := l.map fun (x : Nat) => [Value.int .u8 (x : Int)]
theorem bytesR_length (l : List Nat) : (bytesR l).length = l.length := by simp [bytesR]
theorem bytesR_get {l : List Nat} {k : Nat} (h : k < l.length) : (bytesR l)[k]? = some [.int .u8 ((l[k] : Nat) : Int)] := by simp [bytesR, h]
def bytesD (v : BytesV) : Asn := rowsA v.base 1 (bytesR v.bs)
def trueA : Asn := ⟨fun _ _ => True, fun _ _ h => h⟩
def tcells (t : BytesV) (k : Nat) : List Value := [t.val, .int .i64 k]
structure TapeOk (w : World) (b : Nat) (t : BytesV) (k : Nat) : Prop where
  small : t.bs.length ≤ 1000000
  bytes : ∀ x ∈ t.bs, x ≤ 255
  data : (bytesD t).holds (oth w b) w
  at_ : k ≤ t.bs.length
  box : w.heap[b]? = some (.cells (tcells t k).toArray 39 (0, 0))
theorem ends_box {α : Type} {w : World} {b : Nat} {T : TypeId} {val : α → Value} {cells : α → List Value} {D : α → Asn} {p : α → Prop} {v : SV} {H : Heap} {S : Asn} {nx : Nat} (x : α) (hp : p x) (hv : ∀ ρ, v.rf ρ = val x) (he : (0, Ent.box (cs (cells x)) T) ∈ H)
    (hS : ∀ R w', S.holds R w' → (restA w b).holds R w') (hD : ∀ R w', S.holds R w' → ((D x).past w.heap.size).holds R w') : finK ⟨w, [(0, boxL b)]⟩ v H S nx (BoxPost w b T val cells D p) :=
  fin_of fun ρ w' hw => ⟨x, hp, by rw [hv], (box_end hw hS he).1, (box_end hw hS he).2, box_new hw hD⟩
abbrev NumPost (w : World) (b : Nat) (t : BytesV) (p : Int → Prop) : Ending → World → Prop :=
  BoxPost w b 39 (fun x : Int × Nat => .int .i64 x.1) (fun x => tcells t x.2) (fun _ => trueA) (fun x => p x.1 ∧ x.2 ≤ t.bs.length)
set_option maxRecDepth 20000 in
theorem next_any (w : World) (b : Nat) (t : BytesV) (k : Nat) (h : TapeOk w b t k) (n : Int) (hn : i64 n) :
    Calls Try.prog 50 #[.pointer (some ⟨b, 0, none⟩), .int .i64 n] w (NumPost w b t fun r => 0 ≤ r ∧ (2 ≤ n → r < n) ∧ (n < 2 → r = 0)) := by
  obtain ⟨hs, hby, hd, hk, hb⟩ := h
  by_cases hc : n < 2 ∨ t.bs.length ≤ k
  · refine calls_of tab tabOk Try.func50 rfl rfl rfl [(0, boxL b)] (fun _ => boxL b) [.lp 0 0 0 0, .c (.int .i64 n)] _ (restA w b) 1 (by simp [SV.rfs, SV.rf, boxL, add_none]) rfl (by show 2 ≤ _; decide) (abs_box hb) ?_
    (repeat' ((conv => whnf) <;> first | (show drawK _ 1 _ _ _ _ _ _; (refine draw_quiet tabOk mixed (by kernel_rfl) ?_)) | (show drawK _ 4 _ _ _ _ _ _; (refine draw_quiet tabOk mixed (by kernel_rfl) ?_)) | (show Wp _ _ _ _ _ _ _; (refine Wp.go tabOk rfl ?_)) | (show @cmpK _ _ _; (first | refine cmp_yes (by omega) ?_ | refine cmp_no (by omega) ?_ | (refine cmp_both ?_ ?_ <;> intro _))) | (show wrapK _ _ _; (refine wrap_i64 (by omega) (by omega) ?_)) | (show leK _ _ _; (refine le_of (by first | exact Nat.le_refl _ | omega) ?_)) | (show roomK _ _ _; (refine room_of (by first | omega | (dsimp only; omega)) ?_)) | (show ltK _ _ _; (refine lt_of (by omega) ?_)) | (show _ ∧ _; (refine ⟨?_, ?_⟩)) | (show keepK _ _ _ _ _; (refine keep_of (by first | exact List.Sublist.refl _ | exact List.Sublist.cons _ (List.Sublist.refl _) | exact List.Sublist.cons _ (List.Sublist.cons _ (List.Sublist.refl _)) | exact List.Sublist.cons _ (List.Sublist.cons _ (List.Sublist.cons _ (List.Sublist.refl _)))) (by first | exact (fun _ _ h => h) | exact (fun _ _ h => h.1) | exact (fun _ _ h => h.1.1)) ?_)) | (show ownK _ _ _ _ _; (refine own_keep ?_))))
    all_goals (conv => whnf)
    all_goals exact ends_box (0, k) ⟨⟨Int.le_refl 0, fun h => (by show (0 : Int) < n; omega), fun _ => rfl⟩, hk⟩ (fun _ => rfl) List.mem_cons_self (fun _ _ h => h) (fun _ _ _ => trivial)
  · have hlt : k < t.bs.length := by omega
    obtain ⟨a, ha⟩ : ∃ a, t.base = some a := by
      rcases hd.2 with h | ⟨x, off, h, _⟩
      · have := congrArg List.length h; rw [bytesR_length, List.length_nil] at this; omega
      · exact ⟨_, h⟩
    have hx := hby _ (List.getElem_mem hlt)
    have hm : 0 ≤ ((t.bs[k] : Nat) : Int) % n ∧ ((t.bs[k] : Nat) : Int) % n < n := ⟨Int.emod_nonneg _ (by omega), Int.emod_lt_of_pos _ (by omega)⟩
    refine calls_of tab tabOk Try.func50 rfl rfl rfl [(0, boxL b)] (fun _ => boxL b) [.lp 0 0 0 0, .c (.int .i64 n)] _ (restA w b) 1 (by simp [SV.rfs, SV.rf, boxL, add_none]) rfl (by show 2 ≤ _; decide) (abs_box hb) ?_
    (repeat' ((conv => whnf) <;> first | (show idxK _ _ _ _ _; (refine idx_of a k ha (by omega) hlt ?_)) | (show roK _ _ _; (refine ro_row0 (fun R w' h => by rw [← ha]; exact rowsA_in (rest_holds hd h)) _ _ (bytesR_get hlt) rfl ?_)) | (show remK _ _ _; (refine rem_pos (by omega) (by omega) ?_)) | (show drawK _ 1 _ _ _ _ _ _; (refine draw_quiet tabOk mixed (by kernel_rfl) ?_)) | (show drawK _ 4 _ _ _ _ _ _; (refine draw_quiet tabOk mixed (by kernel_rfl) ?_)) | (show Wp _ _ _ _ _ _ _; (refine Wp.go tabOk rfl ?_)) | (show @cmpK _ _ _; (first | refine cmp_yes (by omega) ?_ | refine cmp_no (by omega) ?_ | (refine cmp_both ?_ ?_ <;> intro _))) | (show wrapK _ _ _; (refine wrap_i64 (by omega) (by omega) ?_)) | (show leK _ _ _; (refine le_of (by first | exact Nat.le_refl _ | omega) ?_)) | (show roomK _ _ _; (refine room_of (by first | omega | (dsimp only; omega)) ?_)) | (show ltK _ _ _; (refine lt_of (by omega) ?_)) | (show _ ∧ _; (refine ⟨?_, ?_⟩)) | (show keepK _ _ _ _ _; (refine keep_of (by first | exact List.Sublist.refl _ | exact List.Sublist.cons _ (List.Sublist.refl _) | exact List.Sublist.cons _ (List.Sublist.cons _ (List.Sublist.refl _)) | exact List.Sublist.cons _ (List.Sublist.cons _ (List.Sublist.cons _ (List.Sublist.refl _)))) (by first | exact (fun _ _ h => h) | exact (fun _ _ h => h.1) | exact (fun _ _ h => h.1.1)) ?_)) | (show ownK _ _ _ _ _; (refine own_keep ?_))))
    conv => whnf
    exact ends_box (_, k + 1) ⟨⟨hm.1, fun _ => hm.2, fun h => by omega⟩, hlt⟩ (fun _ => rfl) List.mem_cons_self (fun _ _ h => h) (fun _ _ _ => trivial)

abbrev TPost {α : Type} (w : World) (b : Nat) (t : BytesV) (val : α → Value) (D : α → Asn) (p : α → Prop) : Ending → World → Prop :=
  BoxPost w b 39 (fun x : α × Nat => val x.1) (fun x => tcells t x.2) (fun x => D x.1) (fun x => p x.1 ∧ x.2 ≤ t.bs.length)
theorem callK_weak {cx : Cx} {f : FuncId} {args : List SV} {H : Heap} {S : Asn} {nx : Nat} {K : SV → Heap → Asn → Nat → Prop}
    (h : callK cx f args H S nx (fun v H' S' nx' => ∃ S2 : Asn, (∀ R w, S'.holds R w → S2.holds R w) ∧ K v H' S2 nx')) : callK cx f args H S nx K := by
  rw [callK_def] at h ⊢
  refine ⟨h.1, fun ρ w hw => (h.2 ρ w hw).mono ?_⟩
  rintro e w' ⟨v, ρ', H', S', nx', h1, h2, h3, h4, h5, S2, h6, h7⟩
  exact ⟨v, ρ', H', S2, nx', h1, h2, h3, h4, h5.sub (List.Sublist.refl _) h6, h7⟩
/-- a call with the tape as its first argument -/
theorem call_t {cx : Cx} {f : FuncId} {H : Heap} {S : Asn} {nx i : Nat} {K : SV → Heap → Asn → Nat → Prop} {α : Type} (rest : List Value) (t : BytesV) (k : Nat) (val : α → Value) (D : α → Asn) (p : α → Prop) (hi : (i, Ent.box (cs (tcells t k)) 39) ∈ H) (hf : ∀ ar w, (callFunc f ar).run cx.P w = .ok (.enter f ar) w)
    (hsm : t.bs.length ≤ 1000000) (hby : ∀ x ∈ t.bs, x ≤ 255) (hk : k ≤ t.bs.length) (hS : ∀ R w', S.holds R w' → (bytesD t).holds R w')
    (hc : ∀ R w' b, TapeOk w' b t k → S.holds R w' → (∀ x, R x → oth w' b x) → Calls cx.P f (Value.pointer (some ⟨b, 0, none⟩) :: rest).toArray w' (TPost w' b t val D p))
    (h : ∀ x k', p x → k' ≤ t.bs.length → K (.c (val x)) (setH i (.box (cs (tcells t k')) 39) H) (S.and ((D x).past cx.B.w0.heap.size)) nx) : callK cx f (.lp i 0 0 0 :: cs rest) H S nx K := by
  refine call_box hi hf (fun x : α × Nat => val x.1) (fun x => tcells t x.2) (fun x => D x.1) (fun x => p x.1 ∧ x.2 ≤ t.bs.length) ?_ (fun x hx => h x.1 x.2 hx.1 hx.2)
  intro R ρ w' b hw hR hRo hρ hb
  rw [rfs_cs] at hb
  have := hc R w' b ⟨hsm, hby, (bytesD t).mono (hS R w' hR) hRo, hk, hb⟩ hR hRo
  have e : SV.rfs ρ (.lp i 0 0 0 :: cs rest) = Value.pointer (some ⟨b, 0, none⟩) :: rest := by
    simp only [SV.rfs, SV.rf, rfs_cs, hρ, Option.map_some, add_none]
  rw [e]
  exact this
theorem call_num {cx : Cx} {f : FuncId} {H : Heap} {S : Asn} {nx i : Nat} {K : SV → Heap → Asn → Nat → Prop} (rest : List Value) (t : BytesV) (k : Nat) (p : Int → Prop) (hi : (i, Ent.box (cs (tcells t k)) 39) ∈ H) (hf : ∀ ar w, (callFunc f ar).run cx.P w = .ok (.enter f ar) w)
    (hsm : t.bs.length ≤ 1000000) (hby : ∀ x ∈ t.bs, x ≤ 255) (hk : k ≤ t.bs.length) (hS : ∀ R w', S.holds R w' → (bytesD t).holds R w')
    (hc : ∀ w' b, TapeOk w' b t k → Calls cx.P f (Value.pointer (some ⟨b, 0, none⟩) :: rest).toArray w' (NumPost w' b t p))
    (h : ∀ r k', p r → k' ≤ t.bs.length → K (.c (.int .i64 r)) (setH i (.box (cs (tcells t k')) 39) H) S nx) : callK cx f (.lp i 0 0 0 :: cs rest) H S nx K :=
  callK_weak (call_t rest t k (fun r : Int => .int .i64 r) (fun _ => trueA) p hi hf hsm hby hk hS (fun _ w' b ht _ _ => hc w' b ht) (fun r k' hp hk' => ⟨S, fun _ _ h => h.1, h r k' hp hk'⟩))
theorem small_any (w : World) (b : Nat) (t : BytesV) (k : Nat) (h : TapeOk w b t k) :
    Calls Try.prog 94 #[.pointer (some ⟨b, 0, none⟩)] w (NumPost w b t fun r => -4 ≤ r ∧ r ≤ 4) := by
  obtain ⟨hs, hby, hd, hk, hb⟩ := h
  refine calls_of tab tabOk Try.func94 rfl rfl rfl [(0, boxL b)] (fun _ => boxL b) [.lp 0 0 0 0] _ (restA w b) 1 (by simp [SV.rfs, SV.rf, boxL, add_none]) rfl (by show 1 ≤ _; decide) (abs_box hb) ?_
  (repeat' ((conv => whnf) <;> first | (show callK _ 50 _ _ _ _ _; (refine call_num (f := 50) [.int .i64 9] t k _ List.mem_cons_self Try.call50 hs hby hk (fun R w' h => rest_holds hd h) (fun w' b' ht => next_any w' b' t k ht 9 ⟨by decide, by decide⟩) (fun r k' hr hk' => ?_))) | (show Wp _ _ _ _ _ _ _; (refine Wp.go tabOk rfl ?_)) | (show @cmpK _ _ _; (first | refine cmp_yes (by omega) ?_ | refine cmp_no (by omega) ?_ | (refine cmp_both ?_ ?_ <;> intro _))) | (show wrapK _ _ _; (refine wrap_i64 (by omega) (by omega) ?_)) | (show leK _ _ _; (refine le_of (by first | exact Nat.le_refl _ | omega) ?_)) | (show roomK _ _ _; (refine room_of (by first | omega | (dsimp only; omega)) ?_)) | (show ltK _ _ _; (refine lt_of (by omega) ?_)) | (show _ ∧ _; (refine ⟨?_, ?_⟩)) | (show keepK _ _ _ _ _; (refine keep_of (by first | exact List.Sublist.refl _ | exact List.Sublist.cons _ (List.Sublist.refl _) | exact List.Sublist.cons _ (List.Sublist.cons _ (List.Sublist.refl _)) | exact List.Sublist.cons _ (List.Sublist.cons _ (List.Sublist.cons _ (List.Sublist.refl _)))) (by first | exact (fun _ _ h => h) | exact (fun _ _ h => h.1) | exact (fun _ _ h => h.1.1)) ?_)) | (show ownK _ _ _ _ _; (refine own_keep ?_))))
  conv => whnf
  exact ends_box (_, k') ⟨⟨by have := hr.1; omega, by have := hr.2.1 (by omega); omega⟩, hk'⟩ (fun _ => rfl) List.mem_cons_self (fun _ _ h => h) (fun _ _ _ => trivial)
end Go.Proofs.Ytajbngkcgbehlaa
