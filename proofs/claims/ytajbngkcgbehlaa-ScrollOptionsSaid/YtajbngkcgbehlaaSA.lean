import Derived.Test.YtajbngkcgbehlaaGB
import Derived.Test.YtajbngkcgbehlaaSxZb
namespace Go.Proofs.Ytajbngkcgbehlaa
open Go.SX Go.RowKit
/-! numbers as bytes, the greatest first -/
def beL (v : Int) : Nat → List Int
  | 0 => []
  | k + 1 => v / 256 ^ k % 256 :: beL v k
theorem beL_length (v : Int) : ∀ n, (beL v n).length = n
  | 0 => rfl
  | n + 1 => by unfold beL; rw [List.length_cons, beL_length v n]
theorem beL_byte (v : Int) : ∀ n, ∀ x ∈ beL v n, 0 ≤ x ∧ x ≤ 255
  | 0, x, h => by simp [beL] at h
  | n + 1, x, h => by
    unfold beL at h
    rcases List.mem_cons.1 h with rfl | h
    · exact ⟨Int.emod_nonneg _ (by decide), by have := Int.emod_lt_of_pos (v / 256 ^ n) (show (0 : Int) < 256 by decide); omega⟩
    · exact beL_byte v n x h
theorem beL_word (v : Int) : ∀ n, n ≤ 8 → beL (v % 18446744073709551616) n = beL v n
  | 0, _ => rfl
  | n + 1, hn => by
    unfold beL
    rw [beL_word v n (by omega)]
    congr 1
    have : n = 0 ∨ n = 1 ∨ n = 2 ∨ n = 3 ∨ n = 4 ∨ n = 5 ∨ n = 6 ∨ n = 7 := by omega
    rcases this with rfl | rfl | rfl | rfl | rfl | rfl | rfl | rfl
    · show v % 18446744073709551616 / 1 % 256 = v / 1 % 256; omega
    · show v % 18446744073709551616 / 256 % 256 = v / 256 % 256; omega
    · show v % 18446744073709551616 / 65536 % 256 = v / 65536 % 256; omega
    · show v % 18446744073709551616 / 16777216 % 256 = v / 16777216 % 256; omega
    · show v % 18446744073709551616 / 4294967296 % 256 = v / 4294967296 % 256; omega
    · show v % 18446744073709551616 / 1099511627776 % 256 = v / 1099511627776 % 256; omega
    · show v % 18446744073709551616 / 281474976710656 % 256 = v / 281474976710656 % 256; omega
    · show v % 18446744073709551616 / 72057594037927936 % 256 = v / 72057594037927936 % 256; omega
theorem pow_8 (k : Nat) : (2 : Int) ^ (8 * k) = 256 ^ k := by rw [Int.pow_mul]; rfl
theorem wrap_is {z : Int} (y : Int) {K : Int → Prop} (h : z = y) (h1 : -9223372036854775808 ≤ y) (h2 : y ≤ 9223372036854775807) (hk : K y) : wrapK .i64 z K := by
  subst h; exact wrap_i64 h1 h2 hk
theorem byts_snoc (l : List Int) (x : Int) {i n : Nat} {T : TypeId} {H : Heap} (hn : n = l.length) : (i, Ent.rows (byts (l ++ [x])) 1 T) ∈ (i, Ent.rows (List.take n (byts l) ++ [[.int .u8 x]]) 1 T) :: H := by
  subst hn
  rw [show byts (l ++ [x]) = List.take l.length (byts l) ++ [[.int .u8 x]] by rw [List.take_of_length_le (by rw [byts_length]; exact Nat.le_refl _)]; simp [byts]]
  exact List.mem_cons_self
/-! the writer -/
abbrev WrAt (bs : List Int) (b : Nat) (F : Nat → Prop) (w : World) : Prop := SliceAt 86 5 1 (byts bs) b F w
abbrev WrPost (w : World) (b : Nat) (F : Nat → Prop) (bs : List Int) : Ending → World → Prop := SlicePost w b F 86 5 1 (fun _ : Unit => .tuple #[]) (fun _ => byts bs) (fun _ => True)
theorem wr_end {w : World} {b : Nat} {F : Nat → Prop} {bs : List Int} {v : SV} {H : Heap} {S : Asn} {nx j n : Nat} {ys : List (List Value)} (hFb : F b) (hv : ∀ ρ, v.rf ρ = .tuple #[]) (h0 : (0, Ent.box [.os j n] 86) ∈ H) (hj : (j, Ent.rows ys 1 5) ∈ H) (hne : j ≠ 0) (hn : n ≤ ys.length) (he : ys.take n = byts bs)
    (hS : ∀ R w', S.holds R w' → (restF w F).holds R w') : finK ⟨w, [(0, boxL b)]⟩ v H S nx (WrPost w b F bs) :=
  fin_of fun ρ w' hw => ⟨(), trivial, by rw [hv], (slice_end hw hS h0 hj hne hn hFb).1, by
    have := (slice_end hw hS h0 hj hne hn hFb).2
    rw [he] at this
    exact this⟩
set_option maxRecDepth 20000 in
theorem wnum_any (w : World) (b : Nat) (F : Nat → Prop) (bs : List Int) (v : Int) (n : Nat) (hn : n ≤ 8) (hv : 0 ≤ v) (hl : bs.length ≤ 1000000) (h : WrAt bs b F w) :
    Calls Try.prog 96 #[.pointer (some ⟨b, 0, none⟩), .int .u64 v, .int .i64 n] w (WrPost w b F (bs ++ beL v n)) := by
  obtain ⟨l, habs⟩ := abs_slice h
  rw [byts_length] at habs
  
  refine calls_of tab tabOk Try.func96 rfl rfl rfl [(0, boxL b)] (fun i => if i = 0 then boxL b else l) [.lp 0 0 0 0, .c (.int .u64 v), .c (.int .i64 n)] _ (restF w F) 2 (by simp [SV.rfs, SV.rf, boxL, add_none]) rfl (by show 3 ≤ _; decide) habs ?_
  (repeat' ((conv => whnf) <;> first | (show wrapK _ _ _; (refine wrap_i64 (by omega) (by omega) ?_)) | (show Wp _ _ _ _ _ _ _; (refine Wp.go tabOk rfl ?_)) | (show @cmpK _ _ _; (first | refine cmp_yes (by omega) ?_ | refine cmp_no (by omega) ?_ | (refine cmp_both ?_ ?_ <;> intro _))) | (show wrapK _ _ _; (refine wrap_i64 (by omega) (by omega) ?_)) | (show leK _ _ _; (refine le_of (by first | exact Nat.le_refl _ | omega) ?_)) | (show roomK _ _ _; (refine room_of (by first | omega | (dsimp only; omega)) ?_)) | (show ltK _ _ _; (refine lt_of (by omega) ?_)) | (show _ ∧ _; (refine ⟨?_, ?_⟩)) | (show keepK _ _ _ _ _; (refine keep_of (by first | exact List.Sublist.refl _ | exact List.Sublist.cons _ (List.Sublist.refl _) | exact List.Sublist.cons _ (List.Sublist.cons _ (List.Sublist.refl _)) | exact List.Sublist.cons _ (List.Sublist.cons _ (List.Sublist.cons _ (List.Sublist.refl _)))) (by first | exact (fun _ _ h => h) | exact (fun _ _ h => h.1) | exact (fun _ _ h => h.1.1)) ?_)) | (show ownK _ _ _ _ _; (refine own_keep ?_))))
  refine Wp.loop (σ := Nat × Nat × List Int) 3 (fun ⟨k, _, _⟩ => [(0, .lp 0 0 0 0), (1, .c (.int .u64 v)), (2, .c (.int .i64 ((k : Int) - 1)))]) (fun ⟨_, m, cur⟩ => [(2, .rows (byts cur) 1 5), (0, .box [.os 2 m] 86)]) (fun _ => restF w F)
    (fun ⟨k, m, cur⟩ => k ≤ n ∧ cur ++ beL v k = bs ++ beL v n ∧ m = cur.length ∧ cur.length ≤ bs.length + (n - k)) (fun s => s.1) (n, bs.length, bs) [(2, some 1)] (by decide) (fun s => ⟨rfl, rfl⟩) ⟨Nat.le_refl _, rfl, rfl, by omega⟩ ⟨rfl, ⟨rfl, rfl, rfl, trivial⟩, ⟨List.mem_cons_of_mem _ List.mem_cons_self, List.mem_cons_self, trivial⟩, fun _ _ h => h⟩ ?_
  rintro ⟨k, m, cur⟩ ⟨hk, he, hm, hc⟩
  rcases k with _ | k
  · (repeat' ((conv => whnf) <;> first | (show Wp _ _ _ _ _ _ _; (refine Wp.go tabOk rfl ?_)) | (show @cmpK _ _ _; (first | refine cmp_yes (by omega) ?_ | refine cmp_no (by omega) ?_ | (refine cmp_both ?_ ?_ <;> intro _))) | (show wrapK _ _ _; (refine wrap_i64 (by omega) (by omega) ?_)) | (show leK _ _ _; (refine le_of (by first | exact Nat.le_refl _ | omega) ?_)) | (show roomK _ _ _; (refine room_of (by first | omega | (dsimp only; omega)) ?_)) | (show ltK _ _ _; (refine lt_of (by omega) ?_)) | (show _ ∧ _; (refine ⟨?_, ?_⟩)) | (show keepK _ _ _ _ _; (refine keep_of (by first | exact List.Sublist.refl _ | exact List.Sublist.cons _ (List.Sublist.refl _) | exact List.Sublist.cons _ (List.Sublist.cons _ (List.Sublist.refl _)) | exact List.Sublist.cons _ (List.Sublist.cons _ (List.Sublist.cons _ (List.Sublist.refl _)))) (by first | exact (fun _ _ h => h) | exact (fun _ _ h => h.1) | exact (fun _ _ h => h.1.1)) ?_)) | (show ownK _ _ _ _ _; (refine own_keep ?_))))
    conv => whnf
    rw [show beL v 0 = [] from rfl, List.append_nil] at he
    exact wr_end h.at (fun _ => rfl) (List.mem_cons_of_mem _ List.mem_cons_self) List.mem_cons_self (by decide) (by rw [byts_length, hm]; exact Nat.le_refl _) (by rw [← he, List.take_of_length_le (by rw [byts_length, hm]; exact Nat.le_refl _)]) (fun _ _ h => h)
  · (repeat' ((conv => whnf) <;> first | (show wrapK _ _ _; (first | refine wrap_is (8 * (k : Int)) (by omega) (by omega) (by omega) ?_ | refine wrap_is ((k : Int) - 1) (by omega) (by omega) (by omega) ?_ | refine wrap_u64 (by omega) (by omega) ?_ | refine wrap_byte ?_)) | (show shiftK _ _ _ _ _; (refine shr_of (z := v / 256 ^ k) (8 * k) (by omega) (by omega) (by rw [pow_8]) ?_)) | (show leK _ _ _; (refine le_of (by rw [byts_length, hm]; exact Nat.le_refl _) ?_)) | (show roomK _ _ _; (refine room_of (by show (m + 1) * 1 ≤ 140737488355328; omega) ?_)) | (show Wp _ _ _ _ _ _ _; (refine Wp.go tabOk rfl ?_)) | (show @cmpK _ _ _; (first | refine cmp_yes (by omega) ?_ | refine cmp_no (by omega) ?_ | (refine cmp_both ?_ ?_ <;> intro _))) | (show wrapK _ _ _; (refine wrap_i64 (by omega) (by omega) ?_)) | (show leK _ _ _; (refine le_of (by first | exact Nat.le_refl _ | omega) ?_)) | (show roomK _ _ _; (refine room_of (by first | omega | (dsimp only; omega)) ?_)) | (show ltK _ _ _; (refine lt_of (by omega) ?_)) | (show _ ∧ _; (refine ⟨?_, ?_⟩)) | (show keepK _ _ _ _ _; (refine keep_of (by first | exact List.Sublist.refl _ | exact List.Sublist.cons _ (List.Sublist.refl _) | exact List.Sublist.cons _ (List.Sublist.cons _ (List.Sublist.refl _)) | exact List.Sublist.cons _ (List.Sublist.cons _ (List.Sublist.cons _ (List.Sublist.refl _)))) (by first | exact (fun _ _ h => h) | exact (fun _ _ h => h.1) | exact (fun _ _ h => h.1.1)) ?_)) | (show ownK _ _ _ _ _; (refine own_keep ?_))))
    conv => whnf
    exact ⟨(k, m + 1, cur ++ [v / 256 ^ k % 256]), [(2, some 4)], ⟨by omega, by rw [List.append_assoc]; exact he, by rw [List.length_append, hm]; rfl, by rw [List.length_append, List.length_singleton]; omega⟩, Nat.lt_succ_self k, rfl, ⟨rfl, rfl, rfl, trivial⟩, ⟨byts_snoc _ _ hm, List.mem_cons_of_mem _ (List.mem_cons_of_mem _ List.mem_cons_self), trivial⟩, fun _ _ h => h⟩
/-- a call that writes -/
theorem call_wr {B : Base} {n i : Nat} {f : FuncId} {H : Heap} {S : Asn} {nx : Nat} {K : SV → Heap → Asn → Nat → Prop} {bs : List Int} (rest : List Value) (bs' : List Int) (hi : (i, Ent.ext (sliceO 86 5 1 (byts bs))) ∈ H) (hf : ∀ ar w, (callFunc f ar).run Try.prog w = .ok (.enter f ar) w)
    (hc : ∀ w b F, WrAt bs b F w → Calls Try.prog f (Value.pointer (some ⟨b, 0, none⟩) :: rest).toArray w (WrPost w b F bs'))
    (h : K (.c (.tuple #[])) (setH i (.ext (sliceO 86 5 1 (byts bs'))) H) S nx) : callK ⟨Try.prog, B, n, tab⟩ f (.lp i 0 0 0 :: cs rest) H S nx K := by
  refine call_slice hi hf (fun _ : Unit => .tuple #[]) (fun _ => byts bs') (fun _ => True) (fun ρ w b F hw hbox hb hs => ?_) (fun _ _ => h)
  have e : SV.rfs ρ (.lp i 0 0 0 :: cs rest) = Value.pointer (some ⟨b, 0, none⟩) :: rest := by simp [SV.rfs, SV.rf, hb, add_none, rfs_cs]
  rw [e]
  exact hc w b F hs
theorem wr_fin {w : World} {b : Nat} {F : Nat → Prop} {bs : List Int} {v : SV} {H : Heap} {S : Asn} {nx : Nat} (hv : ∀ ρ, v.rf ρ = .tuple #[]) (h0 : (0, Ent.ext (sliceO 86 5 1 (byts bs))) ∈ H)
    (hS : ∀ R w', S.holds R w' → (restF w F).holds R w') : finK ⟨w, [(0, boxL b)]⟩ v H S nx (WrPost w b F bs) :=
  fin_of fun ρ w' hw => ⟨(), trivial, by rw [hv], (ext_end hw List.mem_cons_self hS h0).1, (ext_end hw List.mem_cons_self hS h0).2⟩
theorem wone_any (w : World) (b : Nat) (F : Nat → Prop) (bs : List Int) (v : Int) (hl : bs.length ≤ 1000000) (h : WrAt bs b F w) :
    Calls Try.prog 71 #[.pointer (some ⟨b, 0, none⟩), .int .i64 v] w (WrPost w b F (bs ++ beL v 1)) := by
  
  refine calls_of tab tabOk Try.func71 rfl rfl rfl [(0, boxL b)] (fun _ => boxL b) [.lp 0 0 0 0, .c (.int .i64 v)] _ (restF w F) 1 (by simp [SV.rfs, SV.rf, boxL, add_none]) rfl (by show 2 ≤ _; decide) (abs_ext h) ?_
  (repeat' ((conv => whnf) <;> first | (show wrapK _ _ _; (refine wrap_word ?_)) | (show Wp _ _ _ _ _ _ _; (refine Wp.go tabOk rfl ?_)) | (show @cmpK _ _ _; (first | refine cmp_yes (by omega) ?_ | refine cmp_no (by omega) ?_ | (refine cmp_both ?_ ?_ <;> intro _))) | (show wrapK _ _ _; (refine wrap_i64 (by omega) (by omega) ?_)) | (show leK _ _ _; (refine le_of (by first | exact Nat.le_refl _ | omega) ?_)) | (show roomK _ _ _; (refine room_of (by first | omega | (dsimp only; omega)) ?_)) | (show ltK _ _ _; (refine lt_of (by omega) ?_)) | (show _ ∧ _; (refine ⟨?_, ?_⟩)) | (show keepK _ _ _ _ _; (refine keep_of (by first | exact List.Sublist.refl _ | exact List.Sublist.cons _ (List.Sublist.refl _) | exact List.Sublist.cons _ (List.Sublist.cons _ (List.Sublist.refl _)) | exact List.Sublist.cons _ (List.Sublist.cons _ (List.Sublist.cons _ (List.Sublist.refl _)))) (by first | exact (fun _ _ h => h) | exact (fun _ _ h => h.1) | exact (fun _ _ h => h.1.1)) ?_)) | (show ownK _ _ _ _ _; (refine own_keep ?_))))
  rw [← beL_word v 1 (by decide)]
  refine call_wr [.int .u64 (v % 18446744073709551616), .int .i64 1] _ List.mem_cons_self Try.call96 (fun w b F h => wnum_any w b F bs _ 1 (by decide) (Int.emod_nonneg _ (by decide)) hl h) ?_
  (repeat' ((conv => whnf) <;> first | (show Wp _ _ _ _ _ _ _; (refine Wp.go tabOk rfl ?_)) | (show @cmpK _ _ _; (first | refine cmp_yes (by omega) ?_ | refine cmp_no (by omega) ?_ | (refine cmp_both ?_ ?_ <;> intro _))) | (show wrapK _ _ _; (refine wrap_i64 (by omega) (by omega) ?_)) | (show leK _ _ _; (refine le_of (by first | exact Nat.le_refl _ | omega) ?_)) | (show roomK _ _ _; (refine room_of (by first | omega | (dsimp only; omega)) ?_)) | (show ltK _ _ _; (refine lt_of (by omega) ?_)) | (show _ ∧ _; (refine ⟨?_, ?_⟩)) | (show keepK _ _ _ _ _; (refine keep_of (by first | exact List.Sublist.refl _ | exact List.Sublist.cons _ (List.Sublist.refl _) | exact List.Sublist.cons _ (List.Sublist.cons _ (List.Sublist.refl _)) | exact List.Sublist.cons _ (List.Sublist.cons _ (List.Sublist.cons _ (List.Sublist.refl _)))) (by first | exact (fun _ _ h => h) | exact (fun _ _ h => h.1) | exact (fun _ _ h => h.1.1)) ?_)) | (show ownK _ _ _ _ _; (refine own_keep ?_))))
  conv => whnf
  exact wr_fin (fun _ => rfl) List.mem_cons_self (fun _ _ h => h)
theorem wtwo_any (w : World) (b : Nat) (F : Nat → Prop) (bs : List Int) (v : Int) (hl : bs.length ≤ 1000000) (h : WrAt bs b F w) :
    Calls Try.prog 53 #[.pointer (some ⟨b, 0, none⟩), .int .i64 v] w (WrPost w b F (bs ++ beL v 2)) := by
  
  refine calls_of tab tabOk Try.func53 rfl rfl rfl [(0, boxL b)] (fun _ => boxL b) [.lp 0 0 0 0, .c (.int .i64 v)] _ (restF w F) 1 (by simp [SV.rfs, SV.rf, boxL, add_none]) rfl (by show 2 ≤ _; decide) (abs_ext h) ?_
  (repeat' ((conv => whnf) <;> first | (show wrapK _ _ _; (refine wrap_word ?_)) | (show Wp _ _ _ _ _ _ _; (refine Wp.go tabOk rfl ?_)) | (show @cmpK _ _ _; (first | refine cmp_yes (by omega) ?_ | refine cmp_no (by omega) ?_ | (refine cmp_both ?_ ?_ <;> intro _))) | (show wrapK _ _ _; (refine wrap_i64 (by omega) (by omega) ?_)) | (show leK _ _ _; (refine le_of (by first | exact Nat.le_refl _ | omega) ?_)) | (show roomK _ _ _; (refine room_of (by first | omega | (dsimp only; omega)) ?_)) | (show ltK _ _ _; (refine lt_of (by omega) ?_)) | (show _ ∧ _; (refine ⟨?_, ?_⟩)) | (show keepK _ _ _ _ _; (refine keep_of (by first | exact List.Sublist.refl _ | exact List.Sublist.cons _ (List.Sublist.refl _) | exact List.Sublist.cons _ (List.Sublist.cons _ (List.Sublist.refl _)) | exact List.Sublist.cons _ (List.Sublist.cons _ (List.Sublist.cons _ (List.Sublist.refl _)))) (by first | exact (fun _ _ h => h) | exact (fun _ _ h => h.1) | exact (fun _ _ h => h.1.1)) ?_)) | (show ownK _ _ _ _ _; (refine own_keep ?_))))
  rw [← beL_word v 2 (by decide)]
  refine call_wr [.int .u64 (v % 18446744073709551616), .int .i64 2] _ List.mem_cons_self Try.call96 (fun w b F h => wnum_any w b F bs _ 2 (by decide) (Int.emod_nonneg _ (by decide)) hl h) ?_
  (repeat' ((conv => whnf) <;> first | (show Wp _ _ _ _ _ _ _; (refine Wp.go tabOk rfl ?_)) | (show @cmpK _ _ _; (first | refine cmp_yes (by omega) ?_ | refine cmp_no (by omega) ?_ | (refine cmp_both ?_ ?_ <;> intro _))) | (show wrapK _ _ _; (refine wrap_i64 (by omega) (by omega) ?_)) | (show leK _ _ _; (refine le_of (by first | exact Nat.le_refl _ | omega) ?_)) | (show roomK _ _ _; (refine room_of (by first | omega | (dsimp only; omega)) ?_)) | (show ltK _ _ _; (refine lt_of (by omega) ?_)) | (show _ ∧ _; (refine ⟨?_, ?_⟩)) | (show keepK _ _ _ _ _; (refine keep_of (by first | exact List.Sublist.refl _ | exact List.Sublist.cons _ (List.Sublist.refl _) | exact List.Sublist.cons _ (List.Sublist.cons _ (List.Sublist.refl _)) | exact List.Sublist.cons _ (List.Sublist.cons _ (List.Sublist.cons _ (List.Sublist.refl _)))) (by first | exact (fun _ _ h => h) | exact (fun _ _ h => h.1) | exact (fun _ _ h => h.1.1)) ?_)) | (show ownK _ _ _ _ _; (refine own_keep ?_))))
  conv => whnf
  exact wr_fin (fun _ => rfl) List.mem_cons_self (fun _ _ h => h)
theorem wsigned_any (w : World) (b : Nat) (F : Nat → Prop) (bs : List Int) (v : Int) (hl : bs.length ≤ 1000000) (h : WrAt bs b F w) :
    Calls Try.prog 103 #[.pointer (some ⟨b, 0, none⟩), .int .i64 v] w (WrPost w b F (bs ++ beL v 4)) := by
  
  refine calls_of tab tabOk Try.func103 rfl rfl rfl [(0, boxL b)] (fun _ => boxL b) [.lp 0 0 0 0, .c (.int .i64 v)] _ (restF w F) 1 (by simp [SV.rfs, SV.rf, boxL, add_none]) rfl (by show 2 ≤ _; decide) (abs_ext h) ?_
  (repeat' ((conv => whnf) <;> first | (show wrapK _ _ _; (refine wrap_word ?_)) | (show Wp _ _ _ _ _ _ _; (refine Wp.go tabOk rfl ?_)) | (show @cmpK _ _ _; (first | refine cmp_yes (by omega) ?_ | refine cmp_no (by omega) ?_ | (refine cmp_both ?_ ?_ <;> intro _))) | (show wrapK _ _ _; (refine wrap_i64 (by omega) (by omega) ?_)) | (show leK _ _ _; (refine le_of (by first | exact Nat.le_refl _ | omega) ?_)) | (show roomK _ _ _; (refine room_of (by first | omega | (dsimp only; omega)) ?_)) | (show ltK _ _ _; (refine lt_of (by omega) ?_)) | (show _ ∧ _; (refine ⟨?_, ?_⟩)) | (show keepK _ _ _ _ _; (refine keep_of (by first | exact List.Sublist.refl _ | exact List.Sublist.cons _ (List.Sublist.refl _) | exact List.Sublist.cons _ (List.Sublist.cons _ (List.Sublist.refl _)) | exact List.Sublist.cons _ (List.Sublist.cons _ (List.Sublist.cons _ (List.Sublist.refl _)))) (by first | exact (fun _ _ h => h) | exact (fun _ _ h => h.1) | exact (fun _ _ h => h.1.1)) ?_)) | (show ownK _ _ _ _ _; (refine own_keep ?_))))
  rw [← beL_word v 4 (by decide)]
  refine call_wr [.int .u64 (v % 18446744073709551616), .int .i64 4] _ List.mem_cons_self Try.call96 (fun w b F h => wnum_any w b F bs _ 4 (by decide) (Int.emod_nonneg _ (by decide)) hl h) ?_
  (repeat' ((conv => whnf) <;> first | (show Wp _ _ _ _ _ _ _; (refine Wp.go tabOk rfl ?_)) | (show @cmpK _ _ _; (first | refine cmp_yes (by omega) ?_ | refine cmp_no (by omega) ?_ | (refine cmp_both ?_ ?_ <;> intro _))) | (show wrapK _ _ _; (refine wrap_i64 (by omega) (by omega) ?_)) | (show leK _ _ _; (refine le_of (by first | exact Nat.le_refl _ | omega) ?_)) | (show roomK _ _ _; (refine room_of (by first | omega | (dsimp only; omega)) ?_)) | (show ltK _ _ _; (refine lt_of (by omega) ?_)) | (show _ ∧ _; (refine ⟨?_, ?_⟩)) | (show keepK _ _ _ _ _; (refine keep_of (by first | exact List.Sublist.refl _ | exact List.Sublist.cons _ (List.Sublist.refl _) | exact List.Sublist.cons _ (List.Sublist.cons _ (List.Sublist.refl _)) | exact List.Sublist.cons _ (List.Sublist.cons _ (List.Sublist.cons _ (List.Sublist.refl _)))) (by first | exact (fun _ _ h => h) | exact (fun _ _ h => h.1) | exact (fun _ _ h => h.1.1)) ?_)) | (show ownK _ _ _ _ _; (refine own_keep ?_))))
  conv => whnf
  exact wr_fin (fun _ => rfl) List.mem_cons_self (fun _ _ h => h)
theorem wtruth_any (w : World) (b : Nat) (F : Nat → Prop) (bs : List Int) (y : Bool) (hl : bs.length ≤ 1000000) (h : WrAt bs b F w) :
    Calls Try.prog 52 #[.pointer (some ⟨b, 0, none⟩), .bool y] w (WrPost w b F (bs ++ [if y then 1 else 0])) := by
  cases y with
  | true =>
    
    refine calls_of tab tabOk Try.func52 rfl rfl rfl [(0, boxL b)] (fun _ => boxL b) [.lp 0 0 0 0, .c (.bool true)] _ (restF w F) 1 (by simp [SV.rfs, SV.rf, boxL, add_none]) rfl (by show 2 ≤ _; decide) (abs_ext h) ?_
    (repeat' ((conv => whnf) <;> first | (show Wp _ _ _ _ _ _ _; (refine Wp.go tabOk rfl ?_)) | (show @cmpK _ _ _; (first | refine cmp_yes (by omega) ?_ | refine cmp_no (by omega) ?_ | (refine cmp_both ?_ ?_ <;> intro _))) | (show wrapK _ _ _; (refine wrap_i64 (by omega) (by omega) ?_)) | (show leK _ _ _; (refine le_of (by first | exact Nat.le_refl _ | omega) ?_)) | (show roomK _ _ _; (refine room_of (by first | omega | (dsimp only; omega)) ?_)) | (show ltK _ _ _; (refine lt_of (by omega) ?_)) | (show _ ∧ _; (refine ⟨?_, ?_⟩)) | (show keepK _ _ _ _ _; (refine keep_of (by first | exact List.Sublist.refl _ | exact List.Sublist.cons _ (List.Sublist.refl _) | exact List.Sublist.cons _ (List.Sublist.cons _ (List.Sublist.refl _)) | exact List.Sublist.cons _ (List.Sublist.cons _ (List.Sublist.cons _ (List.Sublist.refl _)))) (by first | exact (fun _ _ h => h) | exact (fun _ _ h => h.1) | exact (fun _ _ h => h.1.1)) ?_)) | (show ownK _ _ _ _ _; (refine own_keep ?_))))
    refine call_wr [.int .i64 1] _ List.mem_cons_self Try.call71 (fun w b F h => wone_any w b F bs 1 (by omega) h) ?_
    (repeat' ((conv => whnf) <;> first | (show Wp _ _ _ _ _ _ _; (refine Wp.go tabOk rfl ?_)) | (show @cmpK _ _ _; (first | refine cmp_yes (by omega) ?_ | refine cmp_no (by omega) ?_ | (refine cmp_both ?_ ?_ <;> intro _))) | (show wrapK _ _ _; (refine wrap_i64 (by omega) (by omega) ?_)) | (show leK _ _ _; (refine le_of (by first | exact Nat.le_refl _ | omega) ?_)) | (show roomK _ _ _; (refine room_of (by first | omega | (dsimp only; omega)) ?_)) | (show ltK _ _ _; (refine lt_of (by omega) ?_)) | (show _ ∧ _; (refine ⟨?_, ?_⟩)) | (show keepK _ _ _ _ _; (refine keep_of (by first | exact List.Sublist.refl _ | exact List.Sublist.cons _ (List.Sublist.refl _) | exact List.Sublist.cons _ (List.Sublist.cons _ (List.Sublist.refl _)) | exact List.Sublist.cons _ (List.Sublist.cons _ (List.Sublist.cons _ (List.Sublist.refl _)))) (by first | exact (fun _ _ h => h) | exact (fun _ _ h => h.1) | exact (fun _ _ h => h.1.1)) ?_)) | (show ownK _ _ _ _ _; (refine own_keep ?_))))
    conv => whnf
    exact wr_fin (fun _ => rfl) List.mem_cons_self (fun _ _ h => h)
  | false =>
    
    refine calls_of tab tabOk Try.func52 rfl rfl rfl [(0, boxL b)] (fun _ => boxL b) [.lp 0 0 0 0, .c (.bool false)] _ (restF w F) 1 (by simp [SV.rfs, SV.rf, boxL, add_none]) rfl (by show 2 ≤ _; decide) (abs_ext h) ?_
    (repeat' ((conv => whnf) <;> first | (show Wp _ _ _ _ _ _ _; (refine Wp.go tabOk rfl ?_)) | (show @cmpK _ _ _; (first | refine cmp_yes (by omega) ?_ | refine cmp_no (by omega) ?_ | (refine cmp_both ?_ ?_ <;> intro _))) | (show wrapK _ _ _; (refine wrap_i64 (by omega) (by omega) ?_)) | (show leK _ _ _; (refine le_of (by first | exact Nat.le_refl _ | omega) ?_)) | (show roomK _ _ _; (refine room_of (by first | omega | (dsimp only; omega)) ?_)) | (show ltK _ _ _; (refine lt_of (by omega) ?_)) | (show _ ∧ _; (refine ⟨?_, ?_⟩)) | (show keepK _ _ _ _ _; (refine keep_of (by first | exact List.Sublist.refl _ | exact List.Sublist.cons _ (List.Sublist.refl _) | exact List.Sublist.cons _ (List.Sublist.cons _ (List.Sublist.refl _)) | exact List.Sublist.cons _ (List.Sublist.cons _ (List.Sublist.cons _ (List.Sublist.refl _)))) (by first | exact (fun _ _ h => h) | exact (fun _ _ h => h.1) | exact (fun _ _ h => h.1.1)) ?_)) | (show ownK _ _ _ _ _; (refine own_keep ?_))))
    refine call_wr [.int .i64 0] _ List.mem_cons_self Try.call71 (fun w b F h => wone_any w b F bs 0 (by omega) h) ?_
    (repeat' ((conv => whnf) <;> first | (show Wp _ _ _ _ _ _ _; (refine Wp.go tabOk rfl ?_)) | (show @cmpK _ _ _; (first | refine cmp_yes (by omega) ?_ | refine cmp_no (by omega) ?_ | (refine cmp_both ?_ ?_ <;> intro _))) | (show wrapK _ _ _; (refine wrap_i64 (by omega) (by omega) ?_)) | (show leK _ _ _; (refine le_of (by first | exact Nat.le_refl _ | omega) ?_)) | (show roomK _ _ _; (refine room_of (by first | omega | (dsimp only; omega)) ?_)) | (show ltK _ _ _; (refine lt_of (by omega) ?_)) | (show _ ∧ _; (refine ⟨?_, ?_⟩)) | (show keepK _ _ _ _ _; (refine keep_of (by first | exact List.Sublist.refl _ | exact List.Sublist.cons _ (List.Sublist.refl _) | exact List.Sublist.cons _ (List.Sublist.cons _ (List.Sublist.refl _)) | exact List.Sublist.cons _ (List.Sublist.cons _ (List.Sublist.cons _ (List.Sublist.refl _)))) (by first | exact (fun _ _ h => h) | exact (fun _ _ h => h.1) | exact (fun _ _ h => h.1.1)) ?_)) | (show ownK _ _ _ _ _; (refine own_keep ?_))))
    conv => whnf
    exact wr_fin (fun _ => rfl) List.mem_cons_self (fun _ _ h => h)
end Go.Proofs.Ytajbngkcgbehlaa
