import Derived.Test.YtlcikmddmcdeeaaRA
namespace Go.Proofs.Ytlcikmddmcdeeaa
open Go.SX Go.RowKit
abbrev FreeE (xs : List Int) : Ent := .ext (sliceO 37 3 1 (ints xs))
theorem post_ext {w w' : World} {b : Nat} {F : Nat → Prop} {xs : List Int} {v : Value} {e : Ending} (h : FreeAt xs b F w) (he : e = .returned v ∧ Ext w w') : FreePost w b F (fun _ : Unit => v) (fun _ => xs) (fun _ => True) e w' :=
  ⟨(), trivial, he.1, ⟨he.2.os, he.2.tape, he.2.output, he.2.size, fun x hx _ => he.2.block x hx⟩, F, fun _ h => .inl h, h.stable fun x hx => he.2.block x (h.size hx)⟩
theorem method_len : methodAt Try.prog 36 "Len" = some (0, some (36, false)) := by kernel_rfl
theorem method_less : methodAt Try.prog 36 "Less" = some (0, some (37, false)) := by kernel_rfl
theorem method_swap : methodAt Try.prog 36 "Swap" = some (0, some (40, false)) := by kernel_rfl
theorem method_push : methodAt Try.prog 36 "Push" = some (0, some (39, true)) := by kernel_rfl
theorem method_pop : methodAt Try.prog 36 "Pop" = some (0, some (38, true)) := by kernel_rfl
section
variable {B : Base} {n : Nat} {H : Heap} {S : Asn} {nx i : Nat} {K : SV → Heap → Asn → Nat → Prop} {xs : List Int}
theorem inv_len (hi : (i, FreeE xs) ∈ H) (hl : xs.length ≤ 1000000) (h : K (.c (.int .i64 xs.length)) (setH i (FreeE xs) H) S nx) : invokeK ⟨Try.prog, B, n, tab⟩ 36 (.lp i 0 0 0) "Len" [] H S nx K := by
  refine invoke_slice hi (fun _ : Unit => .int .i64 xs.length) (fun _ => ints xs) (fun _ => True) (fun ρ w b F hs => ?_) (fun _ _ => h)
  obtain ⟨v, G, h1, h2, h3, h4⟩ := hs.cell
  rw [ints_length] at h1
  exact ⟨_, _, method_val (n := Try.prog.types.size + 99) method_len Try.underlying36 (ti 37 rfl) rfl w h1, Try.call36, (len_any w _ _ _ hl).mono fun e w' he => post_ext hs he⟩
theorem inv_less (hi : (i, FreeE xs) ∈ H) {a b : Nat} (ha : a < xs.length) (hb : b < xs.length) (h : K (.c (.bool (decide (xs.getD a 0 < xs.getD b 0)))) (setH i (FreeE xs) H) S nx) : invokeK ⟨Try.prog, B, n, tab⟩ 36 (.lp i 0 0 0) "Less" [.c (.int .i64 a), .c (.int .i64 b)] H S nx K := by
  refine invoke_slice hi (fun _ : Unit => .bool (decide (xs.getD a 0 < xs.getD b 0))) (fun _ => ints xs) (fun _ => True) (fun ρ w b' F hs => ?_) (fun _ _ => h)
  obtain ⟨v, G, h1, h2, h3, h4⟩ := hs.cell
  rw [ints_length] at h1
  exact ⟨_, _, method_val (n := Try.prog.types.size + 99) method_less Try.underlying36 (ti 37 rfl) rfl w h1, Try.call37, (less_any w _ _ xs a b ha hb (rows_in h4)).mono fun e w' he => post_ext hs he⟩
theorem inv_swap (hi : (i, FreeE xs) ∈ H) {a b : Nat} (ha : a < xs.length) (hb : b < xs.length) (h : K (.c (.tuple #[])) (setH i (FreeE (swapL xs a b)) H) S nx) : invokeK ⟨Try.prog, B, n, tab⟩ 36 (.lp i 0 0 0) "Swap" [.c (.int .i64 a), .c (.int .i64 b)] H S nx K := by
  refine invoke_slice hi (fun _ : Unit => .tuple #[]) (fun _ => ints (swapL xs a b)) (fun _ => True) (fun ρ w b' F hs => ?_) (fun _ _ => h)
  obtain ⟨v, G, h1, h2, h3, h4⟩ := hs
  rw [ints_length] at h1
  refine ⟨_, _, method_val (n := Try.prog.types.size + 99) method_swap Try.underlying36 (ti 37 rfl) rfl w (a := ⟨b', 0, none⟩) (v := .slice v.base xs.length v.cap) (by simp [World.cell?, h1]), Try.call40, (swap_rows w v G xs a b ha hb h4).mono ?_⟩
  rintro e w' ⟨rfl, hst, G', hG, hr⟩
  have hb' := lt_size_of_some h1
  refine ⟨(), trivial, rfl, ⟨hst.os, hst.tape, hst.output, hst.size, fun x hx hF => hst.block x hx fun hg => hF ((h2 x).2 (.inr hg))⟩, fun x => x = b' ∨ G' x, ?_, v, G', ?_, fun _ => Iff.rfl, ?_, hr⟩
  · rintro y (rfl | hy)
    · exact .inl ((h2 _).2 (.inl rfl))
    · exact (hG y hy).imp (fun h => (h2 y).2 (.inr h)) (fun h => h)
  · rw [hst.block b' hb' h3, h1, ints_length, swapL_length]
  · intro hg
    rcases hG b' hg with h | h
    · exact h3 h
    · omega
theorem inv_push (hi : (i, FreeE xs) ∈ H) {r : Int} (hl : xs.length ≤ 1000000) (h : K (.c (.tuple #[])) (setH i (FreeE (xs ++ [r])) H) S nx) : invokeK ⟨Try.prog, B, n, tab⟩ 36 (.lp i 0 0 0) "Push" [.c (.iface 3 (.int .i64 r))] H S nx K :=
  invoke_slice hi (fun _ : Unit => .tuple #[]) (fun _ => ints (xs ++ [r])) (fun _ => True) (fun ρ w b F hs => ⟨_, _, method_ptr (n := Try.prog.types.size + 99) method_push Try.underlying36 w, Try.call39, push_any w b F xs r hl hs⟩) (fun _ _ => h)
theorem inv_pop {r : Int} (hi : (i, FreeE (xs ++ [r])) ∈ H) (hl : (xs ++ [r]).length ≤ 1000000) (h : K (.c (.iface 3 (.int .i64 r))) (setH i (FreeE xs) H) S nx) : invokeK ⟨Try.prog, B, n, tab⟩ 36 (.lp i 0 0 0) "Pop" [] H S nx K :=
  invoke_slice hi (fun _ : Unit => .iface 3 (.int .i64 r)) (fun _ => ints xs) (fun _ => True) (fun ρ w b F hs => ⟨_, _, method_ptr (n := Try.prog.types.size + 99) method_pop Try.underlying36 w, Try.call38, pop_any w b F xs r hl hs⟩) (fun _ _ => h)
end
end Go.Proofs.Ytlcikmddmcdeeaa
