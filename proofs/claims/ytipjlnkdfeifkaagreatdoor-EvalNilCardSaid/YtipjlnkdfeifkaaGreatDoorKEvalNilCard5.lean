import Derived.Test.YtipjlnkdfeifkaaGreatDoorProg
import Derived.Lib.BitFns
import Derived.Lib.Strings
import Derived.Lib.Slices
import Derived.Lib.Small
import Derived.Lib.Walk
import Derived.Lib.TrailingZeros
import Derived.WalkKit
import Derived.Shelf.Spec.BitsCarry
import Derived.Test.YtipjlnkdfeifkaaGreatDoorKEvalNilCard4
/- GA -/
set_option linter.unusedVariables false
set_option linter.unusedSimpArgs false
namespace Go.Proofs.YtipjlnkdfeifkaaGreatDoor
open Go.SX
def tab : List (Nat × TI) :=
  [(2, ⟨1, false, 6, 0, 8, .i64, [], true, [.int .i64 0]⟩),
   (3, ⟨1, false, 6, 0, 8, .i64, [], true, [.int .i64 0]⟩),
   (4, ⟨1, false, 5, 0, 1, .i64, [], true, [.bool false]⟩),
   (5, ⟨1, false, 6, 0, 1, .u8, [], true, [.int .u8 0]⟩),
   (9, ⟨1, false, 4, 0, 16, .i64, [], true, [.string .empty]⟩),
   (20, ⟨1, false, 9, 0, 16, .i64, [], true, [.nilIface]⟩),
   (22, ⟨1, false, 1, 45, 24, .i64, [], true, [.slice none 0 0]⟩),
   (24, ⟨1, true, 3, 0, 24, .i64, [(0, 1, 0)], true, [.slice none 0 0]⟩),
   (26, ⟨2, true, 3, 0, 48, .i64, [(0, 1, 0), (1, 1, 0)], true, [.slice none 0 0, .slice none 0 0]⟩),
   (27, ⟨1, false, 0, 0, 8, .i64, [], true, [.nilFunc]⟩),
   (28, ⟨1, false, 7, 57, 8, .i64, [], true, [.pointer none]⟩),
   (29, ⟨1, false, 6, 0, 8, .i64, [], true, [.int .i64 0]⟩),
   (37, ⟨1, false, 6, 0, 8, .u64, [], true, [.int .u64 0]⟩),
   (38, ⟨1, false, 1, 37, 24, .i64, [], true, [.slice none 0 0]⟩),
   (40, ⟨4, true, 3, 0, 48, .i64, [(0, 1, 0), (1, 1, 0), (2, 1, 0), (3, 1, 0)], true, [.int .i64 0, .int .u64 0, .slice none 0 0, .int .i64 0]⟩),
   (43, ⟨1, false, 1, 38, 24, .i64, [], true, [.slice none 0 0]⟩),
   (45, ⟨1, true, 3, 0, 24, .i64, [(0, 1, 0)], true, [.slice none 0 0]⟩),
   (47, ⟨1, false, 1, 2, 24, .i64, [], true, [.slice none 0 0]⟩),
   (48, ⟨1, false, 1, 3, 24, .i64, [], true, [.slice none 0 0]⟩),
   (53, ⟨1, false, 7, 104, 8, .i64, [], true, [.pointer none]⟩),
   (54, ⟨1, false, 7, 111, 8, .i64, [], true, [.pointer none]⟩),
   (55, ⟨1, false, 7, 125, 8, .i64, [], true, [.pointer none]⟩),
   (57, ⟨7, true, 3, 0, 72, .i64, [(0, 4, 1), (4, 1, 0), (5, 1, 0), (6, 1, 0)], true, [.int .i64 0, .int .u64 0, .slice none 0 0, .int .i64 0, .pointer none, .pointer none, .pointer none]⟩),
   (60, ⟨1, false, 1, 37, 24, .i64, [], true, [.slice none 0 0]⟩),
   (63, ⟨1, false, 1, 66, 24, .i64, [], true, [.slice none 0 0]⟩),
   (66, ⟨2, true, 3, 0, 32, .i64, [(0, 1, 0), (1, 1, 0)], true, [.bool false, .slice none 0 0]⟩),
   (72, ⟨1, false, 0, 0, 8, .i64, [], true, [.nilFunc]⟩),
   (73, ⟨1, false, 0, 0, 8, .i64, [], true, [.nilFunc]⟩),
   (74, ⟨2, true, 2, 22, 48, .i64, [], true, [.slice none 0 0, .slice none 0 0]⟩),
   (75, ⟨1, false, 1, 74, 24, .i64, [], true, [.slice none 0 0]⟩),
   (77, ⟨2, true, 2, 45, 48, .i64, [], true, [.slice none 0 0, .slice none 0 0]⟩),
   (87, ⟨1, false, 1, 24, 24, .i64, [], true, [.slice none 0 0]⟩),
   (91, ⟨1, false, 0, 0, 8, .i64, [], true, [.nilFunc]⟩),
   (102, ⟨1, false, 1, 108, 24, .i64, [], true, [.slice none 0 0]⟩),
   (104, ⟨3, true, 3, 0, 56, .i64, [(0, 1, 0), (1, 1, 0), (2, 1, 0)], true, [.int .i64 0, .slice none 0 0, .slice none 0 0]⟩),
   (106, ⟨1, false, 0, 0, 8, .i64, [], true, [.nilFunc]⟩),
   (108, ⟨1, false, 7, 148, 8, .i64, [], true, [.pointer none]⟩),
   (111, ⟨7, true, 3, 0, 88, .i64, [(0, 4, 1), (4, 1, 0), (5, 1, 0), (6, 1, 0)], true, [.int .i64 0, .int .u64 0, .slice none 0 0, .int .i64 0, .pointer none, .pointer none, .slice none 0 0]⟩),
   (114, ⟨1, false, 0, 0, 8, .i64, [], true, [.nilFunc]⟩),
   (117, ⟨2, true, 3, 0, 48, .i64, [(0, 1, 0), (1, 1, 0)], true, [.slice none 0 0, .slice none 0 0]⟩),
   (121, ⟨1, false, 1, 22, 24, .i64, [], true, [.slice none 0 0]⟩),
   (123, ⟨1, false, 1, 130, 24, .i64, [], true, [.slice none 0 0]⟩),
   (125, ⟨5, true, 3, 0, 56, .i64, [(0, 1, 0), (1, 1, 0), (2, 1, 0), (3, 1, 0), (4, 1, 0)], true, [.int .i64 0, .int .i64 0, .int .u64 0, .pointer none, .slice none 0 0]⟩),
   (130, ⟨2, true, 2, 3, 16, .i64, [], true, [.int .i64 0, .int .i64 0]⟩),
   (139, ⟨1, false, 6, 0, 8, .u64, [], true, [.int .u64 0]⟩),
   (144, ⟨1, false, 0, 0, 8, .i64, [], true, [.nilFunc]⟩),
   (146, ⟨1, false, 0, 0, 8, .i64, [], true, [.nilFunc]⟩),
   (148, ⟨5, true, 3, 0, 72, .i64, [(0, 1, 0), (1, 1, 0), (2, 1, 0), (3, 1, 0), (4, 1, 0)], true, [.int .i64 0, .int .u64 0, .int .u64 0, .slice none 0 0, .slice none 0 0]⟩),
   (155, ⟨4, true, 3, 0, 48, .i64, [(0, 4, 1)], true, [.int .i64 0, .int .u64 0, .slice none 0 0, .int .i64 0]⟩),
   (156, ⟨1, false, 1, 27, 24, .i64, [], true, [.slice none 0 0]⟩),
   (162, ⟨1, false, 0, 0, 8, .i64, [], true, [.nilFunc]⟩),
   (164, ⟨3, true, 3, 0, 24, .i64, [(0, 1, 0), (1, 1, 0), (2, 1, 0)], true, [.int .u64 0, .int .u64 0, .int .i64 0]⟩),
   (170, ⟨1, false, 6, 0, 4, .u32, [], true, [.int .u32 0]⟩),
   (173, ⟨1, false, 9, 0, 16, .i64, [], true, [.nilIface]⟩),
   (176, ⟨1, false, 7, 178, 8, .i64, [], true, [.pointer none]⟩),
   (178, ⟨2, true, 3, 0, 48, .i64, [(0, 1, 0), (1, 1, 0)], true, [.slice none 0 0, .slice none 0 0]⟩),
   (179, ⟨1, false, 0, 0, 8, .i64, [], true, [.nilFunc]⟩)]
theorem tabOk : ∀ p ∈ tab, mkTI Tryz.prog p.1 = some p.2 := by
  have h : tab.map (fun p => mkTI Tryz.prog p.1) = tab.map (fun p => some p.2) := by kernel_rfl
  intro p hp
  obtain ⟨i, hi⟩ := List.getElem?_of_mem hp
  have h1 := congrArg (fun l => l[i]?) h
  simp only [List.getElem?_map, hi, Option.map_some, Option.some.injEq] at h1
  exact h1

end Go.Proofs.YtipjlnkdfeifkaaGreatDoor

/- GB -/
namespace Go.Proofs.YtipjlnkdfeifkaaGreatDoor
open Go.SX
theorem ti (t : Nat) {i : TI} (h : tab.find? (fun p => Nat.beq p.1 t) = some (t, i)) : mkTI Tryz.prog t = some i := tabOk (t, i) (List.mem_of_find?_eq_some h)
theorem mixed : Tryz.prog.follows .mixedOrders = true := by kernel_rfl
theorem ends_of {B : Base} {v : SV} {H : Heap} {S : Asn} {nx : Nat} {w : World} {val : Value} (hb : ∀ R w', S.holds R w' → (baseA B.w0).holds R w') (hv : ∀ ρ, v.rf ρ = val) (hw0 : B.w0 = w) : finK B v H S nx (fun e w' => e = .returned val ∧ Ext w w') := by
  subst hw0
  exact fin_of fun ρ w' hw => ⟨by rw [hv], ext_of_abs hw hb⟩
/-- a slice of numbers: where it stands and what it holds -/
structure IntsV where
  base : Option Addr
  cap : Nat
  xs : List Int
def IntsV.val (v : IntsV) : Value := .slice v.base v.xs.length v.cap
structure IntsV.ok (w : World) (v : IntsV) : Prop where
  rows : RowsI w v.base 1 (ints v.xs)
  fits : ∀ x ∈ v.xs, -9223372036854775808 ≤ x ∧ x ≤ 9223372036854775807
  room : v.xs.length ≤ v.cap
  few : v.xs.length ≤ 1000000
theorem IntsV.ok.base {w : World} {v : IntsV} (h : v.ok w) (hl : 0 < v.xs.length) : ∃ a, v.base = some a := base_some (j := 0) h.rows (by rw [ints_length]; exact hl)

end Go.Proofs.YtipjlnkdfeifkaaGreatDoor

/- ZEa -/
namespace Go.Proofs.YtipjlnkdfeifkaaGreatDoor
open Go.SX Go.CE
noncomputable def ti2 : TI := ⟨1, false, 6, 0, 8, .i64, [], true, [.int .i64 0]⟩
noncomputable def ti3 : TI := ⟨1, false, 6, 0, 8, .i64, [], true, [.int .i64 0]⟩
noncomputable def ti4 : TI := ⟨1, false, 5, 0, 1, .i64, [], true, [.bool false]⟩
noncomputable def ti5 : TI := ⟨1, false, 6, 0, 1, .u8, [], true, [.int .u8 0]⟩
noncomputable def ti9 : TI := ⟨1, false, 4, 0, 16, .i64, [], true, [.string .empty]⟩
noncomputable def ti20 : TI := ⟨1, false, 9, 0, 16, .i64, [], true, [.nilIface]⟩
noncomputable def ti22 : TI := ⟨1, false, 1, 45, 24, .i64, [], true, [.slice none 0 0]⟩
noncomputable def ti24 : TI := ⟨1, true, 3, 0, 24, .i64, [(0, 1, 0)], true, [.slice none 0 0]⟩
noncomputable def ti26 : TI := ⟨2, true, 3, 0, 48, .i64, [(0, 1, 0), (1, 1, 0)], true, [.slice none 0 0, .slice none 0 0]⟩
noncomputable def ti27 : TI := ⟨1, false, 0, 0, 8, .i64, [], true, [.nilFunc]⟩
noncomputable def ti28 : TI := ⟨1, false, 7, 57, 8, .i64, [], true, [.pointer none]⟩
noncomputable def ti29 : TI := ⟨1, false, 6, 0, 8, .i64, [], true, [.int .i64 0]⟩
noncomputable def ti37 : TI := ⟨1, false, 6, 0, 8, .u64, [], true, [.int .u64 0]⟩
noncomputable def ti38 : TI := ⟨1, false, 1, 37, 24, .i64, [], true, [.slice none 0 0]⟩
noncomputable def ti40 : TI := ⟨4, true, 3, 0, 48, .i64, [(0, 1, 0), (1, 1, 0), (2, 1, 0), (3, 1, 0)], true, [.int .i64 0, .int .u64 0, .slice none 0 0, .int .i64 0]⟩
noncomputable def ti43 : TI := ⟨1, false, 1, 38, 24, .i64, [], true, [.slice none 0 0]⟩
noncomputable def ti45 : TI := ⟨1, true, 3, 0, 24, .i64, [(0, 1, 0)], true, [.slice none 0 0]⟩
noncomputable def ti47 : TI := ⟨1, false, 1, 2, 24, .i64, [], true, [.slice none 0 0]⟩
noncomputable def ti48 : TI := ⟨1, false, 1, 3, 24, .i64, [], true, [.slice none 0 0]⟩
noncomputable def ti53 : TI := ⟨1, false, 7, 104, 8, .i64, [], true, [.pointer none]⟩
noncomputable def ti54 : TI := ⟨1, false, 7, 111, 8, .i64, [], true, [.pointer none]⟩
noncomputable def ti55 : TI := ⟨1, false, 7, 125, 8, .i64, [], true, [.pointer none]⟩
noncomputable def ti57 : TI := ⟨7, true, 3, 0, 72, .i64, [(0, 4, 1), (4, 1, 0), (5, 1, 0), (6, 1, 0)], true, [.int .i64 0, .int .u64 0, .slice none 0 0, .int .i64 0, .pointer none, .pointer none, .pointer none]⟩
noncomputable def ti60 : TI := ⟨1, false, 1, 37, 24, .i64, [], true, [.slice none 0 0]⟩
noncomputable def ti63 : TI := ⟨1, false, 1, 66, 24, .i64, [], true, [.slice none 0 0]⟩
noncomputable def ti66 : TI := ⟨2, true, 3, 0, 32, .i64, [(0, 1, 0), (1, 1, 0)], true, [.bool false, .slice none 0 0]⟩
noncomputable def ti72 : TI := ⟨1, false, 0, 0, 8, .i64, [], true, [.nilFunc]⟩
noncomputable def ti73 : TI := ⟨1, false, 0, 0, 8, .i64, [], true, [.nilFunc]⟩
noncomputable def ti74 : TI := ⟨2, true, 2, 22, 48, .i64, [], true, [.slice none 0 0, .slice none 0 0]⟩
noncomputable def ti75 : TI := ⟨1, false, 1, 74, 24, .i64, [], true, [.slice none 0 0]⟩
noncomputable def ti77 : TI := ⟨2, true, 2, 45, 48, .i64, [], true, [.slice none 0 0, .slice none 0 0]⟩
noncomputable def ti87 : TI := ⟨1, false, 1, 24, 24, .i64, [], true, [.slice none 0 0]⟩
noncomputable def ti91 : TI := ⟨1, false, 0, 0, 8, .i64, [], true, [.nilFunc]⟩
noncomputable def ti102 : TI := ⟨1, false, 1, 108, 24, .i64, [], true, [.slice none 0 0]⟩
noncomputable def ti104 : TI := ⟨3, true, 3, 0, 56, .i64, [(0, 1, 0), (1, 1, 0), (2, 1, 0)], true, [.int .i64 0, .slice none 0 0, .slice none 0 0]⟩
noncomputable def ti106 : TI := ⟨1, false, 0, 0, 8, .i64, [], true, [.nilFunc]⟩
noncomputable def ti108 : TI := ⟨1, false, 7, 148, 8, .i64, [], true, [.pointer none]⟩
noncomputable def ti111 : TI := ⟨7, true, 3, 0, 88, .i64, [(0, 4, 1), (4, 1, 0), (5, 1, 0), (6, 1, 0)], true, [.int .i64 0, .int .u64 0, .slice none 0 0, .int .i64 0, .pointer none, .pointer none, .slice none 0 0]⟩
noncomputable def ti114 : TI := ⟨1, false, 0, 0, 8, .i64, [], true, [.nilFunc]⟩
noncomputable def ti117 : TI := ⟨2, true, 3, 0, 48, .i64, [(0, 1, 0), (1, 1, 0)], true, [.slice none 0 0, .slice none 0 0]⟩
noncomputable def ti121 : TI := ⟨1, false, 1, 22, 24, .i64, [], true, [.slice none 0 0]⟩
noncomputable def ti123 : TI := ⟨1, false, 1, 130, 24, .i64, [], true, [.slice none 0 0]⟩
noncomputable def ti125 : TI := ⟨5, true, 3, 0, 56, .i64, [(0, 1, 0), (1, 1, 0), (2, 1, 0), (3, 1, 0), (4, 1, 0)], true, [.int .i64 0, .int .i64 0, .int .u64 0, .pointer none, .slice none 0 0]⟩
noncomputable def ti130 : TI := ⟨2, true, 2, 3, 16, .i64, [], true, [.int .i64 0, .int .i64 0]⟩
noncomputable def ti139 : TI := ⟨1, false, 6, 0, 8, .u64, [], true, [.int .u64 0]⟩
noncomputable def ti144 : TI := ⟨1, false, 0, 0, 8, .i64, [], true, [.nilFunc]⟩
noncomputable def ti146 : TI := ⟨1, false, 0, 0, 8, .i64, [], true, [.nilFunc]⟩
noncomputable def ti148 : TI := ⟨5, true, 3, 0, 72, .i64, [(0, 1, 0), (1, 1, 0), (2, 1, 0), (3, 1, 0), (4, 1, 0)], true, [.int .i64 0, .int .u64 0, .int .u64 0, .slice none 0 0, .slice none 0 0]⟩
noncomputable def ti155 : TI := ⟨4, true, 3, 0, 48, .i64, [(0, 4, 1)], true, [.int .i64 0, .int .u64 0, .slice none 0 0, .int .i64 0]⟩
noncomputable def ti156 : TI := ⟨1, false, 1, 27, 24, .i64, [], true, [.slice none 0 0]⟩
noncomputable def ti162 : TI := ⟨1, false, 0, 0, 8, .i64, [], true, [.nilFunc]⟩
noncomputable def ti164 : TI := ⟨3, true, 3, 0, 24, .i64, [(0, 1, 0), (1, 1, 0), (2, 1, 0)], true, [.int .u64 0, .int .u64 0, .int .i64 0]⟩
noncomputable def ti170 : TI := ⟨1, false, 6, 0, 4, .u32, [], true, [.int .u32 0]⟩
noncomputable def ti173 : TI := ⟨1, false, 9, 0, 16, .i64, [], true, [.nilIface]⟩
noncomputable def ti176 : TI := ⟨1, false, 7, 178, 8, .i64, [], true, [.pointer none]⟩
noncomputable def ti178 : TI := ⟨2, true, 3, 0, 48, .i64, [(0, 1, 0), (1, 1, 0)], true, [.slice none 0 0, .slice none 0 0]⟩
noncomputable def ti179 : TI := ⟨1, false, 0, 0, 8, .i64, [], true, [.nilFunc]⟩
noncomputable def tabL : T TI := .node none (.node none (.node (some ti3) (.node none (.node none (.node none (.node (some ti63) .nil .nil) .nil) (.node (some ti47) .nil (.node (some ti111) .nil .nil))) (.node none .nil (.node (some ti55) (.node (some ti87) .nil .nil) .nil))) (.node none (.node none .nil (.node none .nil (.node none (.node (some ti179) .nil .nil) .nil))) (.node (some ti27) (.node (some ti43) (.node (some ti75) (.node (some ti139) .nil .nil) .nil) .nil) (.node none (.node (some ti91) (.node (some ti155) .nil .nil) .nil) (.node (some ti123) .nil .nil))))) (.node (some ti5) (.node (some ti9) .nil (.node none (.node none (.node (some ti73) .nil .nil) .nil) (.node (some ti57) .nil (.node (some ti121) .nil .nil)))) (.node none (.node none (.node (some ti37) .nil .nil) (.node (some ti53) .nil (.node (some ti117) .nil .nil))) (.node (some ti29) (.node (some ti45) (.node (some ti77) .nil .nil) (.node none (.node (some ti173) .nil .nil) .nil)) (.node none .nil (.node (some ti125) .nil .nil)))))) (.node (some ti2) (.node (some ti4) (.node none (.node none .nil (.node (some ti48) (.node none (.node (some ti144) .nil .nil) .nil) (.node none (.node (some ti176) .nil .nil) .nil))) (.node (some ti24) (.node (some ti40) (.node (some ti72) .nil .nil) (.node (some ti104) .nil .nil)) .nil)) (.node none (.node (some ti20) (.node none .nil (.node none (.node (some ti164) .nil .nil) .nil)) (.node none (.node none (.node (some ti148) .nil .nil) .nil) .nil)) (.node (some ti28) (.node none .nil (.node (some ti108) .nil .nil)) (.node (some ti60) (.node none (.node (some ti156) .nil .nil) .nil) .nil)))) (.node none (.node none (.node none (.node none (.node (some ti66) (.node (some ti130) .nil .nil) .nil) (.node none (.node (some ti162) .nil .nil) .nil)) (.node none (.node none (.node (some ti146) .nil .nil) .nil) (.node (some ti114) (.node (some ti178) .nil .nil) .nil))) (.node (some ti26) (.node none (.node (some ti74) .nil .nil) (.node (some ti106) (.node (some ti170) .nil .nil) .nil)) .nil)) (.node none (.node (some ti22) (.node (some ti38) .nil (.node (some ti102) .nil .nil)) (.node (some ti54) .nil .nil)) .nil)))
theorem tabL_ok : ∀ i ti, tabL.get i = some ti → mkTI Tryz.prog i = some ti := tab_get (l := tab) (by kernel_rfl) (by kernel_rfl) tabOk
noncomputable def fi4 : FnI := ⟨(Tryz.f4.body).getD .skip, Tryz.f4.ntmps, Tryz.f4.results.toList, [(3, [11], true, .take 0 (.take 4 (.take 1 (.take 5 (.join (.alt 2 (.alt 3 (.alt 6 (.alt 7 (.alt 8 (.take 9 (.one 10 (.done))) (.one 10 (.one 8 (.take 9 (.done))))) (.one 10 (.one 7 (.one 8 (.take 9 (.done)))))) (.one 10 (.one 6 (.one 7 (.one 8 (.take 9 (.done))))))) (.alt 6 (.alt 3 (.alt 7 (.alt 8 (.take 9 (.one 10 (.done))) (.one 10 (.one 8 (.take 9 (.done))))) (.one 10 (.one 7 (.one 8 (.take 9 (.done)))))) (.one 10 (.one 3 (.one 7 (.one 8 (.take 9 (.done))))))) (.one 10 (.alt 3 (.one 6 (.one 7 (.one 8 (.take 9 (.done))))) (.one 6 (.one 3 (.one 7 (.one 8 (.take 9 (.done)))))))))) (.alt 6 (.alt 2 (.alt 3 (.alt 7 (.alt 8 (.take 9 (.one 10 (.done))) (.one 10 (.one 8 (.take 9 (.done))))) (.one 10 (.one 7 (.one 8 (.take 9 (.done)))))) (.one 10 (.one 3 (.one 7 (.one 8 (.take 9 (.done))))))) (.one 10 (.one 2 (.one 3 (.one 7 (.one 8 (.take 9 (.done)))))))) (.one 10 (.alt 2 (.alt 3 (.one 6 (.one 7 (.one 8 (.take 9 (.done))))) (.one 6 (.one 3 (.one 7 (.one 8 (.take 9 (.done))))))) (.one 6 (.one 2 (.one 3 (.one 7 (.one 8 (.take 9 (.done))))))))))) (.one 11 (.done))))))), (4, [15], true, .take 0 (.take 4 (.take 8 (.take 1 (.take 5 (.take 9 (.join (.alt 2 (.alt 3 (.alt 6 (.alt 7 (.alt 10 (.alt 11 (.alt 12 (.take 13 (.one 14 (.done))) (.one 14 (.one 12 (.take 13 (.done))))) (.one 14 (.one 11 (.one 12 (.take 13 (.done)))))) (.one 14 (.one 10 (.one 11 (.one 12 (.take 13 (.done))))))) (.alt 10 (.alt 7 (.alt 11 (.alt 12 (.take 13 (.one 14 (.done))) (.one 14 (.one 12 (.take 13 (.done))))) (.one 14 (.one 11 (.one 12 (.take 13 (.done)))))) (.one 14 (.one 7 (.one 11 (.one 12 (.take 13 (.done))))))) (.one 14 (.alt 7 (.one 10 (.one 11 (.one 12 (.take 13 (.done))))) (.one 10 (.one 7 (.one 11 (.one 12 (.take 13 (.done)))))))))) (.alt 10 (.alt 6 (.alt 7 (.alt 11 (.alt 12 (.take 13 (.one 14 (.done))) (.one 14 (.one 12 (.take 13 (.done))))) (.one 14 (.one 11 (.one 12 (.take 13 (.done)))))) (.one 14 (.one 7 (.one 11 (.one 12 (.take 13 (.done))))))) (.one 14 (.one 6 (.one 7 (.one 11 (.one 12 (.take 13 (.done)))))))) (.one 14 (.alt 6 (.alt 7 (.one 10 (.one 11 (.one 12 (.take 13 (.done))))) (.one 10 (.one 7 (.one 11 (.one 12 (.take 13 (.done))))))) (.one 10 (.one 6 (.one 7 (.one 11 (.one 12 (.take 13 (.done))))))))))) (.alt 6 (.alt 3 (.alt 7 (.alt 10 (.alt 11 (.alt 12 (.take 13 (.one 14 (.done))) (.one 14 (.one 12 (.take 13 (.done))))) (.one 14 (.one 11 (.one 12 (.take 13 (.done)))))) (.one 14 (.one 10 (.one 11 (.one 12 (.take 13 (.done))))))) (.alt 10 (.alt 7 (.alt 11 (.alt 12 (.take 13 (.one 14 (.done))) (.one 14 (.one 12 (.take 13 (.done))))) (.one 14 (.one 11 (.one 12 (.take 13 (.done)))))) (.one 14 (.one 7 (.one 11 (.one 12 (.take 13 (.done))))))) (.one 14 (.alt 7 (.one 10 (.one 11 (.one 12 (.take 13 (.done))))) (.one 10 (.one 7 (.one 11 (.one 12 (.take 13 (.done)))))))))) (.alt 10 (.alt 3 (.alt 7 (.alt 11 (.alt 12 (.take 13 (.one 14 (.done))) (.one 14 (.one 12 (.take 13 (.done))))) (.one 14 (.one 11 (.one 12 (.take 13 (.done)))))) (.one 14 (.one 7 (.one 11 (.one 12 (.take 13 (.done))))))) (.one 14 (.one 3 (.one 7 (.one 11 (.one 12 (.take 13 (.done)))))))) (.one 14 (.alt 3 (.alt 7 (.one 10 (.one 11 (.one 12 (.take 13 (.done))))) (.one 10 (.one 7 (.one 11 (.one 12 (.take 13 (.done))))))) (.one 10 (.one 3 (.one 7 (.one 11 (.one 12 (.take 13 (.done))))))))))) (.alt 10 (.alt 3 (.alt 6 (.alt 7 (.alt 11 (.alt 12 (.take 13 (.one 14 (.done))) (.one 14 (.one 12 (.take 13 (.done))))) (.one 14 (.one 11 (.one 12 (.take 13 (.done)))))) (.one 14 (.one 7 (.one 11 (.one 12 (.take 13 (.done))))))) (.one 14 (.one 6 (.one 7 (.one 11 (.one 12 (.take 13 (.done)))))))) (.alt 6 (.alt 3 (.alt 7 (.alt 11 (.alt 12 (.take 13 (.one 14 (.done))) (.one 14 (.one 12 (.take 13 (.done))))) (.one 14 (.one 11 (.one 12 (.take 13 (.done)))))) (.one 14 (.one 7 (.one 11 (.one 12 (.take 13 (.done))))))) (.one 14 (.one 3 (.one 7 (.one 11 (.one 12 (.take 13 (.done)))))))) (.one 14 (.alt 3 (.one 6 (.one 7 (.one 11 (.one 12 (.take 13 (.done)))))) (.one 6 (.one 3 (.one 7 (.one 11 (.one 12 (.take 13 (.done))))))))))) (.one 14 (.alt 3 (.alt 6 (.alt 7 (.one 10 (.one 11 (.one 12 (.take 13 (.done))))) (.one 10 (.one 7 (.one 11 (.one 12 (.take 13 (.done))))))) (.one 10 (.one 6 (.one 7 (.one 11 (.one 12 (.take 13 (.done)))))))) (.alt 6 (.alt 3 (.alt 7 (.one 10 (.one 11 (.one 12 (.take 13 (.done))))) (.one 10 (.one 7 (.one 11 (.one 12 (.take 13 (.done))))))) (.one 10 (.one 3 (.one 7 (.one 11 (.one 12 (.take 13 (.done)))))))) (.one 10 (.alt 3 (.one 6 (.one 7 (.one 11 (.one 12 (.take 13 (.done)))))) (.one 6 (.one 3 (.one 7 (.one 11 (.one 12 (.take 13 (.done))))))))))))))) (.alt 6 (.alt 2 (.alt 3 (.alt 7 (.alt 10 (.alt 11 (.alt 12 (.take 13 (.one 14 (.done))) (.one 14 (.one 12 (.take 13 (.done))))) (.one 14 (.one 11 (.one 12 (.take 13 (.done)))))) (.one 14 (.one 10 (.one 11 (.one 12 (.take 13 (.done))))))) (.alt 10 (.alt 7 (.alt 11 (.alt 12 (.take 13 (.one 14 (.done))) (.one 14 (.one 12 (.take 13 (.done))))) (.one 14 (.one 11 (.one 12 (.take 13 (.done)))))) (.one 14 (.one 7 (.one 11 (.one 12 (.take 13 (.done))))))) (.one 14 (.alt 7 (.one 10 (.one 11 (.one 12 (.take 13 (.done))))) (.one 10 (.one 7 (.one 11 (.one 12 (.take 13 (.done)))))))))) (.alt 10 (.alt 3 (.alt 7 (.alt 11 (.alt 12 (.take 13 (.one 14 (.done))) (.one 14 (.one 12 (.take 13 (.done))))) (.one 14 (.one 11 (.one 12 (.take 13 (.done)))))) (.one 14 (.one 7 (.one 11 (.one 12 (.take 13 (.done))))))) (.one 14 (.one 3 (.one 7 (.one 11 (.one 12 (.take 13 (.done)))))))) (.one 14 (.alt 3 (.alt 7 (.one 10 (.one 11 (.one 12 (.take 13 (.done))))) (.one 10 (.one 7 (.one 11 (.one 12 (.take 13 (.done))))))) (.one 10 (.one 3 (.one 7 (.one 11 (.one 12 (.take 13 (.done))))))))))) (.alt 10 (.alt 2 (.alt 3 (.alt 7 (.alt 11 (.alt 12 (.take 13 (.one 14 (.done))) (.one 14 (.one 12 (.take 13 (.done))))) (.one 14 (.one 11 (.one 12 (.take 13 (.done)))))) (.one 14 (.one 7 (.one 11 (.one 12 (.take 13 (.done))))))) (.one 14 (.one 3 (.one 7 (.one 11 (.one 12 (.take 13 (.done)))))))) (.one 14 (.one 2 (.one 3 (.one 7 (.one 11 (.one 12 (.take 13 (.done))))))))) (.one 14 (.alt 2 (.alt 3 (.alt 7 (.one 10 (.one 11 (.one 12 (.take 13 (.done))))) (.one 10 (.one 7 (.one 11 (.one 12 (.take 13 (.done))))))) (.one 10 (.one 3 (.one 7 (.one 11 (.one 12 (.take 13 (.done)))))))) (.one 10 (.one 2 (.one 3 (.one 7 (.one 11 (.one 12 (.take 13 (.done)))))))))))) (.alt 10 (.alt 2 (.alt 3 (.alt 6 (.alt 7 (.alt 11 (.alt 12 (.take 13 (.one 14 (.done))) (.one 14 (.one 12 (.take 13 (.done))))) (.one 14 (.one 11 (.one 12 (.take 13 (.done)))))) (.one 14 (.one 7 (.one 11 (.one 12 (.take 13 (.done))))))) (.one 14 (.one 6 (.one 7 (.one 11 (.one 12 (.take 13 (.done)))))))) (.alt 6 (.alt 3 (.alt 7 (.alt 11 (.alt 12 (.take 13 (.one 14 (.done))) (.one 14 (.one 12 (.take 13 (.done))))) (.one 14 (.one 11 (.one 12 (.take 13 (.done)))))) (.one 14 (.one 7 (.one 11 (.one 12 (.take 13 (.done))))))) (.one 14 (.one 3 (.one 7 (.one 11 (.one 12 (.take 13 (.done)))))))) (.one 14 (.alt 3 (.one 6 (.one 7 (.one 11 (.one 12 (.take 13 (.done)))))) (.one 6 (.one 3 (.one 7 (.one 11 (.one 12 (.take 13 (.done))))))))))) (.alt 6 (.alt 2 (.alt 3 (.alt 7 (.alt 11 (.alt 12 (.take 13 (.one 14 (.done))) (.one 14 (.one 12 (.take 13 (.done))))) (.one 14 (.one 11 (.one 12 (.take 13 (.done)))))) (.one 14 (.one 7 (.one 11 (.one 12 (.take 13 (.done))))))) (.one 14 (.one 3 (.one 7 (.one 11 (.one 12 (.take 13 (.done)))))))) (.one 14 (.one 2 (.one 3 (.one 7 (.one 11 (.one 12 (.take 13 (.done))))))))) (.one 14 (.alt 2 (.alt 3 (.one 6 (.one 7 (.one 11 (.one 12 (.take 13 (.done)))))) (.one 6 (.one 3 (.one 7 (.one 11 (.one 12 (.take 13 (.done)))))))) (.one 6 (.one 2 (.one 3 (.one 7 (.one 11 (.one 12 (.take 13 (.done)))))))))))) (.one 14 (.alt 2 (.alt 3 (.alt 6 (.alt 7 (.one 10 (.one 11 (.one 12 (.take 13 (.done))))) (.one 10 (.one 7 (.one 11 (.one 12 (.take 13 (.done))))))) (.one 10 (.one 6 (.one 7 (.one 11 (.one 12 (.take 13 (.done)))))))) (.alt 6 (.alt 3 (.alt 7 (.one 10 (.one 11 (.one 12 (.take 13 (.done))))) (.one 10 (.one 7 (.one 11 (.one 12 (.take 13 (.done))))))) (.one 10 (.one 3 (.one 7 (.one 11 (.one 12 (.take 13 (.done)))))))) (.one 10 (.alt 3 (.one 6 (.one 7 (.one 11 (.one 12 (.take 13 (.done)))))) (.one 6 (.one 3 (.one 7 (.one 11 (.one 12 (.take 13 (.done))))))))))) (.alt 6 (.alt 2 (.alt 3 (.alt 7 (.one 10 (.one 11 (.one 12 (.take 13 (.done))))) (.one 10 (.one 7 (.one 11 (.one 12 (.take 13 (.done))))))) (.one 10 (.one 3 (.one 7 (.one 11 (.one 12 (.take 13 (.done)))))))) (.one 10 (.one 2 (.one 3 (.one 7 (.one 11 (.one 12 (.take 13 (.done))))))))) (.one 10 (.alt 2 (.alt 3 (.one 6 (.one 7 (.one 11 (.one 12 (.take 13 (.done)))))) (.one 6 (.one 3 (.one 7 (.one 11 (.one 12 (.take 13 (.done)))))))) (.one 6 (.one 2 (.one 3 (.one 7 (.one 11 (.one 12 (.take 13 (.done)))))))))))))))) (.one 15 (.done)))))))))], [1, 5, 4, 2, 63, 62, 9, 59, 58, 7, 3, 0]⟩
noncomputable def fi12 : FnI := ⟨(Tryz.f12.body).getD .skip, Tryz.f12.ntmps, Tryz.f12.results.toList, [(4, [5, 6], true, .take 1 (.take 3 (.take 0 (.one 2 (.take 4 (.one 5 (.one 6 (.done))))))))], [0, 1, 5, 4, 6, 2, 3]⟩
noncomputable def fi33 : FnI := ⟨(Tryz.f33.body).getD .skip, Tryz.f33.ntmps, Tryz.f33.results.toList, [(6, [], true, .take 0 (.take 5 (.take 1 (.take 6 (.take 7 (.one 2 (.one 3 (.take 4 (.one 8 (.one 9 (.take 10 (.take 11 (.take 12 (.done)))))))))))))), (8, [], true, .take 0 (.take 1 (.take 3 (.take 4 (.take 5 (.take 2 (.one 6 (.one 7 (.take 8 (.take 9 (.take 10 (.take 11 (.take 12 (.one 13 (.done)))))))))))))))], [0, 1, 4, 5, 6, 2, 3]⟩
noncomputable def fi58 : FnI := ⟨(Tryz.f58.body).getD .skip, Tryz.f58.ntmps, Tryz.f58.results.toList, [], [0, 1, 3, 17, 18, 16, 5, 2]⟩
noncomputable def fi85 : FnI := ⟨(Tryz.f85.body).getD .skip, Tryz.f85.ntmps, Tryz.f85.results.toList, [], [0, 18, 17, 16, 15, 12, 11, 10, 9, 1, 2]⟩
noncomputable def fi108 : FnI := ⟨(Tryz.f108.body).getD .skip, Tryz.f108.ntmps, Tryz.f108.results.toList, [], [15, 14, 13, 11, 12, 8, 7, 0, 2]⟩
noncomputable def fi86 : FnI := ⟨(Tryz.f86.body).getD .skip, Tryz.f86.ntmps, Tryz.f86.results.toList, [], [0, 12, 11, 8, 10, 9, 1, 2]⟩
noncomputable def fi109 : FnI := ⟨(Tryz.f109.body).getD .skip, Tryz.f109.ntmps, Tryz.f109.results.toList, [], [0, 15, 14, 2, 1, 4]⟩
noncomputable def fi76 : FnI := ⟨(Tryz.f76.body).getD .skip, Tryz.f76.ntmps, Tryz.f76.results.toList, [], [12, 11, 10, 0, 18, 17, 3, 33, 34, 32, 6, 4, 2]⟩
noncomputable def fi99 : FnI := ⟨(Tryz.f99.body).getD .skip, Tryz.f99.ntmps, Tryz.f99.results.toList, [], [0, 2, 1, 25, 24, 21, 23, 22, 5, 29, 30, 4]⟩
noncomputable def fi87 : FnI := ⟨(Tryz.f87.body).getD .skip, Tryz.f87.ntmps, Tryz.f87.results.toList, [], [0, 1, 8, 9, 7, 36, 35, 34, 33, 30, 29, 28, 27, 26, 3, 25, 24, 21, 20, 17, 19, 18, 4, 49, 48, 47, 46, 45, 2]⟩
noncomputable def fi77 : FnI := ⟨(Tryz.f77.body).getD .skip, Tryz.f77.ntmps, Tryz.f77.results.toList, [], [1, 0, 4]⟩
noncomputable def fi100 : FnI := ⟨(Tryz.f100.body).getD .skip, Tryz.f100.ntmps, Tryz.f100.results.toList, [], [0, 7, 8, 5, 1, 4]⟩
noncomputable def fi88 : FnI := ⟨(Tryz.f88.body).getD .skip, Tryz.f88.ntmps, Tryz.f88.results.toList, [(1, [8, 9, 10], true, .take 0 (.take 1 (.take 5 (.take 6 (.take 2 (.take 7 (.one 3 (.one 4 (.one 8 (.one 9 (.one 10 (.done))))))))))))], [0, 1, 2]⟩
noncomputable def fi56 : FnI := ⟨(Tryz.f56.body).getD .skip, Tryz.f56.ntmps, Tryz.f56.results.toList, [], [0, 8, 9, 7, 5, 3, 2]⟩
noncomputable def fi46 : FnI := ⟨(Tryz.f46.body).getD .skip, Tryz.f46.ntmps, Tryz.f46.results.toList, [], [1, 0, 21, 22, 20, 28, 29, 27, 10, 7, 8, 12, 13, 11, 9, 6, 5, 4]⟩
noncomputable def fi47 : FnI := ⟨(Tryz.f47.body).getD .skip, Tryz.f47.ntmps, Tryz.f47.results.toList, [], [13, 12, 11, 10, 7, 9, 8, 0, 2]⟩
noncomputable def fi62 : FnI := ⟨(Tryz.f62.body).getD .skip, Tryz.f62.ntmps, Tryz.f62.results.toList, [], [0, 2]⟩
noncomputable def fi59 : FnI := ⟨(Tryz.f59.body).getD .skip, Tryz.f59.ntmps, Tryz.f59.results.toList, [], [17, 16, 15, 1, 0, 25, 26, 24, 8, 44, 43, 42, 41, 40, 7, 10, 9, 6, 4, 5]⟩
noncomputable def fi68 : FnI := ⟨(Tryz.f68.body).getD .skip, Tryz.f68.ntmps, Tryz.f68.results.toList, [], [0, 2]⟩
noncomputable def fi64 : FnI := ⟨(Tryz.f64.body).getD .skip, Tryz.f64.ntmps, Tryz.f64.results.toList, [], [1, 0, 34, 33, 32, 29, 31, 30, 26, 25, 3, 22, 21, 20, 19, 16, 15, 2, 7, 8, 6, 9, 11, 4, 5]⟩
noncomputable def fi91 : FnI := ⟨(Tryz.f91.body).getD .skip, Tryz.f91.ntmps, Tryz.f91.results.toList, [], [0, 2]⟩
noncomputable def fi111 : FnI := ⟨(Tryz.f111.body).getD .skip, Tryz.f111.ntmps, Tryz.f111.results.toList, [(1, [], false, .take 0 (.take 1 (.take 2 (.take 3 (.take 4 (.take 5 (.take 6 (.take 7 (.take 8 (.take 9 (.take 10 (.take 11 (.take 12 (.take 13 (.take 14 (.take 15 (.take 16 (.take 17 (.take 18 (.done))))))))))))))))))))], [0, 2]⟩
noncomputable def fi110 : FnI := ⟨(Tryz.f110.body).getD .skip, Tryz.f110.ntmps, Tryz.f110.results.toList, [], [0, 2]⟩
noncomputable def fi92 : FnI := ⟨(Tryz.f92.body).getD .skip, Tryz.f92.ntmps, Tryz.f92.results.toList, [], [23, 22, 21, 20, 19, 16, 15, 14, 0, 1, 6, 7, 8, 9, 4, 5]⟩
noncomputable def fi90 : FnI := ⟨(Tryz.f90.body).getD .skip, Tryz.f90.ntmps, Tryz.f90.results.toList, [], [12, 11, 10, 7, 6, 0, 2]⟩
noncomputable def fi113 : FnI := ⟨(Tryz.f113.body).getD .skip, Tryz.f113.ntmps, Tryz.f113.results.toList, [], [0, 4, 3, 2]⟩
noncomputable def fi93 : FnI := ⟨(Tryz.f93.body).getD .skip, Tryz.f93.ntmps, Tryz.f93.results.toList, [(3, [], false, .take 0 (.take 1 (.take 2 (.take 3 (.take 4 (.take 5 (.done)))))))], [1, 0, 7, 6, 10, 8, 9, 4, 5]⟩
noncomputable def fi61 : FnI := ⟨(Tryz.f61.body).getD .skip, Tryz.f61.ntmps, Tryz.f61.results.toList, [(3, [], false, .take 0 (.take 1 (.take 2 (.take 3 (.take 4 (.take 5 (.take 6 (.take 7 (.done)))))))))], [2, 1, 0, 6]⟩
noncomputable def fi94 : FnI := ⟨(Tryz.f94.body).getD .skip, Tryz.f94.ntmps, Tryz.f94.results.toList, [(3, [11, 12], true, .take 0 (.take 1 (.take 2 (.take 3 (.take 4 (.take 5 (.take 7 (.take 6 (.one 8 (.one 9 (.one 10 (.one 11 (.one 12 (.done))))))))))))))], [1, 5, 2, 0, 4]⟩
noncomputable def fi21 : FnI := ⟨(Tryz.f21.body).getD .skip, Tryz.f21.ntmps, Tryz.f21.results.toList, [], [0, 2]⟩
noncomputable def fi63 : FnI := ⟨(Tryz.f63.body).getD .skip, Tryz.f63.ntmps, Tryz.f63.results.toList, [], [28, 27, 24, 23, 2, 20, 19, 18, 1, 15, 14, 0, 9, 47, 46, 45, 44, 43, 42, 10, 8, 6, 7]⟩
noncomputable def fi34 : FnI := ⟨(Tryz.f34.body).getD .skip, Tryz.f34.ntmps, Tryz.f34.results.toList, [], [0, 2]⟩
noncomputable def fi35 : FnI := ⟨(Tryz.f35.body).getD .skip, Tryz.f35.ntmps, Tryz.f35.results.toList, [(10, [20], true, .take 0 (.take 1 (.take 2 (.take 3 (.take 5 (.take 6 (.take 7 (.take 8 (.take 11 (.take 4 (.one 9 (.take 10 (.take 12 (.take 13 (.take 14 (.take 15 (.one 16 (.one 17 (.take 18 (.take 19 (.one 20 (.done))))))))))))))))))))))], [0, 1, 4, 5, 36, 37, 6, 7, 2, 3]⟩
noncomputable def fi30 : FnI := ⟨(Tryz.f30.body).getD .skip, Tryz.f30.ntmps, Tryz.f30.results.toList, [], [0, 1, 22, 23, 5, 4]⟩
noncomputable def fi13 : FnI := ⟨(Tryz.f13.body).getD .skip, Tryz.f13.ntmps, Tryz.f13.results.toList, [], [2, 8, 1, 18, 19, 17, 0, 11, 9, 7, 6]⟩
noncomputable def fi36 : FnI := ⟨(Tryz.f36.body).getD .skip, Tryz.f36.ntmps, Tryz.f36.results.toList, [], [1, 0, 4]⟩
noncomputable def fi65 : FnI := ⟨(Tryz.f65.body).getD .skip, Tryz.f65.ntmps, Tryz.f65.results.toList, [], [2, 1, 0, 6]⟩
noncomputable def fi95 : FnI := ⟨(Tryz.f95.body).getD .skip, Tryz.f95.ntmps, Tryz.f95.results.toList, [], [2, 0, 1, 6]⟩
noncomputable def fi5 : FnI := ⟨(Tryz.f5.body).getD .skip, Tryz.f5.ntmps, Tryz.f5.results.toList, [(4, [], false, .take 0 (.take 1 (.take 3 (.take 4 (.take 2 (.take 5 (.take 6 (.take 7 (.done))))))))), (14, [], true, .take 0 (.take 1 (.take 2 (.take 5 (.take 7 (.take 3 (.take 4 (.one 6 (.take 8 (.one 9 (.one 10 (.take 11 (.take 12 (.take 13 (.one 14 (.done))))))))))))))))], [2, 1, 5, 4, 0, 9, 6, 8, 48, 49, 47, 12, 11, 13, 10, 7]⟩
noncomputable def fi14 : FnI := ⟨(Tryz.f14.body).getD .skip, Tryz.f14.ntmps, Tryz.f14.results.toList, [(6, [], true, .take 0 (.take 1 (.take 2 (.take 3 (.one 4 (.one 5 (.take 6 (.take 7 (.take 8 (.take 9 (.take 10 (.done))))))))))))], [0, 1, 13, 14, 12, 7, 9, 8, 4, 5]⟩
noncomputable def fi37 : FnI := ⟨(Tryz.f37.body).getD .skip, Tryz.f37.ntmps, Tryz.f37.results.toList, [], [1, 0, 2, 7, 3, 6, 4, 5]⟩
noncomputable def fi66 : FnI := ⟨(Tryz.f66.body).getD .skip, Tryz.f66.ntmps, Tryz.f66.results.toList, [], [0, 1, 4, 2, 3]⟩
noncomputable def fi67 : FnI := ⟨(Tryz.f67.body).getD .skip, Tryz.f67.ntmps, Tryz.f67.results.toList, [], [1, 19, 18, 17, 16, 3, 23, 24, 22, 8, 0, 44, 43, 40, 42, 41, 6, 9, 39, 38, 7, 10, 4, 5]⟩
noncomputable def fi53 : FnI := ⟨(Tryz.f53.body).getD .skip, Tryz.f53.ntmps, Tryz.f53.results.toList, [(3, [], false, .take 0 (.take 1 (.take 2 (.take 3 (.take 4 (.take 5 (.take 6 (.take 7 (.take 8 (.take 9 (.take 10 (.take 11 (.take 12 (.take 13 (.take 14 (.done))))))))))))))))], [1, 0, 2, 23, 22, 17, 21, 20, 19, 18, 16, 15, 3, 27, 28, 26, 43, 42, 41, 6, 7, 4, 5]⟩
noncomputable def fi82 : FnI := ⟨(Tryz.f82.body).getD .skip, Tryz.f82.ntmps, Tryz.f82.results.toList, [(1, [], false, .take 0 (.take 1 (.take 2 (.take 3 (.take 4 (.take 5 (.take 6 (.take 7 (.take 8 (.take 9 (.done)))))))))))], [2, 1, 0, 4]⟩
noncomputable def fi81 : FnI := ⟨(Tryz.f81.body).getD .skip, Tryz.f81.ntmps, Tryz.f81.results.toList, [], [1, 0, 4]⟩
noncomputable def fi104 : FnI := ⟨(Tryz.f104.body).getD .skip, Tryz.f104.ntmps, Tryz.f104.results.toList, [], [0, 7, 8, 5, 1, 4]⟩
noncomputable def fi15 : FnI := ⟨(Tryz.f15.body).getD .skip, Tryz.f15.ntmps, Tryz.f15.results.toList, [(1, [], true, .take 0 (.take 1 (.take 2 (.take 5 (.take 3 (.take 4 (.take 6 (.take 7 (.take 8 (.join (.alt 9 (.take 10 (.take 11 (.take 12 (.one 13 (.done))))) (.one 13 (.one 9 (.take 10 (.take 11 (.take 12 (.done))))))) (.one 14 (.take 15 (.done)))))))))))))], [1, 3, 0, 4, 5]⟩
noncomputable def fi38 : FnI := ⟨(Tryz.f38.body).getD .skip, Tryz.f38.ntmps, Tryz.f38.results.toList, [(10, [5, 7, 6], true, .take 0 (.take 2 (.take 1 (.one 3 (.one 4 (.one 5 (.one 6 (.one 7 (.done)))))))))], [1, 4, 0, 9, 6, 30, 29, 28, 8, 2, 39, 40, 38, 12, 10, 7]⟩
noncomputable def fi16 : FnI := ⟨(Tryz.f16.body).getD .skip, Tryz.f16.ntmps, Tryz.f16.results.toList, [], [2, 1, 6, 5, 4, 0, 7]⟩
noncomputable def fi39 : FnI := ⟨(Tryz.f39.body).getD .skip, Tryz.f39.ntmps, Tryz.f39.results.toList, [(8, [9], true, .take 0 (.take 2 (.take 3 (.take 4 (.take 5 (.take 1 (.one 6 (.one 7 (.take 8 (.one 9 (.done))))))))))), (12, [32], true, .take 0 (.take 2 (.take 5 (.take 6 (.take 7 (.take 9 (.take 12 (.take 15 (.take 17 (.take 20 (.take 23 (.take 24 (.take 25 (.take 27 (.take 1 (.take 3 (.take 4 (.take 8 (.take 10 (.take 11 (.take 13 (.take 14 (.take 16 (.take 18 (.take 19 (.take 21 (.take 22 (.one 26 (.take 28 (.one 29 (.one 30 (.take 31 (.one 32 (.done))))))))))))))))))))))))))))))))))], [2, 1, 6, 5, 0, 10, 8, 11, 29, 30, 12, 47, 48, 3, 13, 9]⟩
noncomputable def fi51 : FnI := ⟨(Tryz.f51.body).getD .skip, Tryz.f51.ntmps, Tryz.f51.results.toList, [], [2, 1, 4, 0, 5, 8, 10, 9, 7, 6]⟩
noncomputable def fi40 : FnI := ⟨(Tryz.f40.body).getD .skip, Tryz.f40.ntmps, Tryz.f40.results.toList, [(3, [], true, .take 0 (.take 1 (.take 2 (.take 3 (.take 4 (.take 5 (.one 6 (.take 7 (.take 8 (.take 9 (.take 10 (.take 11 (.done)))))))))))))], [2, 1, 0, 26, 25, 24, 7, 8, 6]⟩
noncomputable def fi8 : FnI := ⟨(Tryz.f8.body).getD .skip, Tryz.f8.ntmps, Tryz.f8.results.toList, [(6, [], false, .take 0 (.take 1 (.take 3 (.take 4 (.take 2 (.take 5 (.take 6 (.take 7 (.done))))))))), (8, [], true, .take 0 (.take 1 (.take 2 (.take 3 (.take 4 (.take 5 (.one 6 (.one 7 (.take 8 (.done)))))))))), (9, [], true, .take 0 (.take 3 (.take 7 (.take 9 (.take 13 (.take 19 (.take 22 (.take 28 (.take 1 (.take 2 (.take 4 (.take 5 (.take 6 (.take 8 (.take 10 (.take 11 (.take 12 (.take 14 (.take 15 (.take 16 (.take 20 (.take 21 (.take 23 (.take 24 (.take 25 (.one 17 (.take 18 (.one 26 (.take 27 (.done))))))))))))))))))))))))))))))], [2, 1, 5, 4, 0, 9, 6, 38, 37, 36, 35, 8, 83, 84, 82, 13, 11, 15, 14, 10, 7]⟩
noncomputable def fi27 : FnI := ⟨(Tryz.f27.body).getD .skip, Tryz.f27.ntmps, Tryz.f27.results.toList, [(12, [], true, .take 0 (.take 1 (.take 2 (.take 3 (.one 4 (.one 5 (.take 6 (.take 7 (.take 8 (.take 9 (.take 10 (.done)))))))))))), (27, [], true, .take 0 (.take 1 (.take 2 (.take 4 (.take 5 (.take 6 (.take 7 (.take 3 (.take 8 (.join (.alt 9 (.take 10 (.take 11 (.take 12 (.one 13 (.done))))) (.one 13 (.one 9 (.take 10 (.take 11 (.take 12 (.done))))))) (.one 14 (.take 15 (.done))))))))))))), (28, [], true, .take 0 (.take 1 (.take 2 (.take 4 (.take 5 (.take 6 (.take 7 (.take 3 (.take 8 (.join (.alt 9 (.take 10 (.take 11 (.take 12 (.one 13 (.done))))) (.one 13 (.one 9 (.take 10 (.take 11 (.take 12 (.done))))))) (.one 14 (.take 15 (.done))))))))))))), (29, [], true, .take 0 (.take 1 (.take 2 (.take 3 (.take 4 (.take 5 (.join (.alt 6 (.take 7 (.take 8 (.take 9 (.one 10 (.done))))) (.one 10 (.one 6 (.take 7 (.take 8 (.take 9 (.done))))))) (.one 11 (.take 12 (.done)))))))))), (31, [], true, .take 0 (.take 1 (.take 2 (.take 3 (.take 4 (.one 5 (.one 6 (.take 7 (.take 8 (.take 9 (.one 10 (.done)))))))))))), (34, [19, 20], true, .take 1 (.take 2 (.take 3 (.take 5 (.take 6 (.take 7 (.take 8 (.take 9 (.take 12 (.take 0 (.take 4 (.one 10 (.one 11 (.one 13 (.take 14 (.take 15 (.one 16 (.take 17 (.take 18 (.one 19 (.one 20 (.done))))))))))))))))))))))], [0, 6, 39, 38, 36, 37, 2, 35, 32, 31, 30, 1, 44, 45, 10, 11, 13, 81, 80, 79, 12, 8, 9, 100, 101, 14, 16, 19, 17, 21, 15, 7]⟩
noncomputable def fi54 : FnI := ⟨(Tryz.f54.body).getD .skip, Tryz.f54.ntmps, Tryz.f54.results.toList, [], [0, 1, 4, 11, 8, 10, 24, 25, 3, 12, 2, 9]⟩
noncomputable def fi83 : FnI := ⟨(Tryz.f83.body).getD .skip, Tryz.f83.ntmps, Tryz.f83.results.toList, [], [1, 0, 3, 2, 25, 26, 24, 42, 41, 40, 6, 7, 8, 55, 56, 60, 61, 10, 11, 9, 4, 5]⟩
noncomputable def fi48 : FnI := ⟨(Tryz.f48.body).getD .skip, Tryz.f48.ntmps, Tryz.f48.results.toList, [], [0, 6, 7, 5, 28, 27, 26, 25, 24, 3, 21, 20, 19, 16, 15, 4, 37, 36, 35, 2]⟩
noncomputable def fi105 : FnI := ⟨(Tryz.f105.body).getD .skip, Tryz.f105.ntmps, Tryz.f105.results.toList, [], [2, 1, 0, 4]⟩
noncomputable def fi106 : FnI := ⟨(Tryz.f106.body).getD .skip, Tryz.f106.ntmps, Tryz.f106.results.toList, [], [1, 13, 14, 12, 8, 7, 0, 5, 6, 4]⟩
noncomputable def fi116 : FnI := ⟨(Tryz.f116.body).getD .skip, Tryz.f116.ntmps, Tryz.f116.results.toList, [(3, [15], true, .take 0 (.take 1 (.take 2 (.take 3 (.take 5 (.take 6 (.take 7 (.take 9 (.take 4 (.take 8 (.one 10 (.one 11 (.one 12 (.take 13 (.take 14 (.one 15 (.done))))))))))))))))), (4, [10], true, .take 0 (.take 1 (.take 2 (.take 3 (.take 5 (.take 4 (.one 6 (.one 7 (.take 8 (.take 9 (.one 10 (.done))))))))))))], [2, 0, 7, 6, 1, 9]⟩
noncomputable def fi43 : FnI := ⟨(Tryz.f43.body).getD .skip, Tryz.f43.ntmps, Tryz.f43.results.toList, [], [1, 0, 6, 4]⟩
noncomputable def fi71 : FnI := ⟨(Tryz.f71.body).getD .skip, Tryz.f71.ntmps, Tryz.f71.results.toList, [], [0, 8, 1, 7, 6, 4, 5]⟩
noncomputable def fi107 : FnI := ⟨(Tryz.f107.body).getD .skip, Tryz.f107.ntmps, Tryz.f107.results.toList, [], [1, 0, 22, 23, 21, 7, 6, 9, 8, 5, 4]⟩
noncomputable def fi117 : FnI := ⟨(Tryz.f117.body).getD .skip, Tryz.f117.ntmps, Tryz.f117.results.toList, [(1, [], true, .take 0 (.take 1 (.take 2 (.take 4 (.take 5 (.take 6 (.take 3 (.one 7 (.one 8 (.take 9 (.take 10 (.take 11 (.take 12 (.take 13 (.done)))))))))))))))], [0, 3, 2]⟩
noncomputable def fi120 : FnI := ⟨(Tryz.f120.body).getD .skip, Tryz.f120.ntmps, Tryz.f120.results.toList, [], [1, 0, 21, 22, 20, 8, 7, 10, 9, 6, 4, 5]⟩
noncomputable def fi70 : FnI := ⟨(Tryz.f70.body).getD .skip, Tryz.f70.ntmps, Tryz.f70.results.toList, [(9, [], false, .take 0 (.take 1 (.take 2 (.take 4 (.take 5 (.take 6 (.take 3 (.take 7 (.take 8 (.take 9 (.done))))))))))), (11, [], false, .take 0 (.take 1 (.take 2 (.take 4 (.take 5 (.take 6 (.take 3 (.take 7 (.take 8 (.take 9 (.done)))))))))))], [1, 0, 5, 4]⟩
noncomputable def fi22 : FnI := ⟨(Tryz.f22.body).getD .skip, Tryz.f22.ntmps, Tryz.f22.results.toList, [], [1, 4, 0, 24, 25, 23, 33, 34, 32, 8, 11, 10, 9, 6, 5]⟩
noncomputable def fi49 : FnI := ⟨(Tryz.f49.body).getD .skip, Tryz.f49.ntmps, Tryz.f49.results.toList, [], [0, 1, 2, 5, 4]⟩
noncomputable def fi55 : FnI := ⟨(Tryz.f55.body).getD .skip, Tryz.f55.ntmps, Tryz.f55.results.toList, [], [0, 2, 1]⟩
noncomputable def fi26 : FnI := ⟨(Tryz.f26.body).getD .skip, Tryz.f26.ntmps, Tryz.f26.results.toList, [(6, [], false, .take 0 (.take 1 (.take 2 (.take 4 (.take 9 (.take 3 (.take 5 (.take 6 (.take 7 (.take 8 (.done))))))))))), (9, [], true, .take 0 (.take 1 (.take 2 (.take 4 (.take 7 (.take 9 (.take 3 (.take 5 (.take 6 (.one 8 (.take 10 (.one 11 (.one 12 (.take 13 (.take 14 (.take 15 (.take 16 (.take 17 (.done)))))))))))))))))))], [2, 1, 5, 4, 0, 8, 6, 32, 33, 31, 11, 12, 10, 13, 9, 7]⟩
noncomputable def fi52 : FnI := ⟨(Tryz.f52.body).getD .skip, Tryz.f52.ntmps, Tryz.f52.results.toList, [(11, [16], true, .take 0 (.take 1 (.take 2 (.take 3 (.take 4 (.take 6 (.take 7 (.take 8 (.take 10 (.take 11 (.take 12 (.take 5 (.take 9 (.one 13 (.one 14 (.take 15 (.one 16 (.done))))))))))))))))))], [0, 1, 8, 10, 2, 9, 34, 35, 11, 12, 6, 7]⟩
noncomputable def fi78 : FnI := ⟨(Tryz.f78.body).getD .skip, Tryz.f78.ntmps, Tryz.f78.results.toList, [(5, [12, 13, 14], true, .take 0 (.take 1 (.take 2 (.take 3 (.take 4 (.take 5 (.take 8 (.take 9 (.take 10 (.take 6 (.take 11 (.one 7 (.one 12 (.one 13 (.one 14 (.done))))))))))))))))], [0, 1, 4, 5]⟩
noncomputable def fi101 : FnI := ⟨(Tryz.f101.body).getD .skip, Tryz.f101.ntmps, Tryz.f101.results.toList, [], [0, 1, 15, 16, 14, 6, 4]⟩
noncomputable def fi103 : FnI := ⟨(Tryz.f103.body).getD .skip, Tryz.f103.ntmps, Tryz.f103.results.toList, [(5, [13], true, .take 0 (.take 1 (.take 2 (.take 3 (.take 4 (.take 5 (.take 7 (.take 8 (.take 9 (.take 6 (.one 10 (.one 11 (.take 12 (.one 13 (.done)))))))))))))))], [0, 1, 16, 17, 15, 2, 9, 8, 7, 6]⟩
noncomputable def fi102 : FnI := ⟨(Tryz.f102.body).getD .skip, Tryz.f102.ntmps, Tryz.f102.results.toList, [(7, [15], true, .take 0 (.take 1 (.take 2 (.take 3 (.take 4 (.take 5 (.take 6 (.take 8 (.take 9 (.take 10 (.take 7 (.one 11 (.take 12 (.one 13 (.take 14 (.one 15 (.done))))))))))))))))), (19, [], true, .take 0 (.take 1 (.take 2 (.take 3 (.take 4 (.take 6 (.take 7 (.take 8 (.take 9 (.take 10 (.take 11 (.take 12 (.take 14 (.take 15 (.take 16 (.take 17 (.take 18 (.take 20 (.take 21 (.take 22 (.take 5 (.take 13 (.take 19 (.one 23 (.one 24 (.take 25 (.take 26 (.done)))))))))))))))))))))))))))), (20, [27], true, .take 0 (.take 1 (.take 2 (.take 3 (.take 4 (.take 5 (.take 6 (.take 7 (.take 8 (.take 9 (.take 10 (.take 11 (.take 12 (.take 13 (.take 14 (.take 17 (.take 18 (.take 19 (.take 20 (.take 21 (.take 15 (.take 22 (.one 16 (.one 23 (.take 24 (.one 25 (.take 26 (.one 27 (.done)))))))))))))))))))))))))))))], [0, 1, 24, 25, 7, 8, 9, 10, 12, 78, 79, 11, 2, 13, 15, 14, 6]⟩
noncomputable def fi114 : FnI := ⟨(Tryz.f114.body).getD .skip, Tryz.f114.ntmps, Tryz.f114.results.toList, [], [0, 2]⟩
noncomputable def fi118 : FnI := ⟨(Tryz.f118.body).getD .skip, Tryz.f118.ntmps, Tryz.f118.results.toList, [], [0, 2]⟩
noncomputable def fi115 : FnI := ⟨(Tryz.f115.body).getD .skip, Tryz.f115.ntmps, Tryz.f115.results.toList, [], [0, 2]⟩
noncomputable def fi119 : FnI := ⟨(Tryz.f119.body).getD .skip, Tryz.f119.ntmps, Tryz.f119.results.toList, [], [0, 2]⟩
noncomputable def fi80 : FnI := ⟨(Tryz.f80.body).getD .skip, Tryz.f80.ntmps, Tryz.f80.results.toList, [(5, [14, 15], true, .take 0 (.take 1 (.take 3 (.take 5 (.take 6 (.take 7 (.take 10 (.take 11 (.take 12 (.take 8 (.take 13 (.one 2 (.one 4 (.one 9 (.one 14 (.one 15 (.done))))))))))))))))), (9, [16], true, .take 0 (.take 1 (.take 2 (.take 3 (.take 4 (.take 6 (.take 7 (.take 8 (.take 10 (.take 11 (.take 12 (.take 5 (.take 9 (.one 13 (.one 14 (.take 15 (.one 16 (.done))))))))))))))))))], [0, 1, 6, 32, 33, 7, 4, 5]⟩
noncomputable def fi57 : FnI := ⟨(Tryz.f57.body).getD .skip, Tryz.f57.ntmps, Tryz.f57.results.toList, [(1, [], true, .take 1 (.take 5 (.take 0 (.take 2 (.take 3 (.take 6 (.join (.alt 4 (.alt 7 (.take 8 (.take 9 (.take 10 (.one 11 (.done))))) (.one 11 (.one 7 (.take 8 (.take 9 (.take 10 (.done))))))) (.one 11 (.one 4 (.one 7 (.take 8 (.take 9 (.take 10 (.done)))))))) (.one 12 (.take 13 (.done))))))))))], [1, 0, 2, 3, 4, 5]⟩
noncomputable def fi20 : FnI := ⟨(Tryz.f20.body).getD .skip, Tryz.f20.ntmps, Tryz.f20.results.toList, [(1, [10, 11], true, .take 0 (.take 2 (.take 5 (.take 7 (.take 1 (.take 3 (.take 4 (.take 6 (.one 8 (.one 9 (.one 10 (.one 11 (.done)))))))))))))], [1, 0, 4, 3, 2]⟩
noncomputable def fi45 : FnI := ⟨(Tryz.f45.body).getD .skip, Tryz.f45.ntmps, Tryz.f45.results.toList, [], [1, 4, 11, 10, 9, 0]⟩
noncomputable def fi84 : FnI := ⟨(Tryz.f84.body).getD .skip, Tryz.f84.ntmps, Tryz.f84.results.toList, [], [0, 1, 2, 8, 4, 7, 40, 39, 32, 38, 37, 36, 34, 35, 33, 31, 30, 9, 6, 5]⟩
noncomputable def fi42 : FnI := ⟨(Tryz.f42.body).getD .skip, Tryz.f42.ntmps, Tryz.f42.results.toList, [(7, [], true, .take 0 (.take 2 (.take 3 (.take 4 (.one 1 (.one 5 (.take 6 (.take 7 (.take 8 (.take 9 (.take 10 (.done)))))))))))), (21, [18], true, .take 0 (.take 1 (.take 2 (.take 3 (.take 4 (.take 6 (.take 8 (.take 9 (.take 10 (.take 11 (.take 13 (.take 14 (.take 5 (.take 7 (.one 12 (.take 15 (.take 16 (.take 17 (.one 18 (.done))))))))))))))))))))], [1, 0, 8, 7, 9, 11, 12, 10, 13, 14, 15, 93, 94, 16, 4, 5, 6]⟩
noncomputable def fi72 : FnI := ⟨(Tryz.f72.body).getD .skip, Tryz.f72.ntmps, Tryz.f72.results.toList, [], [0, 2]⟩
noncomputable def fi73 : FnI := ⟨(Tryz.f73.body).getD .skip, Tryz.f73.ntmps, Tryz.f73.results.toList, [], [0, 13, 14, 12, 1, 7, 6, 5, 4]⟩
noncomputable def fi74 : FnI := ⟨(Tryz.f74.body).getD .skip, Tryz.f74.ntmps, Tryz.f74.results.toList, [(3, [], false, .take 0 (.take 1 (.take 2 (.take 4 (.take 5 (.take 6 (.take 7 (.take 3 (.take 8 (.take 9 (.done))))))))))), (5, [], true, .take 0 (.take 1 (.take 2 (.take 4 (.take 5 (.take 6 (.take 7 (.take 9 (.take 10 (.take 11 (.take 12 (.take 3 (.take 8 (.one 13 (.one 14 (.take 15 (.take 16 (.take 17 (.take 18 (.take 19 (.done)))))))))))))))))))))], [1, 5, 0, 6, 74, 73, 66, 72, 67, 71, 70, 68, 69, 9, 65, 64, 63, 7, 8, 93, 94, 92, 13, 10, 15, 16, 14, 11, 12, 146, 147, 145, 18, 17, 4]⟩
noncomputable def fnL : T FnI := .node none (.node none (.node none (.node none (.node (some fi15) (.node none (.node (some fi63) .nil .nil) (.node (some fi95) .nil .nil)) (.node (some fi47) .nil (.node (some fi111) .nil .nil))) (.node none (.node (some fi39) (.node (some fi71) .nil .nil) (.node (some fi103) .nil .nil)) (.node (some fi55) (.node (some fi87) .nil .nil) (.node (some fi119) .nil .nil)))) (.node none (.node none (.node (some fi35) (.node (some fi67) .nil .nil) (.node (some fi99) .nil .nil)) (.node (some fi51) (.node (some fi83) .nil .nil) (.node (some fi115) .nil .nil))) (.node (some fi27) (.node (some fi43) .nil (.node (some fi107) .nil .nil)) (.node (some fi59) (.node (some fi91) .nil .nil) .nil)))) (.node (some fi5) (.node none (.node none (.node (some fi33) (.node (some fi65) .nil .nil) .nil) (.node (some fi49) (.node (some fi81) .nil .nil) (.node (some fi113) .nil .nil))) (.node none (.node none (.node (some fi73) .nil .nil) (.node (some fi105) .nil .nil)) (.node (some fi57) .nil .nil))) (.node (some fi13) (.node (some fi21) (.node (some fi37) .nil (.node (some fi101) .nil .nil)) (.node (some fi53) (.node (some fi85) .nil .nil) (.node (some fi117) .nil .nil))) (.node none (.node (some fi45) (.node (some fi77) .nil .nil) (.node (some fi109) .nil .nil)) (.node (some fi61) (.node (some fi93) .nil .nil) .nil))))) (.node none (.node (some fi4) (.node (some fi8) (.node (some fi16) (.node none (.node (some fi64) .nil .nil) .nil) (.node (some fi48) (.node (some fi80) .nil .nil) .nil)) (.node none (.node (some fi40) (.node (some fi72) .nil .nil) (.node (some fi104) .nil .nil)) (.node (some fi56) (.node (some fi88) .nil .nil) (.node (some fi120) .nil .nil)))) (.node (some fi12) (.node (some fi20) (.node (some fi36) (.node (some fi68) .nil .nil) (.node (some fi100) .nil .nil)) (.node (some fi52) (.node (some fi84) .nil .nil) (.node (some fi116) .nil .nil))) (.node none (.node none (.node (some fi76) .nil .nil) (.node (some fi108) .nil .nil)) (.node none (.node (some fi92) .nil .nil) .nil)))) (.node none (.node none (.node none (.node (some fi34) (.node (some fi66) .nil .nil) .nil) (.node none (.node (some fi82) .nil .nil) (.node (some fi114) .nil .nil))) (.node (some fi26) (.node (some fi42) (.node (some fi74) .nil .nil) (.node (some fi106) .nil .nil)) (.node (some fi58) (.node (some fi90) .nil .nil) .nil))) (.node (some fi14) (.node (some fi22) (.node (some fi38) (.node (some fi70) .nil .nil) (.node (some fi102) .nil .nil)) (.node (some fi54) (.node (some fi86) .nil .nil) (.node (some fi118) .nil .nil))) (.node (some fi30) (.node (some fi46) (.node (some fi78) .nil .nil) (.node (some fi110) .nil .nil)) (.node (some fi62) (.node (some fi94) .nil .nil) .nil)))))
theorem fok4 : FnOk Tryz.prog 4 fi4 := ⟨⟨Tryz.f4, Tryz.func4, rfl, rfl, rfl⟩, Tryz.call4, by kernel_rfl⟩
theorem fok12 : FnOk Tryz.prog 12 fi12 := ⟨⟨Tryz.f12, Tryz.func12, rfl, rfl, rfl⟩, Tryz.call12, by kernel_rfl⟩
theorem fok33 : FnOk Tryz.prog 33 fi33 := ⟨⟨Tryz.f33, Tryz.func33, rfl, rfl, rfl⟩, Tryz.call33, by kernel_rfl⟩
theorem fok58 : FnOk Tryz.prog 58 fi58 := ⟨⟨Tryz.f58, Tryz.func58, rfl, rfl, rfl⟩, Tryz.call58, by kernel_rfl⟩
theorem fok85 : FnOk Tryz.prog 85 fi85 := ⟨⟨Tryz.f85, Tryz.func85, rfl, rfl, rfl⟩, Tryz.call85, by kernel_rfl⟩
theorem fok108 : FnOk Tryz.prog 108 fi108 := ⟨⟨Tryz.f108, Tryz.func108, rfl, rfl, rfl⟩, Tryz.call108, by kernel_rfl⟩
theorem fok86 : FnOk Tryz.prog 86 fi86 := ⟨⟨Tryz.f86, Tryz.func86, rfl, rfl, rfl⟩, Tryz.call86, by kernel_rfl⟩
theorem fok109 : FnOk Tryz.prog 109 fi109 := ⟨⟨Tryz.f109, Tryz.func109, rfl, rfl, rfl⟩, Tryz.call109, by kernel_rfl⟩
theorem fok76 : FnOk Tryz.prog 76 fi76 := ⟨⟨Tryz.f76, Tryz.func76, rfl, rfl, rfl⟩, Tryz.call76, by kernel_rfl⟩
theorem fok99 : FnOk Tryz.prog 99 fi99 := ⟨⟨Tryz.f99, Tryz.func99, rfl, rfl, rfl⟩, Tryz.call99, by kernel_rfl⟩
theorem fok87 : FnOk Tryz.prog 87 fi87 := ⟨⟨Tryz.f87, Tryz.func87, rfl, rfl, rfl⟩, Tryz.call87, by kernel_rfl⟩
theorem fok77 : FnOk Tryz.prog 77 fi77 := ⟨⟨Tryz.f77, Tryz.func77, rfl, rfl, rfl⟩, Tryz.call77, by kernel_rfl⟩
theorem fok100 : FnOk Tryz.prog 100 fi100 := ⟨⟨Tryz.f100, Tryz.func100, rfl, rfl, rfl⟩, Tryz.call100, by kernel_rfl⟩
theorem fok88 : FnOk Tryz.prog 88 fi88 := ⟨⟨Tryz.f88, Tryz.func88, rfl, rfl, rfl⟩, Tryz.call88, by kernel_rfl⟩
theorem fok56 : FnOk Tryz.prog 56 fi56 := ⟨⟨Tryz.f56, Tryz.func56, rfl, rfl, rfl⟩, Tryz.call56, by kernel_rfl⟩
theorem fok46 : FnOk Tryz.prog 46 fi46 := ⟨⟨Tryz.f46, Tryz.func46, rfl, rfl, rfl⟩, Tryz.call46, by kernel_rfl⟩
theorem fok47 : FnOk Tryz.prog 47 fi47 := ⟨⟨Tryz.f47, Tryz.func47, rfl, rfl, rfl⟩, Tryz.call47, by kernel_rfl⟩
theorem fok62 : FnOk Tryz.prog 62 fi62 := ⟨⟨Tryz.f62, Tryz.func62, rfl, rfl, rfl⟩, Tryz.call62, by kernel_rfl⟩
theorem fok59 : FnOk Tryz.prog 59 fi59 := ⟨⟨Tryz.f59, Tryz.func59, rfl, rfl, rfl⟩, Tryz.call59, by kernel_rfl⟩
theorem fok68 : FnOk Tryz.prog 68 fi68 := ⟨⟨Tryz.f68, Tryz.func68, rfl, rfl, rfl⟩, Tryz.call68, by kernel_rfl⟩
theorem fok64 : FnOk Tryz.prog 64 fi64 := ⟨⟨Tryz.f64, Tryz.func64, rfl, rfl, rfl⟩, Tryz.call64, by kernel_rfl⟩
theorem fok91 : FnOk Tryz.prog 91 fi91 := ⟨⟨Tryz.f91, Tryz.func91, rfl, rfl, rfl⟩, Tryz.call91, by kernel_rfl⟩
theorem fok111 : FnOk Tryz.prog 111 fi111 := ⟨⟨Tryz.f111, Tryz.func111, rfl, rfl, rfl⟩, Tryz.call111, by kernel_rfl⟩
theorem fok110 : FnOk Tryz.prog 110 fi110 := ⟨⟨Tryz.f110, Tryz.func110, rfl, rfl, rfl⟩, Tryz.call110, by kernel_rfl⟩
theorem fok92 : FnOk Tryz.prog 92 fi92 := ⟨⟨Tryz.f92, Tryz.func92, rfl, rfl, rfl⟩, Tryz.call92, by kernel_rfl⟩
theorem fok90 : FnOk Tryz.prog 90 fi90 := ⟨⟨Tryz.f90, Tryz.func90, rfl, rfl, rfl⟩, Tryz.call90, by kernel_rfl⟩
theorem fok113 : FnOk Tryz.prog 113 fi113 := ⟨⟨Tryz.f113, Tryz.func113, rfl, rfl, rfl⟩, Tryz.call113, by kernel_rfl⟩
theorem fok93 : FnOk Tryz.prog 93 fi93 := ⟨⟨Tryz.f93, Tryz.func93, rfl, rfl, rfl⟩, Tryz.call93, by kernel_rfl⟩
theorem fok61 : FnOk Tryz.prog 61 fi61 := ⟨⟨Tryz.f61, Tryz.func61, rfl, rfl, rfl⟩, Tryz.call61, by kernel_rfl⟩
theorem fok94 : FnOk Tryz.prog 94 fi94 := ⟨⟨Tryz.f94, Tryz.func94, rfl, rfl, rfl⟩, Tryz.call94, by kernel_rfl⟩
theorem fok21 : FnOk Tryz.prog 21 fi21 := ⟨⟨Tryz.f21, Tryz.func21, rfl, rfl, rfl⟩, Tryz.call21, by kernel_rfl⟩
theorem fok63 : FnOk Tryz.prog 63 fi63 := ⟨⟨Tryz.f63, Tryz.func63, rfl, rfl, rfl⟩, Tryz.call63, by kernel_rfl⟩
theorem fok34 : FnOk Tryz.prog 34 fi34 := ⟨⟨Tryz.f34, Tryz.func34, rfl, rfl, rfl⟩, Tryz.call34, by kernel_rfl⟩
theorem fok35 : FnOk Tryz.prog 35 fi35 := ⟨⟨Tryz.f35, Tryz.func35, rfl, rfl, rfl⟩, Tryz.call35, by kernel_rfl⟩
theorem fok30 : FnOk Tryz.prog 30 fi30 := ⟨⟨Tryz.f30, Tryz.func30, rfl, rfl, rfl⟩, Tryz.call30, by kernel_rfl⟩
theorem fok13 : FnOk Tryz.prog 13 fi13 := ⟨⟨Tryz.f13, Tryz.func13, rfl, rfl, rfl⟩, Tryz.call13, by kernel_rfl⟩
theorem fok36 : FnOk Tryz.prog 36 fi36 := ⟨⟨Tryz.f36, Tryz.func36, rfl, rfl, rfl⟩, Tryz.call36, by kernel_rfl⟩
theorem fok65 : FnOk Tryz.prog 65 fi65 := ⟨⟨Tryz.f65, Tryz.func65, rfl, rfl, rfl⟩, Tryz.call65, by kernel_rfl⟩
theorem fok95 : FnOk Tryz.prog 95 fi95 := ⟨⟨Tryz.f95, Tryz.func95, rfl, rfl, rfl⟩, Tryz.call95, by kernel_rfl⟩
theorem fok5 : FnOk Tryz.prog 5 fi5 := ⟨⟨Tryz.f5, Tryz.func5, rfl, rfl, rfl⟩, Tryz.call5, by kernel_rfl⟩
theorem fok14 : FnOk Tryz.prog 14 fi14 := ⟨⟨Tryz.f14, Tryz.func14, rfl, rfl, rfl⟩, Tryz.call14, by kernel_rfl⟩
theorem fok37 : FnOk Tryz.prog 37 fi37 := ⟨⟨Tryz.f37, Tryz.func37, rfl, rfl, rfl⟩, Tryz.call37, by kernel_rfl⟩
theorem fok66 : FnOk Tryz.prog 66 fi66 := ⟨⟨Tryz.f66, Tryz.func66, rfl, rfl, rfl⟩, Tryz.call66, by kernel_rfl⟩
theorem fok67 : FnOk Tryz.prog 67 fi67 := ⟨⟨Tryz.f67, Tryz.func67, rfl, rfl, rfl⟩, Tryz.call67, by kernel_rfl⟩
theorem fok53 : FnOk Tryz.prog 53 fi53 := ⟨⟨Tryz.f53, Tryz.func53, rfl, rfl, rfl⟩, Tryz.call53, by kernel_rfl⟩
theorem fok82 : FnOk Tryz.prog 82 fi82 := ⟨⟨Tryz.f82, Tryz.func82, rfl, rfl, rfl⟩, Tryz.call82, by kernel_rfl⟩
theorem fok81 : FnOk Tryz.prog 81 fi81 := ⟨⟨Tryz.f81, Tryz.func81, rfl, rfl, rfl⟩, Tryz.call81, by kernel_rfl⟩
theorem fok104 : FnOk Tryz.prog 104 fi104 := ⟨⟨Tryz.f104, Tryz.func104, rfl, rfl, rfl⟩, Tryz.call104, by kernel_rfl⟩
theorem fok15 : FnOk Tryz.prog 15 fi15 := ⟨⟨Tryz.f15, Tryz.func15, rfl, rfl, rfl⟩, Tryz.call15, by kernel_rfl⟩
theorem fok38 : FnOk Tryz.prog 38 fi38 := ⟨⟨Tryz.f38, Tryz.func38, rfl, rfl, rfl⟩, Tryz.call38, by kernel_rfl⟩
theorem fok16 : FnOk Tryz.prog 16 fi16 := ⟨⟨Tryz.f16, Tryz.func16, rfl, rfl, rfl⟩, Tryz.call16, by kernel_rfl⟩
theorem fok39 : FnOk Tryz.prog 39 fi39 := ⟨⟨Tryz.f39, Tryz.func39, rfl, rfl, rfl⟩, Tryz.call39, by kernel_rfl⟩
theorem fok51 : FnOk Tryz.prog 51 fi51 := ⟨⟨Tryz.f51, Tryz.func51, rfl, rfl, rfl⟩, Tryz.call51, by kernel_rfl⟩
theorem fok40 : FnOk Tryz.prog 40 fi40 := ⟨⟨Tryz.f40, Tryz.func40, rfl, rfl, rfl⟩, Tryz.call40, by kernel_rfl⟩
theorem fok8 : FnOk Tryz.prog 8 fi8 := ⟨⟨Tryz.f8, Tryz.func8, rfl, rfl, rfl⟩, Tryz.call8, by kernel_rfl⟩
theorem fok27 : FnOk Tryz.prog 27 fi27 := ⟨⟨Tryz.f27, Tryz.func27, rfl, rfl, rfl⟩, Tryz.call27, by kernel_rfl⟩
theorem fok54 : FnOk Tryz.prog 54 fi54 := ⟨⟨Tryz.f54, Tryz.func54, rfl, rfl, rfl⟩, Tryz.call54, by kernel_rfl⟩
theorem fok83 : FnOk Tryz.prog 83 fi83 := ⟨⟨Tryz.f83, Tryz.func83, rfl, rfl, rfl⟩, Tryz.call83, by kernel_rfl⟩
theorem fok48 : FnOk Tryz.prog 48 fi48 := ⟨⟨Tryz.f48, Tryz.func48, rfl, rfl, rfl⟩, Tryz.call48, by kernel_rfl⟩
theorem fok105 : FnOk Tryz.prog 105 fi105 := ⟨⟨Tryz.f105, Tryz.func105, rfl, rfl, rfl⟩, Tryz.call105, by kernel_rfl⟩
theorem fok106 : FnOk Tryz.prog 106 fi106 := ⟨⟨Tryz.f106, Tryz.func106, rfl, rfl, rfl⟩, Tryz.call106, by kernel_rfl⟩
theorem fok116 : FnOk Tryz.prog 116 fi116 := ⟨⟨Tryz.f116, Tryz.func116, rfl, rfl, rfl⟩, Tryz.call116, by kernel_rfl⟩
theorem fok43 : FnOk Tryz.prog 43 fi43 := ⟨⟨Tryz.f43, Tryz.func43, rfl, rfl, rfl⟩, Tryz.call43, by kernel_rfl⟩
theorem fok71 : FnOk Tryz.prog 71 fi71 := ⟨⟨Tryz.f71, Tryz.func71, rfl, rfl, rfl⟩, Tryz.call71, by kernel_rfl⟩
theorem fok107 : FnOk Tryz.prog 107 fi107 := ⟨⟨Tryz.f107, Tryz.func107, rfl, rfl, rfl⟩, Tryz.call107, by kernel_rfl⟩
theorem fok117 : FnOk Tryz.prog 117 fi117 := ⟨⟨Tryz.f117, Tryz.func117, rfl, rfl, rfl⟩, Tryz.call117, by kernel_rfl⟩
theorem fok120 : FnOk Tryz.prog 120 fi120 := ⟨⟨Tryz.f120, Tryz.func120, rfl, rfl, rfl⟩, Tryz.call120, by kernel_rfl⟩
theorem fok70 : FnOk Tryz.prog 70 fi70 := ⟨⟨Tryz.f70, Tryz.func70, rfl, rfl, rfl⟩, Tryz.call70, by kernel_rfl⟩
theorem fok22 : FnOk Tryz.prog 22 fi22 := ⟨⟨Tryz.f22, Tryz.func22, rfl, rfl, rfl⟩, Tryz.call22, by kernel_rfl⟩
theorem fok49 : FnOk Tryz.prog 49 fi49 := ⟨⟨Tryz.f49, Tryz.func49, rfl, rfl, rfl⟩, Tryz.call49, by kernel_rfl⟩
theorem fok55 : FnOk Tryz.prog 55 fi55 := ⟨⟨Tryz.f55, Tryz.func55, rfl, rfl, rfl⟩, Tryz.call55, by kernel_rfl⟩
theorem fok26 : FnOk Tryz.prog 26 fi26 := ⟨⟨Tryz.f26, Tryz.func26, rfl, rfl, rfl⟩, Tryz.call26, by kernel_rfl⟩
theorem fok52 : FnOk Tryz.prog 52 fi52 := ⟨⟨Tryz.f52, Tryz.func52, rfl, rfl, rfl⟩, Tryz.call52, by kernel_rfl⟩
theorem fok78 : FnOk Tryz.prog 78 fi78 := ⟨⟨Tryz.f78, Tryz.func78, rfl, rfl, rfl⟩, Tryz.call78, by kernel_rfl⟩
theorem fok101 : FnOk Tryz.prog 101 fi101 := ⟨⟨Tryz.f101, Tryz.func101, rfl, rfl, rfl⟩, Tryz.call101, by kernel_rfl⟩
theorem fok103 : FnOk Tryz.prog 103 fi103 := ⟨⟨Tryz.f103, Tryz.func103, rfl, rfl, rfl⟩, Tryz.call103, by kernel_rfl⟩
theorem fok102 : FnOk Tryz.prog 102 fi102 := ⟨⟨Tryz.f102, Tryz.func102, rfl, rfl, rfl⟩, Tryz.call102, by kernel_rfl⟩
theorem fok114 : FnOk Tryz.prog 114 fi114 := ⟨⟨Tryz.f114, Tryz.func114, rfl, rfl, rfl⟩, Tryz.call114, by kernel_rfl⟩
theorem fok118 : FnOk Tryz.prog 118 fi118 := ⟨⟨Tryz.f118, Tryz.func118, rfl, rfl, rfl⟩, Tryz.call118, by kernel_rfl⟩
theorem fok115 : FnOk Tryz.prog 115 fi115 := ⟨⟨Tryz.f115, Tryz.func115, rfl, rfl, rfl⟩, Tryz.call115, by kernel_rfl⟩
theorem fok119 : FnOk Tryz.prog 119 fi119 := ⟨⟨Tryz.f119, Tryz.func119, rfl, rfl, rfl⟩, Tryz.call119, by kernel_rfl⟩
theorem fok80 : FnOk Tryz.prog 80 fi80 := ⟨⟨Tryz.f80, Tryz.func80, rfl, rfl, rfl⟩, Tryz.call80, by kernel_rfl⟩
theorem fok57 : FnOk Tryz.prog 57 fi57 := ⟨⟨Tryz.f57, Tryz.func57, rfl, rfl, rfl⟩, Tryz.call57, by kernel_rfl⟩
theorem fok20 : FnOk Tryz.prog 20 fi20 := ⟨⟨Tryz.f20, Tryz.func20, rfl, rfl, rfl⟩, Tryz.call20, by kernel_rfl⟩
theorem fok45 : FnOk Tryz.prog 45 fi45 := ⟨⟨Tryz.f45, Tryz.func45, rfl, rfl, rfl⟩, Tryz.call45, by kernel_rfl⟩
theorem fok84 : FnOk Tryz.prog 84 fi84 := ⟨⟨Tryz.f84, Tryz.func84, rfl, rfl, rfl⟩, Tryz.call84, by kernel_rfl⟩
theorem fok42 : FnOk Tryz.prog 42 fi42 := ⟨⟨Tryz.f42, Tryz.func42, rfl, rfl, rfl⟩, Tryz.call42, by kernel_rfl⟩
theorem fok72 : FnOk Tryz.prog 72 fi72 := ⟨⟨Tryz.f72, Tryz.func72, rfl, rfl, rfl⟩, Tryz.call72, by kernel_rfl⟩
theorem fok73 : FnOk Tryz.prog 73 fi73 := ⟨⟨Tryz.f73, Tryz.func73, rfl, rfl, rfl⟩, Tryz.call73, by kernel_rfl⟩
theorem fok74 : FnOk Tryz.prog 74 fi74 := ⟨⟨Tryz.f74, Tryz.func74, rfl, rfl, rfl⟩, Tryz.call74, by kernel_rfl⟩
noncomputable def fnl : List (Nat × FnI) := [(4, fi4), (12, fi12), (33, fi33), (58, fi58), (85, fi85), (108, fi108), (86, fi86), (109, fi109), (76, fi76), (99, fi99), (87, fi87), (77, fi77), (100, fi100), (88, fi88), (56, fi56), (46, fi46), (47, fi47), (62, fi62), (59, fi59), (68, fi68), (64, fi64), (91, fi91), (111, fi111), (110, fi110), (92, fi92), (90, fi90), (113, fi113), (93, fi93), (61, fi61), (94, fi94), (21, fi21), (63, fi63), (34, fi34), (35, fi35), (30, fi30), (13, fi13), (36, fi36), (65, fi65), (95, fi95), (5, fi5), (14, fi14), (37, fi37), (66, fi66), (67, fi67), (53, fi53), (82, fi82), (81, fi81), (104, fi104), (15, fi15), (38, fi38), (16, fi16), (39, fi39), (51, fi51), (40, fi40), (8, fi8), (27, fi27), (54, fi54), (83, fi83), (48, fi48), (105, fi105), (106, fi106), (116, fi116), (43, fi43), (71, fi71), (107, fi107), (117, fi117), (120, fi120), (70, fi70), (22, fi22), (49, fi49), (55, fi55), (26, fi26), (52, fi52), (78, fi78), (101, fi101), (103, fi103), (102, fi102), (114, fi114), (118, fi118), (115, fi115), (119, fi119), (80, fi80), (57, fi57), (20, fi20), (45, fi45), (84, fi84), (42, fi42), (72, fi72), (73, fi73), (74, fi74)]
theorem fnL_ok : ∀ i fi, fnL.get i = some fi → FnOk Tryz.prog i fi := fns_get (l := fnl) (by kernel_rfl) (by kernel_rfl) ⟨fok4, fok12, fok33, fok58, fok85, fok108, fok86, fok109, fok76, fok99, fok87, fok77, fok100, fok88, fok56, fok46, fok47, fok62, fok59, fok68, fok64, fok91, fok111, fok110, fok92, fok90, fok113, fok93, fok61, fok94, fok21, fok63, fok34, fok35, fok30, fok13, fok36, fok65, fok95, fok5, fok14, fok37, fok66, fok67, fok53, fok82, fok81, fok104, fok15, fok38, fok16, fok39, fok51, fok40, fok8, fok27, fok54, fok83, fok48, fok105, fok106, fok116, fok43, fok71, fok107, fok117, fok120, fok70, fok22, fok49, fok55, fok26, fok52, fok78, fok101, fok103, fok102, fok114, fok118, fok115, fok119, fok80, fok57, fok20, fok45, fok84, fok42, fok72, fok73, fok74, trivial⟩
noncomputable def pr0 : Pr := ⟨tabL, fnL, (.node none (.node none (.node none (.node none (.node none .nil (.node none (.node (some orcMul) .nil .nil) .nil)) .nil) (.node none .nil (.node none (.node none (.node (some orcMul64) .nil .nil) .nil) .nil))) (.node none (.node none .nil (.node none .nil (.node none (.node (some orcLen64) .nil .nil) .nil))) .nil)) (.node none (.node none (.node none (.node none (.node none .nil (.node (some orcDiv64) .nil .nil)) (.node none .nil (.node (some orcPow) .nil .nil))) .nil) .nil) (.node none (.node none (.node none (.node none .nil (.node (some orcCtz) .nil .nil)) .nil) .nil) .nil))), (.node none (.node none .nil (.node none (.node none (.node none (.node none .nil (.node (some extSub) .nil .nil)) .nil) .nil) (.node none (.node none (.node none (.node (some extAdd) .nil .nil) .nil) .nil) .nil))) .nil)⟩
end Go.Proofs.YtipjlnkdfeifkaaGreatDoor

/- XA -/
namespace Go.Proofs.YtipjlnkdfeifkaaGreatDoor
open Go.SX Go.RowKit
set_option maxRecDepth 20000 in
set_option maxHeartbeats 1000000 in
theorem mul64_any (w : World) (x y : Nat) (hx : x < 18446744073709551616) (hy : y < 18446744073709551616) : Calls Tryz.prog 75 #[.int .u64 x, .int .u64 y] w fun e w' => e = .returned (.tuple #[.int .u64 ((x * y / 18446744073709551616 : Nat) : Int), .int .u64 ((x * y % 18446744073709551616 : Nat) : Int)]) ∧ Ext w w' := by
  obtain ⟨bd, bt, bw, hhi⟩ := Lib.mul64_hi x y hx hy
  have ba := Lib.half_mul_le (a := x / 4294967296) (b := y / 4294967296) (by omega) (by omega)
  have bb := Lib.half_mul_le (a := x / 4294967296) (b := y % 4294967296) (by omega) (by omega)
  have bc := Lib.half_mul_le (a := x % 4294967296) (b := y / 4294967296) (by omega) (by omega)
  have ba' : x / 4294967296 * (y / 4294967296) < 18446744073709551616 := by omega
  have bb' : x / 4294967296 * (y % 4294967296) < 18446744073709551616 := by omega
  have bc' : x % 4294967296 * (y / 4294967296) < 18446744073709551616 := by omega
  have bh1 : x / 4294967296 * (y / 4294967296) + (x / 4294967296 * (y % 4294967296) + x % 4294967296 * (y % 4294967296) / 4294967296) / 4294967296 < 18446744073709551616 := by omega
  have bh : x / 4294967296 * (y / 4294967296) + (x / 4294967296 * (y % 4294967296) + x % 4294967296 * (y % 4294967296) / 4294967296) / 4294967296 + ((x / 4294967296 * (y % 4294967296) + x % 4294967296 * (y % 4294967296) / 4294967296) % 4294967296 + x % 4294967296 * (y / 4294967296)) / 4294967296 < 18446744073709551616 := by omega
  refine calls_of tab tabOk Tryz.func75 rfl rfl rfl [] (fun _ => ⟨none, 0⟩) [.c (.int .u64 x), .c (.int .u64 y)] [] (baseA w) 0 rfl rfl (by show 2 ≤ _; decide) (abs_base w) ?_
  (repeat' ((conv => whnf) <;> first | (show bitsK _ _ _ _ _; refine and_half ?_) | (show shiftK _ _ _ _ _; refine shr_U 32 rfl (by decide) ?_) | (show wrapK _ _ _; (first | exact wrap_modU (x * y) (Int.natCast_mul x y).symm ?_ | refine wrap_addU ?_ | refine wrap_mulU ?_ | refine wrap_modU (x * y) (Int.natCast_mul x y).symm ?_)) | (show Wp _ _ _ _ _ _ _; refine Wp.go tabOk rfl ?_) | (show @cmpK _ _ _; (first | refine cmpY ?_ | refine cmpN ?_ | (refine cmp_both ?_ ?_ <;> intro _))) | (show wrapK _ _ _; refine wrapA ?_) | (show leK _ _ _; refine leA ?_) | (show roomK _ _ _; refine roomA ?_) | (show ltK _ _ _; refine ltA ?_) | (show _ ∧ _; refine ⟨?_, ?_⟩) | (show keepK _ _ _ _ _; refine keepA ?_) | refine own_keep ?_ | refine ap_old ?_))
  all_goals (conv => whnf)
  all_goals exact ends_of (fun _ _ h => h) (fun _ => by rw [← hhi]; rfl) rfl
end Go.Proofs.YtipjlnkdfeifkaaGreatDoor

/- XB0 -/
namespace Go.Proofs.YtipjlnkdfeifkaaGreatDoor
open Go.SX Go.RowKit
set_option maxRecDepth 20000 in
theorem div64_low (w : World) (y m : Nat) (hy : y < 18446744073709551616) (hm : 0 < m) : Calls Tryz.prog 96 #[.int .u64 0, .int .u64 y, .int .u64 m] w fun e w' => e = .returned (.tuple #[.int .u64 ((y / m : Nat) : Int), .int .u64 ((y % m : Nat) : Int)]) ∧ Ext w w' := by
  refine calls_of tab tabOk Tryz.func96 rfl rfl rfl [] (fun _ => ⟨none, 0⟩) [.c (.int .u64 0), .c (.int .u64 y), .c (.int .u64 m)] [] (baseA w) 0 rfl rfl (by show 3 ≤ _; decide) (abs_base w) ?_
  (repeat' ((conv => whnf) <;> first | (show @cmpK _ _ _; (first | refine cmp_yes (by omega) ?_ | refine cmp_no (by omega) ?_)) | (show divK _ _ _ _; refine div_U ?_) | (show remK _ _ _; refine rem_U ?_) | (show drawK _ _ _ _ _ _ _ _; refine draw_quiet tabOk mixed (by kernel_rfl) ?_) | (show Wp _ _ _ _ _ _ _; refine Wp.go tabOk rfl ?_) | (show @cmpK _ _ _; (first | refine cmpY ?_ | refine cmpN ?_ | (refine cmp_both ?_ ?_ <;> intro _))) | (show wrapK _ _ _; refine wrapA ?_) | (show leK _ _ _; refine leA ?_) | (show roomK _ _ _; refine roomA ?_) | (show ltK _ _ _; refine ltA ?_) | (show _ ∧ _; refine ⟨?_, ?_⟩) | (show keepK _ _ _ _ _; refine keepA ?_) | refine own_keep ?_ | refine ap_old ?_))
  all_goals (conv => whnf)
  all_goals exact ends_of (fun _ _ h => h) (fun _ => rfl) rfl
end Go.Proofs.YtipjlnkdfeifkaaGreatDoor

/- XNa -/
namespace Go.Proofs.YtipjlnkdfeifkaaGreatDoor.Num
theorem kn_over {y1 y0 a u q r qh rh : Nat} (hq : (y1 * 4294967296 + y0) * q + r = a * 4294967296 + u) (hr : r < y1 * 4294967296 + y0) (hu : u < 4294967296) (ha : a < y1 * 4294967296 + y0) (he : qh * y1 + rh = a)
    (ht : 4294967296 ≤ qh ∨ 4294967296 * rh + u < qh * y0) : q + 1 ≤ qh := by
  rcases ht with h | h
  · have : q < 4294967296 := by
      apply Nat.lt_of_not_le; intro h'
      have h2 := Nat.mul_le_mul_left (y1 * 4294967296 + y0) h'
      have h3 : (y1 * 4294967296 + y0) * 4294967296 ≥ (a + 1) * 4294967296 := Nat.mul_le_mul_right _ ha
      rw [Nat.add_mul] at h3
      omega
    omega
  · apply Nat.lt_of_not_le; intro h'
    have h2 := Nat.mul_le_mul_left (y1 * 4294967296 + y0) h'
    have h3 : (y1 * 4294967296 + y0) * qh = (qh * y1) * 4294967296 + qh * y0 := by rw [Nat.add_mul, Nat.mul_comm qh y1, Nat.mul_comm qh y0, Nat.mul_right_comm]
    have h4 : a * 4294967296 = (qh * y1) * 4294967296 + rh * 4294967296 := by rw [← he, Nat.add_mul]
    omega
theorem kn_stop {y1 y0 a u q r qh rh : Nat} (hq : (y1 * 4294967296 + y0) * q + r = a * 4294967296 + u) (hr : r < y1 * 4294967296 + y0) (he : qh * y1 + rh = a) (hle : q ≤ qh)
    (ht : qh * y0 ≤ 4294967296 * rh + u) : q = qh := by
  apply Nat.le_antisymm hle
  apply Nat.le_of_not_lt; intro h'
  have h2 := Nat.mul_le_mul_left (y1 * 4294967296 + y0) (show q + 1 ≤ qh from h')
  rw [Nat.mul_add, Nat.mul_one] at h2
  have h3 : (y1 * 4294967296 + y0) * qh = (qh * y1) * 4294967296 + qh * y0 := by rw [Nat.add_mul, Nat.mul_comm qh y1, Nat.mul_comm qh y0, Nat.mul_right_comm]
  have h4 : a * 4294967296 = (qh * y1) * 4294967296 + rh * 4294967296 := by rw [← he, Nat.add_mul]
  omega
/-- the first guess: at least the right digit, at most two too great -/
theorem kn_first {y1 y0 a : Nat} (h1 : 2147483648 ≤ y1) (h0 : y0 < 4294967296) (ha : a < y1 * 4294967296 + y0) : a / y1 ≤ 4294967296 + 1 := by
  apply Nat.le_of_lt_succ
  apply (Nat.div_lt_iff_lt_mul (by omega)).2
  have : (4294967296 + 1 + 1) * y1 = 4294967296 * y1 + 2 * y1 := by rw [Nat.add_assoc, Nat.add_mul]
  rw [this, Nat.mul_comm]; omega
theorem kn_least {y1 y0 a u q r : Nat} (h1 : 0 < y1) (hq : (y1 * 4294967296 + y0) * q + r = a * 4294967296 + u) (hu : u < 4294967296) : q ≤ a / y1 := by
  apply (Nat.le_div_iff_mul_le h1).2
  apply Nat.le_of_lt_succ
  apply Nat.lt_of_mul_lt_mul_right (a := 4294967296)
  have e : (y1 * 4294967296 + y0) * q = (q * y1) * 4294967296 + y0 * q := by rw [Nat.add_mul, Nat.mul_comm q y1, Nat.mul_right_comm]
  rw [Nat.succ_mul]; omega
theorem kn_break {y0 qh rh u : Nat} (h0 : y0 < 4294967296) (hq : qh ≤ 4294967296) (hr : 4294967296 ≤ rh) : qh * y0 ≤ 4294967296 * rh + u := by
  have h2 : qh * y0 ≤ 4294967296 * 4294967296 := Nat.mul_le_mul hq (Nat.le_of_lt h0)
  have h3 : 4294967296 * 4294967296 ≤ 4294967296 * rh := Nat.mul_le_mul_left _ hr
  omega
theorem kn_down {y1 a qh rh : Nat} (he : qh * y1 + rh = a) (h : 1 ≤ qh) : (qh - 1) * y1 + (rh + y1) = a := by
  rw [← he]
  obtain ⟨k, rfl⟩ : ∃ k, qh = k + 1 := ⟨qh - 1, by omega⟩
  rw [Nat.add_sub_cancel, Nat.add_mul, Nat.one_mul]; omega
/-- both digits -/
theorem kn_two {y n1 u1 u0 q1 q0 r1 r0 : Nat} (h1 : y * q1 + r1 = n1 * 4294967296 + u1) (h2 : y * q0 + r0 = r1 * 4294967296 + u0) : y * (q1 * 4294967296 + q0) + r0 = n1 * 18446744073709551616 + u1 * 4294967296 + u0 := by
  have : y * (q1 * 4294967296 + q0) = (y * q1) * 4294967296 + y * q0 := by rw [Nat.mul_add, Nat.mul_assoc]
  have h3 : (y * q1 + r1) * 4294967296 = (n1 * 4294967296 + u1) * 4294967296 := by rw [h1]
  rw [Nat.add_mul, Nat.add_mul, Nat.mul_assoc n1] at h3
  rw [show 4294967296 * 4294967296 = 18446744073709551616 from rfl] at h3
  omega
/-- moved to the left by s, and back -/
theorem kn_shift {y n q r s : Nat} (hy : 0 < y) (h : y * 2 ^ s * q + r = n * 2 ^ s) (hr : r < y * 2 ^ s) : q = n / y ∧ r / 2 ^ s = n % y := by
  have hp : 0 < 2 ^ s := Nat.two_pow_pos s
  have hd : 2 ^ s ∣ r := by
    have h1 : 2 ^ s ∣ y * 2 ^ s * q := ⟨y * q, by rw [Nat.mul_comm y, Nat.mul_assoc]⟩
    exact (Nat.dvd_add_right h1).1 ⟨n, by rw [h, Nat.mul_comm]⟩
  obtain ⟨k, rfl⟩ := hd
  rw [Nat.mul_div_cancel_left _ hp]
  have hk : k < y := by
    apply Nat.lt_of_mul_lt_mul_left (a := 2 ^ s); rw [Nat.mul_comm _ y]; exact hr
  have he : y * q + k = n := by
    apply Nat.eq_of_mul_eq_mul_left hp
    rw [Nat.mul_add, Nat.mul_comm _ n, ← h, ← Nat.mul_assoc, Nat.mul_comm _ y]
  constructor
  · rw [← he, Nat.add_comm, Nat.add_mul_div_left _ _ hy, Nat.div_eq_of_lt hk, Nat.zero_add]
  · rw [← he, Nat.mul_add_mod, Nat.mod_eq_of_lt hk]
theorem bitAux_spec : ∀ f x : Nat, x < 2 ^ f → x < 2 ^ Lib.bitLenAux f x ∧ (x ≠ 0 → 2 ^ Lib.bitLenAux f x ≤ 2 * x)
  | 0, x, h => by
    have : x = 0 := by simpa using h
    subst this
    exact ⟨by simp [Lib.bitLenAux], fun h => absurd rfl h⟩
  | f + 1, x, h => by
    unfold Lib.bitLenAux
    by_cases h0 : x = 0
    · rw [if_pos h0]; subst h0; exact ⟨by decide, fun h => absurd rfl h⟩
    · rw [if_neg h0, Nat.add_comm 1, Nat.pow_succ]
      obtain ⟨a, b⟩ := bitAux_spec f (x / 2) (by rw [Nat.pow_succ] at h; omega)
      refine ⟨by omega, fun _ => ?_⟩
      by_cases h1 : x / 2 = 0
      · have : x = 1 := by omega
        subst this
        rw [show (1 : Nat) / 2 = 0 from rfl]
        cases f <;> simp [Lib.bitLenAux]
      · have := b h1; omega
/-- how far a number is moved until its highest bit is 1 -/
theorem lead_spec {y : Nat} (h0 : y ≠ 0) (h : y < 18446744073709551616) : Lib.bitLen y ≤ 64 ∧ 1 ≤ Lib.bitLen y ∧ 9223372036854775808 ≤ y * 2 ^ (64 - Lib.bitLen y) ∧ y * 2 ^ (64 - Lib.bitLen y) < 18446744073709551616 := by
  obtain ⟨a, b⟩ := bitAux_spec 64 y h
  have hle := Lib.bitLen_le y 64 (Nat.le_refl _) h
  change y < 2 ^ Lib.bitLen y at a
  change y ≠ 0 → 2 ^ Lib.bitLen y ≤ 2 * y at b
  have b := b h0
  generalize Lib.bitLen y = k at *
  have e : 2 ^ k * 2 ^ (64 - k) = 18446744073709551616 := by rw [← Nat.pow_add, Nat.add_sub_cancel' hle]
  have hp := Nat.two_pow_pos (64 - k)
  refine ⟨hle, ?_, ?_, ?_⟩
  · apply Nat.one_le_iff_ne_zero.2; intro hk; subst hk; simp at a; exact h0 a
  · have := Nat.mul_le_mul_right (2 ^ (64 - k)) b
    rw [e, Nat.mul_assoc] at this; omega
  · rw [← e]; exact Nat.mul_lt_mul_of_pos_right a hp
/-- two words moved to the left -/
theorem shl_two {h l s : Nat} (hs : s ≤ 64) (hh : h * 2 ^ s < 18446744073709551616) (hl : l < 18446744073709551616) :
    (h * 2 ^ s ||| l / 2 ^ (64 - s)) = h * 2 ^ s + l / 2 ^ (64 - s) ∧ (h * 2 ^ s + l / 2 ^ (64 - s)) * 18446744073709551616 + l * 2 ^ s % 18446744073709551616 = (h * 18446744073709551616 + l) * 2 ^ s := by
  have e : 2 ^ s * 2 ^ (64 - s) = 18446744073709551616 := by rw [← Nat.pow_add, Nat.add_sub_cancel' hs]
  have hp := Nat.two_pow_pos (64 - s)
  have hlt : l / 2 ^ (64 - s) < 2 ^ s := (Nat.div_lt_iff_lt_mul hp).2 (by rw [e]; exact hl)
  refine ⟨?_, ?_⟩
  · have := Nat.two_pow_add_eq_or_of_lt hlt h
    rw [Nat.mul_comm (2 ^ s)] at this; exact this.symm
  · have h2 : l * 2 ^ s / 18446744073709551616 = l / 2 ^ (64 - s) := by
      rw [← e, Nat.mul_comm l, Nat.mul_div_mul_left _ _ (Nat.two_pow_pos s)]
    have h3 := Nat.div_add_mod (l * 2 ^ s) 18446744073709551616
    rw [h2] at h3
    rw [Nat.add_mul, Nat.add_mul, Nat.mul_right_comm h]
    omega
theorem kn_all {h l y s : Nat} (hh : h < y) (hl : l < 18446744073709551616) (hs : s ≤ 64) (k3 : 9223372036854775808 ≤ y * 2 ^ s) (k4 : y * 2 ^ s < 18446744073709551616) :
    ∃ Y H L lo n1 y1 y0 u1 u0 q1 r1 q0 r0 qa ra : Nat, y * 2 ^ s % 18446744073709551616 = Y ∧ h * 2 ^ s % 18446744073709551616 = H ∧ l / 2 ^ (64 - s) = L ∧ l * 2 ^ s % 18446744073709551616 = lo ∧ (H ||| L) = n1 ∧
    L < 18446744073709551616 ∧ lo < 18446744073709551616 ∧ H < 18446744073709551616 ∧ n1 < 18446744073709551616 ∧ Y < 18446744073709551616 ∧ Y / 4294967296 = y1 ∧ Y % 4294967296 = y0 ∧ lo / 4294967296 = u1 ∧ lo % 4294967296 = u0 ∧
    y1 * 4294967296 + y0 = Y ∧ 2147483648 ≤ y1 ∧ y1 < 4294967296 ∧ y0 < 4294967296 ∧ u1 < 4294967296 ∧ u0 < 4294967296 ∧ (y1 * 4294967296 + y0) * q1 + r1 = n1 * 4294967296 + u1 ∧ r1 < y1 * 4294967296 + y0 ∧ n1 < y1 * 4294967296 + y0 ∧
    q1 * Y + r1 = n1 * 4294967296 + u1 ∧ (y1 * 4294967296 + y0) * q0 + r0 = r1 * 4294967296 + u0 ∧ r0 < y1 * 4294967296 + y0 ∧ q1 < 4294967296 ∧ q0 < 4294967296 ∧ n1 / y1 = qa ∧ n1 % y1 = ra ∧ qa * y1 + ra = n1 ∧ ra < y1 ∧ qa ≤ 4294967297 ∧ q1 ≤ qa ∧
    q1 * 4294967296 + q0 = (h * 18446744073709551616 + l) / y ∧ r0 / 2 ^ s = (h * 18446744073709551616 + l) % y := by
  have hp := Nat.two_pow_pos s
  have hH : h * 2 ^ s < 18446744073709551616 := Nat.lt_of_le_of_lt (Nat.mul_le_mul_right _ (Nat.le_of_lt hh)) k4
  obtain ⟨hor, hall⟩ := shl_two hs hH hl
  have hlt : (h * 18446744073709551616 + l) * 2 ^ s < y * 2 ^ s * 18446744073709551616 := by
    rw [Nat.mul_right_comm]; exact Nat.mul_lt_mul_of_pos_right (by omega) hp
  have hfin := fun q r => kn_shift (n := h * 18446744073709551616 + l) (q := q) (r := r) (s := s) (y := y) (by omega)
  have hLs : l / 2 ^ (64 - s) < 18446744073709551616 := Nat.lt_of_le_of_lt (Nat.div_le_self _ _) hl
  have hlos : l * 2 ^ s % 18446744073709551616 < 18446744073709551616 := Nat.mod_lt _ (by decide)
  rw [Nat.mod_eq_of_lt k4, Nat.mod_eq_of_lt hH]
  generalize l / 2 ^ (64 - s) = L at *
  generalize l * 2 ^ s % 18446744073709551616 = lo at *
  generalize h * 2 ^ s = H at *
  generalize y * 2 ^ s = Y at *
  generalize (h * 18446744073709551616 + l) * 2 ^ s = big at *
  generalize (h * 18446744073709551616 + l) / y = QQ at *
  generalize (h * 18446744073709551616 + l) % y = RR at *
  have hn1 : H + L < Y := by omega
  have hYp : 0 < Y := by omega
  have hYe : Y / 4294967296 * 4294967296 + Y % 4294967296 = Y := by rw [Nat.mul_comm]; exact Nat.div_add_mod Y 4294967296
  have hy1 : 2147483648 ≤ Y / 4294967296 := by omega
  have hy2 : Y / 4294967296 < 4294967296 := by omega
  have hu1 : lo / 4294967296 < 4294967296 := by omega
  have hu0 : lo % 4294967296 < 4294967296 := Nat.mod_lt lo (by decide)
  have hy0 : Y % 4294967296 < 4294967296 := Nat.mod_lt Y (by decide)
  have he0 := Nat.div_add_mod ((H + L) * 4294967296 + lo / 4294967296) Y
  have hr0 := Nat.mod_lt ((H + L) * 4294967296 + lo / 4294967296) hYp
  have hq1s : ((H + L) * 4294967296 + lo / 4294967296) / Y < 4294967296 := (Nat.div_lt_iff_lt_mul hYp).2 (by omega)
  generalize ((H + L) * 4294967296 + lo / 4294967296) / Y = q1 at *
  generalize ((H + L) * 4294967296 + lo / 4294967296) % Y = r1 at *
  have he1 := Nat.div_add_mod (r1 * 4294967296 + lo % 4294967296) Y
  have hr2 := Nat.mod_lt (r1 * 4294967296 + lo % 4294967296) hYp
  have hq0s : (r1 * 4294967296 + lo % 4294967296) / Y < 4294967296 := (Nat.div_lt_iff_lt_mul hYp).2 (by omega)
  generalize (r1 * 4294967296 + lo % 4294967296) / Y = q0 at *
  generalize (r1 * 4294967296 + lo % 4294967296) % Y = r0 at *
  have hall2 := kn_two he0 he1
  have hf := hfin (q1 * 4294967296 + q0) r0 (by omega) hr2
  have he : (Y / 4294967296 * 4294967296 + Y % 4294967296) * q1 + r1 = (H + L) * 4294967296 + lo / 4294967296 := by rw [hYe]; exact he0
  have he2 : (Y / 4294967296 * 4294967296 + Y % 4294967296) * q0 + r0 = r1 * 4294967296 + lo % 4294967296 := by rw [hYe]; exact he1
  clear hall hall2 hfin hlt he0 he1
  refine ⟨Y, H, L, lo, H + L, Y / 4294967296, Y % 4294967296, lo / 4294967296, lo % 4294967296, q1, r1, q0, r0, (H + L) / (Y / 4294967296), (H + L) % (Y / 4294967296), rfl, rfl, rfl, rfl, hor, hLs, hlos, hH, Nat.lt_trans hn1 k4, k4, rfl, rfl, rfl, rfl, hYe, hy1, hy2, hy0, hu1, hu0, he, by rw [hYe]; exact hr0, by rw [hYe]; exact hn1, ?_, he2, by rw [hYe]; exact hr2, hq1s, hq0s, rfl, rfl, ?_, Nat.mod_lt _ (by omega), ?_, ?_, hf.1, hf.2⟩
  · rw [hYe] at he; rw [Nat.mul_comm]; exact he
  · rw [Nat.mul_comm]; exact Nat.div_add_mod _ _
  · exact kn_first hy1 hy0 (by rw [hYe]; exact hn1)
  · exact kn_least (by omega) he hu1
end Go.Proofs.YtipjlnkdfeifkaaGreatDoor.Num

/- XNb -/
namespace Go.Proofs.YtipjlnkdfeifkaaGreatDoor
open Go.RowKit
theorem len8_get (b : Int) (h : b.toNat < Lib.len8tab.size) (h0 : 0 ≤ b) : wrap64 ((Lib.len8tab[b.toNat]'h).toNat : Int) = ((Lib.bitLen b.toNat : Nat) : Int) ∧ Lib.bitLen b.toNat ≤ 8 := by
  have hs := h
  rw [Lib.len8tab_size] at hs
  have e1 := Lib.len8_of b h0 (by omega)
  have e2 := Lib.bitLen_le8' b h0 (by omega)
  have e3 : Lib.len8 b = ((Lib.len8tab[b.toNat]'h).toNat : Int) := by
    unfold Lib.len8
    rw [getElem?_pos Lib.len8tab b.toNat h]; rfl
  rw [← e3, e1]
  exact ⟨by unfold wrap64; omega, e2⟩
set_option maxHeartbeats 4000000 in
set_option maxRecDepth 100000 in
theorem len64_core (x : Int) (w : World) (h0 : 0 ≤ x) (h1 : x ≤ 18446744073709551615) : Calls Tryz.prog 89 #[.int .u64 x] w fun e w' => e = .returned (.int .i64 (Lib.bitLen x.toNat)) ∧ w' = w := by
  go_enter Tryz.func89, Tryz.ntmps89
  go_wp2
  all_goals first
    | (exfalso; have e := Lib.len8tab_size; omega)
    | (go_ret; refine ⟨congrArg Ending.returned (congrArg (Value.int IntKind.i64) ?_), rfl⟩; have es := Lib.len8tab_size; first
        | (have l := len8_get (x / 4294967296 / 65536 / 256) (by omega) (by omega)
           rw [l.1]; have l2 := l.2; clear l
           have e : (x / 4294967296 / 65536 / 256).toNat = x.toNat / 72057594037927936 := by omega
           have s := Lib.bitLen_shift56 x.toNat (by omega) (by omega)
           rw [e] at l2 ⊢
           unfold wrap64; omega)
        | (have l := len8_get (x / 4294967296 / 65536) (by omega) (by omega)
           rw [l.1]; have l2 := l.2; clear l
           have e : (x / 4294967296 / 65536).toNat = x.toNat / 281474976710656 := by omega
           have s := Lib.bitLen_shift48 x.toNat (by omega) (by omega)
           rw [e] at l2 ⊢
           unfold wrap64; omega)
        | (have l := len8_get (x / 4294967296 / 256) (by omega) (by omega)
           rw [l.1]; have l2 := l.2; clear l
           have e : (x / 4294967296 / 256).toNat = x.toNat / 1099511627776 := by omega
           have s := Lib.bitLen_shift40 x.toNat (by omega) (by omega)
           rw [e] at l2 ⊢
           unfold wrap64; omega)
        | (have l := len8_get (x / 4294967296) (by omega) (by omega)
           rw [l.1]; have l2 := l.2; clear l
           have e : (x / 4294967296).toNat = x.toNat / 4294967296 := by omega
           have s := Lib.bitLen_shift32 x.toNat (by omega) (by omega)
           rw [e] at l2 ⊢
           unfold wrap64; omega)
        | (have l := len8_get (x / 65536 / 256) (by omega) (by omega)
           rw [l.1]; have l2 := l.2; clear l
           have e : (x / 65536 / 256).toNat = x.toNat / 16777216 := by omega
           have s := Lib.bitLen_shift24 x.toNat (by omega) (by omega)
           rw [e] at l2 ⊢
           unfold wrap64; omega)
        | (have l := len8_get (x / 65536) (by omega) (by omega)
           rw [l.1]; have l2 := l.2; clear l
           have e : (x / 65536).toNat = x.toNat / 65536 := by omega
           have s := Lib.bitLen_shift16 x.toNat (by omega) (by omega)
           rw [e] at l2 ⊢
           unfold wrap64; omega)
        | (have l := len8_get (x / 256) (by omega) (by omega)
           rw [l.1]; have l2 := l.2; clear l
           have e : (x / 256).toNat = x.toNat / 256 := by omega
           have s := Lib.bitLen_shift8 x.toNat (by omega) (by omega)
           rw [e] at l2 ⊢
           unfold wrap64; omega)
        | (have l := len8_get (x) (by omega) (by omega)
           rw [l.1]; have l2 := l.2; clear l
           unfold wrap64; omega))
end Go.Proofs.YtipjlnkdfeifkaaGreatDoor

/- XN -/
namespace Go.Proofs.YtipjlnkdfeifkaaGreatDoor
open Go.SX Go.RowKit
theorem wrap_toU {z : Int} {K : Int → Prop} (y : Nat) (h : z % 18446744073709551616 = y) (hk : K y) : wrapK .u64 z K := wrap_word (by rw [h]; exact hk)
theorem shl_toU {a : Nat} {y : Int} {K : Int → Prop} (k z : Nat) (hy : y = k) (hk : k ≤ 64) (hz : a * 2 ^ k % 18446744073709551616 = z) (h : K z) : shiftK .shl .u64 (a : Int) y K := by
  rw [shiftK_def]
  subst hy
  refine ⟨by omega, z, ?_, h⟩
  have e : min (k : Int).toNat (IntKind.bits .u64) = k := by simp [IntKind.bits]; omega
  rw [e]
  show (z : Int) = IntKind.u64.wrap ((a : Int) * 2 ^ k)
  rw [show (a : Int) * 2 ^ k = ((a * 2 ^ k : Nat) : Int) by simp, wrapN_u64, hz]
theorem shr_toU {a : Nat} {y : Int} {K : Int → Prop} (k z : Nat) (hy : y = k) (hk : k ≤ 64) (hz : a / 2 ^ k = z) (h : K z) : shiftK .shr .u64 (a : Int) y K := shr_U k hy hk (by rw [hz]; exact h)
theorem div_toU {a b : Nat} {K : Int → Prop} (z : Nat) (hz : a / b = z) (hb : 0 < b) (ha : a < 18446744073709551616) (hk : K z) : divK .u64 (a : Int) (b : Int) K := div_U (by rw [hz]; exact hk)
theorem and_toU {a : Nat} {K : Int → Prop} (z : Nat) (hz : a % 4294967296 = z) (ha : a < 18446744073709551616) (hk : K z) : bitsK .and .u64 (a : Int) 4294967295 K := and_half (by rw [hz]; exact hk)
theorem or_toU {a b : Nat} {K : Int → Prop} (z : Nat) (hz : (a ||| b) = z) (ha : a < 18446744073709551616) (hb : b < 18446744073709551616) (hk : K z) : bitsK .or .u64 (a : Int) (b : Int) K := bits_eq ((bitsOf_or a b ha hb).trans (by rw [hz])) hk
theorem len64_any (w : World) (x : Nat) (hx : x < 18446744073709551616) : Calls Tryz.prog 89 #[.int .u64 x] w fun e w' => e = .returned (.int .i64 ((Lib.bitLen x : Nat) : Int)) ∧ Ext w w' :=
  (len64_core x w (by omega) (by omega)).mono fun e w' h => ⟨h.1, by rw [h.2]; exact Ext.refl w⟩
set_option maxRecDepth 20000 in
theorem lead64_any (w : World) (x : Nat) (hx : x < 18446744073709551616) (hb : Lib.bitLen x ≤ 64) : Calls Tryz.prog 72 #[.int .u64 x] w fun e w' => e = .returned (.int .i64 ((64 - Lib.bitLen x : Nat) : Int)) ∧ Ext w w' := by
  refine calls_of tab tabOk Tryz.func72 rfl rfl rfl [] (fun _ => ⟨none, 0⟩) [.c (.int .u64 x)] [] (baseA w) 0 rfl rfl (by show 1 ≤ _; decide) (abs_base w) ?_
  (repeat' ((conv => whnf) <;> first | (show @cmpK _ _ _; (first | refine cmp_yes (by omega) ?_ | refine cmp_no (by omega) ?_)) | (show wrapK _ _ _; refine wrap_i64 (by omega) (by omega) ?_) | (show callK _ 89 _ _ _ _ _; refine call_pure (f := 89) Tryz.call89 (.int .i64 ((Lib.bitLen x : Nat) : Int)) (fun ρ w' _ => len64_any w' x hx) ?_) | (show Wp _ _ _ _ _ _ _; refine Wp.go tabOk rfl ?_) | (show @cmpK _ _ _; (first | refine cmpY ?_ | refine cmpN ?_ | (refine cmp_both ?_ ?_ <;> intro _))) | (show wrapK _ _ _; refine wrapA ?_) | (show leK _ _ _; refine leA ?_) | (show roomK _ _ _; refine roomA ?_) | (show ltK _ _ _; refine ltA ?_) | (show _ ∧ _; refine ⟨?_, ?_⟩) | (show keepK _ _ _ _ _; refine keepA ?_) | refine own_keep ?_ | refine ap_old ?_))
  all_goals (conv => whnf)
  all_goals exact ends_of (fun _ _ h => h) (fun _ => by rw [show ((64 - Lib.bitLen x : Nat) : Int) = 64 - (Lib.bitLen x : Int) by omega]; rfl) rfl
abbrev DvW (w : World) (Q R : Nat) (k : Nat) (env : Env) : Prop := Wp ⟨Tryz.prog, ⟨w, []⟩, Tryz.f96.ntmps, tab⟩ (tailC k (bodyC Tryz.f96)) env [] (baseA w) 0 (retK ⟨Tryz.prog, ⟨w, []⟩, Tryz.f96.ntmps, tab⟩ Tryz.f96.results.toList (fun e w' => e = .returned (.tuple #[.int .u64 (Q : Int), .int .u64 (R : Int)]) ∧ Ext w w'))
set_option maxRecDepth 20000 in
theorem div_D19 (w : World) (Y s u0 r1 q1 q0 r0 Q R : Nat) (hq1 : q1 < 4294967296) (hq0 : q0 < 4294967296) (hs : s ≤ 64) (hr0 : r0 < 18446744073709551616) (he : q0 * Y + r0 = r1 * 4294967296 + u0) (hQ : q1 * 4294967296 + q0 = Q) (hR : r0 / 2 ^ s = R) :
    DvW w Q R 19 [(2, .c (.int .u64 Y)), (8, .c (.int .u64 s)), (14, .c (.int .u64 u0)), (15, .c (.int .u64 q1)), (17, .c (.int .u64 r1)), (18, .c (.int .u64 q0))] := by
  
  (repeat' ((conv => whnf) <;> first | (show @cmpK _ _ _; (first | refine cmp_yes (by omega) ?_ | refine cmp_no (by omega) ?_)) | (show shiftK _ _ _ _ _; refine shr_toU s R rfl hs hR ?_) | (show wrapK _ _ _; (first | refine wrap_isU (q1 * 4294967296) (by omega) (by omega) ?_ | refine wrap_isU Q (by omega) (by omega) ?_ | refine wrap_modU (q0 * Y) (Int.natCast_mul q0 Y).symm ?_ | refine wrap_modU (r1 * 4294967296) (by omega) ?_ | refine wrap_toU r0 (by omega) ?_ | refine wrap_modU (r1 * 4294967296 % 18446744073709551616 + u0) (by omega) ?_)) | (show drawK _ _ _ _ _ _ _ _; refine draw_quiet tabOk mixed (by kernel_rfl) ?_) | (show Wp _ _ _ _ _ _ _; refine Wp.go tabOk rfl ?_) | (show @cmpK _ _ _; (first | refine cmpY ?_ | refine cmpN ?_ | (refine cmp_both ?_ ?_ <;> intro _))) | (show wrapK _ _ _; refine wrapA ?_) | (show leK _ _ _; refine leA ?_) | (show roomK _ _ _; refine roomA ?_) | (show ltK _ _ _; refine ltA ?_) | (show _ ∧ _; refine ⟨?_, ?_⟩) | (show keepK _ _ _ _ _; refine keepA ?_) | refine own_keep ?_ | refine ap_old ?_))
  all_goals (conv => whnf)
  all_goals exact ends_of (B := ⟨w, []⟩) (S := baseA w) (fun _ _ h => h) (fun _ => rfl) rfl
set_option maxRecDepth 20000 in
theorem div_D15 (w : World) (Y s y1 y0 n1 u1 u0 q1 r1 q0 r0 Q R : Nat) (hY : y1 * 4294967296 + y0 = Y) (hy1 : 2147483648 ≤ y1) (hy2 : y1 < 4294967296) (h0 : y0 < 4294967296) (hq1 : q1 < 4294967296) (hs : s ≤ 64) (hu1 : u1 < 4294967296) (hu : u0 < 4294967296)
    (he1 : q1 * Y + r1 = n1 * 4294967296 + u1) (ha : r1 < y1 * 4294967296 + y0) (he : (y1 * 4294967296 + y0) * q0 + r0 = r1 * 4294967296 + u0) (hr : r0 < y1 * 4294967296 + y0) (hq0 : q0 < 4294967296) (hn : n1 < 18446744073709551616) (hQ : q1 * 4294967296 + q0 = Q) (hR : r0 / 2 ^ s = R) :
    DvW w Q R 15 [(2, .c (.int .u64 Y)), (8, .c (.int .u64 s)), (9, .c (.int .u64 y1)), (10, .c (.int .u64 y0)), (11, .c (.int .u64 n1)), (13, .c (.int .u64 u1)), (14, .c (.int .u64 u0)), (15, .c (.int .u64 q1))] := by
  have hYs : y1 * 4294967296 + y0 < 18446744073709551616 := by omega
  obtain ⟨qa, hqa⟩ : ∃ qa, r1 / y1 = qa := ⟨_, rfl⟩
  obtain ⟨ra, hra⟩ : ∃ ra, r1 % y1 = ra := ⟨_, rfl⟩
  have e1 : qa * y1 + ra = r1 := by rw [← hqa, ← hra, Nat.mul_comm]; exact Nat.div_add_mod r1 y1
  have e2 : ra < y1 := by rw [← hra]; exact Nat.mod_lt _ (by omega)
  have e3 : qa ≤ 4294967297 := by rw [← hqa]; exact Num.kn_first hy1 h0 ha
  have e4 : q0 ≤ qa := by rw [← hqa]; exact Num.kn_least (by omega) he hu
  
  (repeat' ((conv => whnf) <;> first | (show @cmpK _ _ _; (first | refine cmp_yes (by omega) ?_ | refine cmp_no (by omega) ?_)) | (show divK _ _ _ _; refine div_toU qa hqa (by omega) (by omega) ?_) | (show wrapK _ _ _; (first | refine wrap_isU (qa * y1) (Int.natCast_mul qa y1).symm (by omega) ?_ | refine wrap_isU ra (by omega) (by omega) ?_ | refine wrap_modU (q1 * Y) (Int.natCast_mul q1 Y).symm ?_ | refine wrap_modU (n1 * 4294967296) (by omega) ?_ | refine wrap_toU r1 (by omega) ?_ | refine wrap_modU (n1 * 4294967296 % 18446744073709551616 + u1) (by omega) ?_)) | (show drawK _ _ _ _ _ _ _ _; refine draw_quiet tabOk mixed (by kernel_rfl) ?_) | (show Wp _ _ _ _ _ _ _; refine Wp.go tabOk rfl ?_) | (show @cmpK _ _ _; (first | refine cmpY ?_ | refine cmpN ?_ | (refine cmp_both ?_ ?_ <;> intro _))) | (show wrapK _ _ _; refine wrapA ?_) | (show leK _ _ _; refine leA ?_) | (show roomK _ _ _; refine roomA ?_) | (show ltK _ _ _; refine ltA ?_) | (show _ ∧ _; refine ⟨?_, ?_⟩) | (show keepK _ _ _ _ _; refine keepA ?_) | refine own_keep ?_ | refine ap_old ?_))
  refine Wp.loop (σ := Nat × Nat) 0 (fun ⟨qh, rh⟩ => [(2, .c (.int .u64 Y)), (8, .c (.int .u64 s)), (9, .c (.int .u64 y1)), (10, .c (.int .u64 y0)), (14, .c (.int .u64 u0)), (15, .c (.int .u64 q1)), (16, .c (.int .u64 rh)), (17, .c (.int .u64 r1)), (18, .c (.int .u64 qh))]) (fun _ => []) (fun _ => baseA w)
    (fun ⟨qh, rh⟩ => q0 ≤ qh ∧ qh * y1 + rh = r1 ∧ qh ≤ 4294967297 ∧ rh < 4294967296) (fun ⟨qh, _⟩ => qh) (qa, ra) [] (by decide) (fun _ => ⟨rfl, rfl⟩) ⟨e4, e1, e3, by omega⟩ ⟨rfl, ⟨rfl, rfl, rfl, rfl, rfl, rfl, rfl, rfl, rfl, trivial⟩, trivial, fun R w' h => h⟩ ?_
  have heY : q0 * Y + r0 = r1 * 4294967296 + u0 := by rw [← hY, Nat.mul_comm]; exact he
  rintro ⟨qh, rh⟩ ⟨h1, h2, h3, h4⟩
  have hm : qh < 4294967296 → qh * y0 < 18446744073709551616 := fun h => Nat.lt_of_le_of_lt (Nat.mul_le_mul (show qh ≤ 4294967295 by omega) (show y0 ≤ 4294967295 by omega)) (by decide)
  rcases (show (4294967296 ≤ qh ∨ (qh < 4294967296 ∧ 4294967296 * rh + u0 < qh * y0)) ∨ (qh < 4294967296 ∧ qh * y0 ≤ 4294967296 * rh + u0) by omega) with ht | ⟨h5, h6⟩
  · have hd := Num.kn_over he hr hu ha h2 (by omega)
    have hk := Num.kn_down h2 (by omega)
    by_cases hb : 4294967296 ≤ rh + y1
    · have hx := Num.kn_stop he hr hk (by omega) (Num.kn_break h0 (by omega) hb)
      subst hx
      rcases ht with ht | ⟨h5, h6⟩
      all_goals
        have hm' := hm
        try have hm' := hm h5
        iterate 6 (refine Wp.go tabOk rfl ?_; (repeat' ((conv => whnf) <;> first | (show @cmpK _ _ _; (first | refine cmp_yes (by omega) ?_ | refine cmp_no (by omega) ?_)) | (show wrapK _ _ _; (first | refine wrap_isU (qh - 1) (by omega) (by omega) ?_ | refine wrap_isU (rh + y1) (by omega) (by omega) ?_ | refine wrap_isU (qh * y0) (Int.natCast_mul qh y0).symm (by omega) ?_ | refine wrap_isU (4294967296 * rh) (by omega) (by omega) ?_ | refine wrap_addU ?_)) | (show drawK _ _ _ _ _ _ _ _; refine draw_quiet tabOk mixed (by kernel_rfl) ?_) | (show @cmpK _ _ _; (first | refine cmpY ?_ | refine cmpN ?_ | (refine cmp_both ?_ ?_ <;> intro _))) | (show wrapK _ _ _; refine wrapA ?_) | (show leK _ _ _; refine leA ?_) | (show roomK _ _ _; refine roomA ?_) | (show ltK _ _ _; refine ltA ?_) | (show _ ∧ _; refine ⟨?_, ?_⟩) | (show keepK _ _ _ _ _; refine keepA ?_) | refine own_keep ?_ | refine ap_old ?_)))
        all_goals (conv => whnf)
        all_goals exact Wp.into 0 [] (div_D19 w Y s u0 r1 q1 _ r0 Q R hq1 hq0 hs (by omega) heY hQ hR) (by decide) ⟨rfl, rfl⟩ ⟨rfl, ⟨rfl, rfl, rfl, rfl, rfl, rfl, trivial⟩, trivial, fun R w' h => h⟩
    · rcases ht with ht | ⟨h5, h6⟩
      all_goals
        have hm' := hm
        try have hm' := hm h5
        (repeat' ((conv => whnf) <;> first | (show @cmpK _ _ _; (first | refine cmp_yes (by omega) ?_ | refine cmp_no (by omega) ?_)) | (show wrapK _ _ _; (first | refine wrap_isU (qh - 1) (by omega) (by omega) ?_ | refine wrap_isU (rh + y1) (by omega) (by omega) ?_ | refine wrap_isU (qh * y0) (Int.natCast_mul qh y0).symm (by omega) ?_ | refine wrap_isU (4294967296 * rh) (by omega) (by omega) ?_ | refine wrap_addU ?_)) | (show drawK _ _ _ _ _ _ _ _; refine draw_quiet tabOk mixed (by kernel_rfl) ?_) | (show Wp _ _ _ _ _ _ _; refine Wp.go tabOk rfl ?_) | (show @cmpK _ _ _; (first | refine cmpY ?_ | refine cmpN ?_ | (refine cmp_both ?_ ?_ <;> intro _))) | (show wrapK _ _ _; refine wrapA ?_) | (show leK _ _ _; refine leA ?_) | (show roomK _ _ _; refine roomA ?_) | (show ltK _ _ _; refine ltA ?_) | (show _ ∧ _; refine ⟨?_, ?_⟩) | (show keepK _ _ _ _ _; refine keepA ?_) | refine own_keep ?_ | refine ap_old ?_))
        all_goals (conv => whnf)
        all_goals exact ⟨(qh - 1, rh + y1), [], ⟨by omega, hk, by omega, by omega⟩, by show qh - 1 < qh; omega, rfl, ⟨rfl, rfl, rfl, rfl, rfl, rfl, rfl, rfl, rfl, trivial⟩, trivial, fun _ _ h => h⟩
  · have hm' := hm h5
    have hx := (Num.kn_stop he hr h2 h1 h6).symm
    subst hx
    iterate 2 (refine Wp.go tabOk rfl ?_; (repeat' ((conv => whnf) <;> first | (show @cmpK _ _ _; (first | refine cmp_yes (by omega) ?_ | refine cmp_no (by omega) ?_)) | (show wrapK _ _ _; (first | refine wrap_isU (qh - 1) (by omega) (by omega) ?_ | refine wrap_isU (rh + y1) (by omega) (by omega) ?_ | refine wrap_isU (qh * y0) (Int.natCast_mul qh y0).symm (by omega) ?_ | refine wrap_isU (4294967296 * rh) (by omega) (by omega) ?_ | refine wrap_addU ?_)) | (show drawK _ _ _ _ _ _ _ _; refine draw_quiet tabOk mixed (by kernel_rfl) ?_) | (show @cmpK _ _ _; (first | refine cmpY ?_ | refine cmpN ?_ | (refine cmp_both ?_ ?_ <;> intro _))) | (show wrapK _ _ _; refine wrapA ?_) | (show leK _ _ _; refine leA ?_) | (show roomK _ _ _; refine roomA ?_) | (show ltK _ _ _; refine ltA ?_) | (show _ ∧ _; refine ⟨?_, ?_⟩) | (show keepK _ _ _ _ _; refine keepA ?_) | refine own_keep ?_ | refine ap_old ?_)))
    all_goals (conv => whnf)
    all_goals exact Wp.into 0 [] (div_D19 w Y s u0 r1 q1 _ r0 Q R hq1 hq0 hs (by omega) heY hQ hR) (by decide) ⟨rfl, rfl⟩ ⟨rfl, ⟨rfl, rfl, rfl, rfl, rfl, rfl, trivial⟩, trivial, fun R w' h => h⟩
set_option maxRecDepth 20000 in
set_option maxHeartbeats 1000000 in
theorem div64_any (w : World) (h l y : Nat) (hh : h < y) (hl : l < 18446744073709551616) (hy : y < 18446744073709551616) : Calls Tryz.prog 96 #[.int .u64 h, .int .u64 l, .int .u64 y] w fun e w' => e = .returned (.tuple #[.int .u64 (((h * 18446744073709551616 + l) / y : Nat) : Int), .int .u64 (((h * 18446744073709551616 + l) % y : Nat) : Int)]) ∧ Ext w w' := by
  by_cases hz : h = 0
  · subst hz
    rw [Nat.zero_mul, Nat.zero_add]
    exact div64_low w l y hl (by omega)
  obtain ⟨k1, k2, k3, k4⟩ := Num.lead_spec (show y ≠ 0 by omega) hy
  have hlead := fun w' => lead64_any w' y hy k1
  generalize 64 - Lib.bitLen y = s at hlead k3 k4
  have hs : s ≤ 64 := by
    apply Nat.le_of_not_lt; intro h'
    have := Nat.pow_le_pow_right (show 0 < 2 by omega) (show 64 ≤ s by omega)
    have := Nat.mul_le_mul (show 1 ≤ y by omega) this
    omega
  obtain ⟨Y, H, L, lo, n1, y1, y0, u1, u0, q1, r1, q0, r0, qa, ra, hYm, hHm, hL, hlo, hor, hLs, hlos, hHs, hn1s, hYs, hy1, hy0, hu1, hu0, hYe, g1, g2, h0, hu, hu', he, hr, ha, he1', he2, hr2, hq1s, hq0s, hqa, hra, e1, e2, e3, e4, hQ, hR⟩ := Num.kn_all hh hl hs k3 k4
  rw [← hQ, ← hR]
  clear k1 k2 k3 k4
  refine calls_of tab tabOk Tryz.func96 rfl rfl rfl [] (fun _ => ⟨none, 0⟩) [.c (.int .u64 h), .c (.int .u64 l), .c (.int .u64 y)] [] (baseA w) 0 rfl rfl (by show 3 ≤ _; decide) (abs_base w) ?_
  (repeat' ((conv => whnf) <;> first | (show @cmpK _ _ _; (first | refine cmp_yes (by omega) ?_ | refine cmp_no (by omega) ?_)) | (show callK _ 72 _ _ _ _ _; refine call_pure (f := 72) Tryz.call72 (.int .i64 (s : Int)) (fun ρ w' _ => hlead w') ?_) | (show shiftK _ _ _ _ _; (first | refine shl_toU s Y rfl hs hYm ?_ | refine shr_toU 32 y1 rfl (by decide) hy1 ?_ | refine shl_toU s H rfl hs hHm ?_ | refine shr_toU (64 - s) L (by omega) (by omega) hL ?_ | refine shl_toU s lo rfl hs hlo ?_ | refine shr_toU 32 u1 rfl (by decide) hu1 ?_)) | (show bitsK _ _ _ _ _; (first | refine and_toU y0 hy0 (by omega) ?_ | refine and_toU u0 hu0 (by omega) ?_ | refine or_toU n1 hor (by omega) (by omega) ?_)) | (show divK _ _ _ _; refine div_toU qa hqa (by omega) (by omega) ?_) | (show wrapK _ _ _; (first | refine wrap_isU s (by omega) (by omega) ?_ | refine wrap_isU (64 - s) (by omega) (by omega) ?_ | refine wrap_isU (qa * y1) (Int.natCast_mul qa y1).symm (by omega) ?_ | refine wrap_isU ra (by omega) (by omega) ?_)) | (show drawK _ _ _ _ _ _ _ _; refine draw_quiet tabOk mixed (by kernel_rfl) ?_) | (show Wp _ _ _ _ _ _ _; refine Wp.go tabOk rfl ?_) | (show @cmpK _ _ _; (first | refine cmpY ?_ | refine cmpN ?_ | (refine cmp_both ?_ ?_ <;> intro _))) | (show wrapK _ _ _; refine wrapA ?_) | (show leK _ _ _; refine leA ?_) | (show roomK _ _ _; refine roomA ?_) | (show ltK _ _ _; refine ltA ?_) | (show _ ∧ _; refine ⟨?_, ?_⟩) | (show keepK _ _ _ _ _; refine keepA ?_) | refine own_keep ?_ | refine ap_old ?_))
  refine Wp.loop (σ := Nat × Nat) 0 (fun ⟨qh, rh⟩ => [(2, .c (.int .u64 Y)), (8, .c (.int .u64 s)), (9, .c (.int .u64 y1)), (10, .c (.int .u64 y0)), (11, .c (.int .u64 n1)), (13, .c (.int .u64 u1)), (14, .c (.int .u64 u0)), (15, .c (.int .u64 qh)), (16, .c (.int .u64 rh))]) (fun _ => []) (fun _ => baseA w)
    (fun ⟨qh, rh⟩ => q1 ≤ qh ∧ qh * y1 + rh = n1 ∧ qh ≤ 4294967297 ∧ rh < 4294967296) (fun ⟨qh, _⟩ => qh) (qa, ra) [] (by decide) (fun _ => ⟨rfl, rfl⟩) ⟨e4, e1, e3, by omega⟩ ⟨rfl, ⟨rfl, rfl, rfl, rfl, rfl, rfl, rfl, rfl, rfl, trivial⟩, trivial, fun R w' h => h⟩ ?_
  rintro ⟨qh, rh⟩ ⟨h1, h2, h3, h4⟩
  have hm : qh < 4294967296 → qh * y0 < 18446744073709551616 := fun h => Nat.lt_of_le_of_lt (Nat.mul_le_mul (show qh ≤ 4294967295 by omega) (show y0 ≤ 4294967295 by omega)) (by decide)
  rcases (show (4294967296 ≤ qh ∨ (qh < 4294967296 ∧ 4294967296 * rh + u1 < qh * y0)) ∨ (qh < 4294967296 ∧ qh * y0 ≤ 4294967296 * rh + u1) by omega) with ht | ⟨h5, h6⟩
  · have hd := Num.kn_over he hr hu ha h2 (by omega)
    have hk := Num.kn_down h2 (by omega)
    by_cases hb : 4294967296 ≤ rh + y1
    · have hx := Num.kn_stop he hr hk (by omega) (Num.kn_break h0 (by omega) hb)
      subst hx
      rcases ht with ht | ⟨h5, h6⟩
      all_goals
        have hm' := hm
        try have hm' := hm h5
        iterate 6 (refine Wp.go tabOk rfl ?_; (repeat' ((conv => whnf) <;> first | (show @cmpK _ _ _; (first | refine cmp_yes (by omega) ?_ | refine cmp_no (by omega) ?_)) | (show wrapK _ _ _; (first | refine wrap_isU (qh - 1) (by omega) (by omega) ?_ | refine wrap_isU (rh + y1) (by omega) (by omega) ?_ | refine wrap_isU (qh * y0) (Int.natCast_mul qh y0).symm (by omega) ?_ | refine wrap_isU (4294967296 * rh) (by omega) (by omega) ?_ | refine wrap_addU ?_)) | (show drawK _ _ _ _ _ _ _ _; refine draw_quiet tabOk mixed (by kernel_rfl) ?_) | (show @cmpK _ _ _; (first | refine cmpY ?_ | refine cmpN ?_ | (refine cmp_both ?_ ?_ <;> intro _))) | (show wrapK _ _ _; refine wrapA ?_) | (show leK _ _ _; refine leA ?_) | (show roomK _ _ _; refine roomA ?_) | (show ltK _ _ _; refine ltA ?_) | (show _ ∧ _; refine ⟨?_, ?_⟩) | (show keepK _ _ _ _ _; refine keepA ?_) | refine own_keep ?_ | refine ap_old ?_)))
        all_goals (conv => whnf)
        all_goals exact Wp.into 0 [] (div_D15 w Y s y1 y0 n1 u1 u0 _ r1 q0 r0 _ _ hYe g1 g2 h0 (by omega) hs hu hu' he1' hr he2 hr2 hq0s hn1s rfl rfl) (by decide) ⟨rfl, rfl⟩ ⟨rfl, ⟨rfl, rfl, rfl, rfl, rfl, rfl, rfl, rfl, trivial⟩, trivial, fun R w' h => h⟩
    · rcases ht with ht | ⟨h5, h6⟩
      all_goals
        have hm' := hm
        try have hm' := hm h5
        (repeat' ((conv => whnf) <;> first | (show @cmpK _ _ _; (first | refine cmp_yes (by omega) ?_ | refine cmp_no (by omega) ?_)) | (show wrapK _ _ _; (first | refine wrap_isU (qh - 1) (by omega) (by omega) ?_ | refine wrap_isU (rh + y1) (by omega) (by omega) ?_ | refine wrap_isU (qh * y0) (Int.natCast_mul qh y0).symm (by omega) ?_ | refine wrap_isU (4294967296 * rh) (by omega) (by omega) ?_ | refine wrap_addU ?_)) | (show drawK _ _ _ _ _ _ _ _; refine draw_quiet tabOk mixed (by kernel_rfl) ?_) | (show Wp _ _ _ _ _ _ _; refine Wp.go tabOk rfl ?_) | (show @cmpK _ _ _; (first | refine cmpY ?_ | refine cmpN ?_ | (refine cmp_both ?_ ?_ <;> intro _))) | (show wrapK _ _ _; refine wrapA ?_) | (show leK _ _ _; refine leA ?_) | (show roomK _ _ _; refine roomA ?_) | (show ltK _ _ _; refine ltA ?_) | (show _ ∧ _; refine ⟨?_, ?_⟩) | (show keepK _ _ _ _ _; refine keepA ?_) | refine own_keep ?_ | refine ap_old ?_))
        all_goals (conv => whnf)
        all_goals exact ⟨(qh - 1, rh + y1), [], ⟨by omega, hk, by omega, by omega⟩, by show qh - 1 < qh; omega, rfl, ⟨rfl, rfl, rfl, rfl, rfl, rfl, rfl, rfl, rfl, trivial⟩, trivial, fun _ _ h => h⟩
  · have hm' := hm h5
    have hx := (Num.kn_stop he hr h2 h1 h6).symm
    subst hx
    iterate 2 (refine Wp.go tabOk rfl ?_; (repeat' ((conv => whnf) <;> first | (show @cmpK _ _ _; (first | refine cmp_yes (by omega) ?_ | refine cmp_no (by omega) ?_)) | (show wrapK _ _ _; (first | refine wrap_isU (qh - 1) (by omega) (by omega) ?_ | refine wrap_isU (rh + y1) (by omega) (by omega) ?_ | refine wrap_isU (qh * y0) (Int.natCast_mul qh y0).symm (by omega) ?_ | refine wrap_isU (4294967296 * rh) (by omega) (by omega) ?_ | refine wrap_addU ?_)) | (show drawK _ _ _ _ _ _ _ _; refine draw_quiet tabOk mixed (by kernel_rfl) ?_) | (show @cmpK _ _ _; (first | refine cmpY ?_ | refine cmpN ?_ | (refine cmp_both ?_ ?_ <;> intro _))) | (show wrapK _ _ _; refine wrapA ?_) | (show leK _ _ _; refine leA ?_) | (show roomK _ _ _; refine roomA ?_) | (show ltK _ _ _; refine ltA ?_) | (show _ ∧ _; refine ⟨?_, ?_⟩) | (show keepK _ _ _ _ _; refine keepA ?_) | refine own_keep ?_ | refine ap_old ?_)))
    all_goals (conv => whnf)
    all_goals exact Wp.into 0 [] (div_D15 w Y s y1 y0 n1 u1 u0 _ r1 q0 r0 _ _ hYe g1 g2 h0 (by omega) hs hu hu' he1' hr he2 hr2 hq0s hn1s rfl rfl) (by decide) ⟨rfl, rfl⟩ ⟨rfl, ⟨rfl, rfl, rfl, rfl, rfl, rfl, rfl, rfl, trivial⟩, trivial, fun R w' h => h⟩
end Go.Proofs.YtipjlnkdfeifkaaGreatDoor

/- XO -/
namespace Go.Proofs.YtipjlnkdfeifkaaGreatDoor
open Go.SX Go.RowKit
set_option maxRecDepth 20000 in
theorem mulW_any (w : World) (a b m : Nat) (ha : a < 18446744073709551616) (hb : b < 18446744073709551616) (hm : 0 < m) (hm2 : m < 18446744073709551616) : Calls Tryz.prog 79 #[.int .u64 a, .int .u64 b, .int .u64 m] w fun e w' => e = .returned (.int .u64 ((a * b % m : Nat) : Int)) ∧ Ext w w' := by
  have h1 := Nat.mod_lt a hm
  have h2 := Nat.mod_lt b hm
  have hmul := fun w' => mul64_any w' (a % m) (b % m) (by omega) (by omega)
  have h3 : (a % m) * (b % m) < m * 18446744073709551616 := by
    have := Nat.mul_lt_mul_of_lt_of_le h1 (Nat.le_of_lt h2) hm
    exact Nat.lt_of_lt_of_le this (Nat.mul_le_mul_left m (Nat.le_of_lt hm2))
  have e0 : (a % m) * (b % m) % m = a * b % m := by rw [← Nat.mul_mod]
  generalize (a % m) * (b % m) = p at *
  have hdiv := fun w' => div64_any w' (p / 18446744073709551616) (p % 18446744073709551616) m ((Nat.div_lt_iff_lt_mul (by decide)).2 h3) (Nat.mod_lt p (by decide)) hm2
  have e1 : p / 18446744073709551616 * 18446744073709551616 + p % 18446744073709551616 = p := by rw [Nat.mul_comm]; exact Nat.div_add_mod p 18446744073709551616
  rw [e1, e0] at hdiv
  refine calls_of tab tabOk Tryz.func79 rfl rfl rfl [] (fun _ => ⟨none, 0⟩) [.c (.int .u64 a), .c (.int .u64 b), .c (.int .u64 m)] [] (baseA w) 0 rfl rfl (by show 3 ≤ _; decide) (abs_base w) ?_
  (repeat' ((conv => whnf) <;> first | (show @cmpK _ _ _; (first | refine cmp_yes (by omega) ?_ | refine cmp_no (by omega) ?_)) | (show remK _ _ _; refine rem_U ?_) | (show callQ _ 75 _ _ _ _ _; refine callQ_of Tryz.call75 (.tuple #[.int .u64 ((p / 18446744073709551616 : Nat) : Int), .int .u64 ((p % 18446744073709551616 : Nat) : Int)]) (fun ρ w' _ => hmul w') ?_) | (show callK _ 96 _ _ _ _ _; refine call_pure (f := 96) Tryz.call96 (.tuple #[.int .u64 ((p / m : Nat) : Int), .int .u64 ((a * b % m : Nat) : Int)]) (fun ρ w' _ => hdiv w') ?_) | (show drawK _ _ _ _ _ _ _ _; refine draw_quiet tabOk mixed (by kernel_rfl) ?_) | (show Wp _ _ _ _ _ _ _; refine Wp.go tabOk rfl ?_) | (show @cmpK _ _ _; (first | refine cmpY ?_ | refine cmpN ?_ | (refine cmp_both ?_ ?_ <;> intro _))) | (show wrapK _ _ _; refine wrapA ?_) | (show leK _ _ _; refine leA ?_) | (show roomK _ _ _; refine roomA ?_) | (show ltK _ _ _; refine ltA ?_) | (show _ ∧ _; refine ⟨?_, ?_⟩) | (show keepK _ _ _ _ _; refine keepA ?_) | refine own_keep ?_ | refine ap_old ?_))
  all_goals (conv => whnf)
  all_goals exact ends_of (fun _ _ h => h) (fun _ => rfl) rfl
theorem powW_step (x a n m : Nat) : x * a ^ n % m = (x * a ^ (n % 2)) * (a * a % m) ^ (n / 2) % m := by
  have e : (x * a ^ (n % 2)) * (a * a) ^ (n / 2) = x * a ^ n := by
    rw [← Nat.pow_two, ← Nat.pow_mul, Nat.mul_assoc, ← Nat.pow_add, Nat.mod_add_div]
  rw [← e, Nat.mul_mod _ ((a * a) ^ (n / 2)), Nat.pow_mod, ← Nat.mul_mod]
set_option maxRecDepth 20000 in
theorem powW_any (w : World) (a n m : Nat) (ha : a < 18446744073709551616) (hn : n < 18446744073709551616) (hm : 0 < m) (hm2 : m < 18446744073709551616) : Calls Tryz.prog 112 #[.int .u64 a, .int .u64 n, .int .u64 m] w fun e w' => e = .returned (.int .u64 ((a ^ n % m : Nat) : Int)) ∧ Ext w w' := by
  refine calls_of tab tabOk Tryz.func112 rfl rfl rfl [] (fun _ => ⟨none, 0⟩) [.c (.int .u64 a), .c (.int .u64 n), .c (.int .u64 m)] [] (baseA w) 0 rfl rfl (by show 3 ≤ _; decide) (abs_base w) ?_
  (repeat' ((conv => whnf) <;> first | (show @cmpK _ _ _; (first | refine cmp_yes (by omega) ?_ | refine cmp_no (by omega) ?_)) | (show remK _ _ _; refine rem_U (a := 1) ?_) | (show Wp _ _ _ _ _ _ _; refine Wp.go tabOk rfl ?_) | (show @cmpK _ _ _; (first | refine cmpY ?_ | refine cmpN ?_ | (refine cmp_both ?_ ?_ <;> intro _))) | (show wrapK _ _ _; refine wrapA ?_) | (show leK _ _ _; refine leA ?_) | (show roomK _ _ _; refine roomA ?_) | (show ltK _ _ _; refine ltA ?_) | (show _ ∧ _; refine ⟨?_, ?_⟩) | (show keepK _ _ _ _ _; refine keepA ?_) | refine own_keep ?_ | refine ap_old ?_))
  refine Wp.loop (σ := Nat × Nat × Nat) 3 (fun ⟨x, b, k⟩ => [(0, .c (.int .u64 b)), (1, .c (.int .u64 k)), (2, .c (.int .u64 m)), (7, .c (.int .u64 x))]) (fun _ => []) (fun _ => baseA w)
    (fun ⟨x, b, k⟩ => x < m ∧ b < 18446744073709551616 ∧ k < 18446744073709551616 ∧ x * b ^ k % m = a ^ n % m) (fun q => q.2.2) (1 % m, a, n) [] (by decide) (fun _ => ⟨rfl, rfl⟩) ⟨Nat.mod_lt _ hm, ha, hn, by rw [Nat.mod_mul_mod, Nat.one_mul]⟩ ⟨rfl, ⟨rfl, rfl, rfl, rfl, trivial⟩, trivial, fun R w' h => h⟩ ?_
  rintro ⟨x, b, k⟩ ⟨hx, hb, hk, he⟩
  by_cases h0 : k = 0
  · subst h0
    rw [Nat.pow_zero, Nat.mul_one, Nat.mod_eq_of_lt hx] at he
    subst he
    (repeat' ((conv => whnf) <;> first | (show @cmpK _ _ _; (first | refine cmp_yes (by omega) ?_ | refine cmp_no (by omega) ?_)) | (show Wp _ _ _ _ _ _ _; refine Wp.go tabOk rfl ?_) | (show @cmpK _ _ _; (first | refine cmpY ?_ | refine cmpN ?_ | (refine cmp_both ?_ ?_ <;> intro _))) | (show wrapK _ _ _; refine wrapA ?_) | (show leK _ _ _; refine leA ?_) | (show roomK _ _ _; refine roomA ?_) | (show ltK _ _ _; refine ltA ?_) | (show _ ∧ _; refine ⟨?_, ?_⟩) | (show keepK _ _ _ _ _; refine keepA ?_) | refine own_keep ?_ | refine ap_old ?_))
    all_goals (conv => whnf)
    all_goals exact ends_of (B := ⟨w, []⟩) (S := baseA w) (fun _ _ h => h) (fun _ => rfl) rfl
  · have hstep := powW_step x b k m
    rw [he] at hstep
    have hbb := Nat.mod_lt (b * b) hm
    have hxb := Nat.mod_lt (x * b) hm
    rcases (show k % 2 = 0 ∨ k % 2 = 1 by omega) with e | e
    · rw [e, Nat.pow_zero, Nat.mul_one] at hstep
      (repeat' ((conv => whnf) <;> first | (show bitsK _ _ _ _ _; refine and_one ?_) | (show @cmpK _ _ _; (first | refine cmp_yes (by omega) ?_ | refine cmp_no (by omega) ?_)) | (show shiftK _ _ _ _ _; refine shr_U 1 rfl (by decide) ?_) | (show callK _ 79 _ _ _ _ _; refine call_pure (f := 79) Tryz.call79 (.int .u64 ((b * b % m : Nat) : Int)) (fun ρ w' _ => mulW_any w' b b m hb hb hm hm2) ?_) | (show Wp _ _ _ _ _ _ _; refine Wp.go tabOk rfl ?_) | (show @cmpK _ _ _; (first | refine cmpY ?_ | refine cmpN ?_ | (refine cmp_both ?_ ?_ <;> intro _))) | (show wrapK _ _ _; refine wrapA ?_) | (show leK _ _ _; refine leA ?_) | (show roomK _ _ _; refine roomA ?_) | (show ltK _ _ _; refine ltA ?_) | (show _ ∧ _; refine ⟨?_, ?_⟩) | (show keepK _ _ _ _ _; refine keepA ?_) | refine own_keep ?_ | refine ap_old ?_))
      all_goals (conv => whnf)
      all_goals exact ⟨(x, b * b % m, k / 2), [], ⟨hx, by show b * b % m < _; omega, by show k / 2 < _; omega, hstep.symm⟩, by show k / 2 < k; omega, rfl, ⟨rfl, rfl, rfl, rfl, trivial⟩, trivial, fun _ _ h => h⟩
    · rw [e, Nat.pow_one] at hstep
      (repeat' ((conv => whnf) <;> first | (show bitsK _ _ _ _ _; refine and_one ?_) | (show @cmpK _ _ _; (first | refine cmp_yes (by omega) ?_ | refine cmp_no (by omega) ?_)) | (show shiftK _ _ _ _ _; refine shr_U 1 rfl (by decide) ?_) | (show callK _ 79 [.c (.int .u64 b), .c (.int .u64 b), .c (.int .u64 m)] _ _ _ _; refine call_pure (f := 79) Tryz.call79 (.int .u64 ((b * b % m : Nat) : Int)) (fun ρ w' _ => mulW_any w' b b m hb hb hm hm2) ?_) | (show callK _ 79 [.c (.int .u64 x), .c (.int .u64 b), .c (.int .u64 m)] _ _ _ _; refine call_pure (f := 79) Tryz.call79 (.int .u64 ((x * b % m : Nat) : Int)) (fun ρ w' _ => mulW_any w' x b m (by omega) hb hm hm2) ?_) | (show Wp _ _ _ _ _ _ _; refine Wp.go tabOk rfl ?_) | (show @cmpK _ _ _; (first | refine cmpY ?_ | refine cmpN ?_ | (refine cmp_both ?_ ?_ <;> intro _))) | (show wrapK _ _ _; refine wrapA ?_) | (show leK _ _ _; refine leA ?_) | (show roomK _ _ _; refine roomA ?_) | (show ltK _ _ _; refine ltA ?_) | (show _ ∧ _; refine ⟨?_, ?_⟩) | (show keepK _ _ _ _ _; refine keepA ?_) | refine own_keep ?_ | refine ap_old ?_))
      all_goals (conv => whnf)
      all_goals exact ⟨(x * b % m, b * b % m, k / 2), [], ⟨hxb, by show b * b % m < _; omega, by show k / 2 < _; omega, by rw [Nat.mod_mul_mod]; exact hstep.symm⟩, by show k / 2 < k; omega, rfl, ⟨rfl, rfl, rfl, rfl, trivial⟩, trivial, fun _ _ h => h⟩
end Go.Proofs.YtipjlnkdfeifkaaGreatDoor

/- XB -/
namespace Go.Proofs.YtipjlnkdfeifkaaGreatDoor
open Go.SX Go.RowKit
end Go.Proofs.YtipjlnkdfeifkaaGreatDoor

/- XC -/
namespace Go.Proofs.YtipjlnkdfeifkaaGreatDoor
open Go.SX Go.RowKit
def TabW (w : World) : Prop := ∀ j, j < 64 → w.cell? ⟨2, j, none⟩ = some (.int .u8 ((Lib.deBruijn64tab.getD j 0 : Nat) : Int))
theorem tab_base {w w' : World} {R : Nat → Prop} (h : TabW w) (hb : (baseA w).holds R w') : TabW w' := fun j hj => by
  have hc := h j hj
  rw [cell_same (hb _ (cell_block hc)).2]; exact hc
theorem tz64_key (x a : Nat) (hx : x < 18446744073709551616) (hx0 : x ≠ 0) (hlow : x &&& (18446744073709551616 - x) = a) :
    IntKind.u64.wrap (bits BinOp.and IntKind.u64 (x : Int) (IntKind.u64.wrap (-(x : Int))) * 285870213051353865) / 288230376151711744 = ((a * 285870213051353865 % 18446744073709551616 / 288230376151711744 : Nat) : Int) := by
  have e1 : IntKind.u64.wrap (-(x : Int)) = ((18446744073709551616 - x : Nat) : Int) := by rw [IntKind.wrap_u64]; omega
  rw [e1, bits_and_u64_nat x _ hx (by omega), hlow, IntKind.wrap_u64]
  omega
set_option maxHeartbeats 1000000 in
theorem tz64_core (x k idx : Nat) (w : World) (hx0 : ((x : Int) == 0) = false)
    (key : IntKind.u64.wrap (bits BinOp.and IntKind.u64 (x : Int) (IntKind.u64.wrap (-(x : Int))) * 285870213051353865) / 288230376151711744 = (idx : Int))
    (hi : idx < 64) (hk : k < 64) (hcell : w.cell? ⟨2, idx, none⟩ = some (.int .u8 k)) :
    Calls Tryz.prog 98 #[.int .u64 x] w fun e w' => e = .returned (.int .i64 k) ∧ w' = w := by
  go_enter Tryz.func98, Tryz.ntmps98
  go_wp2_with (simp only [key])
  go_ret
  exact ⟨rfl, rfl⟩
theorem tz64_any (w : World) (x : Nat) (hx : x < 18446744073709551616) (h0 : x ≠ 0) (hT : TabW w) : Calls Tryz.prog 98 #[.int .u64 x] w fun e w' => e = .returned (.int .i64 (Lib.ctz 64 x)) ∧ Ext w w' := by
  obtain ⟨hlow, hk⟩ := Lib.lowest_bit 64 x h0 hx
  obtain ⟨hi, htab⟩ := Lib.deBruijn64_at _ hk
  have hcell := hT _ hi
  rw [htab] at hcell
  exact (tz64_core x _ _ w (by simp; omega) (tz64_key x _ hx h0 hlow) hi hk hcell).mono fun e w' h => ⟨h.1, by rw [h.2]; exact Ext.refl w⟩
end Go.Proofs.YtipjlnkdfeifkaaGreatDoor

/- ZEo -/
namespace Go.Proofs.YtipjlnkdfeifkaaGreatDoor
open Go.SX Go.CE Go.RowKit
noncomputable def orcL : List (Nat × (List V → Option Value)) := [(79, orcMul), (112, orcPow), (75, orcMul64), (96, orcDiv64), (89, orcLen64), (98, orcCtz)]
noncomputable def extL : List (Nat × (List V → Option Value)) := [(69, extAdd), (97, extSub)]
theorem len64_eq : ∀ f a : Nat, len64 f a = Lib.bitLenAux f a
  | 0, a => by unfold len64 Lib.bitLenAux; rfl
  | f + 1, 0 => by unfold len64 Lib.bitLenAux; rfl
  | f + 1, b + 1 => by
    unfold len64 Lib.bitLenAux
    rw [if_neg (by omega)]
    show Nat.succ (len64 f ((b + 1) / 2)) = _
    rw [len64_eq f, Nat.succ_eq_add_one, Nat.add_comm]
theorem ctz64_eq : ∀ f a : Nat, ctz64 f a = Lib.ctzFrom f a
  | 0, a => by unfold ctz64 Lib.ctzFrom; rfl
  | f + 1, a => by
    unfold ctz64 Lib.ctzFrom
    rcases (show a % 2 = 0 ∨ a % 2 = 1 by omega) with e | e
    · rw [e, if_neg (by decide)]
      show Nat.succ (ctz64 f (a / 2)) = _
      rw [ctz64_eq f, Nat.succ_eq_add_one, Nat.add_comm]
    · rw [e, if_pos rfl]; rfl
theorem notZero {m : Nat} (h : (!Nat.beq m 0) = true) : 0 < m := by
  cases m with
  | zero => cases h
  | succ m => omega
theorem and4 {a b c d : Bool} (h : (a && b && c && d) = true) : a = true ∧ b = true ∧ c = true ∧ d = true := by cases a <;> cases b <;> cases c <;> cases d <;> simp_all
theorem and3 {a b c : Bool} (h : (a && b && c) = true) : a = true ∧ b = true ∧ c = true := by cases a <;> cases b <;> cases c <;> simp_all
theorem and2 {a b : Bool} (h : (a && b) = true) : a = true ∧ b = true := by cases a <;> cases b <;> simp_all
theorem add64_all (x y c : Nat) (hc : c ≤ 1) (w : World) :
    (callFunc 69 #[.int .u64 (x : Int), .int .u64 (y : Int), .int .u64 (c : Int)]).run Tryz.prog w =
      .ok (.value (.tuple #[.int .u64 (((x + y + c) % 18446744073709551616 : Nat) : Int), .int .u64 (((x + y + c) / 18446744073709551616 : Nat) : Int)])) w := by
  have h := run_callFunc_extern (P := Tryz.prog) Tryz.func69 (by kernel_rfl) (by kernel_rfl) (by kernel_rfl) (e := add64Entry) (by kernel_rfl) (args := #[.int .u64 (x : Int), .int .u64 (y : Int), .int .u64 (c : Int)]) (w := w)
  rw [run_add64 x y c (by omega) (by omega) (by omega) (by omega)] at h
  exact h
theorem sub64_all (x y c : Nat) (hc : c ≤ 1) (w : World) :
    (callFunc 97 #[.int .u64 (x : Int), .int .u64 (y : Int), .int .u64 (c : Int)]).run Tryz.prog w =
      .ok (.value (.tuple #[.int .u64 (((x + 18446744073709551616 - y - c) % 18446744073709551616 : Nat) : Int), .int .u64 ((if x < y + c then 1 else 0 : Nat) : Int)])) w := by
  have h := run_callFunc_extern (P := Tryz.prog) Tryz.func97 (by kernel_rfl) (by kernel_rfl) (by kernel_rfl) (e := sub64Entry) (by kernel_rfl) (args := #[.int .u64 (x : Int), .int .u64 (y : Int), .int .u64 (c : Int)]) (w := w)
  rw [run_sub64 x y c hc] at h
  exact h
theorem tab_ext {w w' : World} (h : TabW w) (he : Ext w w') : TabW w' := fun j hj => by
  have hc := h j hj
  rw [cell_same (he.block _ (cell_block hc))]; exact hc
theorem orcMul_ok {args : List V} {u : Value} (hu : orcMul args = some u) (ρ : Rho) (w : World) : Calls Tryz.prog 79 (V.rfs ρ args).toArray w (fun e w' => e = .returned u ∧ Ext w w') := by
  unfold orcMul at hu
  split at hu
  · rename_i a b m
    obtain ⟨hb, hu⟩ := gd_some hu
    obtain ⟨h1, h2, h3, h4⟩ := and4 hb
    rw [forceN_eq] at hu
    cases hu
    exact mulW_any w a b m (lt64_lt h1) (lt64_lt h2) (notZero h4) (lt64_lt h3)
  · cases hu
theorem orcPow_ok {args : List V} {u : Value} (hu : orcPow args = some u) (ρ : Rho) (w : World) : Calls Tryz.prog 112 (V.rfs ρ args).toArray w (fun e w' => e = .returned u ∧ Ext w w') := by
  unfold orcPow at hu
  split at hu
  · rename_i a n m
    obtain ⟨hb, hu⟩ := gd_some hu
    obtain ⟨h1, h2, h3, h4⟩ := and4 hb
    have hm := notZero h4
    rw [forceN_eq] at hu
    cases hu
    have := powW_any w a n m (lt64_lt h1) (lt64_lt h2) hm (lt64_lt h3)
    rw [show u64V (powF 64 (1 % m) (a % m) n m) = Value.int .u64 ((a ^ n % m : Nat) : Int) by
      show Value.int .u64 ((powF 64 (1 % m) (a % m) n m : Nat) : Int) = _
      rw [powF_eq 64 _ _ n m (lt64_lt h2) (Nat.mod_lt _ hm), Nat.mod_mul_mod, Nat.one_mul, ← Nat.pow_mod]]
    exact this
  · cases hu
theorem orcMul64_ok {args : List V} {u : Value} (hu : orcMul64 args = some u) (ρ : Rho) (w : World) : Calls Tryz.prog 75 (V.rfs ρ args).toArray w (fun e w' => e = .returned u ∧ Ext w w') := by
  unfold orcMul64 at hu
  split at hu
  · rename_i a b
    obtain ⟨hb, hu⟩ := gd_some hu
    obtain ⟨h1, h2⟩ := and2 hb
    have nr : ∀ (n : Nat) (K : Nat → Option Value), forceN n K = K n := forceN_eq
    simp only [nr] at hu
    cases hu
    exact mul64_any w a b (lt64_lt h1) (lt64_lt h2)
  · cases hu
theorem orcDiv64_ok {args : List V} {u : Value} (hu : orcDiv64 args = some u) (ρ : Rho) (w : World) : Calls Tryz.prog 96 (V.rfs ρ args).toArray w (fun e w' => e = .returned u ∧ Ext w w') := by
  unfold orcDiv64 at hu
  split at hu
  · rename_i h l y
    obtain ⟨hb, hu⟩ := gd_some hu
    obtain ⟨h1, h2, h3, h4⟩ := and4 hb
    have nr : ∀ (n : Nat) (K : Nat → Option Value), forceN n K = K n := forceN_eq
    simp only [nr] at hu
    rw [← Option.some.inj hu]
    have key := div64_any w h l y (Nat.le_of_ble_eq_true h4) (lt64_lt h2) (lt64_lt h3)
    generalize h * 18446744073709551616 + l = n at key ⊢
    exact key
  · cases hu
theorem orcLen64_ok {args : List V} {u : Value} (hu : orcLen64 args = some u) (ρ : Rho) (w : World) : Calls Tryz.prog 89 (V.rfs ρ args).toArray w (fun e w' => e = .returned u ∧ Ext w w') := by
  unfold orcLen64 at hu
  split at hu
  · rename_i a
    obtain ⟨h1, hu⟩ := gd_some hu
    rw [forceN_eq, len64_eq] at hu
    cases hu
    exact len64_any w a (lt64_lt h1)
  · cases hu
theorem orcCtz_ok {args : List V} {u : Value} (hu : orcCtz args = some u) (ρ : Rho) (w : World) (hT : TabW w) : Calls Tryz.prog 98 (V.rfs ρ args).toArray w (fun e w' => e = .returned u ∧ Ext w w') := by
  unfold orcCtz at hu
  split at hu
  · rename_i a
    obtain ⟨hb, hu⟩ := gd_some hu
    obtain ⟨h1, h2⟩ := and2 hb
    have h0 := notZero h2
    rw [forceN_eq, ctz64_eq] at hu
    cases hu
    have := tz64_any w a (lt64_lt h1) (by omega) hT
    rw [show Lib.ctz 64 a = Lib.ctzFrom 64 a by unfold Lib.ctz; rw [if_neg (by omega)]] at this
    exact this
  · cases hu
theorem extAdd_ok {args : List V} {u : Value} (hu : extAdd args = some u) (ρ : Rho) (w : World) : (callFunc 69 (V.rfs ρ args).toArray).run Tryz.prog w = .ok (.value u) w := by
  unfold extAdd at hu
  split at hu
  · rename_i a b c
    obtain ⟨hb, hu⟩ := gd_some hu
    obtain ⟨h1, h2, h3⟩ := and3 hb
    have nr : ∀ (n : Nat) (K : Nat → Option Value), forceN n K = K n := forceN_eq
    simp only [nr] at hu
    cases hu
    exact add64_all a b c (Nat.le_of_ble_eq_true h3) w
  · cases hu
theorem extSub_ok {args : List V} {u : Value} (hu : extSub args = some u) (ρ : Rho) (w : World) : (callFunc 97 (V.rfs ρ args).toArray).run Tryz.prog w = .ok (.value u) w := by
  unfold extSub at hu
  split at hu
  · rename_i a b c
    obtain ⟨hb, hu⟩ := gd_some hu
    obtain ⟨h1, h2, h3⟩ := and3 hb
    have g1 := lt64_lt h1
    have g2 := lt64_lt h2
    have g3 := Nat.le_of_ble_eq_true h3
    have nr : ∀ (n : Nat) (K : Nat → Option Value), forceN n K = K n := forceN_eq
    simp only [nr] at hu
    cases hu
    have := sub64_all a b c g3 w
    rw [show (a + 18446744073709551616 - b - c) % 18446744073709551616 = (36893488147419103232 + a - b - c) % 18446744073709551616 by omega] at this
    rw [show (if a < b + c then 1 else 0 : Nat) = (match Nat.ble (b + c) a with | true => 0 | false => 1) by
      cases e : Nat.ble (b + c) a with
      | true => rw [if_neg (by have := Nat.le_of_ble_eq_true e; omega)]
      | false => rw [if_pos (by apply Nat.lt_of_not_le; intro h; rw [Nat.ble_eq_true_of_le h] at e; cases e)]] at this
    exact this
  · cases hu
theorem orc_ok {w0 : World} (hT : TabW w0) : OrcOk Tryz.prog w0 pr0 := by
  refine ⟨fun f g args u hg hu => ?_, fun f g args u hg hu => ?_⟩
  · have hm : (f, g) ∈ orcL := T.ofL_mem (by kernel_rfl) (show (T.ofL orcL).get f = some g by rw [← (show pr0.orc = T.ofL orcL by kernel_rfl)]; exact hg)
    clear hg
    simp only [orcL, List.mem_cons, List.not_mem_nil, or_false, Prod.mk.injEq] at hm
    rcases hm with ⟨rfl, rfl⟩ | ⟨rfl, rfl⟩ | ⟨rfl, rfl⟩ | ⟨rfl, rfl⟩ | ⟨rfl, rfl⟩ | ⟨rfl, rfl⟩
    · exact ⟨Tryz.call79, fun ρ w he => orcMul_ok hu ρ w⟩
    · exact ⟨Tryz.call112, fun ρ w he => orcPow_ok hu ρ w⟩
    · exact ⟨Tryz.call75, fun ρ w he => orcMul64_ok hu ρ w⟩
    · exact ⟨Tryz.call96, fun ρ w he => orcDiv64_ok hu ρ w⟩
    · exact ⟨Tryz.call89, fun ρ w he => orcLen64_ok hu ρ w⟩
    · exact ⟨Tryz.call98, fun ρ w he => orcCtz_ok hu ρ w (tab_ext hT he)⟩
  · have hm : (f, g) ∈ extL := T.ofL_mem (by kernel_rfl) (show (T.ofL extL).get f = some g by rw [← (show pr0.ext = T.ofL extL by kernel_rfl)]; exact hg)
    clear hg
    simp only [extL, List.mem_cons, List.not_mem_nil, or_false, Prod.mk.injEq] at hm
    rcases hm with ⟨rfl, rfl⟩ | ⟨rfl, rfl⟩
    · exact fun ρ w => extAdd_ok hu ρ w
    · exact fun ρ w => extSub_ok hu ρ w
end Go.Proofs.YtipjlnkdfeifkaaGreatDoor

