import Derived.Test.YtipjlnkdfeifkaaDoorProg
import Derived.Lib.BitFns
import Derived.Lib.Strings
import Derived.Lib.Slices
import Derived.Lib.Small
import Derived.Lib.Walk
import Derived.Lib.TrailingZeros
import Derived.WalkKit
import Derived.Shelf.Spec.BitsCarry
import Derived.Test.YtipjlnkdfeifkaaDoorKScaleNilCard4
/- GA -/
set_option linter.unusedVariables false
set_option linter.unusedSimpArgs false
namespace Go.Proofs.YtipjlnkdfeifkaaDoor
open Go.SX
def tab : List (Nat × TI) :=
  [(2, ⟨1, false, 6, 0, 8, .i64, [], true, [.int .i64 0]⟩),
   (3, ⟨1, false, 6, 0, 8, .i64, [], true, [.int .i64 0]⟩),
   (4, ⟨1, false, 5, 0, 1, .i64, [], true, [.bool false]⟩),
   (5, ⟨1, false, 6, 0, 1, .u8, [], true, [.int .u8 0]⟩),
   (9, ⟨1, false, 4, 0, 16, .i64, [], true, [.string .empty]⟩),
   (20, ⟨1, false, 9, 0, 16, .i64, [], true, [.nilIface]⟩),
   (22, ⟨1, false, 1, 36, 24, .i64, [], true, [.slice none 0 0]⟩),
   (24, ⟨1, true, 3, 0, 24, .i64, [(0, 1, 0)], true, [.slice none 0 0]⟩),
   (25, ⟨1, false, 0, 0, 8, .i64, [], true, [.nilFunc]⟩),
   (26, ⟨1, false, 7, 45, 8, .i64, [], true, [.pointer none]⟩),
   (27, ⟨1, false, 6, 0, 8, .i64, [], true, [.int .i64 0]⟩),
   (31, ⟨1, false, 1, 24, 24, .i64, [], true, [.slice none 0 0]⟩),
   (32, ⟨1, false, 7, 63, 8, .i64, [], true, [.pointer none]⟩),
   (35, ⟨1, false, 6, 0, 8, .u64, [], true, [.int .u64 0]⟩),
   (36, ⟨1, false, 1, 35, 24, .i64, [], true, [.slice none 0 0]⟩),
   (38, ⟨4, true, 3, 0, 48, .i64, [(0, 1, 0), (1, 1, 0), (2, 1, 0), (3, 1, 0)], true, [.int .i64 0, .int .u64 0, .slice none 0 0, .int .i64 0]⟩),
   (42, ⟨1, false, 1, 2, 24, .i64, [], true, [.slice none 0 0]⟩),
   (45, ⟨7, true, 3, 0, 88, .i64, [(0, 4, 1), (4, 1, 0), (5, 1, 0), (6, 1, 0)], true, [.int .i64 0, .int .u64 0, .slice none 0 0, .int .i64 0, .pointer none, .pointer none, .slice none 0 0]⟩),
   (48, ⟨1, false, 0, 0, 8, .i64, [], true, [.nilFunc]⟩),
   (49, ⟨1, false, 1, 35, 24, .i64, [], true, [.slice none 0 0]⟩),
   (51, ⟨2, true, 3, 0, 48, .i64, [(0, 1, 0), (1, 1, 0)], true, [.slice none 0 0, .slice none 0 0]⟩),
   (61, ⟨1, false, 1, 79, 24, .i64, [], true, [.slice none 0 0]⟩),
   (63, ⟨3, true, 3, 0, 56, .i64, [(0, 1, 0), (1, 1, 0), (2, 1, 0)], true, [.int .i64 0, .slice none 0 0, .slice none 0 0]⟩),
   (66, ⟨1, false, 0, 0, 8, .i64, [], true, [.nilFunc]⟩),
   (67, ⟨1, false, 1, 71, 24, .i64, [], true, [.slice none 0 0]⟩),
   (71, ⟨2, true, 3, 0, 32, .i64, [(0, 1, 0), (1, 1, 0)], true, [.bool false, .slice none 0 0]⟩),
   (77, ⟨1, false, 0, 0, 8, .i64, [], true, [.nilFunc]⟩),
   (79, ⟨1, false, 7, 103, 8, .i64, [], true, [.pointer none]⟩),
   (81, ⟨1, false, 0, 0, 8, .i64, [], true, [.nilFunc]⟩),
   (85, ⟨4, true, 3, 0, 48, .i64, [(0, 4, 1)], true, [.int .i64 0, .int .u64 0, .slice none 0 0, .int .i64 0]⟩),
   (86, ⟨1, false, 1, 25, 24, .i64, [], true, [.slice none 0 0]⟩),
   (92, ⟨1, false, 6, 0, 8, .u64, [], true, [.int .u64 0]⟩),
   (101, ⟨1, false, 0, 0, 8, .i64, [], true, [.nilFunc]⟩),
   (103, ⟨5, true, 3, 0, 72, .i64, [(0, 1, 0), (1, 1, 0), (2, 1, 0), (3, 1, 0), (4, 1, 0)], true, [.int .i64 0, .int .u64 0, .int .u64 0, .slice none 0 0, .slice none 0 0]⟩),
   (113, ⟨1, false, 0, 0, 8, .i64, [], true, [.nilFunc]⟩),
   (116, ⟨3, true, 3, 0, 24, .i64, [(0, 1, 0), (1, 1, 0), (2, 1, 0)], true, [.int .u64 0, .int .u64 0, .int .i64 0]⟩),
   (117, ⟨1, false, 7, 119, 8, .i64, [], true, [.pointer none]⟩),
   (119, ⟨2, true, 3, 0, 48, .i64, [(0, 1, 0), (1, 1, 0)], true, [.slice none 0 0, .slice none 0 0]⟩),
   (120, ⟨1, false, 0, 0, 8, .i64, [], true, [.nilFunc]⟩),
   (130, ⟨1, false, 6, 0, 4, .u32, [], true, [.int .u32 0]⟩),
   (137, ⟨1, false, 9, 0, 16, .i64, [], true, [.nilIface]⟩)]
theorem tabOk : ∀ p ∈ tab, mkTI Tryd.prog p.1 = some p.2 := by
  have h : tab.map (fun p => mkTI Tryd.prog p.1) = tab.map (fun p => some p.2) := by kernel_rfl
  intro p hp
  obtain ⟨i, hi⟩ := List.getElem?_of_mem hp
  have h1 := congrArg (fun l => l[i]?) h
  simp only [List.getElem?_map, hi, Option.map_some, Option.some.injEq] at h1
  exact h1

end Go.Proofs.YtipjlnkdfeifkaaDoor

/- GB -/
namespace Go.Proofs.YtipjlnkdfeifkaaDoor
open Go.SX
theorem ti (t : Nat) {i : TI} (h : tab.find? (fun p => Nat.beq p.1 t) = some (t, i)) : mkTI Tryd.prog t = some i := tabOk (t, i) (List.mem_of_find?_eq_some h)
theorem mixed : Tryd.prog.follows .mixedOrders = true := by kernel_rfl
theorem ends_of {B : Base} {v : SV} {H : Heap} {S : Asn} {nx : Nat} {w : World} {val : Value} (hb : ∀ R w', S.holds R w' → (baseA B.w0).holds R w') (hv : ∀ ρ, v.rf ρ = val) (hw0 : B.w0 = w) : finK B v H S nx (fun e w' => e = .returned val ∧ Ext w w') := by
  subst hw0
  exact fin_of fun ρ w' hw => ⟨by rw [hv], ext_of_abs hw hb⟩
/-- a slice of numbers: where it stands and what it holds -/
structure IntsV where
  base : Option Addr
  cap : Nat
  xs : List Int
def IntsV.val (v : IntsV) : Value := .slice v.base v.xs.length v.cap
structure IntsV.ok (w : World) (v : IntsV) : Prop where
  rows : RowsI w v.base 1 (ints v.xs)
  fits : ∀ x ∈ v.xs, -9223372036854775808 ≤ x ∧ x ≤ 9223372036854775807
  room : v.xs.length ≤ v.cap
  few : v.xs.length ≤ 1000000
theorem IntsV.ok.base {w : World} {v : IntsV} (h : v.ok w) (hl : 0 < v.xs.length) : ∃ a, v.base = some a := base_some (j := 0) h.rows (by rw [ints_length]; exact hl)

end Go.Proofs.YtipjlnkdfeifkaaDoor

/- ZSa -/
namespace Go.Proofs.YtipjlnkdfeifkaaDoor
open Go.SX Go.CE
noncomputable def ti2 : TI := ⟨1, false, 6, 0, 8, .i64, [], true, [.int .i64 0]⟩
noncomputable def ti3 : TI := ⟨1, false, 6, 0, 8, .i64, [], true, [.int .i64 0]⟩
noncomputable def ti4 : TI := ⟨1, false, 5, 0, 1, .i64, [], true, [.bool false]⟩
noncomputable def ti5 : TI := ⟨1, false, 6, 0, 1, .u8, [], true, [.int .u8 0]⟩
noncomputable def ti9 : TI := ⟨1, false, 4, 0, 16, .i64, [], true, [.string .empty]⟩
noncomputable def ti20 : TI := ⟨1, false, 9, 0, 16, .i64, [], true, [.nilIface]⟩
noncomputable def ti22 : TI := ⟨1, false, 1, 36, 24, .i64, [], true, [.slice none 0 0]⟩
noncomputable def ti24 : TI := ⟨1, true, 3, 0, 24, .i64, [(0, 1, 0)], true, [.slice none 0 0]⟩
noncomputable def ti25 : TI := ⟨1, false, 0, 0, 8, .i64, [], true, [.nilFunc]⟩
noncomputable def ti26 : TI := ⟨1, false, 7, 45, 8, .i64, [], true, [.pointer none]⟩
noncomputable def ti27 : TI := ⟨1, false, 6, 0, 8, .i64, [], true, [.int .i64 0]⟩
noncomputable def ti31 : TI := ⟨1, false, 1, 24, 24, .i64, [], true, [.slice none 0 0]⟩
noncomputable def ti32 : TI := ⟨1, false, 7, 63, 8, .i64, [], true, [.pointer none]⟩
noncomputable def ti35 : TI := ⟨1, false, 6, 0, 8, .u64, [], true, [.int .u64 0]⟩
noncomputable def ti36 : TI := ⟨1, false, 1, 35, 24, .i64, [], true, [.slice none 0 0]⟩
noncomputable def ti38 : TI := ⟨4, true, 3, 0, 48, .i64, [(0, 1, 0), (1, 1, 0), (2, 1, 0), (3, 1, 0)], true, [.int .i64 0, .int .u64 0, .slice none 0 0, .int .i64 0]⟩
noncomputable def ti42 : TI := ⟨1, false, 1, 2, 24, .i64, [], true, [.slice none 0 0]⟩
noncomputable def ti45 : TI := ⟨7, true, 3, 0, 88, .i64, [(0, 4, 1), (4, 1, 0), (5, 1, 0), (6, 1, 0)], true, [.int .i64 0, .int .u64 0, .slice none 0 0, .int .i64 0, .pointer none, .pointer none, .slice none 0 0]⟩
noncomputable def ti48 : TI := ⟨1, false, 0, 0, 8, .i64, [], true, [.nilFunc]⟩
noncomputable def ti49 : TI := ⟨1, false, 1, 35, 24, .i64, [], true, [.slice none 0 0]⟩
noncomputable def ti51 : TI := ⟨2, true, 3, 0, 48, .i64, [(0, 1, 0), (1, 1, 0)], true, [.slice none 0 0, .slice none 0 0]⟩
noncomputable def ti61 : TI := ⟨1, false, 1, 79, 24, .i64, [], true, [.slice none 0 0]⟩
noncomputable def ti63 : TI := ⟨3, true, 3, 0, 56, .i64, [(0, 1, 0), (1, 1, 0), (2, 1, 0)], true, [.int .i64 0, .slice none 0 0, .slice none 0 0]⟩
noncomputable def ti66 : TI := ⟨1, false, 0, 0, 8, .i64, [], true, [.nilFunc]⟩
noncomputable def ti67 : TI := ⟨1, false, 1, 71, 24, .i64, [], true, [.slice none 0 0]⟩
noncomputable def ti71 : TI := ⟨2, true, 3, 0, 32, .i64, [(0, 1, 0), (1, 1, 0)], true, [.bool false, .slice none 0 0]⟩
noncomputable def ti77 : TI := ⟨1, false, 0, 0, 8, .i64, [], true, [.nilFunc]⟩
noncomputable def ti79 : TI := ⟨1, false, 7, 103, 8, .i64, [], true, [.pointer none]⟩
noncomputable def ti81 : TI := ⟨1, false, 0, 0, 8, .i64, [], true, [.nilFunc]⟩
noncomputable def ti85 : TI := ⟨4, true, 3, 0, 48, .i64, [(0, 4, 1)], true, [.int .i64 0, .int .u64 0, .slice none 0 0, .int .i64 0]⟩
noncomputable def ti86 : TI := ⟨1, false, 1, 25, 24, .i64, [], true, [.slice none 0 0]⟩
noncomputable def ti92 : TI := ⟨1, false, 6, 0, 8, .u64, [], true, [.int .u64 0]⟩
noncomputable def ti101 : TI := ⟨1, false, 0, 0, 8, .i64, [], true, [.nilFunc]⟩
noncomputable def ti103 : TI := ⟨5, true, 3, 0, 72, .i64, [(0, 1, 0), (1, 1, 0), (2, 1, 0), (3, 1, 0), (4, 1, 0)], true, [.int .i64 0, .int .u64 0, .int .u64 0, .slice none 0 0, .slice none 0 0]⟩
noncomputable def ti113 : TI := ⟨1, false, 0, 0, 8, .i64, [], true, [.nilFunc]⟩
noncomputable def ti116 : TI := ⟨3, true, 3, 0, 24, .i64, [(0, 1, 0), (1, 1, 0), (2, 1, 0)], true, [.int .u64 0, .int .u64 0, .int .i64 0]⟩
noncomputable def ti117 : TI := ⟨1, false, 7, 119, 8, .i64, [], true, [.pointer none]⟩
noncomputable def ti119 : TI := ⟨2, true, 3, 0, 48, .i64, [(0, 1, 0), (1, 1, 0)], true, [.slice none 0 0, .slice none 0 0]⟩
noncomputable def ti120 : TI := ⟨1, false, 0, 0, 8, .i64, [], true, [.nilFunc]⟩
noncomputable def ti130 : TI := ⟨1, false, 6, 0, 4, .u32, [], true, [.int .u32 0]⟩
noncomputable def ti137 : TI := ⟨1, false, 9, 0, 16, .i64, [], true, [.nilIface]⟩
noncomputable def tabL : T TI := .node none (.node none (.node (some ti3) (.node none (.node none (.node (some ti31) (.node (some ti63) .nil .nil) .nil) (.node none (.node (some ti79) .nil .nil) .nil)) (.node none (.node none (.node (some ti71) .nil .nil) (.node (some ti103) .nil .nil)) (.node none .nil (.node (some ti119) .nil .nil)))) (.node none (.node none (.node (some ti35) (.node (some ti67) .nil .nil) .nil) (.node (some ti51) .nil .nil)) (.node (some ti27) .nil .nil))) (.node (some ti5) (.node (some ti9) (.node none .nil (.node (some ti49) (.node (some ti81) .nil .nil) (.node (some ti113) .nil .nil))) (.node (some ti25) (.node none (.node none (.node (some ti137) .nil .nil) .nil) .nil) .nil)) (.node none (.node none (.node none .nil (.node (some ti101) .nil .nil)) (.node none (.node (some ti85) .nil .nil) (.node (some ti117) .nil .nil))) (.node none (.node (some ti45) (.node (some ti77) .nil .nil) .nil) (.node (some ti61) .nil .nil))))) (.node (some ti2) (.node (some ti4) (.node none (.node none (.node (some ti32) .nil .nil) (.node (some ti48) .nil .nil)) (.node (some ti24) .nil (.node none .nil (.node (some ti120) .nil .nil)))) (.node none (.node (some ti20) (.node (some ti36) .nil .nil) (.node none .nil (.node (some ti116) .nil .nil))) (.node none .nil (.node none (.node (some ti92) .nil .nil) .nil)))) (.node none (.node none (.node none (.node none (.node (some ti66) (.node (some ti130) .nil .nil) .nil) .nil) .nil) (.node (some ti26) (.node (some ti42) .nil .nil) .nil)) (.node none (.node (some ti22) (.node (some ti38) .nil .nil) (.node none (.node (some ti86) .nil .nil) .nil)) .nil)))
theorem tabL_ok : ∀ i ti, tabL.get i = some ti → mkTI Tryd.prog i = some ti := tab_get (l := tab) (by kernel_rfl) (by kernel_rfl) tabOk
noncomputable def fi4 : FnI := ⟨(Tryd.f4.body).getD .skip, Tryd.f4.ntmps, Tryd.f4.results.toList, [], [1, 2, 4, 8, 111, 110, 109, 108, 107, 106, 105, 102, 101, 100, 99, 98, 97, 96, 93, 92, 91, 90, 10, 87, 86, 85, 84, 83, 82, 81, 78, 77, 76, 75, 74, 73, 70, 69, 68, 67, 6, 64, 63, 11, 60, 59, 9, 56, 55, 7, 52, 51, 5, 3, 0]⟩
noncomputable def fi8 : FnI := ⟨(Tryd.f8.body).getD .skip, Tryd.f8.ntmps, Tryd.f8.results.toList, [(6, [], true, .take 0 (.take 5 (.take 1 (.take 6 (.take 7 (.one 2 (.one 3 (.take 4 (.one 8 (.one 9 (.take 10 (.take 11 (.take 12 (.done)))))))))))))), (8, [], true, .take 0 (.take 1 (.take 3 (.take 4 (.take 5 (.take 2 (.one 6 (.one 7 (.take 8 (.take 9 (.take 10 (.take 11 (.take 12 (.one 13 (.done)))))))))))))))], [0, 1, 4, 5, 6, 2, 3]⟩
noncomputable def fi18 : FnI := ⟨(Tryd.f18.body).getD .skip, Tryd.f18.ntmps, Tryd.f18.results.toList, [], [0, 1, 3, 17, 18, 16, 5, 2]⟩
noncomputable def fi35 : FnI := ⟨(Tryd.f35.body).getD .skip, Tryd.f35.ntmps, Tryd.f35.results.toList, [], [0, 18, 17, 16, 15, 12, 11, 10, 9, 1, 2]⟩
noncomputable def fi60 : FnI := ⟨(Tryd.f60.body).getD .skip, Tryd.f60.ntmps, Tryd.f60.results.toList, [], [15, 14, 13, 11, 12, 8, 7, 0, 2]⟩
noncomputable def fi36 : FnI := ⟨(Tryd.f36.body).getD .skip, Tryd.f36.ntmps, Tryd.f36.results.toList, [], [0, 12, 11, 8, 10, 9, 1, 2]⟩
noncomputable def fi61 : FnI := ⟨(Tryd.f61.body).getD .skip, Tryd.f61.ntmps, Tryd.f61.results.toList, [], [0, 15, 14, 2, 1, 4]⟩
noncomputable def fi44 : FnI := ⟨(Tryd.f44.body).getD .skip, Tryd.f44.ntmps, Tryd.f44.results.toList, [], [12, 11, 10, 0, 18, 17, 3, 33, 34, 32, 6, 4, 2]⟩
noncomputable def fi69 : FnI := ⟨(Tryd.f69.body).getD .skip, Tryd.f69.ntmps, Tryd.f69.results.toList, [], [0, 2, 1, 25, 24, 21, 23, 22, 5, 29, 30, 4]⟩
noncomputable def fi37 : FnI := ⟨(Tryd.f37.body).getD .skip, Tryd.f37.ntmps, Tryd.f37.results.toList, [], [0, 1, 8, 9, 7, 36, 35, 34, 33, 30, 29, 28, 27, 26, 3, 25, 24, 21, 20, 17, 19, 18, 4, 49, 48, 47, 46, 45, 2]⟩
noncomputable def fi41 : FnI := ⟨(Tryd.f41.body).getD .skip, Tryd.f41.ntmps, Tryd.f41.results.toList, [], [1, 0, 4]⟩
noncomputable def fi66 : FnI := ⟨(Tryd.f66.body).getD .skip, Tryd.f66.ntmps, Tryd.f66.results.toList, [], [0, 7, 8, 5, 1, 4]⟩
noncomputable def fi38 : FnI := ⟨(Tryd.f38.body).getD .skip, Tryd.f38.ntmps, Tryd.f38.results.toList, [(1, [8, 9, 10], true, .take 0 (.take 1 (.take 5 (.take 6 (.take 2 (.take 7 (.one 3 (.one 4 (.one 8 (.one 9 (.one 10 (.done))))))))))))], [0, 1, 2]⟩
noncomputable def fi17 : FnI := ⟨(Tryd.f17.body).getD .skip, Tryd.f17.ntmps, Tryd.f17.results.toList, [], [0, 8, 9, 7, 5, 3, 2]⟩
noncomputable def fi34 : FnI := ⟨(Tryd.f34.body).getD .skip, Tryd.f34.ntmps, Tryd.f34.results.toList, [], [1, 0, 21, 22, 20, 28, 29, 27, 10, 7, 8, 12, 13, 11, 9, 6, 5, 4]⟩
noncomputable def fi33 : FnI := ⟨(Tryd.f33.body).getD .skip, Tryd.f33.ntmps, Tryd.f33.results.toList, [], [13, 12, 11, 10, 7, 9, 8, 0, 2]⟩
noncomputable def fi20 : FnI := ⟨(Tryd.f20.body).getD .skip, Tryd.f20.ntmps, Tryd.f20.results.toList, [], [0, 2]⟩
noncomputable def fi19 : FnI := ⟨(Tryd.f19.body).getD .skip, Tryd.f19.ntmps, Tryd.f19.results.toList, [], [17, 16, 15, 1, 0, 25, 26, 24, 8, 44, 43, 42, 41, 40, 7, 10, 9, 6, 4, 5]⟩
noncomputable def fi39 : FnI := ⟨(Tryd.f39.body).getD .skip, Tryd.f39.ntmps, Tryd.f39.results.toList, [], [0, 2]⟩
noncomputable def fi40 : FnI := ⟨(Tryd.f40.body).getD .skip, Tryd.f40.ntmps, Tryd.f40.results.toList, [], [1, 0, 34, 33, 32, 29, 31, 30, 26, 25, 3, 22, 21, 20, 19, 16, 15, 2, 7, 8, 6, 9, 11, 4, 5]⟩
noncomputable def fi62 : FnI := ⟨(Tryd.f62.body).getD .skip, Tryd.f62.ntmps, Tryd.f62.results.toList, [], [0, 2]⟩
noncomputable def fi81 : FnI := ⟨(Tryd.f81.body).getD .skip, Tryd.f81.ntmps, Tryd.f81.results.toList, [(1, [], false, .take 0 (.take 1 (.take 2 (.take 3 (.take 4 (.take 5 (.take 6 (.take 7 (.take 8 (.take 9 (.take 10 (.take 11 (.take 12 (.take 13 (.take 14 (.take 15 (.take 16 (.take 17 (.take 18 (.done))))))))))))))))))))], [0, 2]⟩
noncomputable def fi67 : FnI := ⟨(Tryd.f67.body).getD .skip, Tryd.f67.ntmps, Tryd.f67.results.toList, [], [0, 2]⟩
noncomputable def fi63 : FnI := ⟨(Tryd.f63.body).getD .skip, Tryd.f63.ntmps, Tryd.f63.results.toList, [], [23, 22, 21, 20, 19, 16, 15, 14, 0, 1, 6, 7, 8, 9, 4, 5]⟩
noncomputable def fi43 : FnI := ⟨(Tryd.f43.body).getD .skip, Tryd.f43.ntmps, Tryd.f43.results.toList, [], [12, 11, 10, 7, 6, 0, 2]⟩
noncomputable def fi83 : FnI := ⟨(Tryd.f83.body).getD .skip, Tryd.f83.ntmps, Tryd.f83.results.toList, [], [0, 4, 3, 2]⟩
noncomputable def fi64 : FnI := ⟨(Tryd.f64.body).getD .skip, Tryd.f64.ntmps, Tryd.f64.results.toList, [(3, [], false, .take 0 (.take 1 (.take 2 (.take 3 (.take 4 (.take 5 (.done)))))))], [1, 0, 7, 6, 10, 8, 9, 4, 5]⟩
noncomputable def fi45 : FnI := ⟨(Tryd.f45.body).getD .skip, Tryd.f45.ntmps, Tryd.f45.results.toList, [(3, [], false, .take 0 (.take 1 (.take 2 (.take 3 (.take 4 (.take 5 (.take 6 (.take 7 (.done)))))))))], [2, 1, 0, 6]⟩
noncomputable def fi65 : FnI := ⟨(Tryd.f65.body).getD .skip, Tryd.f65.ntmps, Tryd.f65.results.toList, [(3, [11, 12], true, .take 0 (.take 1 (.take 2 (.take 3 (.take 4 (.take 5 (.take 7 (.take 6 (.one 8 (.one 9 (.one 10 (.one 11 (.one 12 (.done))))))))))))))], [1, 5, 2, 0, 4]⟩
noncomputable def fi16 : FnI := ⟨(Tryd.f16.body).getD .skip, Tryd.f16.ntmps, Tryd.f16.results.toList, [], [0, 2]⟩
noncomputable def fi21 : FnI := ⟨(Tryd.f21.body).getD .skip, Tryd.f21.ntmps, Tryd.f21.results.toList, [], [28, 27, 24, 23, 2, 20, 19, 18, 1, 15, 14, 0, 9, 47, 46, 45, 44, 43, 42, 10, 8, 6, 7]⟩
noncomputable def fi7 : FnI := ⟨(Tryd.f7.body).getD .skip, Tryd.f7.ntmps, Tryd.f7.results.toList, [], [0, 2]⟩
noncomputable def fi9 : FnI := ⟨(Tryd.f9.body).getD .skip, Tryd.f9.ntmps, Tryd.f9.results.toList, [], [0, 6, 28, 27, 22, 26, 25, 24, 23, 2, 1, 48, 49, 47, 59, 60, 58, 10, 13, 12, 11, 8, 7]⟩
noncomputable def fi22 : FnI := ⟨(Tryd.f22.body).getD .skip, Tryd.f22.ntmps, Tryd.f22.results.toList, [], [1, 0, 4]⟩
noncomputable def fi5 : FnI := ⟨(Tryd.f5.body).getD .skip, Tryd.f5.ntmps, Tryd.f5.results.toList, [(3, [], true, .take 0 (.take 1 (.take 2 (.take 3 (.one 4 (.one 5 (.take 6 (.take 7 (.take 8 (.take 9 (.take 10 (.done)))))))))))), (8, [28, 31, 29, 30, 32], true, .take 1 (.take 2 (.take 3 (.take 4 (.take 6 (.take 7 (.take 9 (.take 10 (.take 11 (.take 12 (.take 14 (.take 17 (.take 18 (.take 19 (.take 20 (.take 22 (.take 0 (.take 5 (.take 8 (.take 13 (.take 15 (.take 21 (.take 23 (.take 24 (.join (.alt 16 (.one 25 (.take 26 (.take 27 (.done)))) (.one 25 (.one 16 (.take 26 (.take 27 (.done)))))) (.one 28 (.join (.alt 29 (.one 30 (.done)) (.one 30 (.one 29 (.done)))) (.one 31 (.one 32 (.done))))))))))))))))))))))))))))))], [1, 0, 4, 3, 7, 6, 5]⟩
noncomputable def fi10 : FnI := ⟨(Tryd.f10.body).getD .skip, Tryd.f10.ntmps, Tryd.f10.results.toList, [(3, [], false, .take 0 (.take 1 (.take 2 (.take 3 (.take 4 (.take 5 (.take 6 (.take 7 (.take 8 (.take 9 (.take 10 (.take 11 (.take 12 (.take 13 (.take 14 (.done))))))))))))))))], [1, 0, 2, 23, 22, 17, 21, 20, 19, 18, 16, 15, 3, 27, 28, 26, 43, 42, 41, 6, 7, 4, 5]⟩
noncomputable def fi24 : FnI := ⟨(Tryd.f24.body).getD .skip, Tryd.f24.ntmps, Tryd.f24.results.toList, [(1, [], false, .take 0 (.take 1 (.take 2 (.take 3 (.take 4 (.take 5 (.take 6 (.take 7 (.take 8 (.take 9 (.done)))))))))))], [2, 1, 0, 4]⟩
noncomputable def fi23 : FnI := ⟨(Tryd.f23.body).getD .skip, Tryd.f23.ntmps, Tryd.f23.results.toList, [], [1, 0, 4]⟩
noncomputable def fi46 : FnI := ⟨(Tryd.f46.body).getD .skip, Tryd.f46.ntmps, Tryd.f46.results.toList, [], [0, 7, 8, 5, 1, 4]⟩
noncomputable def fi12 : FnI := ⟨(Tryd.f12.body).getD .skip, Tryd.f12.ntmps, Tryd.f12.results.toList, [(1, [], true, .take 1 (.take 5 (.take 0 (.take 2 (.take 3 (.take 6 (.join (.alt 4 (.alt 7 (.take 8 (.take 9 (.take 10 (.one 11 (.done))))) (.one 11 (.one 7 (.take 8 (.take 9 (.take 10 (.done))))))) (.one 11 (.one 4 (.one 7 (.take 8 (.take 9 (.take 10 (.done)))))))) (.one 12 (.take 13 (.done))))))))))], [1, 0, 2, 3, 4, 5]⟩
noncomputable def fi28 : FnI := ⟨(Tryd.f28.body).getD .skip, Tryd.f28.ntmps, Tryd.f28.results.toList, [(1, [10, 11], true, .take 0 (.take 2 (.take 5 (.take 7 (.take 1 (.take 3 (.take 4 (.take 6 (.one 8 (.one 9 (.one 10 (.one 11 (.done)))))))))))))], [1, 0, 4, 3, 2]⟩
noncomputable def fi54 : FnI := ⟨(Tryd.f54.body).getD .skip, Tryd.f54.ntmps, Tryd.f54.results.toList, [], [1, 4, 11, 10, 9, 0]⟩
noncomputable def fi27 : FnI := ⟨(Tryd.f27.body).getD .skip, Tryd.f27.ntmps, Tryd.f27.results.toList, [], [0, 1, 2, 8, 4, 7, 40, 39, 32, 38, 37, 36, 34, 35, 33, 31, 30, 9, 6, 5]⟩
noncomputable def fi51 : FnI := ⟨(Tryd.f51.body).getD .skip, Tryd.f51.ntmps, Tryd.f51.results.toList, [(7, [], true, .take 0 (.take 2 (.take 3 (.take 4 (.one 1 (.one 5 (.take 6 (.take 7 (.take 8 (.take 9 (.take 10 (.done)))))))))))), (21, [18], true, .take 0 (.take 1 (.take 2 (.take 3 (.take 4 (.take 6 (.take 8 (.take 9 (.take 10 (.take 11 (.take 13 (.take 14 (.take 5 (.take 7 (.one 12 (.take 15 (.take 16 (.take 17 (.one 18 (.done))))))))))))))))))))], [1, 0, 8, 7, 9, 11, 12, 10, 13, 14, 15, 93, 94, 16, 4, 5, 6]⟩
noncomputable def fi52 : FnI := ⟨(Tryd.f52.body).getD .skip, Tryd.f52.ntmps, Tryd.f52.results.toList, [(9, [], false, .take 0 (.take 1 (.take 2 (.take 4 (.take 5 (.take 6 (.take 3 (.take 7 (.take 8 (.take 9 (.done))))))))))), (11, [], false, .take 0 (.take 1 (.take 2 (.take 4 (.take 5 (.take 6 (.take 3 (.take 7 (.take 8 (.take 9 (.done)))))))))))], [1, 0, 5, 4]⟩
noncomputable def fi73 : FnI := ⟨(Tryd.f73.body).getD .skip, Tryd.f73.ntmps, Tryd.f73.results.toList, [], [0, 8, 1, 7, 6, 4, 5]⟩
noncomputable def fi74 : FnI := ⟨(Tryd.f74.body).getD .skip, Tryd.f74.ntmps, Tryd.f74.results.toList, [], [0, 2]⟩
noncomputable def fi75 : FnI := ⟨(Tryd.f75.body).getD .skip, Tryd.f75.ntmps, Tryd.f75.results.toList, [], [0, 13, 14, 12, 1, 7, 6, 5, 4]⟩
noncomputable def fi76 : FnI := ⟨(Tryd.f76.body).getD .skip, Tryd.f76.ntmps, Tryd.f76.results.toList, [(3, [], false, .take 0 (.take 1 (.take 2 (.take 4 (.take 5 (.take 6 (.take 7 (.take 3 (.take 8 (.take 9 (.done))))))))))), (5, [], true, .take 0 (.take 1 (.take 2 (.take 4 (.take 5 (.take 6 (.take 7 (.take 9 (.take 10 (.take 11 (.take 12 (.take 3 (.take 8 (.one 13 (.one 14 (.take 15 (.take 16 (.take 17 (.take 18 (.take 19 (.done)))))))))))))))))))))], [1, 5, 0, 6, 74, 73, 66, 72, 67, 71, 70, 68, 69, 9, 65, 64, 63, 7, 8, 93, 94, 92, 13, 10, 15, 16, 14, 11, 12, 146, 147, 145, 18, 17, 4]⟩
noncomputable def fi53 : FnI := ⟨(Tryd.f53.body).getD .skip, Tryd.f53.ntmps, Tryd.f53.results.toList, [], [1, 0, 22, 23, 21, 7, 6, 9, 8, 5, 4]⟩
noncomputable def fi11 : FnI := ⟨(Tryd.f11.body).getD .skip, Tryd.f11.ntmps, Tryd.f11.results.toList, [], [0, 1, 4, 11, 8, 10, 24, 25, 3, 12, 2, 9]⟩
noncomputable def fi25 : FnI := ⟨(Tryd.f25.body).getD .skip, Tryd.f25.ntmps, Tryd.f25.results.toList, [], [1, 0, 3, 2, 25, 26, 24, 42, 41, 40, 6, 7, 8, 55, 56, 60, 61, 10, 11, 9, 4, 5]⟩
noncomputable def fi47 : FnI := ⟨(Tryd.f47.body).getD .skip, Tryd.f47.ntmps, Tryd.f47.results.toList, [], [0, 6, 7, 5, 28, 27, 26, 25, 24, 3, 21, 20, 19, 16, 15, 4, 37, 36, 35, 2]⟩
noncomputable def fi48 : FnI := ⟨(Tryd.f48.body).getD .skip, Tryd.f48.ntmps, Tryd.f48.results.toList, [], [2, 1, 0, 4]⟩
noncomputable def fi49 : FnI := ⟨(Tryd.f49.body).getD .skip, Tryd.f49.ntmps, Tryd.f49.results.toList, [], [1, 13, 14, 12, 8, 7, 0, 5, 6, 4]⟩
noncomputable def fi70 : FnI := ⟨(Tryd.f70.body).getD .skip, Tryd.f70.ntmps, Tryd.f70.results.toList, [(3, [15], true, .take 0 (.take 1 (.take 2 (.take 3 (.take 5 (.take 6 (.take 7 (.take 9 (.take 4 (.take 8 (.one 10 (.one 11 (.one 12 (.take 13 (.take 14 (.one 15 (.done))))))))))))))))), (4, [10], true, .take 0 (.take 1 (.take 2 (.take 3 (.take 5 (.take 4 (.one 6 (.one 7 (.take 8 (.take 9 (.one 10 (.done))))))))))))], [2, 0, 7, 6, 1, 9]⟩
noncomputable def fi72 : FnI := ⟨(Tryd.f72.body).getD .skip, Tryd.f72.ntmps, Tryd.f72.results.toList, [], [1, 0, 6, 4]⟩
noncomputable def fi71 : FnI := ⟨(Tryd.f71.body).getD .skip, Tryd.f71.ntmps, Tryd.f71.results.toList, [(1, [], true, .take 0 (.take 1 (.take 2 (.take 4 (.take 5 (.take 6 (.take 3 (.one 7 (.one 8 (.take 9 (.take 10 (.take 11 (.take 12 (.take 13 (.done)))))))))))))))], [0, 3, 2]⟩
noncomputable def fi84 : FnI := ⟨(Tryd.f84.body).getD .skip, Tryd.f84.ntmps, Tryd.f84.results.toList, [], [1, 0, 21, 22, 20, 8, 7, 10, 9, 6, 4, 5]⟩
noncomputable def fi26 : FnI := ⟨(Tryd.f26.body).getD .skip, Tryd.f26.ntmps, Tryd.f26.results.toList, [], [1, 4, 0, 24, 25, 23, 33, 34, 32, 8, 11, 10, 9, 6, 5]⟩
noncomputable def fi50 : FnI := ⟨(Tryd.f50.body).getD .skip, Tryd.f50.ntmps, Tryd.f50.results.toList, [], [0, 1, 2, 5, 4]⟩
noncomputable def fi6 : FnI := ⟨(Tryd.f6.body).getD .skip, Tryd.f6.ntmps, Tryd.f6.results.toList, [(12, [], true, .take 0 (.take 1 (.take 2 (.take 3 (.one 4 (.one 5 (.take 6 (.take 7 (.take 8 (.take 9 (.take 10 (.done)))))))))))), (27, [], true, .take 0 (.take 1 (.take 2 (.take 4 (.take 5 (.take 6 (.take 7 (.take 3 (.take 8 (.join (.alt 9 (.take 10 (.take 11 (.take 12 (.one 13 (.done))))) (.one 13 (.one 9 (.take 10 (.take 11 (.take 12 (.done))))))) (.one 14 (.take 15 (.done))))))))))))), (28, [], true, .take 0 (.take 1 (.take 2 (.take 4 (.take 5 (.take 6 (.take 7 (.take 3 (.take 8 (.join (.alt 9 (.take 10 (.take 11 (.take 12 (.one 13 (.done))))) (.one 13 (.one 9 (.take 10 (.take 11 (.take 12 (.done))))))) (.one 14 (.take 15 (.done))))))))))))), (29, [], true, .take 0 (.take 1 (.take 2 (.take 3 (.take 4 (.take 5 (.join (.alt 6 (.take 7 (.take 8 (.take 9 (.one 10 (.done))))) (.one 10 (.one 6 (.take 7 (.take 8 (.take 9 (.done))))))) (.one 11 (.take 12 (.done)))))))))), (31, [], true, .take 0 (.take 1 (.take 2 (.take 3 (.take 4 (.one 5 (.one 6 (.take 7 (.take 8 (.take 9 (.one 10 (.done)))))))))))), (34, [19, 20], true, .take 1 (.take 2 (.take 3 (.take 5 (.take 6 (.take 7 (.take 8 (.take 9 (.take 12 (.take 0 (.take 4 (.one 10 (.one 11 (.one 13 (.take 14 (.take 15 (.one 16 (.take 17 (.take 18 (.one 19 (.one 20 (.done))))))))))))))))))))))], [0, 6, 39, 38, 36, 37, 2, 35, 32, 31, 30, 1, 44, 45, 10, 11, 13, 81, 80, 79, 12, 8, 9, 100, 101, 14, 16, 19, 17, 21, 15, 7]⟩
noncomputable def fi13 : FnI := ⟨(Tryd.f13.body).getD .skip, Tryd.f13.ntmps, Tryd.f13.results.toList, [], [0, 2, 1]⟩
noncomputable def fi14 : FnI := ⟨(Tryd.f14.body).getD .skip, Tryd.f14.ntmps, Tryd.f14.results.toList, [(6, [], false, .take 0 (.take 1 (.take 2 (.take 4 (.take 9 (.take 3 (.take 5 (.take 6 (.take 7 (.take 8 (.done))))))))))), (9, [], true, .take 0 (.take 1 (.take 2 (.take 4 (.take 7 (.take 9 (.take 3 (.take 5 (.take 6 (.one 8 (.take 10 (.one 11 (.one 12 (.take 13 (.take 14 (.take 15 (.take 16 (.take 17 (.done)))))))))))))))))))], [2, 1, 5, 4, 0, 8, 6, 32, 33, 31, 11, 12, 10, 13, 9, 7]⟩
noncomputable def fi29 : FnI := ⟨(Tryd.f29.body).getD .skip, Tryd.f29.ntmps, Tryd.f29.results.toList, [], [2, 1, 4, 0, 5, 8, 10, 9, 7, 6]⟩
noncomputable def fi30 : FnI := ⟨(Tryd.f30.body).getD .skip, Tryd.f30.ntmps, Tryd.f30.results.toList, [(11, [16], true, .take 0 (.take 1 (.take 2 (.take 3 (.take 4 (.take 6 (.take 7 (.take 8 (.take 10 (.take 11 (.take 12 (.take 5 (.take 9 (.one 13 (.one 14 (.take 15 (.one 16 (.done))))))))))))))))))], [0, 1, 8, 10, 2, 9, 34, 35, 11, 12, 6, 7]⟩
noncomputable def fi55 : FnI := ⟨(Tryd.f55.body).getD .skip, Tryd.f55.ntmps, Tryd.f55.results.toList, [(5, [12, 13, 14], true, .take 0 (.take 1 (.take 2 (.take 3 (.take 4 (.take 5 (.take 8 (.take 9 (.take 10 (.take 6 (.take 11 (.one 7 (.one 12 (.one 13 (.one 14 (.done))))))))))))))))], [0, 1, 4, 5]⟩
noncomputable def fi77 : FnI := ⟨(Tryd.f77.body).getD .skip, Tryd.f77.ntmps, Tryd.f77.results.toList, [], [0, 1, 15, 16, 14, 6, 4]⟩
noncomputable def fi79 : FnI := ⟨(Tryd.f79.body).getD .skip, Tryd.f79.ntmps, Tryd.f79.results.toList, [(5, [13], true, .take 0 (.take 1 (.take 2 (.take 3 (.take 4 (.take 5 (.take 7 (.take 8 (.take 9 (.take 6 (.one 10 (.one 11 (.take 12 (.one 13 (.done)))))))))))))))], [0, 1, 16, 17, 15, 2, 9, 8, 7, 6]⟩
noncomputable def fi78 : FnI := ⟨(Tryd.f78.body).getD .skip, Tryd.f78.ntmps, Tryd.f78.results.toList, [(7, [15], true, .take 0 (.take 1 (.take 2 (.take 3 (.take 4 (.take 5 (.take 6 (.take 8 (.take 9 (.take 10 (.take 7 (.one 11 (.take 12 (.one 13 (.take 14 (.one 15 (.done))))))))))))))))), (19, [], true, .take 0 (.take 1 (.take 2 (.take 3 (.take 4 (.take 6 (.take 7 (.take 8 (.take 9 (.take 10 (.take 11 (.take 12 (.take 14 (.take 15 (.take 16 (.take 17 (.take 18 (.take 20 (.take 21 (.take 22 (.take 5 (.take 13 (.take 19 (.one 23 (.one 24 (.take 25 (.take 26 (.done)))))))))))))))))))))))))))), (20, [27], true, .take 0 (.take 1 (.take 2 (.take 3 (.take 4 (.take 5 (.take 6 (.take 7 (.take 8 (.take 9 (.take 10 (.take 11 (.take 12 (.take 13 (.take 14 (.take 17 (.take 18 (.take 19 (.take 20 (.take 21 (.take 15 (.take 22 (.one 16 (.one 23 (.take 24 (.one 25 (.take 26 (.one 27 (.done)))))))))))))))))))))))))))))], [0, 1, 24, 25, 7, 8, 9, 10, 12, 78, 79, 11, 2, 13, 15, 14, 6]⟩
noncomputable def fi86 : FnI := ⟨(Tryd.f86.body).getD .skip, Tryd.f86.ntmps, Tryd.f86.results.toList, [], [0, 2]⟩
noncomputable def fi88 : FnI := ⟨(Tryd.f88.body).getD .skip, Tryd.f88.ntmps, Tryd.f88.results.toList, [], [0, 2]⟩
noncomputable def fi87 : FnI := ⟨(Tryd.f87.body).getD .skip, Tryd.f87.ntmps, Tryd.f87.results.toList, [], [0, 2]⟩
noncomputable def fi89 : FnI := ⟨(Tryd.f89.body).getD .skip, Tryd.f89.ntmps, Tryd.f89.results.toList, [], [0, 2]⟩
noncomputable def fi32 : FnI := ⟨(Tryd.f32.body).getD .skip, Tryd.f32.ntmps, Tryd.f32.results.toList, [(3, [], true, .take 0 (.take 1 (.take 2 (.take 3 (.take 4 (.take 5 (.one 6 (.take 7 (.take 8 (.take 9 (.take 10 (.take 11 (.done)))))))))))))], [2, 1, 0, 26, 25, 24, 7, 8, 6]⟩
noncomputable def fi57 : FnI := ⟨(Tryd.f57.body).getD .skip, Tryd.f57.ntmps, Tryd.f57.results.toList, [(5, [14, 15], true, .take 0 (.take 1 (.take 3 (.take 5 (.take 6 (.take 7 (.take 10 (.take 11 (.take 12 (.take 8 (.take 13 (.one 2 (.one 4 (.one 9 (.one 14 (.one 15 (.done))))))))))))))))), (9, [16], true, .take 0 (.take 1 (.take 2 (.take 3 (.take 4 (.take 6 (.take 7 (.take 8 (.take 10 (.take 11 (.take 12 (.take 5 (.take 9 (.one 13 (.one 14 (.take 15 (.one 16 (.done))))))))))))))))))], [0, 1, 6, 32, 33, 7, 4, 5]⟩
noncomputable def fi15 : FnI := ⟨(Tryd.f15.body).getD .skip, Tryd.f15.ntmps, Tryd.f15.results.toList, [], [2, 1, 6, 5, 4, 0, 7]⟩
noncomputable def fi31 : FnI := ⟨(Tryd.f31.body).getD .skip, Tryd.f31.ntmps, Tryd.f31.results.toList, [(8, [9], true, .take 0 (.take 2 (.take 3 (.take 4 (.take 5 (.take 1 (.one 6 (.one 7 (.take 8 (.one 9 (.done))))))))))), (12, [32], true, .take 0 (.take 2 (.take 5 (.take 6 (.take 7 (.take 9 (.take 12 (.take 15 (.take 17 (.take 20 (.take 23 (.take 24 (.take 25 (.take 27 (.take 1 (.take 3 (.take 4 (.take 8 (.take 10 (.take 11 (.take 13 (.take 14 (.take 16 (.take 18 (.take 19 (.take 21 (.take 22 (.one 26 (.take 28 (.one 29 (.one 30 (.take 31 (.one 32 (.done))))))))))))))))))))))))))))))))))], [2, 1, 6, 5, 0, 10, 8, 11, 29, 30, 12, 47, 48, 3, 13, 9]⟩
noncomputable def fnL : T FnI := .node none (.node none (.node none (.node (some fi7) (.node (some fi15) (.node (some fi31) (.node (some fi63) .nil .nil) .nil) (.node (some fi47) (.node (some fi79) .nil .nil) .nil)) (.node (some fi23) (.node (some fi39) (.node (some fi71) .nil .nil) .nil) (.node (some fi55) (.node (some fi87) .nil .nil) .nil))) (.node (some fi11) (.node (some fi19) (.node (some fi35) (.node (some fi67) .nil .nil) .nil) (.node (some fi51) (.node (some fi83) .nil .nil) .nil)) (.node (some fi27) (.node (some fi43) (.node (some fi75) .nil .nil) .nil) .nil))) (.node (some fi5) (.node (some fi9) (.node (some fi17) (.node (some fi33) (.node (some fi65) .nil .nil) .nil) (.node (some fi49) (.node (some fi81) .nil .nil) .nil)) (.node (some fi25) (.node (some fi41) (.node (some fi73) .nil .nil) .nil) (.node (some fi57) (.node (some fi89) .nil .nil) .nil))) (.node (some fi13) (.node (some fi21) (.node (some fi37) (.node (some fi69) .nil .nil) .nil) (.node (some fi53) .nil .nil)) (.node (some fi29) (.node (some fi45) (.node (some fi77) .nil .nil) .nil) (.node (some fi61) .nil .nil))))) (.node none (.node (some fi4) (.node (some fi8) (.node (some fi16) (.node (some fi32) (.node (some fi64) .nil .nil) .nil) (.node (some fi48) .nil .nil)) (.node (some fi24) (.node (some fi40) (.node (some fi72) .nil .nil) .nil) (.node none (.node (some fi88) .nil .nil) .nil))) (.node (some fi12) (.node (some fi20) (.node (some fi36) .nil .nil) (.node (some fi52) (.node (some fi84) .nil .nil) .nil)) (.node (some fi28) (.node (some fi44) (.node (some fi76) .nil .nil) .nil) (.node (some fi60) .nil .nil)))) (.node (some fi6) (.node (some fi10) (.node (some fi18) (.node (some fi34) (.node (some fi66) .nil .nil) .nil) (.node (some fi50) .nil .nil)) (.node (some fi26) (.node none (.node (some fi74) .nil .nil) .nil) .nil)) (.node (some fi14) (.node (some fi22) (.node (some fi38) (.node (some fi70) .nil .nil) .nil) (.node (some fi54) (.node (some fi86) .nil .nil) .nil)) (.node (some fi30) (.node (some fi46) (.node (some fi78) .nil .nil) .nil) (.node (some fi62) .nil .nil)))))
theorem fok4 : FnOk Tryd.prog 4 fi4 := ⟨⟨Tryd.f4, Tryd.func4, rfl, rfl, rfl⟩, Tryd.call4, by kernel_rfl⟩
theorem fok8 : FnOk Tryd.prog 8 fi8 := ⟨⟨Tryd.f8, Tryd.func8, rfl, rfl, rfl⟩, Tryd.call8, by kernel_rfl⟩
theorem fok18 : FnOk Tryd.prog 18 fi18 := ⟨⟨Tryd.f18, Tryd.func18, rfl, rfl, rfl⟩, Tryd.call18, by kernel_rfl⟩
theorem fok35 : FnOk Tryd.prog 35 fi35 := ⟨⟨Tryd.f35, Tryd.func35, rfl, rfl, rfl⟩, Tryd.call35, by kernel_rfl⟩
theorem fok60 : FnOk Tryd.prog 60 fi60 := ⟨⟨Tryd.f60, Tryd.func60, rfl, rfl, rfl⟩, Tryd.call60, by kernel_rfl⟩
theorem fok36 : FnOk Tryd.prog 36 fi36 := ⟨⟨Tryd.f36, Tryd.func36, rfl, rfl, rfl⟩, Tryd.call36, by kernel_rfl⟩
theorem fok61 : FnOk Tryd.prog 61 fi61 := ⟨⟨Tryd.f61, Tryd.func61, rfl, rfl, rfl⟩, Tryd.call61, by kernel_rfl⟩
theorem fok44 : FnOk Tryd.prog 44 fi44 := ⟨⟨Tryd.f44, Tryd.func44, rfl, rfl, rfl⟩, Tryd.call44, by kernel_rfl⟩
theorem fok69 : FnOk Tryd.prog 69 fi69 := ⟨⟨Tryd.f69, Tryd.func69, rfl, rfl, rfl⟩, Tryd.call69, by kernel_rfl⟩
theorem fok37 : FnOk Tryd.prog 37 fi37 := ⟨⟨Tryd.f37, Tryd.func37, rfl, rfl, rfl⟩, Tryd.call37, by kernel_rfl⟩
theorem fok41 : FnOk Tryd.prog 41 fi41 := ⟨⟨Tryd.f41, Tryd.func41, rfl, rfl, rfl⟩, Tryd.call41, by kernel_rfl⟩
theorem fok66 : FnOk Tryd.prog 66 fi66 := ⟨⟨Tryd.f66, Tryd.func66, rfl, rfl, rfl⟩, Tryd.call66, by kernel_rfl⟩
theorem fok38 : FnOk Tryd.prog 38 fi38 := ⟨⟨Tryd.f38, Tryd.func38, rfl, rfl, rfl⟩, Tryd.call38, by kernel_rfl⟩
theorem fok17 : FnOk Tryd.prog 17 fi17 := ⟨⟨Tryd.f17, Tryd.func17, rfl, rfl, rfl⟩, Tryd.call17, by kernel_rfl⟩
theorem fok34 : FnOk Tryd.prog 34 fi34 := ⟨⟨Tryd.f34, Tryd.func34, rfl, rfl, rfl⟩, Tryd.call34, by kernel_rfl⟩
theorem fok33 : FnOk Tryd.prog 33 fi33 := ⟨⟨Tryd.f33, Tryd.func33, rfl, rfl, rfl⟩, Tryd.call33, by kernel_rfl⟩
theorem fok20 : FnOk Tryd.prog 20 fi20 := ⟨⟨Tryd.f20, Tryd.func20, rfl, rfl, rfl⟩, Tryd.call20, by kernel_rfl⟩
theorem fok19 : FnOk Tryd.prog 19 fi19 := ⟨⟨Tryd.f19, Tryd.func19, rfl, rfl, rfl⟩, Tryd.call19, by kernel_rfl⟩
theorem fok39 : FnOk Tryd.prog 39 fi39 := ⟨⟨Tryd.f39, Tryd.func39, rfl, rfl, rfl⟩, Tryd.call39, by kernel_rfl⟩
theorem fok40 : FnOk Tryd.prog 40 fi40 := ⟨⟨Tryd.f40, Tryd.func40, rfl, rfl, rfl⟩, Tryd.call40, by kernel_rfl⟩
theorem fok62 : FnOk Tryd.prog 62 fi62 := ⟨⟨Tryd.f62, Tryd.func62, rfl, rfl, rfl⟩, Tryd.call62, by kernel_rfl⟩
theorem fok81 : FnOk Tryd.prog 81 fi81 := ⟨⟨Tryd.f81, Tryd.func81, rfl, rfl, rfl⟩, Tryd.call81, by kernel_rfl⟩
theorem fok67 : FnOk Tryd.prog 67 fi67 := ⟨⟨Tryd.f67, Tryd.func67, rfl, rfl, rfl⟩, Tryd.call67, by kernel_rfl⟩
theorem fok63 : FnOk Tryd.prog 63 fi63 := ⟨⟨Tryd.f63, Tryd.func63, rfl, rfl, rfl⟩, Tryd.call63, by kernel_rfl⟩
theorem fok43 : FnOk Tryd.prog 43 fi43 := ⟨⟨Tryd.f43, Tryd.func43, rfl, rfl, rfl⟩, Tryd.call43, by kernel_rfl⟩
theorem fok83 : FnOk Tryd.prog 83 fi83 := ⟨⟨Tryd.f83, Tryd.func83, rfl, rfl, rfl⟩, Tryd.call83, by kernel_rfl⟩
theorem fok64 : FnOk Tryd.prog 64 fi64 := ⟨⟨Tryd.f64, Tryd.func64, rfl, rfl, rfl⟩, Tryd.call64, by kernel_rfl⟩
theorem fok45 : FnOk Tryd.prog 45 fi45 := ⟨⟨Tryd.f45, Tryd.func45, rfl, rfl, rfl⟩, Tryd.call45, by kernel_rfl⟩
theorem fok65 : FnOk Tryd.prog 65 fi65 := ⟨⟨Tryd.f65, Tryd.func65, rfl, rfl, rfl⟩, Tryd.call65, by kernel_rfl⟩
theorem fok16 : FnOk Tryd.prog 16 fi16 := ⟨⟨Tryd.f16, Tryd.func16, rfl, rfl, rfl⟩, Tryd.call16, by kernel_rfl⟩
theorem fok21 : FnOk Tryd.prog 21 fi21 := ⟨⟨Tryd.f21, Tryd.func21, rfl, rfl, rfl⟩, Tryd.call21, by kernel_rfl⟩
theorem fok7 : FnOk Tryd.prog 7 fi7 := ⟨⟨Tryd.f7, Tryd.func7, rfl, rfl, rfl⟩, Tryd.call7, by kernel_rfl⟩
theorem fok9 : FnOk Tryd.prog 9 fi9 := ⟨⟨Tryd.f9, Tryd.func9, rfl, rfl, rfl⟩, Tryd.call9, by kernel_rfl⟩
theorem fok22 : FnOk Tryd.prog 22 fi22 := ⟨⟨Tryd.f22, Tryd.func22, rfl, rfl, rfl⟩, Tryd.call22, by kernel_rfl⟩
theorem fok5 : FnOk Tryd.prog 5 fi5 := ⟨⟨Tryd.f5, Tryd.func5, rfl, rfl, rfl⟩, Tryd.call5, by kernel_rfl⟩
theorem fok10 : FnOk Tryd.prog 10 fi10 := ⟨⟨Tryd.f10, Tryd.func10, rfl, rfl, rfl⟩, Tryd.call10, by kernel_rfl⟩
theorem fok24 : FnOk Tryd.prog 24 fi24 := ⟨⟨Tryd.f24, Tryd.func24, rfl, rfl, rfl⟩, Tryd.call24, by kernel_rfl⟩
theorem fok23 : FnOk Tryd.prog 23 fi23 := ⟨⟨Tryd.f23, Tryd.func23, rfl, rfl, rfl⟩, Tryd.call23, by kernel_rfl⟩
theorem fok46 : FnOk Tryd.prog 46 fi46 := ⟨⟨Tryd.f46, Tryd.func46, rfl, rfl, rfl⟩, Tryd.call46, by kernel_rfl⟩
theorem fok12 : FnOk Tryd.prog 12 fi12 := ⟨⟨Tryd.f12, Tryd.func12, rfl, rfl, rfl⟩, Tryd.call12, by kernel_rfl⟩
theorem fok28 : FnOk Tryd.prog 28 fi28 := ⟨⟨Tryd.f28, Tryd.func28, rfl, rfl, rfl⟩, Tryd.call28, by kernel_rfl⟩
theorem fok54 : FnOk Tryd.prog 54 fi54 := ⟨⟨Tryd.f54, Tryd.func54, rfl, rfl, rfl⟩, Tryd.call54, by kernel_rfl⟩
theorem fok27 : FnOk Tryd.prog 27 fi27 := ⟨⟨Tryd.f27, Tryd.func27, rfl, rfl, rfl⟩, Tryd.call27, by kernel_rfl⟩
theorem fok51 : FnOk Tryd.prog 51 fi51 := ⟨⟨Tryd.f51, Tryd.func51, rfl, rfl, rfl⟩, Tryd.call51, by kernel_rfl⟩
theorem fok52 : FnOk Tryd.prog 52 fi52 := ⟨⟨Tryd.f52, Tryd.func52, rfl, rfl, rfl⟩, Tryd.call52, by kernel_rfl⟩
theorem fok73 : FnOk Tryd.prog 73 fi73 := ⟨⟨Tryd.f73, Tryd.func73, rfl, rfl, rfl⟩, Tryd.call73, by kernel_rfl⟩
theorem fok74 : FnOk Tryd.prog 74 fi74 := ⟨⟨Tryd.f74, Tryd.func74, rfl, rfl, rfl⟩, Tryd.call74, by kernel_rfl⟩
theorem fok75 : FnOk Tryd.prog 75 fi75 := ⟨⟨Tryd.f75, Tryd.func75, rfl, rfl, rfl⟩, Tryd.call75, by kernel_rfl⟩
theorem fok76 : FnOk Tryd.prog 76 fi76 := ⟨⟨Tryd.f76, Tryd.func76, rfl, rfl, rfl⟩, Tryd.call76, by kernel_rfl⟩
theorem fok53 : FnOk Tryd.prog 53 fi53 := ⟨⟨Tryd.f53, Tryd.func53, rfl, rfl, rfl⟩, Tryd.call53, by kernel_rfl⟩
theorem fok11 : FnOk Tryd.prog 11 fi11 := ⟨⟨Tryd.f11, Tryd.func11, rfl, rfl, rfl⟩, Tryd.call11, by kernel_rfl⟩
theorem fok25 : FnOk Tryd.prog 25 fi25 := ⟨⟨Tryd.f25, Tryd.func25, rfl, rfl, rfl⟩, Tryd.call25, by kernel_rfl⟩
theorem fok47 : FnOk Tryd.prog 47 fi47 := ⟨⟨Tryd.f47, Tryd.func47, rfl, rfl, rfl⟩, Tryd.call47, by kernel_rfl⟩
theorem fok48 : FnOk Tryd.prog 48 fi48 := ⟨⟨Tryd.f48, Tryd.func48, rfl, rfl, rfl⟩, Tryd.call48, by kernel_rfl⟩
theorem fok49 : FnOk Tryd.prog 49 fi49 := ⟨⟨Tryd.f49, Tryd.func49, rfl, rfl, rfl⟩, Tryd.call49, by kernel_rfl⟩
theorem fok70 : FnOk Tryd.prog 70 fi70 := ⟨⟨Tryd.f70, Tryd.func70, rfl, rfl, rfl⟩, Tryd.call70, by kernel_rfl⟩
theorem fok72 : FnOk Tryd.prog 72 fi72 := ⟨⟨Tryd.f72, Tryd.func72, rfl, rfl, rfl⟩, Tryd.call72, by kernel_rfl⟩
theorem fok71 : FnOk Tryd.prog 71 fi71 := ⟨⟨Tryd.f71, Tryd.func71, rfl, rfl, rfl⟩, Tryd.call71, by kernel_rfl⟩
theorem fok84 : FnOk Tryd.prog 84 fi84 := ⟨⟨Tryd.f84, Tryd.func84, rfl, rfl, rfl⟩, Tryd.call84, by kernel_rfl⟩
theorem fok26 : FnOk Tryd.prog 26 fi26 := ⟨⟨Tryd.f26, Tryd.func26, rfl, rfl, rfl⟩, Tryd.call26, by kernel_rfl⟩
theorem fok50 : FnOk Tryd.prog 50 fi50 := ⟨⟨Tryd.f50, Tryd.func50, rfl, rfl, rfl⟩, Tryd.call50, by kernel_rfl⟩
theorem fok6 : FnOk Tryd.prog 6 fi6 := ⟨⟨Tryd.f6, Tryd.func6, rfl, rfl, rfl⟩, Tryd.call6, by kernel_rfl⟩
theorem fok13 : FnOk Tryd.prog 13 fi13 := ⟨⟨Tryd.f13, Tryd.func13, rfl, rfl, rfl⟩, Tryd.call13, by kernel_rfl⟩
theorem fok14 : FnOk Tryd.prog 14 fi14 := ⟨⟨Tryd.f14, Tryd.func14, rfl, rfl, rfl⟩, Tryd.call14, by kernel_rfl⟩
theorem fok29 : FnOk Tryd.prog 29 fi29 := ⟨⟨Tryd.f29, Tryd.func29, rfl, rfl, rfl⟩, Tryd.call29, by kernel_rfl⟩
theorem fok30 : FnOk Tryd.prog 30 fi30 := ⟨⟨Tryd.f30, Tryd.func30, rfl, rfl, rfl⟩, Tryd.call30, by kernel_rfl⟩
theorem fok55 : FnOk Tryd.prog 55 fi55 := ⟨⟨Tryd.f55, Tryd.func55, rfl, rfl, rfl⟩, Tryd.call55, by kernel_rfl⟩
theorem fok77 : FnOk Tryd.prog 77 fi77 := ⟨⟨Tryd.f77, Tryd.func77, rfl, rfl, rfl⟩, Tryd.call77, by kernel_rfl⟩
theorem fok79 : FnOk Tryd.prog 79 fi79 := ⟨⟨Tryd.f79, Tryd.func79, rfl, rfl, rfl⟩, Tryd.call79, by kernel_rfl⟩
theorem fok78 : FnOk Tryd.prog 78 fi78 := ⟨⟨Tryd.f78, Tryd.func78, rfl, rfl, rfl⟩, Tryd.call78, by kernel_rfl⟩
theorem fok86 : FnOk Tryd.prog 86 fi86 := ⟨⟨Tryd.f86, Tryd.func86, rfl, rfl, rfl⟩, Tryd.call86, by kernel_rfl⟩
theorem fok88 : FnOk Tryd.prog 88 fi88 := ⟨⟨Tryd.f88, Tryd.func88, rfl, rfl, rfl⟩, Tryd.call88, by kernel_rfl⟩
theorem fok87 : FnOk Tryd.prog 87 fi87 := ⟨⟨Tryd.f87, Tryd.func87, rfl, rfl, rfl⟩, Tryd.call87, by kernel_rfl⟩
theorem fok89 : FnOk Tryd.prog 89 fi89 := ⟨⟨Tryd.f89, Tryd.func89, rfl, rfl, rfl⟩, Tryd.call89, by kernel_rfl⟩
theorem fok32 : FnOk Tryd.prog 32 fi32 := ⟨⟨Tryd.f32, Tryd.func32, rfl, rfl, rfl⟩, Tryd.call32, by kernel_rfl⟩
theorem fok57 : FnOk Tryd.prog 57 fi57 := ⟨⟨Tryd.f57, Tryd.func57, rfl, rfl, rfl⟩, Tryd.call57, by kernel_rfl⟩
theorem fok15 : FnOk Tryd.prog 15 fi15 := ⟨⟨Tryd.f15, Tryd.func15, rfl, rfl, rfl⟩, Tryd.call15, by kernel_rfl⟩
theorem fok31 : FnOk Tryd.prog 31 fi31 := ⟨⟨Tryd.f31, Tryd.func31, rfl, rfl, rfl⟩, Tryd.call31, by kernel_rfl⟩
noncomputable def fnl : List (Nat × FnI) := [(4, fi4), (8, fi8), (18, fi18), (35, fi35), (60, fi60), (36, fi36), (61, fi61), (44, fi44), (69, fi69), (37, fi37), (41, fi41), (66, fi66), (38, fi38), (17, fi17), (34, fi34), (33, fi33), (20, fi20), (19, fi19), (39, fi39), (40, fi40), (62, fi62), (81, fi81), (67, fi67), (63, fi63), (43, fi43), (83, fi83), (64, fi64), (45, fi45), (65, fi65), (16, fi16), (21, fi21), (7, fi7), (9, fi9), (22, fi22), (5, fi5), (10, fi10), (24, fi24), (23, fi23), (46, fi46), (12, fi12), (28, fi28), (54, fi54), (27, fi27), (51, fi51), (52, fi52), (73, fi73), (74, fi74), (75, fi75), (76, fi76), (53, fi53), (11, fi11), (25, fi25), (47, fi47), (48, fi48), (49, fi49), (70, fi70), (72, fi72), (71, fi71), (84, fi84), (26, fi26), (50, fi50), (6, fi6), (13, fi13), (14, fi14), (29, fi29), (30, fi30), (55, fi55), (77, fi77), (79, fi79), (78, fi78), (86, fi86), (88, fi88), (87, fi87), (89, fi89), (32, fi32), (57, fi57), (15, fi15), (31, fi31)]
theorem fnL_ok : ∀ i fi, fnL.get i = some fi → FnOk Tryd.prog i fi := fns_get (l := fnl) (by kernel_rfl) (by kernel_rfl) ⟨fok4, fok8, fok18, fok35, fok60, fok36, fok61, fok44, fok69, fok37, fok41, fok66, fok38, fok17, fok34, fok33, fok20, fok19, fok39, fok40, fok62, fok81, fok67, fok63, fok43, fok83, fok64, fok45, fok65, fok16, fok21, fok7, fok9, fok22, fok5, fok10, fok24, fok23, fok46, fok12, fok28, fok54, fok27, fok51, fok52, fok73, fok74, fok75, fok76, fok53, fok11, fok25, fok47, fok48, fok49, fok70, fok72, fok71, fok84, fok26, fok50, fok6, fok13, fok14, fok29, fok30, fok55, fok77, fok79, fok78, fok86, fok88, fok87, fok89, fok32, fok57, fok15, fok31, trivial⟩
noncomputable def pr0 : Pr := ⟨tabL, fnL, (.node none (.node none (.node none .nil (.node none .nil (.node none .nil (.node (some orcMul64) .nil .nil)))) .nil) (.node none (.node none (.node none (.node none .nil (.node none (.node (some orcDiv64) .nil .nil) .nil)) (.node none .nil (.node (some orcMul) .nil .nil))) (.node none (.node none (.node none (.node (some orcCtz) .nil .nil) .nil) .nil) .nil)) (.node none (.node none (.node none .nil (.node none (.node (some orcPow) .nil .nil) .nil)) (.node none (.node (some orcLen64) .nil .nil) .nil)) .nil))), (.node none (.node none .nil (.node none .nil (.node none (.node none .nil (.node none (.node (some extSub) .nil .nil) .nil)) .nil))) (.node none .nil (.node none (.node none .nil (.node none .nil (.node (some extAdd) .nil .nil))) .nil)))⟩
end Go.Proofs.YtipjlnkdfeifkaaDoor

/- XA -/
namespace Go.Proofs.YtipjlnkdfeifkaaDoor
open Go.SX Go.RowKit
set_option maxRecDepth 20000 in
set_option maxHeartbeats 1000000 in
theorem mul64_any (w : World) (x y : Nat) (hx : x < 18446744073709551616) (hy : y < 18446744073709551616) : Calls Tryd.prog 59 #[.int .u64 x, .int .u64 y] w fun e w' => e = .returned (.tuple #[.int .u64 ((x * y / 18446744073709551616 : Nat) : Int), .int .u64 ((x * y % 18446744073709551616 : Nat) : Int)]) ∧ Ext w w' := by
  obtain ⟨bd, bt, bw, hhi⟩ := Lib.mul64_hi x y hx hy
  have ba := Lib.half_mul_le (a := x / 4294967296) (b := y / 4294967296) (by omega) (by omega)
  have bb := Lib.half_mul_le (a := x / 4294967296) (b := y % 4294967296) (by omega) (by omega)
  have bc := Lib.half_mul_le (a := x % 4294967296) (b := y / 4294967296) (by omega) (by omega)
  have ba' : x / 4294967296 * (y / 4294967296) < 18446744073709551616 := by omega
  have bb' : x / 4294967296 * (y % 4294967296) < 18446744073709551616 := by omega
  have bc' : x % 4294967296 * (y / 4294967296) < 18446744073709551616 := by omega
  have bh1 : x / 4294967296 * (y / 4294967296) + (x / 4294967296 * (y % 4294967296) + x % 4294967296 * (y % 4294967296) / 4294967296) / 4294967296 < 18446744073709551616 := by omega
  have bh : x / 4294967296 * (y / 4294967296) + (x / 4294967296 * (y % 4294967296) + x % 4294967296 * (y % 4294967296) / 4294967296) / 4294967296 + ((x / 4294967296 * (y % 4294967296) + x % 4294967296 * (y % 4294967296) / 4294967296) % 4294967296 + x % 4294967296 * (y / 4294967296)) / 4294967296 < 18446744073709551616 := by omega
  refine calls_of tab tabOk Tryd.func59 rfl rfl rfl [] (fun _ => ⟨none, 0⟩) [.c (.int .u64 x), .c (.int .u64 y)] [] (baseA w) 0 rfl rfl (by show 2 ≤ _; decide) (abs_base w) ?_
  (repeat' ((conv => whnf) <;> first | (show bitsK _ _ _ _ _; refine and_half ?_) | (show shiftK _ _ _ _ _; refine shr_U 32 rfl (by decide) ?_) | (show wrapK _ _ _; (first | exact wrap_modU (x * y) (Int.natCast_mul x y).symm ?_ | refine wrap_addU ?_ | refine wrap_mulU ?_ | refine wrap_modU (x * y) (Int.natCast_mul x y).symm ?_)) | (show Wp _ _ _ _ _ _ _; refine Wp.go tabOk rfl ?_) | (show @cmpK _ _ _; (first | refine cmpY ?_ | refine cmpN ?_ | (refine cmp_both ?_ ?_ <;> intro _))) | (show wrapK _ _ _; refine wrapA ?_) | (show leK _ _ _; refine leA ?_) | (show roomK _ _ _; refine roomA ?_) | (show ltK _ _ _; refine ltA ?_) | (show _ ∧ _; refine ⟨?_, ?_⟩) | (show keepK _ _ _ _ _; refine keepA ?_) | refine own_keep ?_ | refine ap_old ?_))
  all_goals (conv => whnf)
  all_goals exact ends_of (fun _ _ h => h) (fun _ => by rw [← hhi]; rfl) rfl
end Go.Proofs.YtipjlnkdfeifkaaDoor

/- XB0 -/
namespace Go.Proofs.YtipjlnkdfeifkaaDoor
open Go.SX Go.RowKit
set_option maxRecDepth 20000 in
theorem div64_low (w : World) (y m : Nat) (hy : y < 18446744073709551616) (hm : 0 < m) : Calls Tryd.prog 80 #[.int .u64 0, .int .u64 y, .int .u64 m] w fun e w' => e = .returned (.tuple #[.int .u64 ((y / m : Nat) : Int), .int .u64 ((y % m : Nat) : Int)]) ∧ Ext w w' := by
  refine calls_of tab tabOk Tryd.func80 rfl rfl rfl [] (fun _ => ⟨none, 0⟩) [.c (.int .u64 0), .c (.int .u64 y), .c (.int .u64 m)] [] (baseA w) 0 rfl rfl (by show 3 ≤ _; decide) (abs_base w) ?_
  (repeat' ((conv => whnf) <;> first | (show @cmpK _ _ _; (first | refine cmp_yes (by omega) ?_ | refine cmp_no (by omega) ?_)) | (show divK _ _ _ _; refine div_U ?_) | (show remK _ _ _; refine rem_U ?_) | (show drawK _ _ _ _ _ _ _ _; refine draw_quiet tabOk mixed (by kernel_rfl) ?_) | (show Wp _ _ _ _ _ _ _; refine Wp.go tabOk rfl ?_) | (show @cmpK _ _ _; (first | refine cmpY ?_ | refine cmpN ?_ | (refine cmp_both ?_ ?_ <;> intro _))) | (show wrapK _ _ _; refine wrapA ?_) | (show leK _ _ _; refine leA ?_) | (show roomK _ _ _; refine roomA ?_) | (show ltK _ _ _; refine ltA ?_) | (show _ ∧ _; refine ⟨?_, ?_⟩) | (show keepK _ _ _ _ _; refine keepA ?_) | refine own_keep ?_ | refine ap_old ?_))
  all_goals (conv => whnf)
  all_goals exact ends_of (fun _ _ h => h) (fun _ => rfl) rfl
end Go.Proofs.YtipjlnkdfeifkaaDoor

/- XNa -/
namespace Go.Proofs.YtipjlnkdfeifkaaDoor.Num
theorem kn_over {y1 y0 a u q r qh rh : Nat} (hq : (y1 * 4294967296 + y0) * q + r = a * 4294967296 + u) (hr : r < y1 * 4294967296 + y0) (hu : u < 4294967296) (ha : a < y1 * 4294967296 + y0) (he : qh * y1 + rh = a)
    (ht : 4294967296 ≤ qh ∨ 4294967296 * rh + u < qh * y0) : q + 1 ≤ qh := by
  rcases ht with h | h
  · have : q < 4294967296 := by
      apply Nat.lt_of_not_le; intro h'
      have h2 := Nat.mul_le_mul_left (y1 * 4294967296 + y0) h'
      have h3 : (y1 * 4294967296 + y0) * 4294967296 ≥ (a + 1) * 4294967296 := Nat.mul_le_mul_right _ ha
      rw [Nat.add_mul] at h3
      omega
    omega
  · apply Nat.lt_of_not_le; intro h'
    have h2 := Nat.mul_le_mul_left (y1 * 4294967296 + y0) h'
    have h3 : (y1 * 4294967296 + y0) * qh = (qh * y1) * 4294967296 + qh * y0 := by rw [Nat.add_mul, Nat.mul_comm qh y1, Nat.mul_comm qh y0, Nat.mul_right_comm]
    have h4 : a * 4294967296 = (qh * y1) * 4294967296 + rh * 4294967296 := by rw [← he, Nat.add_mul]
    omega
theorem kn_stop {y1 y0 a u q r qh rh : Nat} (hq : (y1 * 4294967296 + y0) * q + r = a * 4294967296 + u) (hr : r < y1 * 4294967296 + y0) (he : qh * y1 + rh = a) (hle : q ≤ qh)
    (ht : qh * y0 ≤ 4294967296 * rh + u) : q = qh := by
  apply Nat.le_antisymm hle
  apply Nat.le_of_not_lt; intro h'
  have h2 := Nat.mul_le_mul_left (y1 * 4294967296 + y0) (show q + 1 ≤ qh from h')
  rw [Nat.mul_add, Nat.mul_one] at h2
  have h3 : (y1 * 4294967296 + y0) * qh = (qh * y1) * 4294967296 + qh * y0 := by rw [Nat.add_mul, Nat.mul_comm qh y1, Nat.mul_comm qh y0, Nat.mul_right_comm]
  have h4 : a * 4294967296 = (qh * y1) * 4294967296 + rh * 4294967296 := by rw [← he, Nat.add_mul]
  omega
/-- the first guess: at least the right digit, at most two too great -/
theorem kn_first {y1 y0 a : Nat} (h1 : 2147483648 ≤ y1) (h0 : y0 < 4294967296) (ha : a < y1 * 4294967296 + y0) : a / y1 ≤ 4294967296 + 1 := by
  apply Nat.le_of_lt_succ
  apply (Nat.div_lt_iff_lt_mul (by omega)).2
  have : (4294967296 + 1 + 1) * y1 = 4294967296 * y1 + 2 * y1 := by rw [Nat.add_assoc, Nat.add_mul]
  rw [this, Nat.mul_comm]; omega
theorem kn_least {y1 y0 a u q r : Nat} (h1 : 0 < y1) (hq : (y1 * 4294967296 + y0) * q + r = a * 4294967296 + u) (hu : u < 4294967296) : q ≤ a / y1 := by
  apply (Nat.le_div_iff_mul_le h1).2
  apply Nat.le_of_lt_succ
  apply Nat.lt_of_mul_lt_mul_right (a := 4294967296)
  have e : (y1 * 4294967296 + y0) * q = (q * y1) * 4294967296 + y0 * q := by rw [Nat.add_mul, Nat.mul_comm q y1, Nat.mul_right_comm]
  rw [Nat.succ_mul]; omega
theorem kn_break {y0 qh rh u : Nat} (h0 : y0 < 4294967296) (hq : qh ≤ 4294967296) (hr : 4294967296 ≤ rh) : qh * y0 ≤ 4294967296 * rh + u := by
  have h2 : qh * y0 ≤ 4294967296 * 4294967296 := Nat.mul_le_mul hq (Nat.le_of_lt h0)
  have h3 : 4294967296 * 4294967296 ≤ 4294967296 * rh := Nat.mul_le_mul_left _ hr
  omega
theorem kn_down {y1 a qh rh : Nat} (he : qh * y1 + rh = a) (h : 1 ≤ qh) : (qh - 1) * y1 + (rh + y1) = a := by
  rw [← he]
  obtain ⟨k, rfl⟩ : ∃ k, qh = k + 1 := ⟨qh - 1, by omega⟩
  rw [Nat.add_sub_cancel, Nat.add_mul, Nat.one_mul]; omega
/-- both digits -/
theorem kn_two {y n1 u1 u0 q1 q0 r1 r0 : Nat} (h1 : y * q1 + r1 = n1 * 4294967296 + u1) (h2 : y * q0 + r0 = r1 * 4294967296 + u0) : y * (q1 * 4294967296 + q0) + r0 = n1 * 18446744073709551616 + u1 * 4294967296 + u0 := by
  have : y * (q1 * 4294967296 + q0) = (y * q1) * 4294967296 + y * q0 := by rw [Nat.mul_add, Nat.mul_assoc]
  have h3 : (y * q1 + r1) * 4294967296 = (n1 * 4294967296 + u1) * 4294967296 := by rw [h1]
  rw [Nat.add_mul, Nat.add_mul, Nat.mul_assoc n1] at h3
  rw [show 4294967296 * 4294967296 = 18446744073709551616 from rfl] at h3
  omega
/-- moved to the left by s, and back -/
theorem kn_shift {y n q r s : Nat} (hy : 0 < y) (h : y * 2 ^ s * q + r = n * 2 ^ s) (hr : r < y * 2 ^ s) : q = n / y ∧ r / 2 ^ s = n % y := by
  have hp : 0 < 2 ^ s := Nat.two_pow_pos s
  have hd : 2 ^ s ∣ r := by
    have h1 : 2 ^ s ∣ y * 2 ^ s * q := ⟨y * q, by rw [Nat.mul_comm y, Nat.mul_assoc]⟩
    exact (Nat.dvd_add_right h1).1 ⟨n, by rw [h, Nat.mul_comm]⟩
  obtain ⟨k, rfl⟩ := hd
  rw [Nat.mul_div_cancel_left _ hp]
  have hk : k < y := by
    apply Nat.lt_of_mul_lt_mul_left (a := 2 ^ s); rw [Nat.mul_comm _ y]; exact hr
  have he : y * q + k = n := by
    apply Nat.eq_of_mul_eq_mul_left hp
    rw [Nat.mul_add, Nat.mul_comm _ n, ← h, ← Nat.mul_assoc, Nat.mul_comm _ y]
  constructor
  · rw [← he, Nat.add_comm, Nat.add_mul_div_left _ _ hy, Nat.div_eq_of_lt hk, Nat.zero_add]
  · rw [← he, Nat.mul_add_mod, Nat.mod_eq_of_lt hk]
theorem bitAux_spec : ∀ f x : Nat, x < 2 ^ f → x < 2 ^ Lib.bitLenAux f x ∧ (x ≠ 0 → 2 ^ Lib.bitLenAux f x ≤ 2 * x)
  | 0, x, h => by
    have : x = 0 := by simpa using h
    subst this
    exact ⟨by simp [Lib.bitLenAux], fun h => absurd rfl h⟩
  | f + 1, x, h => by
    unfold Lib.bitLenAux
    by_cases h0 : x = 0
    · rw [if_pos h0]; subst h0; exact ⟨by decide, fun h => absurd rfl h⟩
    · rw [if_neg h0, Nat.add_comm 1, Nat.pow_succ]
      obtain ⟨a, b⟩ := bitAux_spec f (x / 2) (by rw [Nat.pow_succ] at h; omega)
      refine ⟨by omega, fun _ => ?_⟩
      by_cases h1 : x / 2 = 0
      · have : x = 1 := by omega
        subst this
        rw [show (1 : Nat) / 2 = 0 from rfl]
        cases f <;> simp [Lib.bitLenAux]
      · have := b h1; omega
/-- how far a number is moved until its highest bit is 1 -/
theorem lead_spec {y : Nat} (h0 : y ≠ 0) (h : y < 18446744073709551616) : Lib.bitLen y ≤ 64 ∧ 1 ≤ Lib.bitLen y ∧ 9223372036854775808 ≤ y * 2 ^ (64 - Lib.bitLen y) ∧ y * 2 ^ (64 - Lib.bitLen y) < 18446744073709551616 := by
  obtain ⟨a, b⟩ := bitAux_spec 64 y h
  have hle := Lib.bitLen_le y 64 (Nat.le_refl _) h
  change y < 2 ^ Lib.bitLen y at a
  change y ≠ 0 → 2 ^ Lib.bitLen y ≤ 2 * y at b
  have b := b h0
  generalize Lib.bitLen y = k at *
  have e : 2 ^ k * 2 ^ (64 - k) = 18446744073709551616 := by rw [← Nat.pow_add, Nat.add_sub_cancel' hle]
  have hp := Nat.two_pow_pos (64 - k)
  refine ⟨hle, ?_, ?_, ?_⟩
  · apply Nat.one_le_iff_ne_zero.2; intro hk; subst hk; simp at a; exact h0 a
  · have := Nat.mul_le_mul_right (2 ^ (64 - k)) b
    rw [e, Nat.mul_assoc] at this; omega
  · rw [← e]; exact Nat.mul_lt_mul_of_pos_right a hp
/-- two words moved to the left -/
theorem shl_two {h l s : Nat} (hs : s ≤ 64) (hh : h * 2 ^ s < 18446744073709551616) (hl : l < 18446744073709551616) :
    (h * 2 ^ s ||| l / 2 ^ (64 - s)) = h * 2 ^ s + l / 2 ^ (64 - s) ∧ (h * 2 ^ s + l / 2 ^ (64 - s)) * 18446744073709551616 + l * 2 ^ s % 18446744073709551616 = (h * 18446744073709551616 + l) * 2 ^ s := by
  have e : 2 ^ s * 2 ^ (64 - s) = 18446744073709551616 := by rw [← Nat.pow_add, Nat.add_sub_cancel' hs]
  have hp := Nat.two_pow_pos (64 - s)
  have hlt : l / 2 ^ (64 - s) < 2 ^ s := (Nat.div_lt_iff_lt_mul hp).2 (by rw [e]; exact hl)
  refine ⟨?_, ?_⟩
  · have := Nat.two_pow_add_eq_or_of_lt hlt h
    rw [Nat.mul_comm (2 ^ s)] at this; exact this.symm
  · have h2 : l * 2 ^ s / 18446744073709551616 = l / 2 ^ (64 - s) := by
      rw [← e, Nat.mul_comm l, Nat.mul_div_mul_left _ _ (Nat.two_pow_pos s)]
    have h3 := Nat.div_add_mod (l * 2 ^ s) 18446744073709551616
    rw [h2] at h3
    rw [Nat.add_mul, Nat.add_mul, Nat.mul_right_comm h]
    omega
theorem kn_all {h l y s : Nat} (hh : h < y) (hl : l < 18446744073709551616) (hs : s ≤ 64) (k3 : 9223372036854775808 ≤ y * 2 ^ s) (k4 : y * 2 ^ s < 18446744073709551616) :
    ∃ Y H L lo n1 y1 y0 u1 u0 q1 r1 q0 r0 qa ra : Nat, y * 2 ^ s % 18446744073709551616 = Y ∧ h * 2 ^ s % 18446744073709551616 = H ∧ l / 2 ^ (64 - s) = L ∧ l * 2 ^ s % 18446744073709551616 = lo ∧ (H ||| L) = n1 ∧
    L < 18446744073709551616 ∧ lo < 18446744073709551616 ∧ H < 18446744073709551616 ∧ n1 < 18446744073709551616 ∧ Y < 18446744073709551616 ∧ Y / 4294967296 = y1 ∧ Y % 4294967296 = y0 ∧ lo / 4294967296 = u1 ∧ lo % 4294967296 = u0 ∧
    y1 * 4294967296 + y0 = Y ∧ 2147483648 ≤ y1 ∧ y1 < 4294967296 ∧ y0 < 4294967296 ∧ u1 < 4294967296 ∧ u0 < 4294967296 ∧ (y1 * 4294967296 + y0) * q1 + r1 = n1 * 4294967296 + u1 ∧ r1 < y1 * 4294967296 + y0 ∧ n1 < y1 * 4294967296 + y0 ∧
    q1 * Y + r1 = n1 * 4294967296 + u1 ∧ (y1 * 4294967296 + y0) * q0 + r0 = r1 * 4294967296 + u0 ∧ r0 < y1 * 4294967296 + y0 ∧ q1 < 4294967296 ∧ q0 < 4294967296 ∧ n1 / y1 = qa ∧ n1 % y1 = ra ∧ qa * y1 + ra = n1 ∧ ra < y1 ∧ qa ≤ 4294967297 ∧ q1 ≤ qa ∧
    q1 * 4294967296 + q0 = (h * 18446744073709551616 + l) / y ∧ r0 / 2 ^ s = (h * 18446744073709551616 + l) % y := by
  have hp := Nat.two_pow_pos s
  have hH : h * 2 ^ s < 18446744073709551616 := Nat.lt_of_le_of_lt (Nat.mul_le_mul_right _ (Nat.le_of_lt hh)) k4
  obtain ⟨hor, hall⟩ := shl_two hs hH hl
  have hlt : (h * 18446744073709551616 + l) * 2 ^ s < y * 2 ^ s * 18446744073709551616 := by
    rw [Nat.mul_right_comm]; exact Nat.mul_lt_mul_of_pos_right (by omega) hp
  have hfin := fun q r => kn_shift (n := h * 18446744073709551616 + l) (q := q) (r := r) (s := s) (y := y) (by omega)
  have hLs : l / 2 ^ (64 - s) < 18446744073709551616 := Nat.lt_of_le_of_lt (Nat.div_le_self _ _) hl
  have hlos : l * 2 ^ s % 18446744073709551616 < 18446744073709551616 := Nat.mod_lt _ (by decide)
  rw [Nat.mod_eq_of_lt k4, Nat.mod_eq_of_lt hH]
  generalize l / 2 ^ (64 - s) = L at *
  generalize l * 2 ^ s % 18446744073709551616 = lo at *
  generalize h * 2 ^ s = H at *
  generalize y * 2 ^ s = Y at *
  generalize (h * 18446744073709551616 + l) * 2 ^ s = big at *
  generalize (h * 18446744073709551616 + l) / y = QQ at *
  generalize (h * 18446744073709551616 + l) % y = RR at *
  have hn1 : H + L < Y := by omega
  have hYp : 0 < Y := by omega
  have hYe : Y / 4294967296 * 4294967296 + Y % 4294967296 = Y := by rw [Nat.mul_comm]; exact Nat.div_add_mod Y 4294967296
  have hy1 : 2147483648 ≤ Y / 4294967296 := by omega
  have hy2 : Y / 4294967296 < 4294967296 := by omega
  have hu1 : lo / 4294967296 < 4294967296 := by omega
  have hu0 : lo % 4294967296 < 4294967296 := Nat.mod_lt lo (by decide)
  have hy0 : Y % 4294967296 < 4294967296 := Nat.mod_lt Y (by decide)
  have he0 := Nat.div_add_mod ((H + L) * 4294967296 + lo / 4294967296) Y
  have hr0 := Nat.mod_lt ((H + L) * 4294967296 + lo / 4294967296) hYp
  have hq1s : ((H + L) * 4294967296 + lo / 4294967296) / Y < 4294967296 := (Nat.div_lt_iff_lt_mul hYp).2 (by omega)
  generalize ((H + L) * 4294967296 + lo / 4294967296) / Y = q1 at *
  generalize ((H + L) * 4294967296 + lo / 4294967296) % Y = r1 at *
  have he1 := Nat.div_add_mod (r1 * 4294967296 + lo % 4294967296) Y
  have hr2 := Nat.mod_lt (r1 * 4294967296 + lo % 4294967296) hYp
  have hq0s : (r1 * 4294967296 + lo % 4294967296) / Y < 4294967296 := (Nat.div_lt_iff_lt_mul hYp).2 (by omega)
  generalize (r1 * 4294967296 + lo % 4294967296) / Y = q0 at *
  generalize (r1 * 4294967296 + lo % 4294967296) % Y = r0 at *
  have hall2 := kn_two he0 he1
  have hf := hfin (q1 * 4294967296 + q0) r0 (by omega) hr2
  have he : (Y / 4294967296 * 4294967296 + Y % 4294967296) * q1 + r1 = (H + L) * 4294967296 + lo / 4294967296 := by rw [hYe]; exact he0
  have he2 : (Y / 4294967296 * 4294967296 + Y % 4294967296) * q0 + r0 = r1 * 4294967296 + lo % 4294967296 := by rw [hYe]; exact he1
  clear hall hall2 hfin hlt he0 he1
  refine ⟨Y, H, L, lo, H + L, Y / 4294967296, Y % 4294967296, lo / 4294967296, lo % 4294967296, q1, r1, q0, r0, (H + L) / (Y / 4294967296), (H + L) % (Y / 4294967296), rfl, rfl, rfl, rfl, hor, hLs, hlos, hH, Nat.lt_trans hn1 k4, k4, rfl, rfl, rfl, rfl, hYe, hy1, hy2, hy0, hu1, hu0, he, by rw [hYe]; exact hr0, by rw [hYe]; exact hn1, ?_, he2, by rw [hYe]; exact hr2, hq1s, hq0s, rfl, rfl, ?_, Nat.mod_lt _ (by omega), ?_, ?_, hf.1, hf.2⟩
  · rw [hYe] at he; rw [Nat.mul_comm]; exact he
  · rw [Nat.mul_comm]; exact Nat.div_add_mod _ _
  · exact kn_first hy1 hy0 (by rw [hYe]; exact hn1)
  · exact kn_least (by omega) he hu1
end Go.Proofs.YtipjlnkdfeifkaaDoor.Num

/- XNb -/
namespace Go.Proofs.YtipjlnkdfeifkaaDoor
open Go.RowKit
theorem len8_get (b : Int) (h : b.toNat < Lib.len8tab.size) (h0 : 0 ≤ b) : wrap64 ((Lib.len8tab[b.toNat]'h).toNat : Int) = ((Lib.bitLen b.toNat : Nat) : Int) ∧ Lib.bitLen b.toNat ≤ 8 := by
  have hs := h
  rw [Lib.len8tab_size] at hs
  have e1 := Lib.len8_of b h0 (by omega)
  have e2 := Lib.bitLen_le8' b h0 (by omega)
  have e3 : Lib.len8 b = ((Lib.len8tab[b.toNat]'h).toNat : Int) := by
    unfold Lib.len8
    rw [getElem?_pos Lib.len8tab b.toNat h]; rfl
  rw [← e3, e1]
  exact ⟨by unfold wrap64; omega, e2⟩
set_option maxHeartbeats 4000000 in
set_option maxRecDepth 100000 in
theorem len64_core (x : Int) (w : World) (h0 : 0 ≤ x) (h1 : x ≤ 18446744073709551615) : Calls Tryd.prog 42 #[.int .u64 x] w fun e w' => e = .returned (.int .i64 (Lib.bitLen x.toNat)) ∧ w' = w := by
  go_enter Tryd.func42, Tryd.ntmps42
  go_wp2
  all_goals first
    | (exfalso; have e := Lib.len8tab_size; omega)
    | (go_ret; refine ⟨congrArg Ending.returned (congrArg (Value.int IntKind.i64) ?_), rfl⟩; have es := Lib.len8tab_size; first
        | (have l := len8_get (x / 4294967296 / 65536 / 256) (by omega) (by omega)
           rw [l.1]; have l2 := l.2; clear l
           have e : (x / 4294967296 / 65536 / 256).toNat = x.toNat / 72057594037927936 := by omega
           have s := Lib.bitLen_shift56 x.toNat (by omega) (by omega)
           rw [e] at l2 ⊢
           unfold wrap64; omega)
        | (have l := len8_get (x / 4294967296 / 65536) (by omega) (by omega)
           rw [l.1]; have l2 := l.2; clear l
           have e : (x / 4294967296 / 65536).toNat = x.toNat / 281474976710656 := by omega
           have s := Lib.bitLen_shift48 x.toNat (by omega) (by omega)
           rw [e] at l2 ⊢
           unfold wrap64; omega)
        | (have l := len8_get (x / 4294967296 / 256) (by omega) (by omega)
           rw [l.1]; have l2 := l.2; clear l
           have e : (x / 4294967296 / 256).toNat = x.toNat / 1099511627776 := by omega
           have s := Lib.bitLen_shift40 x.toNat (by omega) (by omega)
           rw [e] at l2 ⊢
           unfold wrap64; omega)
        | (have l := len8_get (x / 4294967296) (by omega) (by omega)
           rw [l.1]; have l2 := l.2; clear l
           have e : (x / 4294967296).toNat = x.toNat / 4294967296 := by omega
           have s := Lib.bitLen_shift32 x.toNat (by omega) (by omega)
           rw [e] at l2 ⊢
           unfold wrap64; omega)
        | (have l := len8_get (x / 65536 / 256) (by omega) (by omega)
           rw [l.1]; have l2 := l.2; clear l
           have e : (x / 65536 / 256).toNat = x.toNat / 16777216 := by omega
           have s := Lib.bitLen_shift24 x.toNat (by omega) (by omega)
           rw [e] at l2 ⊢
           unfold wrap64; omega)
        | (have l := len8_get (x / 65536) (by omega) (by omega)
           rw [l.1]; have l2 := l.2; clear l
           have e : (x / 65536).toNat = x.toNat / 65536 := by omega
           have s := Lib.bitLen_shift16 x.toNat (by omega) (by omega)
           rw [e] at l2 ⊢
           unfold wrap64; omega)
        | (have l := len8_get (x / 256) (by omega) (by omega)
           rw [l.1]; have l2 := l.2; clear l
           have e : (x / 256).toNat = x.toNat / 256 := by omega
           have s := Lib.bitLen_shift8 x.toNat (by omega) (by omega)
           rw [e] at l2 ⊢
           unfold wrap64; omega)
        | (have l := len8_get (x) (by omega) (by omega)
           rw [l.1]; have l2 := l.2; clear l
           unfold wrap64; omega))
end Go.Proofs.YtipjlnkdfeifkaaDoor

/- XN -/
namespace Go.Proofs.YtipjlnkdfeifkaaDoor
open Go.SX Go.RowKit
theorem wrap_toU {z : Int} {K : Int → Prop} (y : Nat) (h : z % 18446744073709551616 = y) (hk : K y) : wrapK .u64 z K := wrap_word (by rw [h]; exact hk)
theorem shl_toU {a : Nat} {y : Int} {K : Int → Prop} (k z : Nat) (hy : y = k) (hk : k ≤ 64) (hz : a * 2 ^ k % 18446744073709551616 = z) (h : K z) : shiftK .shl .u64 (a : Int) y K := by
  rw [shiftK_def]
  subst hy
  refine ⟨by omega, z, ?_, h⟩
  have e : min (k : Int).toNat (IntKind.bits .u64) = k := by simp [IntKind.bits]; omega
  rw [e]
  show (z : Int) = IntKind.u64.wrap ((a : Int) * 2 ^ k)
  rw [show (a : Int) * 2 ^ k = ((a * 2 ^ k : Nat) : Int) by simp, wrapN_u64, hz]
theorem shr_toU {a : Nat} {y : Int} {K : Int → Prop} (k z : Nat) (hy : y = k) (hk : k ≤ 64) (hz : a / 2 ^ k = z) (h : K z) : shiftK .shr .u64 (a : Int) y K := shr_U k hy hk (by rw [hz]; exact h)
theorem div_toU {a b : Nat} {K : Int → Prop} (z : Nat) (hz : a / b = z) (hb : 0 < b) (ha : a < 18446744073709551616) (hk : K z) : divK .u64 (a : Int) (b : Int) K := div_U (by rw [hz]; exact hk)
theorem and_toU {a : Nat} {K : Int → Prop} (z : Nat) (hz : a % 4294967296 = z) (ha : a < 18446744073709551616) (hk : K z) : bitsK .and .u64 (a : Int) 4294967295 K := and_half (by rw [hz]; exact hk)
theorem or_toU {a b : Nat} {K : Int → Prop} (z : Nat) (hz : (a ||| b) = z) (ha : a < 18446744073709551616) (hb : b < 18446744073709551616) (hk : K z) : bitsK .or .u64 (a : Int) (b : Int) K := bits_eq ((bitsOf_or a b ha hb).trans (by rw [hz])) hk
theorem len64_any (w : World) (x : Nat) (hx : x < 18446744073709551616) : Calls Tryd.prog 42 #[.int .u64 x] w fun e w' => e = .returned (.int .i64 ((Lib.bitLen x : Nat) : Int)) ∧ Ext w w' :=
  (len64_core x w (by omega) (by omega)).mono fun e w' h => ⟨h.1, by rw [h.2]; exact Ext.refl w⟩
set_option maxRecDepth 20000 in
theorem lead64_any (w : World) (x : Nat) (hx : x < 18446744073709551616) (hb : Lib.bitLen x ≤ 64) : Calls Tryd.prog 74 #[.int .u64 x] w fun e w' => e = .returned (.int .i64 ((64 - Lib.bitLen x : Nat) : Int)) ∧ Ext w w' := by
  refine calls_of tab tabOk Tryd.func74 rfl rfl rfl [] (fun _ => ⟨none, 0⟩) [.c (.int .u64 x)] [] (baseA w) 0 rfl rfl (by show 1 ≤ _; decide) (abs_base w) ?_
  (repeat' ((conv => whnf) <;> first | (show @cmpK _ _ _; (first | refine cmp_yes (by omega) ?_ | refine cmp_no (by omega) ?_)) | (show wrapK _ _ _; refine wrap_i64 (by omega) (by omega) ?_) | (show callK _ 42 _ _ _ _ _; refine call_pure (f := 42) Tryd.call42 (.int .i64 ((Lib.bitLen x : Nat) : Int)) (fun ρ w' _ => len64_any w' x hx) ?_) | (show Wp _ _ _ _ _ _ _; refine Wp.go tabOk rfl ?_) | (show @cmpK _ _ _; (first | refine cmpY ?_ | refine cmpN ?_ | (refine cmp_both ?_ ?_ <;> intro _))) | (show wrapK _ _ _; refine wrapA ?_) | (show leK _ _ _; refine leA ?_) | (show roomK _ _ _; refine roomA ?_) | (show ltK _ _ _; refine ltA ?_) | (show _ ∧ _; refine ⟨?_, ?_⟩) | (show keepK _ _ _ _ _; refine keepA ?_) | refine own_keep ?_ | refine ap_old ?_))
  all_goals (conv => whnf)
  all_goals exact ends_of (fun _ _ h => h) (fun _ => by rw [show ((64 - Lib.bitLen x : Nat) : Int) = 64 - (Lib.bitLen x : Int) by omega]; rfl) rfl
abbrev DvW (w : World) (Q R : Nat) (k : Nat) (env : Env) : Prop := Wp ⟨Tryd.prog, ⟨w, []⟩, Tryd.f80.ntmps, tab⟩ (tailC k (bodyC Tryd.f80)) env [] (baseA w) 0 (retK ⟨Tryd.prog, ⟨w, []⟩, Tryd.f80.ntmps, tab⟩ Tryd.f80.results.toList (fun e w' => e = .returned (.tuple #[.int .u64 (Q : Int), .int .u64 (R : Int)]) ∧ Ext w w'))
set_option maxRecDepth 20000 in
theorem div_D19 (w : World) (Y s u0 r1 q1 q0 r0 Q R : Nat) (hq1 : q1 < 4294967296) (hq0 : q0 < 4294967296) (hs : s ≤ 64) (hr0 : r0 < 18446744073709551616) (he : q0 * Y + r0 = r1 * 4294967296 + u0) (hQ : q1 * 4294967296 + q0 = Q) (hR : r0 / 2 ^ s = R) :
    DvW w Q R 19 [(2, .c (.int .u64 Y)), (8, .c (.int .u64 s)), (14, .c (.int .u64 u0)), (15, .c (.int .u64 q1)), (17, .c (.int .u64 r1)), (18, .c (.int .u64 q0))] := by
  
  (repeat' ((conv => whnf) <;> first | (show @cmpK _ _ _; (first | refine cmp_yes (by omega) ?_ | refine cmp_no (by omega) ?_)) | (show shiftK _ _ _ _ _; refine shr_toU s R rfl hs hR ?_) | (show wrapK _ _ _; (first | refine wrap_isU (q1 * 4294967296) (by omega) (by omega) ?_ | refine wrap_isU Q (by omega) (by omega) ?_ | refine wrap_modU (q0 * Y) (Int.natCast_mul q0 Y).symm ?_ | refine wrap_modU (r1 * 4294967296) (by omega) ?_ | refine wrap_toU r0 (by omega) ?_ | refine wrap_modU (r1 * 4294967296 % 18446744073709551616 + u0) (by omega) ?_)) | (show drawK _ _ _ _ _ _ _ _; refine draw_quiet tabOk mixed (by kernel_rfl) ?_) | (show Wp _ _ _ _ _ _ _; refine Wp.go tabOk rfl ?_) | (show @cmpK _ _ _; (first | refine cmpY ?_ | refine cmpN ?_ | (refine cmp_both ?_ ?_ <;> intro _))) | (show wrapK _ _ _; refine wrapA ?_) | (show leK _ _ _; refine leA ?_) | (show roomK _ _ _; refine roomA ?_) | (show ltK _ _ _; refine ltA ?_) | (show _ ∧ _; refine ⟨?_, ?_⟩) | (show keepK _ _ _ _ _; refine keepA ?_) | refine own_keep ?_ | refine ap_old ?_))
  all_goals (conv => whnf)
  all_goals exact ends_of (B := ⟨w, []⟩) (S := baseA w) (fun _ _ h => h) (fun _ => rfl) rfl
set_option maxRecDepth 20000 in
theorem div_D15 (w : World) (Y s y1 y0 n1 u1 u0 q1 r1 q0 r0 Q R : Nat) (hY : y1 * 4294967296 + y0 = Y) (hy1 : 2147483648 ≤ y1) (hy2 : y1 < 4294967296) (h0 : y0 < 4294967296) (hq1 : q1 < 4294967296) (hs : s ≤ 64) (hu1 : u1 < 4294967296) (hu : u0 < 4294967296)
    (he1 : q1 * Y + r1 = n1 * 4294967296 + u1) (ha : r1 < y1 * 4294967296 + y0) (he : (y1 * 4294967296 + y0) * q0 + r0 = r1 * 4294967296 + u0) (hr : r0 < y1 * 4294967296 + y0) (hq0 : q0 < 4294967296) (hn : n1 < 18446744073709551616) (hQ : q1 * 4294967296 + q0 = Q) (hR : r0 / 2 ^ s = R) :
    DvW w Q R 15 [(2, .c (.int .u64 Y)), (8, .c (.int .u64 s)), (9, .c (.int .u64 y1)), (10, .c (.int .u64 y0)), (11, .c (.int .u64 n1)), (13, .c (.int .u64 u1)), (14, .c (.int .u64 u0)), (15, .c (.int .u64 q1))] := by
  have hYs : y1 * 4294967296 + y0 < 18446744073709551616 := by omega
  obtain ⟨qa, hqa⟩ : ∃ qa, r1 / y1 = qa := ⟨_, rfl⟩
  obtain ⟨ra, hra⟩ : ∃ ra, r1 % y1 = ra := ⟨_, rfl⟩
  have e1 : qa * y1 + ra = r1 := by rw [← hqa, ← hra, Nat.mul_comm]; exact Nat.div_add_mod r1 y1
  have e2 : ra < y1 := by rw [← hra]; exact Nat.mod_lt _ (by omega)
  have e3 : qa ≤ 4294967297 := by rw [← hqa]; exact Num.kn_first hy1 h0 ha
  have e4 : q0 ≤ qa := by rw [← hqa]; exact Num.kn_least (by omega) he hu
  
  (repeat' ((conv => whnf) <;> first | (show @cmpK _ _ _; (first | refine cmp_yes (by omega) ?_ | refine cmp_no (by omega) ?_)) | (show divK _ _ _ _; refine div_toU qa hqa (by omega) (by omega) ?_) | (show wrapK _ _ _; (first | refine wrap_isU (qa * y1) (Int.natCast_mul qa y1).symm (by omega) ?_ | refine wrap_isU ra (by omega) (by omega) ?_ | refine wrap_modU (q1 * Y) (Int.natCast_mul q1 Y).symm ?_ | refine wrap_modU (n1 * 4294967296) (by omega) ?_ | refine wrap_toU r1 (by omega) ?_ | refine wrap_modU (n1 * 4294967296 % 18446744073709551616 + u1) (by omega) ?_)) | (show drawK _ _ _ _ _ _ _ _; refine draw_quiet tabOk mixed (by kernel_rfl) ?_) | (show Wp _ _ _ _ _ _ _; refine Wp.go tabOk rfl ?_) | (show @cmpK _ _ _; (first | refine cmpY ?_ | refine cmpN ?_ | (refine cmp_both ?_ ?_ <;> intro _))) | (show wrapK _ _ _; refine wrapA ?_) | (show leK _ _ _; refine leA ?_) | (show roomK _ _ _; refine roomA ?_) | (show ltK _ _ _; refine ltA ?_) | (show _ ∧ _; refine ⟨?_, ?_⟩) | (show keepK _ _ _ _ _; refine keepA ?_) | refine own_keep ?_ | refine ap_old ?_))
  refine Wp.loop (σ := Nat × Nat) 0 (fun ⟨qh, rh⟩ => [(2, .c (.int .u64 Y)), (8, .c (.int .u64 s)), (9, .c (.int .u64 y1)), (10, .c (.int .u64 y0)), (14, .c (.int .u64 u0)), (15, .c (.int .u64 q1)), (16, .c (.int .u64 rh)), (17, .c (.int .u64 r1)), (18, .c (.int .u64 qh))]) (fun _ => []) (fun _ => baseA w)
    (fun ⟨qh, rh⟩ => q0 ≤ qh ∧ qh * y1 + rh = r1 ∧ qh ≤ 4294967297 ∧ rh < 4294967296) (fun ⟨qh, _⟩ => qh) (qa, ra) [] (by decide) (fun _ => ⟨rfl, rfl⟩) ⟨e4, e1, e3, by omega⟩ ⟨rfl, ⟨rfl, rfl, rfl, rfl, rfl, rfl, rfl, rfl, rfl, trivial⟩, trivial, fun R w' h => h⟩ ?_
  have heY : q0 * Y + r0 = r1 * 4294967296 + u0 := by rw [← hY, Nat.mul_comm]; exact he
  rintro ⟨qh, rh⟩ ⟨h1, h2, h3, h4⟩
  have hm : qh < 4294967296 → qh * y0 < 18446744073709551616 := fun h => Nat.lt_of_le_of_lt (Nat.mul_le_mul (show qh ≤ 4294967295 by omega) (show y0 ≤ 4294967295 by omega)) (by decide)
  rcases (show (4294967296 ≤ qh ∨ (qh < 4294967296 ∧ 4294967296 * rh + u0 < qh * y0)) ∨ (qh < 4294967296 ∧ qh * y0 ≤ 4294967296 * rh + u0) by omega) with ht | ⟨h5, h6⟩
  · have hd := Num.kn_over he hr hu ha h2 (by omega)
    have hk := Num.kn_down h2 (by omega)
    by_cases hb : 4294967296 ≤ rh + y1
    · have hx := Num.kn_stop he hr hk (by omega) (Num.kn_break h0 (by omega) hb)
      subst hx
      rcases ht with ht | ⟨h5, h6⟩
      all_goals
        have hm' := hm
        try have hm' := hm h5
        iterate 6 (refine Wp.go tabOk rfl ?_; (repeat' ((conv => whnf) <;> first | (show @cmpK _ _ _; (first | refine cmp_yes (by omega) ?_ | refine cmp_no (by omega) ?_)) | (show wrapK _ _ _; (first | refine wrap_isU (qh - 1) (by omega) (by omega) ?_ | refine wrap_isU (rh + y1) (by omega) (by omega) ?_ | refine wrap_isU (qh * y0) (Int.natCast_mul qh y0).symm (by omega) ?_ | refine wrap_isU (4294967296 * rh) (by omega) (by omega) ?_ | refine wrap_addU ?_)) | (show drawK _ _ _ _ _ _ _ _; refine draw_quiet tabOk mixed (by kernel_rfl) ?_) | (show @cmpK _ _ _; (first | refine cmpY ?_ | refine cmpN ?_ | (refine cmp_both ?_ ?_ <;> intro _))) | (show wrapK _ _ _; refine wrapA ?_) | (show leK _ _ _; refine leA ?_) | (show roomK _ _ _; refine roomA ?_) | (show ltK _ _ _; refine ltA ?_) | (show _ ∧ _; refine ⟨?_, ?_⟩) | (show keepK _ _ _ _ _; refine keepA ?_) | refine own_keep ?_ | refine ap_old ?_)))
        all_goals (conv => whnf)
        all_goals exact Wp.into 0 [] (div_D19 w Y s u0 r1 q1 _ r0 Q R hq1 hq0 hs (by omega) heY hQ hR) (by decide) ⟨rfl, rfl⟩ ⟨rfl, ⟨rfl, rfl, rfl, rfl, rfl, rfl, trivial⟩, trivial, fun R w' h => h⟩
    · rcases ht with ht | ⟨h5, h6⟩
      all_goals
        have hm' := hm
        try have hm' := hm h5
        (repeat' ((conv => whnf) <;> first | (show @cmpK _ _ _; (first | refine cmp_yes (by omega) ?_ | refine cmp_no (by omega) ?_)) | (show wrapK _ _ _; (first | refine wrap_isU (qh - 1) (by omega) (by omega) ?_ | refine wrap_isU (rh + y1) (by omega) (by omega) ?_ | refine wrap_isU (qh * y0) (Int.natCast_mul qh y0).symm (by omega) ?_ | refine wrap_isU (4294967296 * rh) (by omega) (by omega) ?_ | refine wrap_addU ?_)) | (show drawK _ _ _ _ _ _ _ _; refine draw_quiet tabOk mixed (by kernel_rfl) ?_) | (show Wp _ _ _ _ _ _ _; refine Wp.go tabOk rfl ?_) | (show @cmpK _ _ _; (first | refine cmpY ?_ | refine cmpN ?_ | (refine cmp_both ?_ ?_ <;> intro _))) | (show wrapK _ _ _; refine wrapA ?_) | (show leK _ _ _; refine leA ?_) | (show roomK _ _ _; refine roomA ?_) | (show ltK _ _ _; refine ltA ?_) | (show _ ∧ _; refine ⟨?_, ?_⟩) | (show keepK _ _ _ _ _; refine keepA ?_) | refine own_keep ?_ | refine ap_old ?_))
        all_goals (conv => whnf)
        all_goals exact ⟨(qh - 1, rh + y1), [], ⟨by omega, hk, by omega, by omega⟩, by show qh - 1 < qh; omega, rfl, ⟨rfl, rfl, rfl, rfl, rfl, rfl, rfl, rfl, rfl, trivial⟩, trivial, fun _ _ h => h⟩
  · have hm' := hm h5
    have hx := (Num.kn_stop he hr h2 h1 h6).symm
    subst hx
    iterate 2 (refine Wp.go tabOk rfl ?_; (repeat' ((conv => whnf) <;> first | (show @cmpK _ _ _; (first | refine cmp_yes (by omega) ?_ | refine cmp_no (by omega) ?_)) | (show wrapK _ _ _; (first | refine wrap_isU (qh - 1) (by omega) (by omega) ?_ | refine wrap_isU (rh + y1) (by omega) (by omega) ?_ | refine wrap_isU (qh * y0) (Int.natCast_mul qh y0).symm (by omega) ?_ | refine wrap_isU (4294967296 * rh) (by omega) (by omega) ?_ | refine wrap_addU ?_)) | (show drawK _ _ _ _ _ _ _ _; refine draw_quiet tabOk mixed (by kernel_rfl) ?_) | (show @cmpK _ _ _; (first | refine cmpY ?_ | refine cmpN ?_ | (refine cmp_both ?_ ?_ <;> intro _))) | (show wrapK _ _ _; refine wrapA ?_) | (show leK _ _ _; refine leA ?_) | (show roomK _ _ _; refine roomA ?_) | (show ltK _ _ _; refine ltA ?_) | (show _ ∧ _; refine ⟨?_, ?_⟩) | (show keepK _ _ _ _ _; refine keepA ?_) | refine own_keep ?_ | refine ap_old ?_)))
    all_goals (conv => whnf)
    all_goals exact Wp.into 0 [] (div_D19 w Y s u0 r1 q1 _ r0 Q R hq1 hq0 hs (by omega) heY hQ hR) (by decide) ⟨rfl, rfl⟩ ⟨rfl, ⟨rfl, rfl, rfl, rfl, rfl, rfl, trivial⟩, trivial, fun R w' h => h⟩
set_option maxRecDepth 20000 in
set_option maxHeartbeats 1000000 in
theorem div64_any (w : World) (h l y : Nat) (hh : h < y) (hl : l < 18446744073709551616) (hy : y < 18446744073709551616) : Calls Tryd.prog 80 #[.int .u64 h, .int .u64 l, .int .u64 y] w fun e w' => e = .returned (.tuple #[.int .u64 (((h * 18446744073709551616 + l) / y : Nat) : Int), .int .u64 (((h * 18446744073709551616 + l) % y : Nat) : Int)]) ∧ Ext w w' := by
  by_cases hz : h = 0
  · subst hz
    rw [Nat.zero_mul, Nat.zero_add]
    exact div64_low w l y hl (by omega)
  obtain ⟨k1, k2, k3, k4⟩ := Num.lead_spec (show y ≠ 0 by omega) hy
  have hlead := fun w' => lead64_any w' y hy k1
  generalize 64 - Lib.bitLen y = s at hlead k3 k4
  have hs : s ≤ 64 := by
    apply Nat.le_of_not_lt; intro h'
    have := Nat.pow_le_pow_right (show 0 < 2 by omega) (show 64 ≤ s by omega)
    have := Nat.mul_le_mul (show 1 ≤ y by omega) this
    omega
  obtain ⟨Y, H, L, lo, n1, y1, y0, u1, u0, q1, r1, q0, r0, qa, ra, hYm, hHm, hL, hlo, hor, hLs, hlos, hHs, hn1s, hYs, hy1, hy0, hu1, hu0, hYe, g1, g2, h0, hu, hu', he, hr, ha, he1', he2, hr2, hq1s, hq0s, hqa, hra, e1, e2, e3, e4, hQ, hR⟩ := Num.kn_all hh hl hs k3 k4
  rw [← hQ, ← hR]
  clear k1 k2 k3 k4
  refine calls_of tab tabOk Tryd.func80 rfl rfl rfl [] (fun _ => ⟨none, 0⟩) [.c (.int .u64 h), .c (.int .u64 l), .c (.int .u64 y)] [] (baseA w) 0 rfl rfl (by show 3 ≤ _; decide) (abs_base w) ?_
  (repeat' ((conv => whnf) <;> first | (show @cmpK _ _ _; (first | refine cmp_yes (by omega) ?_ | refine cmp_no (by omega) ?_)) | (show callK _ 74 _ _ _ _ _; refine call_pure (f := 74) Tryd.call74 (.int .i64 (s : Int)) (fun ρ w' _ => hlead w') ?_) | (show shiftK _ _ _ _ _; (first | refine shl_toU s Y rfl hs hYm ?_ | refine shr_toU 32 y1 rfl (by decide) hy1 ?_ | refine shl_toU s H rfl hs hHm ?_ | refine shr_toU (64 - s) L (by omega) (by omega) hL ?_ | refine shl_toU s lo rfl hs hlo ?_ | refine shr_toU 32 u1 rfl (by decide) hu1 ?_)) | (show bitsK _ _ _ _ _; (first | refine and_toU y0 hy0 (by omega) ?_ | refine and_toU u0 hu0 (by omega) ?_ | refine or_toU n1 hor (by omega) (by omega) ?_)) | (show divK _ _ _ _; refine div_toU qa hqa (by omega) (by omega) ?_) | (show wrapK _ _ _; (first | refine wrap_isU s (by omega) (by omega) ?_ | refine wrap_isU (64 - s) (by omega) (by omega) ?_ | refine wrap_isU (qa * y1) (Int.natCast_mul qa y1).symm (by omega) ?_ | refine wrap_isU ra (by omega) (by omega) ?_)) | (show drawK _ _ _ _ _ _ _ _; refine draw_quiet tabOk mixed (by kernel_rfl) ?_) | (show Wp _ _ _ _ _ _ _; refine Wp.go tabOk rfl ?_) | (show @cmpK _ _ _; (first | refine cmpY ?_ | refine cmpN ?_ | (refine cmp_both ?_ ?_ <;> intro _))) | (show wrapK _ _ _; refine wrapA ?_) | (show leK _ _ _; refine leA ?_) | (show roomK _ _ _; refine roomA ?_) | (show ltK _ _ _; refine ltA ?_) | (show _ ∧ _; refine ⟨?_, ?_⟩) | (show keepK _ _ _ _ _; refine keepA ?_) | refine own_keep ?_ | refine ap_old ?_))
  refine Wp.loop (σ := Nat × Nat) 0 (fun ⟨qh, rh⟩ => [(2, .c (.int .u64 Y)), (8, .c (.int .u64 s)), (9, .c (.int .u64 y1)), (10, .c (.int .u64 y0)), (11, .c (.int .u64 n1)), (13, .c (.int .u64 u1)), (14, .c (.int .u64 u0)), (15, .c (.int .u64 qh)), (16, .c (.int .u64 rh))]) (fun _ => []) (fun _ => baseA w)
    (fun ⟨qh, rh⟩ => q1 ≤ qh ∧ qh * y1 + rh = n1 ∧ qh ≤ 4294967297 ∧ rh < 4294967296) (fun ⟨qh, _⟩ => qh) (qa, ra) [] (by decide) (fun _ => ⟨rfl, rfl⟩) ⟨e4, e1, e3, by omega⟩ ⟨rfl, ⟨rfl, rfl, rfl, rfl, rfl, rfl, rfl, rfl, rfl, trivial⟩, trivial, fun R w' h => h⟩ ?_
  rintro ⟨qh, rh⟩ ⟨h1, h2, h3, h4⟩
  have hm : qh < 4294967296 → qh * y0 < 18446744073709551616 := fun h => Nat.lt_of_le_of_lt (Nat.mul_le_mul (show qh ≤ 4294967295 by omega) (show y0 ≤ 4294967295 by omega)) (by decide)
  rcases (show (4294967296 ≤ qh ∨ (qh < 4294967296 ∧ 4294967296 * rh + u1 < qh * y0)) ∨ (qh < 4294967296 ∧ qh * y0 ≤ 4294967296 * rh + u1) by omega) with ht | ⟨h5, h6⟩
  · have hd := Num.kn_over he hr hu ha h2 (by omega)
    have hk := Num.kn_down h2 (by omega)
    by_cases hb : 4294967296 ≤ rh + y1
    · have hx := Num.kn_stop he hr hk (by omega) (Num.kn_break h0 (by omega) hb)
      subst hx
      rcases ht with ht | ⟨h5, h6⟩
      all_goals
        have hm' := hm
        try have hm' := hm h5
        iterate 6 (refine Wp.go tabOk rfl ?_; (repeat' ((conv => whnf) <;> first | (show @cmpK _ _ _; (first | refine cmp_yes (by omega) ?_ | refine cmp_no (by omega) ?_)) | (show wrapK _ _ _; (first | refine wrap_isU (qh - 1) (by omega) (by omega) ?_ | refine wrap_isU (rh + y1) (by omega) (by omega) ?_ | refine wrap_isU (qh * y0) (Int.natCast_mul qh y0).symm (by omega) ?_ | refine wrap_isU (4294967296 * rh) (by omega) (by omega) ?_ | refine wrap_addU ?_)) | (show drawK _ _ _ _ _ _ _ _; refine draw_quiet tabOk mixed (by kernel_rfl) ?_) | (show @cmpK _ _ _; (first | refine cmpY ?_ | refine cmpN ?_ | (refine cmp_both ?_ ?_ <;> intro _))) | (show wrapK _ _ _; refine wrapA ?_) | (show leK _ _ _; refine leA ?_) | (show roomK _ _ _; refine roomA ?_) | (show ltK _ _ _; refine ltA ?_) | (show _ ∧ _; refine ⟨?_, ?_⟩) | (show keepK _ _ _ _ _; refine keepA ?_) | refine own_keep ?_ | refine ap_old ?_)))
        all_goals (conv => whnf)
        all_goals exact Wp.into 0 [] (div_D15 w Y s y1 y0 n1 u1 u0 _ r1 q0 r0 _ _ hYe g1 g2 h0 (by omega) hs hu hu' he1' hr he2 hr2 hq0s hn1s rfl rfl) (by decide) ⟨rfl, rfl⟩ ⟨rfl, ⟨rfl, rfl, rfl, rfl, rfl, rfl, rfl, rfl, trivial⟩, trivial, fun R w' h => h⟩
    · rcases ht with ht | ⟨h5, h6⟩
      all_goals
        have hm' := hm
        try have hm' := hm h5
        (repeat' ((conv => whnf) <;> first | (show @cmpK _ _ _; (first | refine cmp_yes (by omega) ?_ | refine cmp_no (by omega) ?_)) | (show wrapK _ _ _; (first | refine wrap_isU (qh - 1) (by omega) (by omega) ?_ | refine wrap_isU (rh + y1) (by omega) (by omega) ?_ | refine wrap_isU (qh * y0) (Int.natCast_mul qh y0).symm (by omega) ?_ | refine wrap_isU (4294967296 * rh) (by omega) (by omega) ?_ | refine wrap_addU ?_)) | (show drawK _ _ _ _ _ _ _ _; refine draw_quiet tabOk mixed (by kernel_rfl) ?_) | (show Wp _ _ _ _ _ _ _; refine Wp.go tabOk rfl ?_) | (show @cmpK _ _ _; (first | refine cmpY ?_ | refine cmpN ?_ | (refine cmp_both ?_ ?_ <;> intro _))) | (show wrapK _ _ _; refine wrapA ?_) | (show leK _ _ _; refine leA ?_) | (show roomK _ _ _; refine roomA ?_) | (show ltK _ _ _; refine ltA ?_) | (show _ ∧ _; refine ⟨?_, ?_⟩) | (show keepK _ _ _ _ _; refine keepA ?_) | refine own_keep ?_ | refine ap_old ?_))
        all_goals (conv => whnf)
        all_goals exact ⟨(qh - 1, rh + y1), [], ⟨by omega, hk, by omega, by omega⟩, by show qh - 1 < qh; omega, rfl, ⟨rfl, rfl, rfl, rfl, rfl, rfl, rfl, rfl, rfl, trivial⟩, trivial, fun _ _ h => h⟩
  · have hm' := hm h5
    have hx := (Num.kn_stop he hr h2 h1 h6).symm
    subst hx
    iterate 2 (refine Wp.go tabOk rfl ?_; (repeat' ((conv => whnf) <;> first | (show @cmpK _ _ _; (first | refine cmp_yes (by omega) ?_ | refine cmp_no (by omega) ?_)) | (show wrapK _ _ _; (first | refine wrap_isU (qh - 1) (by omega) (by omega) ?_ | refine wrap_isU (rh + y1) (by omega) (by omega) ?_ | refine wrap_isU (qh * y0) (Int.natCast_mul qh y0).symm (by omega) ?_ | refine wrap_isU (4294967296 * rh) (by omega) (by omega) ?_ | refine wrap_addU ?_)) | (show drawK _ _ _ _ _ _ _ _; refine draw_quiet tabOk mixed (by kernel_rfl) ?_) | (show @cmpK _ _ _; (first | refine cmpY ?_ | refine cmpN ?_ | (refine cmp_both ?_ ?_ <;> intro _))) | (show wrapK _ _ _; refine wrapA ?_) | (show leK _ _ _; refine leA ?_) | (show roomK _ _ _; refine roomA ?_) | (show ltK _ _ _; refine ltA ?_) | (show _ ∧ _; refine ⟨?_, ?_⟩) | (show keepK _ _ _ _ _; refine keepA ?_) | refine own_keep ?_ | refine ap_old ?_)))
    all_goals (conv => whnf)
    all_goals exact Wp.into 0 [] (div_D15 w Y s y1 y0 n1 u1 u0 _ r1 q0 r0 _ _ hYe g1 g2 h0 (by omega) hs hu hu' he1' hr he2 hr2 hq0s hn1s rfl rfl) (by decide) ⟨rfl, rfl⟩ ⟨rfl, ⟨rfl, rfl, rfl, rfl, rfl, rfl, rfl, rfl, trivial⟩, trivial, fun R w' h => h⟩
end Go.Proofs.YtipjlnkdfeifkaaDoor

/- XO -/
namespace Go.Proofs.YtipjlnkdfeifkaaDoor
open Go.SX Go.RowKit
set_option maxRecDepth 20000 in
theorem mulW_any (w : World) (a b m : Nat) (ha : a < 18446744073709551616) (hb : b < 18446744073709551616) (hm : 0 < m) (hm2 : m < 18446744073709551616) : Calls Tryd.prog 56 #[.int .u64 a, .int .u64 b, .int .u64 m] w fun e w' => e = .returned (.int .u64 ((a * b % m : Nat) : Int)) ∧ Ext w w' := by
  have h1 := Nat.mod_lt a hm
  have h2 := Nat.mod_lt b hm
  have hmul := fun w' => mul64_any w' (a % m) (b % m) (by omega) (by omega)
  have h3 : (a % m) * (b % m) < m * 18446744073709551616 := by
    have := Nat.mul_lt_mul_of_lt_of_le h1 (Nat.le_of_lt h2) hm
    exact Nat.lt_of_lt_of_le this (Nat.mul_le_mul_left m (Nat.le_of_lt hm2))
  have e0 : (a % m) * (b % m) % m = a * b % m := by rw [← Nat.mul_mod]
  generalize (a % m) * (b % m) = p at *
  have hdiv := fun w' => div64_any w' (p / 18446744073709551616) (p % 18446744073709551616) m ((Nat.div_lt_iff_lt_mul (by decide)).2 h3) (Nat.mod_lt p (by decide)) hm2
  have e1 : p / 18446744073709551616 * 18446744073709551616 + p % 18446744073709551616 = p := by rw [Nat.mul_comm]; exact Nat.div_add_mod p 18446744073709551616
  rw [e1, e0] at hdiv
  refine calls_of tab tabOk Tryd.func56 rfl rfl rfl [] (fun _ => ⟨none, 0⟩) [.c (.int .u64 a), .c (.int .u64 b), .c (.int .u64 m)] [] (baseA w) 0 rfl rfl (by show 3 ≤ _; decide) (abs_base w) ?_
  (repeat' ((conv => whnf) <;> first | (show @cmpK _ _ _; (first | refine cmp_yes (by omega) ?_ | refine cmp_no (by omega) ?_)) | (show remK _ _ _; refine rem_U ?_) | (show callQ _ 59 _ _ _ _ _; refine callQ_of Tryd.call59 (.tuple #[.int .u64 ((p / 18446744073709551616 : Nat) : Int), .int .u64 ((p % 18446744073709551616 : Nat) : Int)]) (fun ρ w' _ => hmul w') ?_) | (show callK _ 80 _ _ _ _ _; refine call_pure (f := 80) Tryd.call80 (.tuple #[.int .u64 ((p / m : Nat) : Int), .int .u64 ((a * b % m : Nat) : Int)]) (fun ρ w' _ => hdiv w') ?_) | (show drawK _ _ _ _ _ _ _ _; refine draw_quiet tabOk mixed (by kernel_rfl) ?_) | (show Wp _ _ _ _ _ _ _; refine Wp.go tabOk rfl ?_) | (show @cmpK _ _ _; (first | refine cmpY ?_ | refine cmpN ?_ | (refine cmp_both ?_ ?_ <;> intro _))) | (show wrapK _ _ _; refine wrapA ?_) | (show leK _ _ _; refine leA ?_) | (show roomK _ _ _; refine roomA ?_) | (show ltK _ _ _; refine ltA ?_) | (show _ ∧ _; refine ⟨?_, ?_⟩) | (show keepK _ _ _ _ _; refine keepA ?_) | refine own_keep ?_ | refine ap_old ?_))
  all_goals (conv => whnf)
  all_goals exact ends_of (fun _ _ h => h) (fun _ => rfl) rfl
theorem powW_step (x a n m : Nat) : x * a ^ n % m = (x * a ^ (n % 2)) * (a * a % m) ^ (n / 2) % m := by
  have e : (x * a ^ (n % 2)) * (a * a) ^ (n / 2) = x * a ^ n := by
    rw [← Nat.pow_two, ← Nat.pow_mul, Nat.mul_assoc, ← Nat.pow_add, Nat.mod_add_div]
  rw [← e, Nat.mul_mod _ ((a * a) ^ (n / 2)), Nat.pow_mod, ← Nat.mul_mod]
set_option maxRecDepth 20000 in
theorem powW_any (w : World) (a n m : Nat) (ha : a < 18446744073709551616) (hn : n < 18446744073709551616) (hm : 0 < m) (hm2 : m < 18446744073709551616) : Calls Tryd.prog 82 #[.int .u64 a, .int .u64 n, .int .u64 m] w fun e w' => e = .returned (.int .u64 ((a ^ n % m : Nat) : Int)) ∧ Ext w w' := by
  refine calls_of tab tabOk Tryd.func82 rfl rfl rfl [] (fun _ => ⟨none, 0⟩) [.c (.int .u64 a), .c (.int .u64 n), .c (.int .u64 m)] [] (baseA w) 0 rfl rfl (by show 3 ≤ _; decide) (abs_base w) ?_
  (repeat' ((conv => whnf) <;> first | (show @cmpK _ _ _; (first | refine cmp_yes (by omega) ?_ | refine cmp_no (by omega) ?_)) | (show remK _ _ _; refine rem_U (a := 1) ?_) | (show Wp _ _ _ _ _ _ _; refine Wp.go tabOk rfl ?_) | (show @cmpK _ _ _; (first | refine cmpY ?_ | refine cmpN ?_ | (refine cmp_both ?_ ?_ <;> intro _))) | (show wrapK _ _ _; refine wrapA ?_) | (show leK _ _ _; refine leA ?_) | (show roomK _ _ _; refine roomA ?_) | (show ltK _ _ _; refine ltA ?_) | (show _ ∧ _; refine ⟨?_, ?_⟩) | (show keepK _ _ _ _ _; refine keepA ?_) | refine own_keep ?_ | refine ap_old ?_))
  refine Wp.loop (σ := Nat × Nat × Nat) 3 (fun ⟨x, b, k⟩ => [(0, .c (.int .u64 b)), (1, .c (.int .u64 k)), (2, .c (.int .u64 m)), (7, .c (.int .u64 x))]) (fun _ => []) (fun _ => baseA w)
    (fun ⟨x, b, k⟩ => x < m ∧ b < 18446744073709551616 ∧ k < 18446744073709551616 ∧ x * b ^ k % m = a ^ n % m) (fun q => q.2.2) (1 % m, a, n) [] (by decide) (fun _ => ⟨rfl, rfl⟩) ⟨Nat.mod_lt _ hm, ha, hn, by rw [Nat.mod_mul_mod, Nat.one_mul]⟩ ⟨rfl, ⟨rfl, rfl, rfl, rfl, trivial⟩, trivial, fun R w' h => h⟩ ?_
  rintro ⟨x, b, k⟩ ⟨hx, hb, hk, he⟩
  by_cases h0 : k = 0
  · subst h0
    rw [Nat.pow_zero, Nat.mul_one, Nat.mod_eq_of_lt hx] at he
    subst he
    (repeat' ((conv => whnf) <;> first | (show @cmpK _ _ _; (first | refine cmp_yes (by omega) ?_ | refine cmp_no (by omega) ?_)) | (show Wp _ _ _ _ _ _ _; refine Wp.go tabOk rfl ?_) | (show @cmpK _ _ _; (first | refine cmpY ?_ | refine cmpN ?_ | (refine cmp_both ?_ ?_ <;> intro _))) | (show wrapK _ _ _; refine wrapA ?_) | (show leK _ _ _; refine leA ?_) | (show roomK _ _ _; refine roomA ?_) | (show ltK _ _ _; refine ltA ?_) | (show _ ∧ _; refine ⟨?_, ?_⟩) | (show keepK _ _ _ _ _; refine keepA ?_) | refine own_keep ?_ | refine ap_old ?_))
    all_goals (conv => whnf)
    all_goals exact ends_of (B := ⟨w, []⟩) (S := baseA w) (fun _ _ h => h) (fun _ => rfl) rfl
  · have hstep := powW_step x b k m
    rw [he] at hstep
    have hbb := Nat.mod_lt (b * b) hm
    have hxb := Nat.mod_lt (x * b) hm
    rcases (show k % 2 = 0 ∨ k % 2 = 1 by omega) with e | e
    · rw [e, Nat.pow_zero, Nat.mul_one] at hstep
      (repeat' ((conv => whnf) <;> first | (show bitsK _ _ _ _ _; refine and_one ?_) | (show @cmpK _ _ _; (first | refine cmp_yes (by omega) ?_ | refine cmp_no (by omega) ?_)) | (show shiftK _ _ _ _ _; refine shr_U 1 rfl (by decide) ?_) | (show callK _ 56 _ _ _ _ _; refine call_pure (f := 56) Tryd.call56 (.int .u64 ((b * b % m : Nat) : Int)) (fun ρ w' _ => mulW_any w' b b m hb hb hm hm2) ?_) | (show Wp _ _ _ _ _ _ _; refine Wp.go tabOk rfl ?_) | (show @cmpK _ _ _; (first | refine cmpY ?_ | refine cmpN ?_ | (refine cmp_both ?_ ?_ <;> intro _))) | (show wrapK _ _ _; refine wrapA ?_) | (show leK _ _ _; refine leA ?_) | (show roomK _ _ _; refine roomA ?_) | (show ltK _ _ _; refine ltA ?_) | (show _ ∧ _; refine ⟨?_, ?_⟩) | (show keepK _ _ _ _ _; refine keepA ?_) | refine own_keep ?_ | refine ap_old ?_))
      all_goals (conv => whnf)
      all_goals exact ⟨(x, b * b % m, k / 2), [], ⟨hx, by show b * b % m < _; omega, by show k / 2 < _; omega, hstep.symm⟩, by show k / 2 < k; omega, rfl, ⟨rfl, rfl, rfl, rfl, trivial⟩, trivial, fun _ _ h => h⟩
    · rw [e, Nat.pow_one] at hstep
      (repeat' ((conv => whnf) <;> first | (show bitsK _ _ _ _ _; refine and_one ?_) | (show @cmpK _ _ _; (first | refine cmp_yes (by omega) ?_ | refine cmp_no (by omega) ?_)) | (show shiftK _ _ _ _ _; refine shr_U 1 rfl (by decide) ?_) | (show callK _ 56 [.c (.int .u64 b), .c (.int .u64 b), .c (.int .u64 m)] _ _ _ _; refine call_pure (f := 56) Tryd.call56 (.int .u64 ((b * b % m : Nat) : Int)) (fun ρ w' _ => mulW_any w' b b m hb hb hm hm2) ?_) | (show callK _ 56 [.c (.int .u64 x), .c (.int .u64 b), .c (.int .u64 m)] _ _ _ _; refine call_pure (f := 56) Tryd.call56 (.int .u64 ((x * b % m : Nat) : Int)) (fun ρ w' _ => mulW_any w' x b m (by omega) hb hm hm2) ?_) | (show Wp _ _ _ _ _ _ _; refine Wp.go tabOk rfl ?_) | (show @cmpK _ _ _; (first | refine cmpY ?_ | refine cmpN ?_ | (refine cmp_both ?_ ?_ <;> intro _))) | (show wrapK _ _ _; refine wrapA ?_) | (show leK _ _ _; refine leA ?_) | (show roomK _ _ _; refine roomA ?_) | (show ltK _ _ _; refine ltA ?_) | (show _ ∧ _; refine ⟨?_, ?_⟩) | (show keepK _ _ _ _ _; refine keepA ?_) | refine own_keep ?_ | refine ap_old ?_))
      all_goals (conv => whnf)
      all_goals exact ⟨(x * b % m, b * b % m, k / 2), [], ⟨hxb, by show b * b % m < _; omega, by show k / 2 < _; omega, by rw [Nat.mod_mul_mod]; exact hstep.symm⟩, by show k / 2 < k; omega, rfl, ⟨rfl, rfl, rfl, rfl, trivial⟩, trivial, fun _ _ h => h⟩
end Go.Proofs.YtipjlnkdfeifkaaDoor

/- XB -/
namespace Go.Proofs.YtipjlnkdfeifkaaDoor
open Go.SX Go.RowKit
end Go.Proofs.YtipjlnkdfeifkaaDoor

/- XC -/
namespace Go.Proofs.YtipjlnkdfeifkaaDoor
open Go.SX Go.RowKit
def TabW (w : World) : Prop := ∀ j, j < 64 → w.cell? ⟨0, j, none⟩ = some (.int .u8 ((Lib.deBruijn64tab.getD j 0 : Nat) : Int))
theorem tab_base {w w' : World} {R : Nat → Prop} (h : TabW w) (hb : (baseA w).holds R w') : TabW w' := fun j hj => by
  have hc := h j hj
  rw [cell_same (hb _ (cell_block hc)).2]; exact hc
theorem tz64_key (x a : Nat) (hx : x < 18446744073709551616) (hx0 : x ≠ 0) (hlow : x &&& (18446744073709551616 - x) = a) :
    IntKind.u64.wrap (bits BinOp.and IntKind.u64 (x : Int) (IntKind.u64.wrap (-(x : Int))) * 285870213051353865) / 288230376151711744 = ((a * 285870213051353865 % 18446744073709551616 / 288230376151711744 : Nat) : Int) := by
  have e1 : IntKind.u64.wrap (-(x : Int)) = ((18446744073709551616 - x : Nat) : Int) := by rw [IntKind.wrap_u64]; omega
  rw [e1, bits_and_u64_nat x _ hx (by omega), hlow, IntKind.wrap_u64]
  omega
set_option maxHeartbeats 1000000 in
theorem tz64_core (x k idx : Nat) (w : World) (hx0 : ((x : Int) == 0) = false)
    (key : IntKind.u64.wrap (bits BinOp.and IntKind.u64 (x : Int) (IntKind.u64.wrap (-(x : Int))) * 285870213051353865) / 288230376151711744 = (idx : Int))
    (hi : idx < 64) (hk : k < 64) (hcell : w.cell? ⟨0, idx, none⟩ = some (.int .u8 k)) :
    Calls Tryd.prog 68 #[.int .u64 x] w fun e w' => e = .returned (.int .i64 k) ∧ w' = w := by
  go_enter Tryd.func68, Tryd.ntmps68
  go_wp2_with (simp only [key])
  go_ret
  exact ⟨rfl, rfl⟩
theorem tz64_any (w : World) (x : Nat) (hx : x < 18446744073709551616) (h0 : x ≠ 0) (hT : TabW w) : Calls Tryd.prog 68 #[.int .u64 x] w fun e w' => e = .returned (.int .i64 (Lib.ctz 64 x)) ∧ Ext w w' := by
  obtain ⟨hlow, hk⟩ := Lib.lowest_bit 64 x h0 hx
  obtain ⟨hi, htab⟩ := Lib.deBruijn64_at _ hk
  have hcell := hT _ hi
  rw [htab] at hcell
  exact (tz64_core x _ _ w (by simp; omega) (tz64_key x _ hx h0 hlow) hi hk hcell).mono fun e w' h => ⟨h.1, by rw [h.2]; exact Ext.refl w⟩
end Go.Proofs.YtipjlnkdfeifkaaDoor

/- ZSo -/
namespace Go.Proofs.YtipjlnkdfeifkaaDoor
open Go.SX Go.CE Go.RowKit
noncomputable def orcL : List (Nat × (List V → Option Value)) := [(56, orcMul), (82, orcPow), (59, orcMul64), (80, orcDiv64), (42, orcLen64), (68, orcCtz)]
noncomputable def extL : List (Nat × (List V → Option Value)) := [(58, extAdd), (85, extSub)]
theorem len64_eq : ∀ f a : Nat, len64 f a = Lib.bitLenAux f a
  | 0, a => by unfold len64 Lib.bitLenAux; rfl
  | f + 1, 0 => by unfold len64 Lib.bitLenAux; rfl
  | f + 1, b + 1 => by
    unfold len64 Lib.bitLenAux
    rw [if_neg (by omega)]
    show Nat.succ (len64 f ((b + 1) / 2)) = _
    rw [len64_eq f, Nat.succ_eq_add_one, Nat.add_comm]
theorem ctz64_eq : ∀ f a : Nat, ctz64 f a = Lib.ctzFrom f a
  | 0, a => by unfold ctz64 Lib.ctzFrom; rfl
  | f + 1, a => by
    unfold ctz64 Lib.ctzFrom
    rcases (show a % 2 = 0 ∨ a % 2 = 1 by omega) with e | e
    · rw [e, if_neg (by decide)]
      show Nat.succ (ctz64 f (a / 2)) = _
      rw [ctz64_eq f, Nat.succ_eq_add_one, Nat.add_comm]
    · rw [e, if_pos rfl]; rfl
theorem notZero {m : Nat} (h : (!Nat.beq m 0) = true) : 0 < m := by
  cases m with
  | zero => cases h
  | succ m => omega
theorem and4 {a b c d : Bool} (h : (a && b && c && d) = true) : a = true ∧ b = true ∧ c = true ∧ d = true := by cases a <;> cases b <;> cases c <;> cases d <;> simp_all
theorem and3 {a b c : Bool} (h : (a && b && c) = true) : a = true ∧ b = true ∧ c = true := by cases a <;> cases b <;> cases c <;> simp_all
theorem and2 {a b : Bool} (h : (a && b) = true) : a = true ∧ b = true := by cases a <;> cases b <;> simp_all
theorem add64_all (x y c : Nat) (hc : c ≤ 1) (w : World) :
    (callFunc 58 #[.int .u64 (x : Int), .int .u64 (y : Int), .int .u64 (c : Int)]).run Tryd.prog w =
      .ok (.value (.tuple #[.int .u64 (((x + y + c) % 18446744073709551616 : Nat) : Int), .int .u64 (((x + y + c) / 18446744073709551616 : Nat) : Int)])) w := by
  have h := run_callFunc_extern (P := Tryd.prog) Tryd.func58 (by kernel_rfl) (by kernel_rfl) (by kernel_rfl) (e := add64Entry) (by kernel_rfl) (args := #[.int .u64 (x : Int), .int .u64 (y : Int), .int .u64 (c : Int)]) (w := w)
  rw [run_add64 x y c (by omega) (by omega) (by omega) (by omega)] at h
  exact h
theorem sub64_all (x y c : Nat) (hc : c ≤ 1) (w : World) :
    (callFunc 85 #[.int .u64 (x : Int), .int .u64 (y : Int), .int .u64 (c : Int)]).run Tryd.prog w =
      .ok (.value (.tuple #[.int .u64 (((x + 18446744073709551616 - y - c) % 18446744073709551616 : Nat) : Int), .int .u64 ((if x < y + c then 1 else 0 : Nat) : Int)])) w := by
  have h := run_callFunc_extern (P := Tryd.prog) Tryd.func85 (by kernel_rfl) (by kernel_rfl) (by kernel_rfl) (e := sub64Entry) (by kernel_rfl) (args := #[.int .u64 (x : Int), .int .u64 (y : Int), .int .u64 (c : Int)]) (w := w)
  rw [run_sub64 x y c hc] at h
  exact h
theorem tab_ext {w w' : World} (h : TabW w) (he : Ext w w') : TabW w' := fun j hj => by
  have hc := h j hj
  rw [cell_same (he.block _ (cell_block hc))]; exact hc
theorem orcMul_ok {args : List V} {u : Value} (hu : orcMul args = some u) (ρ : Rho) (w : World) : Calls Tryd.prog 56 (V.rfs ρ args).toArray w (fun e w' => e = .returned u ∧ Ext w w') := by
  unfold orcMul at hu
  split at hu
  · rename_i a b m
    obtain ⟨hb, hu⟩ := gd_some hu
    obtain ⟨h1, h2, h3, h4⟩ := and4 hb
    rw [forceN_eq] at hu
    cases hu
    exact mulW_any w a b m (lt64_lt h1) (lt64_lt h2) (notZero h4) (lt64_lt h3)
  · cases hu
theorem orcPow_ok {args : List V} {u : Value} (hu : orcPow args = some u) (ρ : Rho) (w : World) : Calls Tryd.prog 82 (V.rfs ρ args).toArray w (fun e w' => e = .returned u ∧ Ext w w') := by
  unfold orcPow at hu
  split at hu
  · rename_i a n m
    obtain ⟨hb, hu⟩ := gd_some hu
    obtain ⟨h1, h2, h3, h4⟩ := and4 hb
    have hm := notZero h4
    rw [forceN_eq] at hu
    cases hu
    have := powW_any w a n m (lt64_lt h1) (lt64_lt h2) hm (lt64_lt h3)
    rw [show u64V (powF 64 (1 % m) (a % m) n m) = Value.int .u64 ((a ^ n % m : Nat) : Int) by
      show Value.int .u64 ((powF 64 (1 % m) (a % m) n m : Nat) : Int) = _
      rw [powF_eq 64 _ _ n m (lt64_lt h2) (Nat.mod_lt _ hm), Nat.mod_mul_mod, Nat.one_mul, ← Nat.pow_mod]]
    exact this
  · cases hu
theorem orcMul64_ok {args : List V} {u : Value} (hu : orcMul64 args = some u) (ρ : Rho) (w : World) : Calls Tryd.prog 59 (V.rfs ρ args).toArray w (fun e w' => e = .returned u ∧ Ext w w') := by
  unfold orcMul64 at hu
  split at hu
  · rename_i a b
    obtain ⟨hb, hu⟩ := gd_some hu
    obtain ⟨h1, h2⟩ := and2 hb
    have nr : ∀ (n : Nat) (K : Nat → Option Value), forceN n K = K n := forceN_eq
    simp only [nr] at hu
    cases hu
    exact mul64_any w a b (lt64_lt h1) (lt64_lt h2)
  · cases hu
theorem orcDiv64_ok {args : List V} {u : Value} (hu : orcDiv64 args = some u) (ρ : Rho) (w : World) : Calls Tryd.prog 80 (V.rfs ρ args).toArray w (fun e w' => e = .returned u ∧ Ext w w') := by
  unfold orcDiv64 at hu
  split at hu
  · rename_i h l y
    obtain ⟨hb, hu⟩ := gd_some hu
    obtain ⟨h1, h2, h3, h4⟩ := and4 hb
    have nr : ∀ (n : Nat) (K : Nat → Option Value), forceN n K = K n := forceN_eq
    simp only [nr] at hu
    rw [← Option.some.inj hu]
    have key := div64_any w h l y (Nat.le_of_ble_eq_true h4) (lt64_lt h2) (lt64_lt h3)
    generalize h * 18446744073709551616 + l = n at key ⊢
    exact key
  · cases hu
theorem orcLen64_ok {args : List V} {u : Value} (hu : orcLen64 args = some u) (ρ : Rho) (w : World) : Calls Tryd.prog 42 (V.rfs ρ args).toArray w (fun e w' => e = .returned u ∧ Ext w w') := by
  unfold orcLen64 at hu
  split at hu
  · rename_i a
    obtain ⟨h1, hu⟩ := gd_some hu
    rw [forceN_eq, len64_eq] at hu
    cases hu
    exact len64_any w a (lt64_lt h1)
  · cases hu
theorem orcCtz_ok {args : List V} {u : Value} (hu : orcCtz args = some u) (ρ : Rho) (w : World) (hT : TabW w) : Calls Tryd.prog 68 (V.rfs ρ args).toArray w (fun e w' => e = .returned u ∧ Ext w w') := by
  unfold orcCtz at hu
  split at hu
  · rename_i a
    obtain ⟨hb, hu⟩ := gd_some hu
    obtain ⟨h1, h2⟩ := and2 hb
    have h0 := notZero h2
    rw [forceN_eq, ctz64_eq] at hu
    cases hu
    have := tz64_any w a (lt64_lt h1) (by omega) hT
    rw [show Lib.ctz 64 a = Lib.ctzFrom 64 a by unfold Lib.ctz; rw [if_neg (by omega)]] at this
    exact this
  · cases hu
theorem extAdd_ok {args : List V} {u : Value} (hu : extAdd args = some u) (ρ : Rho) (w : World) : (callFunc 58 (V.rfs ρ args).toArray).run Tryd.prog w = .ok (.value u) w := by
  unfold extAdd at hu
  split at hu
  · rename_i a b c
    obtain ⟨hb, hu⟩ := gd_some hu
    obtain ⟨h1, h2, h3⟩ := and3 hb
    have nr : ∀ (n : Nat) (K : Nat → Option Value), forceN n K = K n := forceN_eq
    simp only [nr] at hu
    cases hu
    exact add64_all a b c (Nat.le_of_ble_eq_true h3) w
  · cases hu
theorem extSub_ok {args : List V} {u : Value} (hu : extSub args = some u) (ρ : Rho) (w : World) : (callFunc 85 (V.rfs ρ args).toArray).run Tryd.prog w = .ok (.value u) w := by
  unfold extSub at hu
  split at hu
  · rename_i a b c
    obtain ⟨hb, hu⟩ := gd_some hu
    obtain ⟨h1, h2, h3⟩ := and3 hb
    have g1 := lt64_lt h1
    have g2 := lt64_lt h2
    have g3 := Nat.le_of_ble_eq_true h3
    have nr : ∀ (n : Nat) (K : Nat → Option Value), forceN n K = K n := forceN_eq
    simp only [nr] at hu
    cases hu
    have := sub64_all a b c g3 w
    rw [show (a + 18446744073709551616 - b - c) % 18446744073709551616 = (36893488147419103232 + a - b - c) % 18446744073709551616 by omega] at this
    rw [show (if a < b + c then 1 else 0 : Nat) = (match Nat.ble (b + c) a with | true => 0 | false => 1) by
      cases e : Nat.ble (b + c) a with
      | true => rw [if_neg (by have := Nat.le_of_ble_eq_true e; omega)]
      | false => rw [if_pos (by apply Nat.lt_of_not_le; intro h; rw [Nat.ble_eq_true_of_le h] at e; cases e)]] at this
    exact this
  · cases hu
theorem orc_ok {w0 : World} (hT : TabW w0) : OrcOk Tryd.prog w0 pr0 := by
  refine ⟨fun f g args u hg hu => ?_, fun f g args u hg hu => ?_⟩
  · have hm : (f, g) ∈ orcL := T.ofL_mem (by kernel_rfl) (show (T.ofL orcL).get f = some g by rw [← (show pr0.orc = T.ofL orcL by kernel_rfl)]; exact hg)
    clear hg
    simp only [orcL, List.mem_cons, List.not_mem_nil, or_false, Prod.mk.injEq] at hm
    rcases hm with ⟨rfl, rfl⟩ | ⟨rfl, rfl⟩ | ⟨rfl, rfl⟩ | ⟨rfl, rfl⟩ | ⟨rfl, rfl⟩ | ⟨rfl, rfl⟩
    · exact ⟨Tryd.call56, fun ρ w he => orcMul_ok hu ρ w⟩
    · exact ⟨Tryd.call82, fun ρ w he => orcPow_ok hu ρ w⟩
    · exact ⟨Tryd.call59, fun ρ w he => orcMul64_ok hu ρ w⟩
    · exact ⟨Tryd.call80, fun ρ w he => orcDiv64_ok hu ρ w⟩
    · exact ⟨Tryd.call42, fun ρ w he => orcLen64_ok hu ρ w⟩
    · exact ⟨Tryd.call68, fun ρ w he => orcCtz_ok hu ρ w (tab_ext hT he)⟩
  · have hm : (f, g) ∈ extL := T.ofL_mem (by kernel_rfl) (show (T.ofL extL).get f = some g by rw [← (show pr0.ext = T.ofL extL by kernel_rfl)]; exact hg)
    clear hg
    simp only [extL, List.mem_cons, List.not_mem_nil, or_false, Prod.mk.injEq] at hm
    rcases hm with ⟨rfl, rfl⟩ | ⟨rfl, rfl⟩
    · exact fun ρ w => extAdd_ok hu ρ w
    · exact fun ρ w => extSub_ok hu ρ w
end Go.Proofs.YtipjlnkdfeifkaaDoor

