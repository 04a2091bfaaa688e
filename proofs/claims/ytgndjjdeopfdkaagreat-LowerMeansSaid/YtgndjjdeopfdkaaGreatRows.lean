/-
  No cell of these rows narrows 'for every input' (looked for: loops, veiled, ifaces, maps, wideKeys, modest, calm, conditions, laid).
  DERIVED. THE GIVEN ROWS OF THIS SEAT. 4 by the template 'for every input the law returns true; each argument reads behind the call as it read before'; 0 by the template 'total and deterministic' (their statements: YtgndjjdeopfdkaaGreatTotals.lean).
  GIVEN WITH THE SEED: the statements are not yours to turn. If you find one false, say at which input.
  Laid BY PROGRAM, IN A SANDBOX (cutbox-rows.mjs): the forced cells as the released guide's own fill.sh prints them over the translation 223107b0be261e9e… (all of the seat's roots in one cut). By AI agents, Wed Nov 11 2026. No macro, syntax, notation, axiom, sorry.
-/
import Derived.Test.YtgndjjdeopfdkaaGreatChecked
import GoSem.Claim
import GoSem.ClaimJoined
import GoSem.ClaimMapViews
import Derived.JoinedTies
import Derived.KernelRfl
namespace Go.Proofs.YtgndjjdeopfdkaaGreat
/- THE CELL 'sum', in the pinned program and in every row, IS THE sha256 OF THE DUMP (.gsa) THAT YtgndjjdeopfdkaaGreatProg.lean LOADS. Nothing in Lean hashes anything: it is a label: what it is worth is what the hold of that sum in a sandbox is worth. -/
noncomputable def Tryz.pinned : Pinned := { name := "ytgndjjdeopfdkaagreat", sum := "223107b0be261e9ea406fc8e09db03dd4e0f162bcdf2f148adcb6e8480142d2c", checked := Tryz.checked }
namespace Rows
def none {H : Type} : Left H := { results := [], args := [] }

/-- 'arraslaw21.LowerMakes': WHATEVER THE INPUT: true; the input reads as it did. -/
def lowerMakesSpec : ChangeSpec := { name := "lowerMakes", fn := fun _ => fun
  | [d1, d2, d3] => { results := [.lit (.bool true)], args := [d1, d2, d3] }
  | _ => none }
def lowerMakesRow : OpenClaim := { program := "ytgndjjdeopfdkaagreat", sum := "223107b0be261e9ea406fc8e09db03dd4e0f162bcdf2f148adcb6e8480142d2c", func := "arras/arraslaw21.LowerMakes", spec := "lowerMakes", unfollowed := true, recurses := true, apart := false }
def LowerMakesSaid : Prop := lowerMakesRow.holds Tryz.pinned (OpenSpec.ofChange lowerMakesSpec)

/-- ITS FALSE NEIGHBOUR: 'it returns false'. Refute it at one input. -/
def lowerMakesWrong : ChangeSpec := { name := "lowerMakes", fn := fun _ => fun
  | [d1, d2, d3] => { results := [.lit (.bool false)], args := [d1, d2, d3] }
  | _ => none }
def LowerMakesWrongFalsely : Prop := lowerMakesRow.holds Tryz.pinned (OpenSpec.ofChange lowerMakesWrong)

/-- 'arraslaw21.LowerFewer': WHATEVER THE INPUT: true; the input reads as it did. -/
def lowerFewerSpec : ChangeSpec := { name := "lowerFewer", fn := fun _ => fun
  | [d1, d2, d3] => { results := [.lit (.bool true)], args := [d1, d2, d3] }
  | _ => none }
def lowerFewerRow : OpenClaim := { program := "ytgndjjdeopfdkaagreat", sum := "223107b0be261e9ea406fc8e09db03dd4e0f162bcdf2f148adcb6e8480142d2c", func := "arras/arraslaw21.LowerFewer", spec := "lowerFewer", unfollowed := true, recurses := true, apart := false }
def LowerFewerSaid : Prop := lowerFewerRow.holds Tryz.pinned (OpenSpec.ofChange lowerFewerSpec)

/-- ITS FALSE NEIGHBOUR: 'it returns false'. Refute it at one input. -/
def lowerFewerWrong : ChangeSpec := { name := "lowerFewer", fn := fun _ => fun
  | [d1, d2, d3] => { results := [.lit (.bool false)], args := [d1, d2, d3] }
  | _ => none }
def LowerFewerWrongFalsely : Prop := lowerFewerRow.holds Tryz.pinned (OpenSpec.ofChange lowerFewerWrong)

/-- 'arraslaw21.LowerMeans': WHATEVER THE INPUT: true; the input reads as it did. -/
def lowerMeansSpec : ChangeSpec := { name := "lowerMeans", fn := fun _ => fun
  | [d1, d2, d3, d4] => { results := [.lit (.bool true)], args := [d1, d2, d3, d4] }
  | _ => none }
def lowerMeansRow : OpenClaim := { program := "ytgndjjdeopfdkaagreat", sum := "223107b0be261e9ea406fc8e09db03dd4e0f162bcdf2f148adcb6e8480142d2c", func := "arras/arraslaw21.LowerMeans", spec := "lowerMeans", inPlace := ["math/bits.Add64"], unfollowed := true, recurses := true, named := ["math/bits.divideError", "math/bits.overflowError"], apart := false }
def LowerMeansSaid : Prop := lowerMeansRow.holds Tryz.pinned (OpenSpec.ofChange lowerMeansSpec)

/-- ITS FALSE NEIGHBOUR: 'it returns false'. Refute it at one input. -/
def lowerMeansWrong : ChangeSpec := { name := "lowerMeans", fn := fun _ => fun
  | [d1, d2, d3, d4] => { results := [.lit (.bool false)], args := [d1, d2, d3, d4] }
  | _ => none }
def LowerMeansWrongFalsely : Prop := lowerMeansRow.holds Tryz.pinned (OpenSpec.ofChange lowerMeansWrong)

/-- 'arraslaw21.LowerSame': WHATEVER THE INPUT: true; the input reads as it did. -/
def lowerSameSpec : ChangeSpec := { name := "lowerSame", fn := fun _ => fun
  | [d1, d2, d3, d4] => { results := [.lit (.bool true)], args := [d1, d2, d3, d4] }
  | _ => none }
def lowerSameRow : OpenClaim := { program := "ytgndjjdeopfdkaagreat", sum := "223107b0be261e9ea406fc8e09db03dd4e0f162bcdf2f148adcb6e8480142d2c", func := "arras/arraslaw21.LowerSame", spec := "lowerSame", inPlace := ["math/bits.Add64"], unfollowed := true, recurses := true, named := ["math/bits.divideError", "math/bits.overflowError"], apart := false }
def LowerSameSaid : Prop := lowerSameRow.holds Tryz.pinned (OpenSpec.ofChange lowerSameSpec)

/-- ITS FALSE NEIGHBOUR: 'it returns false'. Refute it at one input. -/
def lowerSameWrong : ChangeSpec := { name := "lowerSame", fn := fun _ => fun
  | [d1, d2, d3, d4] => { results := [.lit (.bool false)], args := [d1, d2, d3, d4] }
  | _ => none }
def LowerSameWrongFalsely : Prop := lowerSameRow.holds Tryz.pinned (OpenSpec.ofChange lowerSameWrong)

/- THE SECOND FORM. 'bulk': how many values and letters a reading holds, each counted each time it is reached (what is shared counts as often as it is met; a slice's spare places count too). A statement '..UptoSaid' is the law's where the arguments, and the package variables that the reading takes, are together of bulk at most 1048576: NARROWER than '..Said'. Prove '..Said' where nothing that the law and all that it calls make is longer than what came in: it says more and counts as full. Else prove '..UptoSaid'. A law counts once. -/
mutual
def uptoBulk {H : Type} : DataW H → Nat
  | .lit (.string bytes) => bytes.length + 1
  | .lit _ => 1
  | .nil => 1
  | .ptr d => uptoBulk d + 1
  | .slice elems spare => uptoBulkAll elems + uptoBulkAll spare + 1
  | .agg parts => uptoBulkAll parts + 1
  | .iface _ d => uptoBulk d + 1
  | .map entries => uptoBulkEntries entries + 1
  | .held _ => 1
def uptoBulkAll {H : Type} : List (DataW H) → Nat
  | [] => 0
  | d :: r => uptoBulk d + uptoBulkAll r
def uptoBulkEntries {H : Type} : List (Lit × DataW H) → Nat
  | [] => 0
  | x :: r => uptoBulkEntry x + uptoBulkEntries r
def uptoBulkEntry {H : Type} : Lit × DataW H → Nat
  | (.string bytes, d) => bytes.length + uptoBulk d + 1
  | (_, d) => uptoBulk d + 1
 end
def uptoSmall : (H : Type) → List (DataW H) → Bool := fun _ ds => decide (uptoBulkAll ds ≤ 1048576)
def OpenSpec.upto (s : _root_.Go.ChangeSpec) : _root_.Go.OpenSpec := { _root_.Go.OpenSpec.ofChange s with cond := some uptoSmall }

/-- 'arraslaw21.LowerMakes', WHERE WHAT IT READS IS OF BULK AT MOST 1048576: true; the input reads as it did. -/
def lowerMakesUptoRow : OpenClaim := { program := "ytgndjjdeopfdkaagreat", sum := "223107b0be261e9ea406fc8e09db03dd4e0f162bcdf2f148adcb6e8480142d2c", func := "arras/arraslaw21.LowerMakes", spec := "lowerMakes", unfollowed := true, recurses := true, apart := false, narrowed := true }
def LowerMakesUptoSaid : Prop := lowerMakesUptoRow.holds Tryz.pinned (OpenSpec.upto lowerMakesSpec)

/-- 'arraslaw21.LowerFewer', WHERE WHAT IT READS IS OF BULK AT MOST 1048576: true; the input reads as it did. -/
def lowerFewerUptoRow : OpenClaim := { program := "ytgndjjdeopfdkaagreat", sum := "223107b0be261e9ea406fc8e09db03dd4e0f162bcdf2f148adcb6e8480142d2c", func := "arras/arraslaw21.LowerFewer", spec := "lowerFewer", unfollowed := true, recurses := true, apart := false, narrowed := true }
def LowerFewerUptoSaid : Prop := lowerFewerUptoRow.holds Tryz.pinned (OpenSpec.upto lowerFewerSpec)

/-- 'arraslaw21.LowerMeans', WHERE WHAT IT READS IS OF BULK AT MOST 1048576: true; the input reads as it did. -/
def lowerMeansUptoRow : OpenClaim := { program := "ytgndjjdeopfdkaagreat", sum := "223107b0be261e9ea406fc8e09db03dd4e0f162bcdf2f148adcb6e8480142d2c", func := "arras/arraslaw21.LowerMeans", spec := "lowerMeans", inPlace := ["math/bits.Add64"], unfollowed := true, recurses := true, named := ["math/bits.divideError", "math/bits.overflowError"], apart := false, narrowed := true }
def LowerMeansUptoSaid : Prop := lowerMeansUptoRow.holds Tryz.pinned (OpenSpec.upto lowerMeansSpec)

/-- 'arraslaw21.LowerSame', WHERE WHAT IT READS IS OF BULK AT MOST 1048576: true; the input reads as it did. -/
def lowerSameUptoRow : OpenClaim := { program := "ytgndjjdeopfdkaagreat", sum := "223107b0be261e9ea406fc8e09db03dd4e0f162bcdf2f148adcb6e8480142d2c", func := "arras/arraslaw21.LowerSame", spec := "lowerSame", inPlace := ["math/bits.Add64"], unfollowed := true, recurses := true, named := ["math/bits.divideError", "math/bits.overflowError"], apart := false, narrowed := true }
def LowerSameUptoSaid : Prop := lowerSameUptoRow.holds Tryz.pinned (OpenSpec.upto lowerSameSpec)

end Rows
end Go.Proofs.YtgndjjdeopfdkaaGreat
