/-
  No cell of these rows narrows 'for every input' (looked for: loops, veiled, ifaces, maps, wideKeys, modest, calm, conditions, laid).
  DERIVED. THE GIVEN ROWS OF THIS SEAT. 12 by the template 'for every input the law returns true; each argument reads behind the call as it read before'; 0 by the template 'total and deterministic' (their statements: YtdmkdogakbipbaaTotals.lean).
  GIVEN WITH THE SEED: the statements are not yours to turn. If you find one false, say at which input.
  Laid BY PROGRAM, IN A SANDBOX (cutbox-rows.mjs): the forced cells as the released guide's own fill.sh prints them over the translation 1374cdd593d8b71a… (all of the seat's roots in one cut). By AI agents, Wed Nov 11 2026. No macro, syntax, notation, axiom, sorry.
-/
import Derived.Test.YtdmkdogakbipbaaChecked
import GoSem.Claim
import GoSem.ClaimJoined
import GoSem.ClaimMapViews
import Derived.JoinedTies
import Derived.KernelRfl
namespace Go.Proofs.Ytdmkdogakbipbaa
/- THE CELL 'sum', in the pinned program and in every row, IS THE sha256 OF THE DUMP (.gsa) THAT YtdmkdogakbipbaaProg.lean LOADS. Nothing in Lean hashes anything: it is a label: what it is worth is what the hold of that sum in a sandbox is worth. -/
noncomputable def Try.pinned : Pinned := { name := "ytdmkdogakbipbaa", sum := "1374cdd593d8b71a42c506a9269ebaa4aedce86c7c3c130546c7c673febd8cf1", checked := Try.checked }
namespace Rows
def none {H : Type} : Left H := { results := [], args := [] }

/-- 'arraslaw17.IntervalSums': WHATEVER THE INPUT: true; the input reads as it did. -/
def intervalSumsSpec : ChangeSpec := { name := "intervalSums", fn := fun _ => fun
  | [d1, d2] => { results := [.lit (.bool true)], args := [d1, d2] }
  | _ => none }
def intervalSumsRow : OpenClaim := { program := "ytdmkdogakbipbaa", sum := "1374cdd593d8b71a42c506a9269ebaa4aedce86c7c3c130546c7c673febd8cf1", func := "arras/arraslaw17.IntervalSums", spec := "intervalSums", unfollowed := true, recurses := true, apart := false }
def IntervalSumsSaid : Prop := intervalSumsRow.holds Try.pinned (OpenSpec.ofChange intervalSumsSpec)

/-- ITS FALSE NEIGHBOUR: 'it returns false'. Refute it at one input. -/
def intervalSumsWrong : ChangeSpec := { name := "intervalSums", fn := fun _ => fun
  | [d1, d2] => { results := [.lit (.bool false)], args := [d1, d2] }
  | _ => none }
def IntervalSumsWrongFalsely : Prop := intervalSumsRow.holds Try.pinned (OpenSpec.ofChange intervalSumsWrong)

/-- 'arraslaw18.TidyMakes': WHATEVER THE INPUT: true; the input reads as it did. -/
def tidyMakesSpec : ChangeSpec := { name := "tidyMakes", fn := fun _ => fun
  | [d] => { results := [.lit (.bool true)], args := [d] }
  | _ => none }
def tidyMakesRow : OpenClaim := { program := "ytdmkdogakbipbaa", sum := "1374cdd593d8b71a42c506a9269ebaa4aedce86c7c3c130546c7c673febd8cf1", func := "arras/arraslaw18.TidyMakes", spec := "tidyMakes", unfollowed := true, recurses := true, apart := false }
def TidyMakesSaid : Prop := tidyMakesRow.holds Try.pinned (OpenSpec.ofChange tidyMakesSpec)

/-- ITS FALSE NEIGHBOUR: 'it returns false'. Refute it at one input. -/
def tidyMakesWrong : ChangeSpec := { name := "tidyMakes", fn := fun _ => fun
  | [d] => { results := [.lit (.bool false)], args := [d] }
  | _ => none }
def TidyMakesWrongFalsely : Prop := tidyMakesRow.holds Try.pinned (OpenSpec.ofChange tidyMakesWrong)

/-- 'arraslaw18.TidyMeans': WHATEVER THE INPUT: true; the input reads as it did. -/
def tidyMeansSpec : ChangeSpec := { name := "tidyMeans", fn := fun _ => fun
  | [d1, d2] => { results := [.lit (.bool true)], args := [d1, d2] }
  | _ => none }
def tidyMeansRow : OpenClaim := { program := "ytdmkdogakbipbaa", sum := "1374cdd593d8b71a42c506a9269ebaa4aedce86c7c3c130546c7c673febd8cf1", func := "arras/arraslaw18.TidyMeans", spec := "tidyMeans", unfollowed := true, recurses := true, apart := false }
def TidyMeansSaid : Prop := tidyMeansRow.holds Try.pinned (OpenSpec.ofChange tidyMeansSpec)

/-- ITS FALSE NEIGHBOUR: 'it returns false'. Refute it at one input. -/
def tidyMeansWrong : ChangeSpec := { name := "tidyMeans", fn := fun _ => fun
  | [d1, d2] => { results := [.lit (.bool false)], args := [d1, d2] }
  | _ => none }
def TidyMeansWrongFalsely : Prop := tidyMeansRow.holds Try.pinned (OpenSpec.ofChange tidyMeansWrong)

/-- 'arraslaw18.TidyAgain': WHATEVER THE INPUT: true; the input reads as it did. -/
def tidyAgainSpec : ChangeSpec := { name := "tidyAgain", fn := fun _ => fun
  | [d] => { results := [.lit (.bool true)], args := [d] }
  | _ => none }
def tidyAgainRow : OpenClaim := { program := "ytdmkdogakbipbaa", sum := "1374cdd593d8b71a42c506a9269ebaa4aedce86c7c3c130546c7c673febd8cf1", func := "arras/arraslaw18.TidyAgain", spec := "tidyAgain", unfollowed := true, recurses := true, apart := false }
def TidyAgainSaid : Prop := tidyAgainRow.holds Try.pinned (OpenSpec.ofChange tidyAgainSpec)

/-- ITS FALSE NEIGHBOUR: 'it returns false'. Refute it at one input. -/
def tidyAgainWrong : ChangeSpec := { name := "tidyAgain", fn := fun _ => fun
  | [d] => { results := [.lit (.bool false)], args := [d] }
  | _ => none }
def TidyAgainWrongFalsely : Prop := tidyAgainRow.holds Try.pinned (OpenSpec.ofChange tidyAgainWrong)

/-- 'arraslaw18.TidyDouble': WHATEVER THE INPUT: true; the input reads as it did. -/
def tidyDoubleSpec : ChangeSpec := { name := "tidyDouble", fn := fun _ => fun
  | [d] => { results := [.lit (.bool true)], args := [d] }
  | _ => none }
def tidyDoubleRow : OpenClaim := { program := "ytdmkdogakbipbaa", sum := "1374cdd593d8b71a42c506a9269ebaa4aedce86c7c3c130546c7c673febd8cf1", func := "arras/arraslaw18.TidyDouble", spec := "tidyDouble", unfollowed := true, recurses := true, apart := false }
def TidyDoubleSaid : Prop := tidyDoubleRow.holds Try.pinned (OpenSpec.ofChange tidyDoubleSpec)

/-- ITS FALSE NEIGHBOUR: 'it returns false'. Refute it at one input. -/
def tidyDoubleWrong : ChangeSpec := { name := "tidyDouble", fn := fun _ => fun
  | [d] => { results := [.lit (.bool false)], args := [d] }
  | _ => none }
def TidyDoubleWrongFalsely : Prop := tidyDoubleRow.holds Try.pinned (OpenSpec.ofChange tidyDoubleWrong)

/-- 'arraslaw18.TidyConstant': WHATEVER THE INPUT: true; the input reads as it did. -/
def tidyConstantSpec : ChangeSpec := { name := "tidyConstant", fn := fun _ => fun
  | [d1, d2] => { results := [.lit (.bool true)], args := [d1, d2] }
  | _ => none }
def tidyConstantRow : OpenClaim := { program := "ytdmkdogakbipbaa", sum := "1374cdd593d8b71a42c506a9269ebaa4aedce86c7c3c130546c7c673febd8cf1", func := "arras/arraslaw18.TidyConstant", spec := "tidyConstant", unfollowed := true, recurses := true, apart := false }
def TidyConstantSaid : Prop := tidyConstantRow.holds Try.pinned (OpenSpec.ofChange tidyConstantSpec)

/-- ITS FALSE NEIGHBOUR: 'it returns false'. Refute it at one input. -/
def tidyConstantWrong : ChangeSpec := { name := "tidyConstant", fn := fun _ => fun
  | [d1, d2] => { results := [.lit (.bool false)], args := [d1, d2] }
  | _ => none }
def TidyConstantWrongFalsely : Prop := tidyConstantRow.holds Try.pinned (OpenSpec.ofChange tidyConstantWrong)

/-- 'arraslaw19.LinearSlots': WHATEVER THE INPUT: true; the input reads as it did. -/
def linearSlotsSpec : ChangeSpec := { name := "linearSlots", fn := fun _ => fun
  | [d1, d2, d3] => { results := [.lit (.bool true)], args := [d1, d2, d3] }
  | _ => none }
def linearSlotsRow : OpenClaim := { program := "ytdmkdogakbipbaa", sum := "1374cdd593d8b71a42c506a9269ebaa4aedce86c7c3c130546c7c673febd8cf1", func := "arras/arraslaw19.LinearSlots", spec := "linearSlots", unfollowed := true, recurses := true, apart := false }
def LinearSlotsSaid : Prop := linearSlotsRow.holds Try.pinned (OpenSpec.ofChange linearSlotsSpec)

/-- ITS FALSE NEIGHBOUR: 'it returns false'. Refute it at one input. -/
def linearSlotsWrong : ChangeSpec := { name := "linearSlots", fn := fun _ => fun
  | [d1, d2, d3] => { results := [.lit (.bool false)], args := [d1, d2, d3] }
  | _ => none }
def LinearSlotsWrongFalsely : Prop := linearSlotsRow.holds Try.pinned (OpenSpec.ofChange linearSlotsWrong)

/-- 'arraslaw19.LinearDiagonals': WHATEVER THE INPUT: true; the input reads as it did. -/
def linearDiagonalsSpec : ChangeSpec := { name := "linearDiagonals", fn := fun _ => fun
  | [d1, d2, d3, d4] => { results := [.lit (.bool true)], args := [d1, d2, d3, d4] }
  | _ => none }
def linearDiagonalsRow : OpenClaim := { program := "ytdmkdogakbipbaa", sum := "1374cdd593d8b71a42c506a9269ebaa4aedce86c7c3c130546c7c673febd8cf1", func := "arras/arraslaw19.LinearDiagonals", spec := "linearDiagonals", unfollowed := true, recurses := true, apart := false }
def LinearDiagonalsSaid : Prop := linearDiagonalsRow.holds Try.pinned (OpenSpec.ofChange linearDiagonalsSpec)

/-- ITS FALSE NEIGHBOUR: 'it returns false'. Refute it at one input. -/
def linearDiagonalsWrong : ChangeSpec := { name := "linearDiagonals", fn := fun _ => fun
  | [d1, d2, d3, d4] => { results := [.lit (.bool false)], args := [d1, d2, d3, d4] }
  | _ => none }
def LinearDiagonalsWrongFalsely : Prop := linearDiagonalsRow.holds Try.pinned (OpenSpec.ofChange linearDiagonalsWrong)

/-- 'arraslaw19.LinearSums': WHATEVER THE INPUT: true; the input reads as it did. -/
def linearSumsSpec : ChangeSpec := { name := "linearSums", fn := fun _ => fun
  | [d1, d2, d3, d4, d5] => { results := [.lit (.bool true)], args := [d1, d2, d3, d4, d5] }
  | _ => none }
def linearSumsRow : OpenClaim := { program := "ytdmkdogakbipbaa", sum := "1374cdd593d8b71a42c506a9269ebaa4aedce86c7c3c130546c7c673febd8cf1", func := "arras/arraslaw19.LinearSums", spec := "linearSums", unfollowed := true, recurses := true, apart := false }
def LinearSumsSaid : Prop := linearSumsRow.holds Try.pinned (OpenSpec.ofChange linearSumsSpec)

/-- ITS FALSE NEIGHBOUR: 'it returns false'. Refute it at one input. -/
def linearSumsWrong : ChangeSpec := { name := "linearSums", fn := fun _ => fun
  | [d1, d2, d3, d4, d5] => { results := [.lit (.bool false)], args := [d1, d2, d3, d4, d5] }
  | _ => none }
def LinearSumsWrongFalsely : Prop := linearSumsRow.holds Try.pinned (OpenSpec.ofChange linearSumsWrong)

/-- 'arraslaw19.LinearPlaces': WHATEVER THE INPUT: true; the input reads as it did. -/
def linearPlacesSpec : ChangeSpec := { name := "linearPlaces", fn := fun _ => fun
  | [d1, d2] => { results := [.lit (.bool true)], args := [d1, d2] }
  | _ => none }
def linearPlacesRow : OpenClaim := { program := "ytdmkdogakbipbaa", sum := "1374cdd593d8b71a42c506a9269ebaa4aedce86c7c3c130546c7c673febd8cf1", func := "arras/arraslaw19.LinearPlaces", spec := "linearPlaces", unfollowed := true, recurses := true, apart := false }
def LinearPlacesSaid : Prop := linearPlacesRow.holds Try.pinned (OpenSpec.ofChange linearPlacesSpec)

/-- ITS FALSE NEIGHBOUR: 'it returns false'. Refute it at one input. -/
def linearPlacesWrong : ChangeSpec := { name := "linearPlaces", fn := fun _ => fun
  | [d1, d2] => { results := [.lit (.bool false)], args := [d1, d2] }
  | _ => none }
def LinearPlacesWrongFalsely : Prop := linearPlacesRow.holds Try.pinned (OpenSpec.ofChange linearPlacesWrong)

/-- 'arraslaw19.LinearRows': WHATEVER THE INPUT: true; the input reads as it did. -/
def linearRowsSpec : ChangeSpec := { name := "linearRows", fn := fun _ => fun
  | [d1, d2] => { results := [.lit (.bool true)], args := [d1, d2] }
  | _ => none }
def linearRowsRow : OpenClaim := { program := "ytdmkdogakbipbaa", sum := "1374cdd593d8b71a42c506a9269ebaa4aedce86c7c3c130546c7c673febd8cf1", func := "arras/arraslaw19.LinearRows", spec := "linearRows", unfollowed := true, recurses := true, apart := false }
def LinearRowsSaid : Prop := linearRowsRow.holds Try.pinned (OpenSpec.ofChange linearRowsSpec)

/-- ITS FALSE NEIGHBOUR: 'it returns false'. Refute it at one input. -/
def linearRowsWrong : ChangeSpec := { name := "linearRows", fn := fun _ => fun
  | [d1, d2] => { results := [.lit (.bool false)], args := [d1, d2] }
  | _ => none }
def LinearRowsWrongFalsely : Prop := linearRowsRow.holds Try.pinned (OpenSpec.ofChange linearRowsWrong)

/-- 'arraslaw19.LinearMade': WHATEVER THE INPUT: true; the input reads as it did. -/
def linearMadeSpec : ChangeSpec := { name := "linearMade", fn := fun _ => fun
  | [d1, d2] => { results := [.lit (.bool true)], args := [d1, d2] }
  | _ => none }
def linearMadeRow : OpenClaim := { program := "ytdmkdogakbipbaa", sum := "1374cdd593d8b71a42c506a9269ebaa4aedce86c7c3c130546c7c673febd8cf1", func := "arras/arraslaw19.LinearMade", spec := "linearMade", unfollowed := true, recurses := true, apart := false }
def LinearMadeSaid : Prop := linearMadeRow.holds Try.pinned (OpenSpec.ofChange linearMadeSpec)

/-- ITS FALSE NEIGHBOUR: 'it returns false'. Refute it at one input. -/
def linearMadeWrong : ChangeSpec := { name := "linearMade", fn := fun _ => fun
  | [d1, d2] => { results := [.lit (.bool false)], args := [d1, d2] }
  | _ => none }
def LinearMadeWrongFalsely : Prop := linearMadeRow.holds Try.pinned (OpenSpec.ofChange linearMadeWrong)

/- THE SECOND FORM. 'bulk': how many values and letters a reading holds, each counted each time it is reached (what is shared counts as often as it is met; a slice's spare places count too). A statement '..UptoSaid' is the law's where the arguments, and the package variables that the reading takes, are together of bulk at most 1048576: NARROWER than '..Said'. Prove '..Said' where nothing that the law and all that it calls make is longer than what came in: it says more and counts as full. Else prove '..UptoSaid'. A law counts once. -/
mutual
def uptoBulk {H : Type} : DataW H → Nat
  | .lit (.string bytes) => bytes.length + 1
  | .lit _ => 1
  | .nil => 1
  | .ptr d => uptoBulk d + 1
  | .slice elems spare => uptoBulkAll elems + uptoBulkAll spare + 1
  | .agg parts => uptoBulkAll parts + 1
  | .iface _ d => uptoBulk d + 1
  | .map entries => uptoBulkEntries entries + 1
  | .held _ => 1
def uptoBulkAll {H : Type} : List (DataW H) → Nat
  | [] => 0
  | d :: r => uptoBulk d + uptoBulkAll r
def uptoBulkEntries {H : Type} : List (Lit × DataW H) → Nat
  | [] => 0
  | x :: r => uptoBulkEntry x + uptoBulkEntries r
def uptoBulkEntry {H : Type} : Lit × DataW H → Nat
  | (.string bytes, d) => bytes.length + uptoBulk d + 1
  | (_, d) => uptoBulk d + 1
 end
def uptoSmall : (H : Type) → List (DataW H) → Bool := fun _ ds => decide (uptoBulkAll ds ≤ 1048576)
def OpenSpec.upto (s : _root_.Go.ChangeSpec) : _root_.Go.OpenSpec := { _root_.Go.OpenSpec.ofChange s with cond := some uptoSmall }

/-- 'arraslaw17.IntervalSums', WHERE WHAT IT READS IS OF BULK AT MOST 1048576: true; the input reads as it did. -/
def intervalSumsUptoRow : OpenClaim := { program := "ytdmkdogakbipbaa", sum := "1374cdd593d8b71a42c506a9269ebaa4aedce86c7c3c130546c7c673febd8cf1", func := "arras/arraslaw17.IntervalSums", spec := "intervalSums", unfollowed := true, recurses := true, apart := false, narrowed := true }
def IntervalSumsUptoSaid : Prop := intervalSumsUptoRow.holds Try.pinned (OpenSpec.upto intervalSumsSpec)

/-- 'arraslaw18.TidyMakes', WHERE WHAT IT READS IS OF BULK AT MOST 1048576: true; the input reads as it did. -/
def tidyMakesUptoRow : OpenClaim := { program := "ytdmkdogakbipbaa", sum := "1374cdd593d8b71a42c506a9269ebaa4aedce86c7c3c130546c7c673febd8cf1", func := "arras/arraslaw18.TidyMakes", spec := "tidyMakes", unfollowed := true, recurses := true, apart := false, narrowed := true }
def TidyMakesUptoSaid : Prop := tidyMakesUptoRow.holds Try.pinned (OpenSpec.upto tidyMakesSpec)

/-- 'arraslaw18.TidyMeans', WHERE WHAT IT READS IS OF BULK AT MOST 1048576: true; the input reads as it did. -/
def tidyMeansUptoRow : OpenClaim := { program := "ytdmkdogakbipbaa", sum := "1374cdd593d8b71a42c506a9269ebaa4aedce86c7c3c130546c7c673febd8cf1", func := "arras/arraslaw18.TidyMeans", spec := "tidyMeans", unfollowed := true, recurses := true, apart := false, narrowed := true }
def TidyMeansUptoSaid : Prop := tidyMeansUptoRow.holds Try.pinned (OpenSpec.upto tidyMeansSpec)

/-- 'arraslaw18.TidyAgain', WHERE WHAT IT READS IS OF BULK AT MOST 1048576: true; the input reads as it did. -/
def tidyAgainUptoRow : OpenClaim := { program := "ytdmkdogakbipbaa", sum := "1374cdd593d8b71a42c506a9269ebaa4aedce86c7c3c130546c7c673febd8cf1", func := "arras/arraslaw18.TidyAgain", spec := "tidyAgain", unfollowed := true, recurses := true, apart := false, narrowed := true }
def TidyAgainUptoSaid : Prop := tidyAgainUptoRow.holds Try.pinned (OpenSpec.upto tidyAgainSpec)

/-- 'arraslaw18.TidyDouble', WHERE WHAT IT READS IS OF BULK AT MOST 1048576: true; the input reads as it did. -/
def tidyDoubleUptoRow : OpenClaim := { program := "ytdmkdogakbipbaa", sum := "1374cdd593d8b71a42c506a9269ebaa4aedce86c7c3c130546c7c673febd8cf1", func := "arras/arraslaw18.TidyDouble", spec := "tidyDouble", unfollowed := true, recurses := true, apart := false, narrowed := true }
def TidyDoubleUptoSaid : Prop := tidyDoubleUptoRow.holds Try.pinned (OpenSpec.upto tidyDoubleSpec)

/-- 'arraslaw18.TidyConstant', WHERE WHAT IT READS IS OF BULK AT MOST 1048576: true; the input reads as it did. -/
def tidyConstantUptoRow : OpenClaim := { program := "ytdmkdogakbipbaa", sum := "1374cdd593d8b71a42c506a9269ebaa4aedce86c7c3c130546c7c673febd8cf1", func := "arras/arraslaw18.TidyConstant", spec := "tidyConstant", unfollowed := true, recurses := true, apart := false, narrowed := true }
def TidyConstantUptoSaid : Prop := tidyConstantUptoRow.holds Try.pinned (OpenSpec.upto tidyConstantSpec)

/-- 'arraslaw19.LinearSlots', WHERE WHAT IT READS IS OF BULK AT MOST 1048576: true; the input reads as it did. -/
def linearSlotsUptoRow : OpenClaim := { program := "ytdmkdogakbipbaa", sum := "1374cdd593d8b71a42c506a9269ebaa4aedce86c7c3c130546c7c673febd8cf1", func := "arras/arraslaw19.LinearSlots", spec := "linearSlots", unfollowed := true, recurses := true, apart := false, narrowed := true }
def LinearSlotsUptoSaid : Prop := linearSlotsUptoRow.holds Try.pinned (OpenSpec.upto linearSlotsSpec)

/-- 'arraslaw19.LinearDiagonals', WHERE WHAT IT READS IS OF BULK AT MOST 1048576: true; the input reads as it did. -/
def linearDiagonalsUptoRow : OpenClaim := { program := "ytdmkdogakbipbaa", sum := "1374cdd593d8b71a42c506a9269ebaa4aedce86c7c3c130546c7c673febd8cf1", func := "arras/arraslaw19.LinearDiagonals", spec := "linearDiagonals", unfollowed := true, recurses := true, apart := false, narrowed := true }
def LinearDiagonalsUptoSaid : Prop := linearDiagonalsUptoRow.holds Try.pinned (OpenSpec.upto linearDiagonalsSpec)

/-- 'arraslaw19.LinearSums', WHERE WHAT IT READS IS OF BULK AT MOST 1048576: true; the input reads as it did. -/
def linearSumsUptoRow : OpenClaim := { program := "ytdmkdogakbipbaa", sum := "1374cdd593d8b71a42c506a9269ebaa4aedce86c7c3c130546c7c673febd8cf1", func := "arras/arraslaw19.LinearSums", spec := "linearSums", unfollowed := true, recurses := true, apart := false, narrowed := true }
def LinearSumsUptoSaid : Prop := linearSumsUptoRow.holds Try.pinned (OpenSpec.upto linearSumsSpec)

/-- 'arraslaw19.LinearPlaces', WHERE WHAT IT READS IS OF BULK AT MOST 1048576: true; the input reads as it did. -/
def linearPlacesUptoRow : OpenClaim := { program := "ytdmkdogakbipbaa", sum := "1374cdd593d8b71a42c506a9269ebaa4aedce86c7c3c130546c7c673febd8cf1", func := "arras/arraslaw19.LinearPlaces", spec := "linearPlaces", unfollowed := true, recurses := true, apart := false, narrowed := true }
def LinearPlacesUptoSaid : Prop := linearPlacesUptoRow.holds Try.pinned (OpenSpec.upto linearPlacesSpec)

/-- 'arraslaw19.LinearRows', WHERE WHAT IT READS IS OF BULK AT MOST 1048576: true; the input reads as it did. -/
def linearRowsUptoRow : OpenClaim := { program := "ytdmkdogakbipbaa", sum := "1374cdd593d8b71a42c506a9269ebaa4aedce86c7c3c130546c7c673febd8cf1", func := "arras/arraslaw19.LinearRows", spec := "linearRows", unfollowed := true, recurses := true, apart := false, narrowed := true }
def LinearRowsUptoSaid : Prop := linearRowsUptoRow.holds Try.pinned (OpenSpec.upto linearRowsSpec)

/-- 'arraslaw19.LinearMade', WHERE WHAT IT READS IS OF BULK AT MOST 1048576: true; the input reads as it did. -/
def linearMadeUptoRow : OpenClaim := { program := "ytdmkdogakbipbaa", sum := "1374cdd593d8b71a42c506a9269ebaa4aedce86c7c3c130546c7c673febd8cf1", func := "arras/arraslaw19.LinearMade", spec := "linearMade", unfollowed := true, recurses := true, apart := false, narrowed := true }
def LinearMadeUptoSaid : Prop := linearMadeUptoRow.holds Try.pinned (OpenSpec.upto linearMadeSpec)

end Rows
end Go.Proofs.Ytdmkdogakbipbaa
