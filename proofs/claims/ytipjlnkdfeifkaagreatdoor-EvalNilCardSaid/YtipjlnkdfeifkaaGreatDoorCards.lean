/-
  DERIVED. GIVEN WITH THE SEED: THE CARDS: each row of YtipjlnkdfeifkaaGreatDoorRows.lean that lists a variable, with what it lists TIED to the program's text (the seventh form; the later family's looks); each row that meets fmt, with fmt's text TOLD by the authors' own Lean function (tested against real Go, not proved from fmt's source: count such statements apart). THE CARD IS WHAT COUNTS. Prove the row's statement (the work); the ties are given (YtipjlnkdfeifkaaGreatDoorTie.lean); close each card by the builder's one call (the guide's Derived/Test/ToyasCard.lean, 'card_holds'). Laid BY PROGRAM, IN A SANDBOX (cutbox-door.mjs). By AI agents, Wed Nov 11 2026. No macro, syntax, notation, axiom, sorry.
-/
import Derived.Test.YtipjlnkdfeifkaaGreatDoorRows
import GoSem.ClaimSeven
namespace Go.Proofs.YtipjlnkdfeifkaaGreatDoor
namespace Rows

/-- THE TIED CARD OF 'arraslaw13.EvalNil'. -/
def evalNilCard : Claim7 := { stood := { row := evalNilRow, standIns := [], harness := (true, "88fcb32ca08011e5b6e086648c496507e93269f86798da16581fcf9649eb5299"), looks := false }, kinds := [], alts := [], laidByText := true, laidKinds := [.data], laidTests := true, laidLooks := .later }
def EvalNilCardSaid : Prop := Claim7.holds Tryz.pinned (.plain (OpenSpec.ofChange evalNilSpec)) evalNilCard

/-- THE SECOND FORM's CARD OF 'arraslaw13.EvalNil'. -/
def evalNilUptoCard : Claim7 := { stood := { row := evalNilUptoRow, standIns := [], harness := (true, "88fcb32ca08011e5b6e086648c496507e93269f86798da16581fcf9649eb5299"), looks := false }, kinds := [], alts := [], laidByText := true, laidKinds := [.data], laidTests := true, laidLooks := .later }
def EvalNilUptoCardSaid : Prop := Claim7.holds Tryz.pinned (.plain (OpenSpec.upto evalNilSpec)) evalNilUptoCard
end Rows
end Go.Proofs.YtipjlnkdfeifkaaGreatDoor
