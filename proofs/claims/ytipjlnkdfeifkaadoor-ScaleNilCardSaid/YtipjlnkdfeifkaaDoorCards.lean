/-
  DERIVED. GIVEN WITH THE SEED: THE CARDS: each row of YtipjlnkdfeifkaaDoorRows.lean that lists a variable, with what it lists TIED to the program's text (the seventh form; the later family's looks); each row that meets fmt, with fmt's text TOLD by the authors' own Lean function (tested against real Go, not proved from fmt's source: count such statements apart). THE CARD IS WHAT COUNTS. Prove the row's statement (the work); the ties are given (YtipjlnkdfeifkaaDoorTie.lean); close each card by the builder's one call (the guide's Derived/Test/ToyasCard.lean, 'card_holds'). Laid BY PROGRAM, IN A SANDBOX (cutbox-door.mjs). By AI agents, Wed Nov 11 2026. No macro, syntax, notation, axiom, sorry.
-/
import Derived.Test.YtipjlnkdfeifkaaDoorRows
import GoSem.ClaimSeven
namespace Go.Proofs.YtipjlnkdfeifkaaDoor
namespace Rows

/-- THE TIED CARD OF 'arraslaw10.ScaleNil'. -/
def scaleNilCard : Claim7 := { stood := { row := scaleNilRow, standIns := [], harness := (true, "346ba957dc3108748b4930af2d0899915d98ee0a892381a0b6e10a6199cb2559"), looks := false }, kinds := [], alts := [], laidByText := true, laidKinds := [.data], laidTests := true, laidLooks := .later }
def ScaleNilCardSaid : Prop := Claim7.holds Tryd.pinned (.plain (OpenSpec.ofChange scaleNilSpec)) scaleNilCard

/-- THE SECOND FORM's CARD OF 'arraslaw10.ScaleNil'. -/
def scaleNilUptoCard : Claim7 := { stood := { row := scaleNilUptoRow, standIns := [], harness := (true, "346ba957dc3108748b4930af2d0899915d98ee0a892381a0b6e10a6199cb2559"), looks := false }, kinds := [], alts := [], laidByText := true, laidKinds := [.data], laidTests := true, laidLooks := .later }
def ScaleNilUptoCardSaid : Prop := Claim7.holds Tryd.pinned (.plain (OpenSpec.upto scaleNilSpec)) scaleNilUptoCard
end Rows
end Go.Proofs.YtipjlnkdfeifkaaDoor
