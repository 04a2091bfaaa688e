/-
  DERIVED. GIVEN WITH THE SEED: THE CARDS: each row of YtiofnhohjioieaaGreatDoorRows.lean that lists a variable, with what it lists TIED to the program's text (the seventh form; the later family's looks); each row that meets fmt, with fmt's text TOLD by the authors' own Lean function (tested against real Go, not proved from fmt's source: count such statements apart). THE CARD IS WHAT COUNTS. Prove the row's statement (the work); the ties are given (YtiofnhohjioieaaGreatDoorTie.lean); close each card by the builder's one call (the guide's Derived/Test/ToyasCard.lean, 'card_holds'). Laid BY PROGRAM, IN A SANDBOX (cutbox-door.mjs). By AI agents, Wed Nov 11 2026. No macro, syntax, notation, axiom, sorry.
-/
import Derived.Test.YtiofnhohjioieaaGreatDoorRows
import GoSem.ClaimSeven
namespace Go.Proofs.YtiofnhohjioieaaGreatDoor
namespace Rows

/-- THE TIED CARD OF 'arraslaw22.PlacePlain'. -/
def placePlainCard : Claim7 := { stood := { row := placePlainRow, standIns := [], harness := (true, "5df011727ccfe79bc683f4914694a7b03090dbc5d20e2398a188a4ac6a0d7e6f"), looks := false }, kinds := [], alts := [], laidByText := true, laidKinds := [.data], laidTests := true, laidLooks := .later }
def PlacePlainCardSaid : Prop := Claim7.holds Tryz.pinned (.plain (OpenSpec.ofChange placePlainSpec)) placePlainCard

/-- THE TIED CARD OF 'arraslaw22.PlaceKeeps'. -/
def placeKeepsCard : Claim7 := { stood := { row := placeKeepsRow, standIns := [], harness := (true, "5df011727ccfe79bc683f4914694a7b03090dbc5d20e2398a188a4ac6a0d7e6f"), looks := false }, kinds := [], alts := [], laidByText := true, laidKinds := [.data], laidTests := true, laidLooks := .later }
def PlaceKeepsCardSaid : Prop := Claim7.holds Tryz.pinned (.plain (OpenSpec.ofChange placeKeepsSpec)) placeKeepsCard

/-- THE TIED CARD OF 'arraslaw22.PlaceFamily'. -/
def placeFamilyCard : Claim7 := { stood := { row := placeFamilyRow, standIns := [], harness := (true, "5df011727ccfe79bc683f4914694a7b03090dbc5d20e2398a188a4ac6a0d7e6f"), looks := false }, kinds := [], alts := [], laidByText := true, laidKinds := [.data], laidTests := true, laidLooks := .later }
def PlaceFamilyCardSaid : Prop := Claim7.holds Tryz.pinned (.plain (OpenSpec.ofChange placeFamilySpec)) placeFamilyCard

/-- THE SECOND FORM's CARD OF 'arraslaw22.PlacePlain'. -/
def placePlainUptoCard : Claim7 := { stood := { row := placePlainUptoRow, standIns := [], harness := (true, "5df011727ccfe79bc683f4914694a7b03090dbc5d20e2398a188a4ac6a0d7e6f"), looks := false }, kinds := [], alts := [], laidByText := true, laidKinds := [.data], laidTests := true, laidLooks := .later }
def PlacePlainUptoCardSaid : Prop := Claim7.holds Tryz.pinned (.plain (OpenSpec.upto placePlainSpec)) placePlainUptoCard

/-- THE SECOND FORM's CARD OF 'arraslaw22.PlaceKeeps'. -/
def placeKeepsUptoCard : Claim7 := { stood := { row := placeKeepsUptoRow, standIns := [], harness := (true, "5df011727ccfe79bc683f4914694a7b03090dbc5d20e2398a188a4ac6a0d7e6f"), looks := false }, kinds := [], alts := [], laidByText := true, laidKinds := [.data], laidTests := true, laidLooks := .later }
def PlaceKeepsUptoCardSaid : Prop := Claim7.holds Tryz.pinned (.plain (OpenSpec.upto placeKeepsSpec)) placeKeepsUptoCard

/-- THE SECOND FORM's CARD OF 'arraslaw22.PlaceFamily'. -/
def placeFamilyUptoCard : Claim7 := { stood := { row := placeFamilyUptoRow, standIns := [], harness := (true, "5df011727ccfe79bc683f4914694a7b03090dbc5d20e2398a188a4ac6a0d7e6f"), looks := false }, kinds := [], alts := [], laidByText := true, laidKinds := [.data], laidTests := true, laidLooks := .later }
def PlaceFamilyUptoCardSaid : Prop := Claim7.holds Tryz.pinned (.plain (OpenSpec.upto placeFamilySpec)) placeFamilyUptoCard
end Rows
end Go.Proofs.YtiofnhohjioieaaGreatDoor
