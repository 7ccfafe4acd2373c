/-
  DERIVED. GIVEN WITH THE SEED: THE CARDS: each row of YtmliljdbpkikpaaDoorRows.lean that lists a variable, with what it lists TIED to the program's text (the seventh form; the later family's looks); each row that meets fmt, with fmt's text TOLD by the authors' own Lean function (tested against real Go, not proved from fmt's source: count such statements apart). THE CARD IS WHAT COUNTS. Prove the row's statement (the work); the ties are given (YtmliljdbpkikpaaDoorTie.lean); close each card by the builder's one call (the guide's Derived/Test/ToyasCard.lean, 'card_holds'). Laid BY PROGRAM, IN A SANDBOX (cutbox-door.mjs). By AI agents, Wed Nov 11 2026. No macro, syntax, notation, axiom, sorry.
-/
import Derived.Test.YtmliljdbpkikpaaDoorRows
import GoSem.ClaimSeven
namespace Go.Proofs.YtmliljdbpkikpaaDoor
namespace Rows

/-- THE TIED CARD OF 'pergolalaw21.HullBoxes'. -/
def hullBoxesCard : Claim7 := { stood := { row := hullBoxesRow, standIns := [], harness := (true, "e1c638f837e3fd6a2e5d8e8f4797e620a962bc85b8ce3ba425627b49f34fa408"), looks := true }, kinds := [], alts := [], laidByText := true, laidKinds := [.handle], laidTests := true, laidLooks := .later }
def HullBoxesCardSaid : Prop := Claim7.holds Tryd.pinned (.plain (OpenSpec.ofChange hullBoxesSpec)) hullBoxesCard

/-- THE SECOND FORM's CARD OF 'pergolalaw21.HullBoxes'. -/
def hullBoxesUptoCard : Claim7 := { stood := { row := hullBoxesUptoRow, standIns := [], harness := (true, "e1c638f837e3fd6a2e5d8e8f4797e620a962bc85b8ce3ba425627b49f34fa408"), looks := true }, kinds := [], alts := [], laidByText := true, laidKinds := [.handle], laidTests := true, laidLooks := .later }
def HullBoxesUptoCardSaid : Prop := Claim7.holds Tryd.pinned (.plain (OpenSpec.upto hullBoxesSpec)) hullBoxesUptoCard
end Rows
end Go.Proofs.YtmliljdbpkikpaaDoor
