/-
  DERIVED. GIVEN WITH THE SEED: THE CARDS: each row of YtmliljdbpkikpaaGreatDoorRows.lean that lists a variable, with what it lists TIED to the program's text (the seventh form; the later family's looks); each row that meets fmt, with fmt's text TOLD by the authors' own Lean function (tested against real Go, not proved from fmt's source: count such statements apart). THE CARD IS WHAT COUNTS. Prove the row's statement (the work); the ties are given (YtmliljdbpkikpaaGreatDoorTie.lean); close each card by the builder's one call (the guide's Derived/Test/ToyasCard.lean, 'card_holds'). Laid BY PROGRAM, IN A SANDBOX (cutbox-door.mjs). By AI agents, Wed Nov 11 2026. No macro, syntax, notation, axiom, sorry.
-/
import Derived.Test.YtmliljdbpkikpaaGreatDoorRows
import GoSem.ClaimSeven
namespace Go.Proofs.YtmliljdbpkikpaaGreatDoor
namespace Rows

/-- THE TIED CARD OF 'pergolalaw21.HullClose'. -/
def hullCloseCard : Claim7 := { stood := { row := hullCloseRow, standIns := [], harness := (true, "8329804d322e5bb5b8054e4ae664c6689ce8187da8d8800129e25c85de5f0194"), looks := true }, kinds := [], alts := [], laidByText := true, laidKinds := [.handle], laidTests := true, laidLooks := .later }
def HullCloseCardSaid : Prop := Claim7.holds Tryz.pinned (.plain (OpenSpec.ofChange hullCloseSpec)) hullCloseCard

/-- THE TIED CARD OF 'pergolalaw16.OpclassBoxes'. -/
def opclassBoxesCard : Claim7 := { stood := { row := opclassBoxesRow, standIns := [], harness := (true, "8329804d322e5bb5b8054e4ae664c6689ce8187da8d8800129e25c85de5f0194"), looks := true }, kinds := [], alts := [], laidByText := true, laidKinds := [.handle], laidTests := true, laidLooks := .later }
def OpclassBoxesCardSaid : Prop := Claim7.holds Tryz.pinned (.plain (OpenSpec.ofChange opclassBoxesSpec)) opclassBoxesCard

/-- THE SECOND FORM's CARD OF 'pergolalaw21.HullClose'. -/
def hullCloseUptoCard : Claim7 := { stood := { row := hullCloseUptoRow, standIns := [], harness := (true, "8329804d322e5bb5b8054e4ae664c6689ce8187da8d8800129e25c85de5f0194"), looks := true }, kinds := [], alts := [], laidByText := true, laidKinds := [.handle], laidTests := true, laidLooks := .later }
def HullCloseUptoCardSaid : Prop := Claim7.holds Tryz.pinned (.plain (OpenSpec.upto hullCloseSpec)) hullCloseUptoCard

/-- THE SECOND FORM's CARD OF 'pergolalaw16.OpclassBoxes'. -/
def opclassBoxesUptoCard : Claim7 := { stood := { row := opclassBoxesUptoRow, standIns := [], harness := (true, "8329804d322e5bb5b8054e4ae664c6689ce8187da8d8800129e25c85de5f0194"), looks := true }, kinds := [], alts := [], laidByText := true, laidKinds := [.handle], laidTests := true, laidLooks := .later }
def OpclassBoxesUptoCardSaid : Prop := Claim7.holds Tryz.pinned (.plain (OpenSpec.upto opclassBoxesSpec)) opclassBoxesUptoCard
end Rows
end Go.Proofs.YtmliljdbpkikpaaGreatDoor
