/-
  DERIVED. GIVEN WITH THE SEED: THE CARDS: each row of YtjdgibpjlhpanaaGreatDoorRows.lean that lists a variable, with what it lists TIED to the program's text (the seventh form; the later family's looks); each row that meets fmt, with fmt's text TOLD by the authors' own Lean function (tested against real Go, not proved from fmt's source: count such statements apart). THE CARD IS WHAT COUNTS. Prove the row's statement (the work); the ties are given (YtjdgibpjlhpanaaGreatDoorTie.lean); close each card by the builder's one call (the guide's Derived/Test/ToyasCard.lean, 'card_holds'). Laid BY PROGRAM, IN A SANDBOX (cutbox-door.mjs). By AI agents, Wed Nov 11 2026. No macro, syntax, notation, axiom, sorry.
-/
import Derived.Test.YtjdgibpjlhpanaaGreatDoorRows
import GoSem.ClaimSeven
namespace Go.Proofs.YtjdgibpjlhpanaaGreatDoor
namespace Rows

/-- THE TIED CARD OF 'pergolalaw6.RelMoves'. -/
def relMovesCard : Claim7 := { stood := { row := relMovesRow, standIns := [], harness := (true, "b4fc07e766ed7a41b32c54e925ce6a6a4c9a00b948a05295da47a0ae80fb4aa9"), looks := true }, kinds := [], alts := [], laidByText := true, laidKinds := [.handle], laidTests := true, laidLooks := .later }
def RelMovesCardSaid : Prop := Claim7.holds Tryz.pinned (.plain (OpenSpec.ofChange relMovesSpec)) relMovesCard

/-- THE TIED CARD OF 'pergolalaw21.HullTurns'. -/
def hullTurnsCard : Claim7 := { stood := { row := hullTurnsRow, standIns := [], harness := (true, "b4fc07e766ed7a41b32c54e925ce6a6a4c9a00b948a05295da47a0ae80fb4aa9"), looks := true }, kinds := [], alts := [], laidByText := true, laidKinds := [.handle], laidTests := true, laidLooks := .later }
def HullTurnsCardSaid : Prop := Claim7.holds Tryz.pinned (.plain (OpenSpec.ofChange hullTurnsSpec)) hullTurnsCard

/-- THE TIED CARD OF 'pergolalaw21.HullClose'. -/
def hullCloseCard : Claim7 := { stood := { row := hullCloseRow, standIns := [], harness := (true, "b4fc07e766ed7a41b32c54e925ce6a6a4c9a00b948a05295da47a0ae80fb4aa9"), looks := true }, kinds := [], alts := [], laidByText := true, laidKinds := [.handle], laidTests := true, laidLooks := .later }
def HullCloseCardSaid : Prop := Claim7.holds Tryz.pinned (.plain (OpenSpec.ofChange hullCloseSpec)) hullCloseCard

/-- THE TIED CARD OF 'pergolalaw21.HullAsks'. -/
def hullAsksCard : Claim7 := { stood := { row := hullAsksRow, standIns := [], harness := (true, "b4fc07e766ed7a41b32c54e925ce6a6a4c9a00b948a05295da47a0ae80fb4aa9"), looks := true }, kinds := [], alts := [], laidByText := true, laidKinds := [.handle], laidTests := true, laidLooks := .later }
def HullAsksCardSaid : Prop := Claim7.holds Tryz.pinned (.plain (OpenSpec.ofChange hullAsksSpec)) hullAsksCard

/-- THE TIED CARD OF 'pergolalaw16.OpclassBoxes'. -/
def opclassBoxesCard : Claim7 := { stood := { row := opclassBoxesRow, standIns := [], harness := (true, "b4fc07e766ed7a41b32c54e925ce6a6a4c9a00b948a05295da47a0ae80fb4aa9"), looks := true }, kinds := [], alts := [], laidByText := true, laidKinds := [.handle], laidTests := true, laidLooks := .later }
def OpclassBoxesCardSaid : Prop := Claim7.holds Tryz.pinned (.plain (OpenSpec.ofChange opclassBoxesSpec)) opclassBoxesCard

/-- THE SECOND FORM's CARD OF 'pergolalaw6.RelMoves'. -/
def relMovesUptoCard : Claim7 := { stood := { row := relMovesUptoRow, standIns := [], harness := (true, "b4fc07e766ed7a41b32c54e925ce6a6a4c9a00b948a05295da47a0ae80fb4aa9"), looks := true }, kinds := [], alts := [], laidByText := true, laidKinds := [.handle], laidTests := true, laidLooks := .later }
def RelMovesUptoCardSaid : Prop := Claim7.holds Tryz.pinned (.plain (OpenSpec.upto relMovesSpec)) relMovesUptoCard

/-- THE SECOND FORM's CARD OF 'pergolalaw21.HullTurns'. -/
def hullTurnsUptoCard : Claim7 := { stood := { row := hullTurnsUptoRow, standIns := [], harness := (true, "b4fc07e766ed7a41b32c54e925ce6a6a4c9a00b948a05295da47a0ae80fb4aa9"), looks := true }, kinds := [], alts := [], laidByText := true, laidKinds := [.handle], laidTests := true, laidLooks := .later }
def HullTurnsUptoCardSaid : Prop := Claim7.holds Tryz.pinned (.plain (OpenSpec.upto hullTurnsSpec)) hullTurnsUptoCard

/-- THE SECOND FORM's CARD OF 'pergolalaw21.HullClose'. -/
def hullCloseUptoCard : Claim7 := { stood := { row := hullCloseUptoRow, standIns := [], harness := (true, "b4fc07e766ed7a41b32c54e925ce6a6a4c9a00b948a05295da47a0ae80fb4aa9"), looks := true }, kinds := [], alts := [], laidByText := true, laidKinds := [.handle], laidTests := true, laidLooks := .later }
def HullCloseUptoCardSaid : Prop := Claim7.holds Tryz.pinned (.plain (OpenSpec.upto hullCloseSpec)) hullCloseUptoCard

/-- THE SECOND FORM's CARD OF 'pergolalaw21.HullAsks'. -/
def hullAsksUptoCard : Claim7 := { stood := { row := hullAsksUptoRow, standIns := [], harness := (true, "b4fc07e766ed7a41b32c54e925ce6a6a4c9a00b948a05295da47a0ae80fb4aa9"), looks := true }, kinds := [], alts := [], laidByText := true, laidKinds := [.handle], laidTests := true, laidLooks := .later }
def HullAsksUptoCardSaid : Prop := Claim7.holds Tryz.pinned (.plain (OpenSpec.upto hullAsksSpec)) hullAsksUptoCard

/-- THE SECOND FORM's CARD OF 'pergolalaw16.OpclassBoxes'. -/
def opclassBoxesUptoCard : Claim7 := { stood := { row := opclassBoxesUptoRow, standIns := [], harness := (true, "b4fc07e766ed7a41b32c54e925ce6a6a4c9a00b948a05295da47a0ae80fb4aa9"), looks := true }, kinds := [], alts := [], laidByText := true, laidKinds := [.handle], laidTests := true, laidLooks := .later }
def OpclassBoxesUptoCardSaid : Prop := Claim7.holds Tryz.pinned (.plain (OpenSpec.upto opclassBoxesSpec)) opclassBoxesUptoCard
end Rows
end Go.Proofs.YtjdgibpjlhpanaaGreatDoor
