/-
  DERIVED. GIVEN WITH THE SEED: THE CARDS: each row of YtknidfiokmghjaaGreatDoorRows.lean that lists a variable, with what it lists TIED to the program's text (the seventh form; the later family's looks); each row that meets fmt, with fmt's text TOLD by the authors' own Lean function (tested against real Go, not proved from fmt's source: count such statements apart). THE CARD IS WHAT COUNTS. Prove the row's statement (the work); the ties are given (YtknidfiokmghjaaGreatDoorTie.lean); close each card by the builder's one call (the guide's Derived/Test/ToyasCard.lean, 'card_holds'). Laid BY PROGRAM, IN A SANDBOX (cutbox-door.mjs). By AI agents, Wed Nov 11 2026. No macro, syntax, notation, axiom, sorry.
-/
import Derived.Test.YtknidfiokmghjaaGreatDoorRows
import GoSem.ClaimSeven
namespace Go.Proofs.YtknidfiokmghjaaGreatDoor
namespace Rows

/-- THE TIED CARD OF 'pergolalaw6.RelTouches'. -/
def relTouchesCard : Claim7 := { stood := { row := relTouchesRow, standIns := [], harness := (true, "7088cd3d0a9cb61c2c32b5a4a4aa455482b49acf94ef2a6a645f8638756e8f53"), looks := true }, kinds := [], alts := [], laidByText := true, laidKinds := [.handle], laidTests := true, laidLooks := .later }
def RelTouchesCardSaid : Prop := Claim7.holds Tryz.pinned (.plain (OpenSpec.ofChange relTouchesSpec)) relTouchesCard

/-- THE TIED CARD OF 'pergolalaw6.RelKinds'. -/
def relKindsCard : Claim7 := { stood := { row := relKindsRow, standIns := [], harness := (true, "7088cd3d0a9cb61c2c32b5a4a4aa455482b49acf94ef2a6a645f8638756e8f53"), looks := true }, kinds := [], alts := [], laidByText := true, laidKinds := [.handle], laidTests := true, laidLooks := .later }
def RelKindsCardSaid : Prop := Claim7.holds Tryz.pinned (.plain (OpenSpec.ofChange relKindsSpec)) relKindsCard

/-- THE TIED CARD OF 'pergolalaw6.RelMoves'. -/
def relMovesCard : Claim7 := { stood := { row := relMovesRow, standIns := [], harness := (true, "7088cd3d0a9cb61c2c32b5a4a4aa455482b49acf94ef2a6a645f8638756e8f53"), looks := true }, kinds := [], alts := [], laidByText := true, laidKinds := [.handle], laidTests := true, laidLooks := .later }
def RelMovesCardSaid : Prop := Claim7.holds Tryz.pinned (.plain (OpenSpec.ofChange relMovesSpec)) relMovesCard

/-- THE TIED CARD OF 'pergolalaw6.RelMatches'. -/
def relMatchesCard : Claim7 := { stood := { row := relMatchesRow, standIns := [], harness := (true, "7088cd3d0a9cb61c2c32b5a4a4aa455482b49acf94ef2a6a645f8638756e8f53"), looks := true }, kinds := [], alts := [], laidByText := true, laidKinds := [.handle], laidTests := true, laidLooks := .later }
def RelMatchesCardSaid : Prop := Claim7.holds Tryz.pinned (.plain (OpenSpec.ofChange relMatchesSpec)) relMatchesCard

/-- THE TIED CARD OF 'pergolalaw6.RelSame'. -/
def relSameCard : Claim7 := { stood := { row := relSameRow, standIns := [], harness := (true, "7088cd3d0a9cb61c2c32b5a4a4aa455482b49acf94ef2a6a645f8638756e8f53"), looks := true }, kinds := [], alts := [], laidByText := true, laidKinds := [.handle], laidTests := true, laidLooks := .later }
def RelSameCardSaid : Prop := Claim7.holds Tryz.pinned (.plain (OpenSpec.ofChange relSameSpec)) relSameCard

/-- THE TIED CARD OF 'pergolalaw6.RelZero'. -/
def relZeroCard : Claim7 := { stood := { row := relZeroRow, standIns := [], harness := (true, "7088cd3d0a9cb61c2c32b5a4a4aa455482b49acf94ef2a6a645f8638756e8f53"), looks := true }, kinds := [], alts := [], laidByText := true, laidKinds := [.handle], laidTests := true, laidLooks := .later }
def RelZeroCardSaid : Prop := Claim7.holds Tryz.pinned (.plain (OpenSpec.ofChange relZeroSpec)) relZeroCard

/-- THE SECOND FORM's CARD OF 'pergolalaw6.RelTouches'. -/
def relTouchesUptoCard : Claim7 := { stood := { row := relTouchesUptoRow, standIns := [], harness := (true, "7088cd3d0a9cb61c2c32b5a4a4aa455482b49acf94ef2a6a645f8638756e8f53"), looks := true }, kinds := [], alts := [], laidByText := true, laidKinds := [.handle], laidTests := true, laidLooks := .later }
def RelTouchesUptoCardSaid : Prop := Claim7.holds Tryz.pinned (.plain (OpenSpec.upto relTouchesSpec)) relTouchesUptoCard

/-- THE SECOND FORM's CARD OF 'pergolalaw6.RelKinds'. -/
def relKindsUptoCard : Claim7 := { stood := { row := relKindsUptoRow, standIns := [], harness := (true, "7088cd3d0a9cb61c2c32b5a4a4aa455482b49acf94ef2a6a645f8638756e8f53"), looks := true }, kinds := [], alts := [], laidByText := true, laidKinds := [.handle], laidTests := true, laidLooks := .later }
def RelKindsUptoCardSaid : Prop := Claim7.holds Tryz.pinned (.plain (OpenSpec.upto relKindsSpec)) relKindsUptoCard

/-- THE SECOND FORM's CARD OF 'pergolalaw6.RelMoves'. -/
def relMovesUptoCard : Claim7 := { stood := { row := relMovesUptoRow, standIns := [], harness := (true, "7088cd3d0a9cb61c2c32b5a4a4aa455482b49acf94ef2a6a645f8638756e8f53"), looks := true }, kinds := [], alts := [], laidByText := true, laidKinds := [.handle], laidTests := true, laidLooks := .later }
def RelMovesUptoCardSaid : Prop := Claim7.holds Tryz.pinned (.plain (OpenSpec.upto relMovesSpec)) relMovesUptoCard

/-- THE SECOND FORM's CARD OF 'pergolalaw6.RelMatches'. -/
def relMatchesUptoCard : Claim7 := { stood := { row := relMatchesUptoRow, standIns := [], harness := (true, "7088cd3d0a9cb61c2c32b5a4a4aa455482b49acf94ef2a6a645f8638756e8f53"), looks := true }, kinds := [], alts := [], laidByText := true, laidKinds := [.handle], laidTests := true, laidLooks := .later }
def RelMatchesUptoCardSaid : Prop := Claim7.holds Tryz.pinned (.plain (OpenSpec.upto relMatchesSpec)) relMatchesUptoCard

/-- THE SECOND FORM's CARD OF 'pergolalaw6.RelSame'. -/
def relSameUptoCard : Claim7 := { stood := { row := relSameUptoRow, standIns := [], harness := (true, "7088cd3d0a9cb61c2c32b5a4a4aa455482b49acf94ef2a6a645f8638756e8f53"), looks := true }, kinds := [], alts := [], laidByText := true, laidKinds := [.handle], laidTests := true, laidLooks := .later }
def RelSameUptoCardSaid : Prop := Claim7.holds Tryz.pinned (.plain (OpenSpec.upto relSameSpec)) relSameUptoCard

/-- THE SECOND FORM's CARD OF 'pergolalaw6.RelZero'. -/
def relZeroUptoCard : Claim7 := { stood := { row := relZeroUptoRow, standIns := [], harness := (true, "7088cd3d0a9cb61c2c32b5a4a4aa455482b49acf94ef2a6a645f8638756e8f53"), looks := true }, kinds := [], alts := [], laidByText := true, laidKinds := [.handle], laidTests := true, laidLooks := .later }
def RelZeroUptoCardSaid : Prop := Claim7.holds Tryz.pinned (.plain (OpenSpec.upto relZeroSpec)) relZeroUptoCard
end Rows
end Go.Proofs.YtknidfiokmghjaaGreatDoor
