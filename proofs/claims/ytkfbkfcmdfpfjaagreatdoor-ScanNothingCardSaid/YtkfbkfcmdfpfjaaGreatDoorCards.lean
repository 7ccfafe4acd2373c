/-
  DERIVED. GIVEN WITH THE SEED: THE CARDS: each row of YtkfbkfcmdfpfjaaGreatDoorRows.lean that lists a variable, with what it lists TIED to the program's text (the seventh form; the later family's looks); each row that meets fmt, with fmt's text TOLD by the authors' own Lean function (tested against real Go, not proved from fmt's source: count such statements apart). THE CARD IS WHAT COUNTS. Prove the row's statement (the work); the ties are given (YtkfbkfcmdfpfjaaGreatDoorTie.lean); close each card by the builder's one call (the guide's Derived/Test/ToyasCard.lean, 'card_holds'). Laid BY PROGRAM, IN A SANDBOX (cutbox-door.mjs). By AI agents, Wed Nov 11 2026. No macro, syntax, notation, axiom, sorry.
-/
import Derived.Test.YtkfbkfcmdfpfjaaGreatDoorRows
import GoSem.ClaimSeven
namespace Go.Proofs.YtkfbkfcmdfpfjaaGreatDoor
namespace Rows

/-- THE TIED CARD OF 'pergolalaw18.ScanNothing'. -/
def scanNothingCard : Claim7 := { stood := { row := scanNothingRow, standIns := [], harness := (true, "f31fa8d79bed385ff3442063b7c65c5db17ab0a655503d0b46acd3eb9d7d7c06"), looks := true }, kinds := [], alts := [], laidByText := true, laidKinds := [.handle], laidTests := true, laidLooks := .later }
def ScanNothingCardSaid : Prop := Claim7.holds Tryz.pinned (.plain (OpenSpec.ofChange scanNothingSpec)) scanNothingCard

/-- THE TIED CARD OF 'pergolalaw17.GistNothing'. -/
def gistNothingCard : Claim7 := { stood := { row := gistNothingRow, standIns := [], harness := (true, "f31fa8d79bed385ff3442063b7c65c5db17ab0a655503d0b46acd3eb9d7d7c06"), looks := true }, kinds := [], alts := [], laidByText := true, laidKinds := [.handle], laidTests := true, laidLooks := .later }
def GistNothingCardSaid : Prop := Claim7.holds Tryz.pinned (.plain (OpenSpec.ofChange gistNothingSpec)) gistNothingCard

/-- THE SECOND FORM's CARD OF 'pergolalaw18.ScanNothing'. -/
def scanNothingUptoCard : Claim7 := { stood := { row := scanNothingUptoRow, standIns := [], harness := (true, "f31fa8d79bed385ff3442063b7c65c5db17ab0a655503d0b46acd3eb9d7d7c06"), looks := true }, kinds := [], alts := [], laidByText := true, laidKinds := [.handle], laidTests := true, laidLooks := .later }
def ScanNothingUptoCardSaid : Prop := Claim7.holds Tryz.pinned (.plain (OpenSpec.upto scanNothingSpec)) scanNothingUptoCard

/-- THE SECOND FORM's CARD OF 'pergolalaw17.GistNothing'. -/
def gistNothingUptoCard : Claim7 := { stood := { row := gistNothingUptoRow, standIns := [], harness := (true, "f31fa8d79bed385ff3442063b7c65c5db17ab0a655503d0b46acd3eb9d7d7c06"), looks := true }, kinds := [], alts := [], laidByText := true, laidKinds := [.handle], laidTests := true, laidLooks := .later }
def GistNothingUptoCardSaid : Prop := Claim7.holds Tryz.pinned (.plain (OpenSpec.upto gistNothingSpec)) gistNothingUptoCard
end Rows
end Go.Proofs.YtkfbkfcmdfpfjaaGreatDoor
