/-
  DERIVED. GIVEN WITH THE SEED: THE CARDS: each row of YteodamnfgcnmmaaGreatDoorRows.lean that lists a variable, with what it lists TIED to the program's text (the seventh form; the later family's looks); each row that meets fmt, with fmt's text TOLD by the authors' own Lean function (tested against real Go, not proved from fmt's source: count such statements apart). THE CARD IS WHAT COUNTS. Prove the row's statement (the work); the ties are given (YteodamnfgcnmmaaGreatDoorTie.lean); close each card by the builder's one call (the guide's Derived/Test/ToyasCard.lean, 'card_holds'). Laid BY PROGRAM, IN A SANDBOX (cutbox-door.mjs). By AI agents, Wed Nov 11 2026. No macro, syntax, notation, axiom, sorry.
-/
import Derived.Test.YteodamnfgcnmmaaGreatDoorRows
import GoSem.ClaimSeven
namespace Go.Proofs.YteodamnfgcnmmaaGreatDoor
namespace Rows

/-- THE TIED CARD OF 'pergolalaw18.ScanNears'. -/
def scanNearsCard : Claim7 := { stood := { row := scanNearsRow, standIns := [], harness := (true, "311cc9d4280b2d546df62bdddfcd704a3fe8a04bf53158406063d0b375e64bbd"), looks := true }, kinds := [], alts := [], laidByText := true, laidKinds := [.handle], laidTests := true, laidLooks := .later }
def ScanNearsCardSaid : Prop := Claim7.holds Tryz.pinned (.plain (OpenSpec.ofChange scanNearsSpec)) scanNearsCard

/-- THE TIED CARD OF 'pergolalaw18.ScanSearches'. -/
def scanSearchesCard : Claim7 := { stood := { row := scanSearchesRow, standIns := [], harness := (true, "311cc9d4280b2d546df62bdddfcd704a3fe8a04bf53158406063d0b375e64bbd"), looks := true }, kinds := [], alts := [], laidByText := true, laidKinds := [.handle], laidTests := true, laidLooks := .later }
def ScanSearchesCardSaid : Prop := Claim7.holds Tryz.pinned (.plain (OpenSpec.ofChange scanSearchesSpec)) scanSearchesCard

/-- THE SECOND FORM's CARD OF 'pergolalaw18.ScanNears'. -/
def scanNearsUptoCard : Claim7 := { stood := { row := scanNearsUptoRow, standIns := [], harness := (true, "311cc9d4280b2d546df62bdddfcd704a3fe8a04bf53158406063d0b375e64bbd"), looks := true }, kinds := [], alts := [], laidByText := true, laidKinds := [.handle], laidTests := true, laidLooks := .later }
def ScanNearsUptoCardSaid : Prop := Claim7.holds Tryz.pinned (.plain (OpenSpec.upto scanNearsSpec)) scanNearsUptoCard

/-- THE SECOND FORM's CARD OF 'pergolalaw18.ScanSearches'. -/
def scanSearchesUptoCard : Claim7 := { stood := { row := scanSearchesUptoRow, standIns := [], harness := (true, "311cc9d4280b2d546df62bdddfcd704a3fe8a04bf53158406063d0b375e64bbd"), looks := true }, kinds := [], alts := [], laidByText := true, laidKinds := [.handle], laidTests := true, laidLooks := .later }
def ScanSearchesUptoCardSaid : Prop := Claim7.holds Tryz.pinned (.plain (OpenSpec.upto scanSearchesSpec)) scanSearchesUptoCard
end Rows
end Go.Proofs.YteodamnfgcnmmaaGreatDoor
