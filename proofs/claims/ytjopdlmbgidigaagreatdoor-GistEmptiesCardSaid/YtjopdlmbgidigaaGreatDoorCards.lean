/-
  DERIVED. GIVEN WITH THE SEED: THE CARDS: each row of YtjopdlmbgidigaaGreatDoorRows.lean that lists a variable, with what it lists TIED to the program's text (the seventh form; the later family's looks); each row that meets fmt, with fmt's text TOLD by the authors' own Lean function (tested against real Go, not proved from fmt's source: count such statements apart). THE CARD IS WHAT COUNTS. Prove the row's statement (the work); the ties are given (YtjopdlmbgidigaaGreatDoorTie.lean); close each card by the builder's one call (the guide's Derived/Test/ToyasCard.lean, 'card_holds'). Laid BY PROGRAM, IN A SANDBOX (cutbox-door.mjs). By AI agents, Wed Nov 11 2026. No macro, syntax, notation, axiom, sorry.
-/
import Derived.Test.YtjopdlmbgidigaaGreatDoorRows
import GoSem.ClaimSeven
namespace Go.Proofs.YtjopdlmbgidigaaGreatDoor
namespace Rows

/-- THE TIED CARD OF 'pergolalaw17.GistRefused'. -/
def gistRefusedCard : Claim7 := { stood := { row := gistRefusedRow, standIns := [], harness := (true, "cbf594ffdcd0822ebf5ef69ab4e8bb14b92f406b725c4321e0dc2d97d02bee83"), looks := true }, kinds := [], alts := [], laidByText := true, laidKinds := [.handle], laidTests := true, laidLooks := .later }
def GistRefusedCardSaid : Prop := Claim7.holds Tryz.pinned (.plain (OpenSpec.ofChange gistRefusedSpec)) gistRefusedCard

/-- THE TIED CARD OF 'pergolalaw17.GistEmpties'. -/
def gistEmptiesCard : Claim7 := { stood := { row := gistEmptiesRow, standIns := [], harness := (true, "cbf594ffdcd0822ebf5ef69ab4e8bb14b92f406b725c4321e0dc2d97d02bee83"), looks := true }, kinds := [], alts := [], laidByText := true, laidKinds := [.handle], laidTests := true, laidLooks := .later }
def GistEmptiesCardSaid : Prop := Claim7.holds Tryz.pinned (.plain (OpenSpec.ofChange gistEmptiesSpec)) gistEmptiesCard

/-- THE SECOND FORM's CARD OF 'pergolalaw17.GistRefused'. -/
def gistRefusedUptoCard : Claim7 := { stood := { row := gistRefusedUptoRow, standIns := [], harness := (true, "cbf594ffdcd0822ebf5ef69ab4e8bb14b92f406b725c4321e0dc2d97d02bee83"), looks := true }, kinds := [], alts := [], laidByText := true, laidKinds := [.handle], laidTests := true, laidLooks := .later }
def GistRefusedUptoCardSaid : Prop := Claim7.holds Tryz.pinned (.plain (OpenSpec.upto gistRefusedSpec)) gistRefusedUptoCard

/-- THE SECOND FORM's CARD OF 'pergolalaw17.GistEmpties'. -/
def gistEmptiesUptoCard : Claim7 := { stood := { row := gistEmptiesUptoRow, standIns := [], harness := (true, "cbf594ffdcd0822ebf5ef69ab4e8bb14b92f406b725c4321e0dc2d97d02bee83"), looks := true }, kinds := [], alts := [], laidByText := true, laidKinds := [.handle], laidTests := true, laidLooks := .later }
def GistEmptiesUptoCardSaid : Prop := Claim7.holds Tryz.pinned (.plain (OpenSpec.upto gistEmptiesSpec)) gistEmptiesUptoCard
end Rows
end Go.Proofs.YtjopdlmbgidigaaGreatDoor
