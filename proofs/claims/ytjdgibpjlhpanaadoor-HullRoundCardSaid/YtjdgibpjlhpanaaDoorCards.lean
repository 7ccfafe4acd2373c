/-
  DERIVED. GIVEN WITH THE SEED: THE CARDS: each row of YtjdgibpjlhpanaaDoorRows.lean that lists a variable, with what it lists TIED to the program's text (the seventh form; the later family's looks); each row that meets fmt, with fmt's text TOLD by the authors' own Lean function (tested against real Go, not proved from fmt's source: count such statements apart). THE CARD IS WHAT COUNTS. Prove the row's statement (the work); the ties are given (YtjdgibpjlhpanaaDoorTie.lean); close each card by the builder's one call (the guide's Derived/Test/ToyasCard.lean, 'card_holds'). Laid BY PROGRAM, IN A SANDBOX (cutbox-door.mjs). By AI agents, Wed Nov 11 2026. No macro, syntax, notation, axiom, sorry.
-/
import Derived.Test.YtjdgibpjlhpanaaDoorRows
import GoSem.ClaimSeven
namespace Go.Proofs.YtjdgibpjlhpanaaDoor
namespace Rows

/-- THE TIED CARD OF 'pergolalaw16.OpclassKeys'. -/
def opclassKeysCard : Claim7 := { stood := { row := opclassKeysRow, standIns := [], harness := (true, "cdb5af9809b131ff07058aaf6ea8b8cc66bd3cf2bf39e913980bf7b351e19e5e"), looks := true }, kinds := [], alts := [], laidByText := true, laidKinds := [.handle], laidTests := true, laidLooks := .later }
def OpclassKeysCardSaid : Prop := Claim7.holds Tryd.pinned (.plain (OpenSpec.ofChange opclassKeysSpec)) opclassKeysCard

/-- THE TIED CARD OF 'pergolalaw21.HullBoxes'. -/
def hullBoxesCard : Claim7 := { stood := { row := hullBoxesRow, standIns := [], harness := (true, "cdb5af9809b131ff07058aaf6ea8b8cc66bd3cf2bf39e913980bf7b351e19e5e"), looks := true }, kinds := [], alts := [], laidByText := true, laidKinds := [.handle], laidTests := true, laidLooks := .later }
def HullBoxesCardSaid : Prop := Claim7.holds Tryd.pinned (.plain (OpenSpec.ofChange hullBoxesSpec)) hullBoxesCard

/-- THE TIED CARD OF 'pergolalaw21.HullRound'. -/
def hullRoundCard : Claim7 := { stood := { row := hullRoundRow, standIns := [], harness := (true, "cdb5af9809b131ff07058aaf6ea8b8cc66bd3cf2bf39e913980bf7b351e19e5e"), looks := true }, kinds := [], alts := [], laidByText := true, laidKinds := [.handle], laidTests := true, laidLooks := .later }
def HullRoundCardSaid : Prop := Claim7.holds Tryd.pinned (.plain (OpenSpec.ofChange hullRoundSpec)) hullRoundCard

/-- THE SECOND FORM's CARD OF 'pergolalaw16.OpclassKeys'. -/
def opclassKeysUptoCard : Claim7 := { stood := { row := opclassKeysUptoRow, standIns := [], harness := (true, "cdb5af9809b131ff07058aaf6ea8b8cc66bd3cf2bf39e913980bf7b351e19e5e"), looks := true }, kinds := [], alts := [], laidByText := true, laidKinds := [.handle], laidTests := true, laidLooks := .later }
def OpclassKeysUptoCardSaid : Prop := Claim7.holds Tryd.pinned (.plain (OpenSpec.upto opclassKeysSpec)) opclassKeysUptoCard

/-- THE SECOND FORM's CARD OF 'pergolalaw21.HullBoxes'. -/
def hullBoxesUptoCard : Claim7 := { stood := { row := hullBoxesUptoRow, standIns := [], harness := (true, "cdb5af9809b131ff07058aaf6ea8b8cc66bd3cf2bf39e913980bf7b351e19e5e"), looks := true }, kinds := [], alts := [], laidByText := true, laidKinds := [.handle], laidTests := true, laidLooks := .later }
def HullBoxesUptoCardSaid : Prop := Claim7.holds Tryd.pinned (.plain (OpenSpec.upto hullBoxesSpec)) hullBoxesUptoCard

/-- THE SECOND FORM's CARD OF 'pergolalaw21.HullRound'. -/
def hullRoundUptoCard : Claim7 := { stood := { row := hullRoundUptoRow, standIns := [], harness := (true, "cdb5af9809b131ff07058aaf6ea8b8cc66bd3cf2bf39e913980bf7b351e19e5e"), looks := true }, kinds := [], alts := [], laidByText := true, laidKinds := [.handle], laidTests := true, laidLooks := .later }
def HullRoundUptoCardSaid : Prop := Claim7.holds Tryd.pinned (.plain (OpenSpec.upto hullRoundSpec)) hullRoundUptoCard
end Rows
end Go.Proofs.YtjdgibpjlhpanaaDoor
