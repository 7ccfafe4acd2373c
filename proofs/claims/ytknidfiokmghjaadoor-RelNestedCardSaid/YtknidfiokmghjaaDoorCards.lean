/-
  DERIVED. GIVEN WITH THE SEED: THE CARDS: each row of YtknidfiokmghjaaDoorRows.lean that lists a variable, with what it lists TIED to the program's text (the seventh form; the later family's looks); each row that meets fmt, with fmt's text TOLD by the authors' own Lean function (tested against real Go, not proved from fmt's source: count such statements apart). THE CARD IS WHAT COUNTS. Prove the row's statement (the work); the ties are given (YtknidfiokmghjaaDoorTie.lean); close each card by the builder's one call (the guide's Derived/Test/ToyasCard.lean, 'card_holds'). Laid BY PROGRAM, IN A SANDBOX (cutbox-door.mjs). By AI agents, Wed Nov 11 2026. No macro, syntax, notation, axiom, sorry.
-/
import Derived.Test.YtknidfiokmghjaaDoorRows
import GoSem.ClaimSeven
namespace Go.Proofs.YtknidfiokmghjaaDoor
namespace Rows

/-- THE TIED CARD OF 'pergolalaw6.RelChecks'. -/
def relChecksCard : Claim7 := { stood := { row := relChecksRow, standIns := [], harness := (true, "ab96bbe4656f615e3121ebd72f6e2265508f5d42a55603c6a80445a010e8a0f2"), looks := true }, kinds := [], alts := [], laidByText := true, laidKinds := [.handle], laidTests := true, laidLooks := .later }
def RelChecksCardSaid : Prop := Claim7.holds Tryd.pinned (.plain (OpenSpec.ofChange relChecksSpec)) relChecksCard

/-- THE TIED CARD OF 'pergolalaw6.RelCross'. -/
def relCrossCard : Claim7 := { stood := { row := relCrossRow, standIns := [], harness := (true, "ab96bbe4656f615e3121ebd72f6e2265508f5d42a55603c6a80445a010e8a0f2"), looks := true }, kinds := [], alts := [], laidByText := true, laidKinds := [.handle], laidTests := true, laidLooks := .later }
def RelCrossCardSaid : Prop := Claim7.holds Tryd.pinned (.plain (OpenSpec.ofChange relCrossSpec)) relCrossCard

/-- THE TIED CARD OF 'pergolalaw6.RelNested'. -/
def relNestedCard : Claim7 := { stood := { row := relNestedRow, standIns := [], harness := (true, "ab96bbe4656f615e3121ebd72f6e2265508f5d42a55603c6a80445a010e8a0f2"), looks := true }, kinds := [], alts := [], laidByText := true, laidKinds := [.handle], laidTests := true, laidLooks := .later }
def RelNestedCardSaid : Prop := Claim7.holds Tryd.pinned (.plain (OpenSpec.ofChange relNestedSpec)) relNestedCard

/-- THE SECOND FORM's CARD OF 'pergolalaw6.RelChecks'. -/
def relChecksUptoCard : Claim7 := { stood := { row := relChecksUptoRow, standIns := [], harness := (true, "ab96bbe4656f615e3121ebd72f6e2265508f5d42a55603c6a80445a010e8a0f2"), looks := true }, kinds := [], alts := [], laidByText := true, laidKinds := [.handle], laidTests := true, laidLooks := .later }
def RelChecksUptoCardSaid : Prop := Claim7.holds Tryd.pinned (.plain (OpenSpec.upto relChecksSpec)) relChecksUptoCard

/-- THE SECOND FORM's CARD OF 'pergolalaw6.RelCross'. -/
def relCrossUptoCard : Claim7 := { stood := { row := relCrossUptoRow, standIns := [], harness := (true, "ab96bbe4656f615e3121ebd72f6e2265508f5d42a55603c6a80445a010e8a0f2"), looks := true }, kinds := [], alts := [], laidByText := true, laidKinds := [.handle], laidTests := true, laidLooks := .later }
def RelCrossUptoCardSaid : Prop := Claim7.holds Tryd.pinned (.plain (OpenSpec.upto relCrossSpec)) relCrossUptoCard

/-- THE SECOND FORM's CARD OF 'pergolalaw6.RelNested'. -/
def relNestedUptoCard : Claim7 := { stood := { row := relNestedUptoRow, standIns := [], harness := (true, "ab96bbe4656f615e3121ebd72f6e2265508f5d42a55603c6a80445a010e8a0f2"), looks := true }, kinds := [], alts := [], laidByText := true, laidKinds := [.handle], laidTests := true, laidLooks := .later }
def RelNestedUptoCardSaid : Prop := Claim7.holds Tryd.pinned (.plain (OpenSpec.upto relNestedSpec)) relNestedUptoCard
end Rows
end Go.Proofs.YtknidfiokmghjaaDoor
