/-
  NARROWER THAN 'FOR EVERY INPUT', by the rows' own cells (each row's printed sentence says how): RelMoves: laid · HullTurns: laid · HullClose: laid · HullAsks: laid · OpclassBoxes: laid.
  DERIVED. THE GIVEN ROWS OF THIS SEAT. 5 by the template 'for every input the law returns true; each argument reads behind the call as it read before'; 0 by the template 'total and deterministic' (their statements: YtjdgibpjlhpanaaGreatDoorTotals.lean).
  GIVEN WITH THE SEED: the statements are not yours to turn. If you find one false, say at which input.
  Laid BY PROGRAM, IN A SANDBOX (cutbox-rows.mjs): the forced cells as the released guide's own fill.sh prints them over the translation 3ef8a9df498da44a… (all of the seat's roots in one cut). By AI agents, Wed Nov 11 2026. No macro, syntax, notation, axiom, sorry.
-/
import Derived.Test.YtjdgibpjlhpanaaGreatDoorChecked
import GoSem.Claim
import GoSem.ClaimJoined
import GoSem.ClaimMapViews
import Derived.JoinedTies
import Derived.KernelRfl
namespace Go.Proofs.YtjdgibpjlhpanaaGreatDoor
/- THE CELL 'sum', in the pinned program and in every row, IS THE sha256 OF THE DUMP (.gsa) THAT YtjdgibpjlhpanaaGreatDoorProg.lean LOADS. Nothing in Lean hashes anything: it is a label: what it is worth is what the hold of that sum in a sandbox is worth. -/
noncomputable def Tryz.pinned : Pinned := { name := "ytjdgibpjlhpanaagreatdoor", sum := "3ef8a9df498da44a1e322756f33d67df7f7faacba4dc513d0c8af4433dc48f86", checked := Tryz.checked }
namespace Rows
def none {H : Type} : Left H := { results := [], args := [] }

/- WHAT THE LISTED PACKAGE-LEVEL VARIABLES READ AS WHEN THE CALL BEGINS. Each datum BY PROGRAM (the guide's laid-datum.mjs) off the statement by which the dump's own 'gosem.cut.vars' lays the variable. In a bare row this is a premise. The card (YtjdgibpjlhpanaaGreatDoorCards.lean) ties it to the program's text. -/
def laid_errors_errorType {H : Type} : DataW H := .iface "internal/reflectlite.rtype" (.agg [.ptr (.lit (.string [101, 114, 114, 111, 114]))])

/-- 'pergolalaw6.RelMoves': WHATEVER THE INPUT: true; the input reads as it did. -/
def relMovesSpec : ChangeSpec := { name := "relMoves", fn := fun _ => fun
  | [d1, d2, d3, d4] => { results := [.lit (.bool true)], args := [d1, d2, d3, d4] }
  | _ => none }
def relMovesRow : OpenClaim := { program := "ytjdgibpjlhpanaagreatdoor", sum := "3ef8a9df498da44a1e322756f33d67df7f7faacba4dc513d0c8af4433dc48f86", func := "pergola/pergolalaw6.RelMoves", spec := "relMoves", inPlace := ["internal/reflectlite.TypeOf", "internal/reflectlite.ValueOf", "(internal/reflectlite.Value).Type", "(internal/reflectlite.Value).IsNil", "(internal/reflectlite.Value).Elem", "(internal/reflectlite.Value).Set", "math/bits.Add64"], unfollowed := true, recurses := true, named := ["errors.errorType", "math/bits.divideError", "math/bits.overflowError"], apart := false, laid := [("errors.errorType", laid_errors_errorType)] }
def RelMovesSaid : Prop := relMovesRow.holds Tryz.pinned (OpenSpec.ofChange relMovesSpec)

/-- ITS FALSE NEIGHBOUR: 'it returns false'. Refute it at one input. -/
def relMovesWrong : ChangeSpec := { name := "relMoves", fn := fun _ => fun
  | [d1, d2, d3, d4] => { results := [.lit (.bool false)], args := [d1, d2, d3, d4] }
  | _ => none }
def RelMovesWrongFalsely : Prop := relMovesRow.holds Tryz.pinned (OpenSpec.ofChange relMovesWrong)

/-- 'pergolalaw21.HullTurns': WHATEVER THE INPUT: true; the input reads as it did. -/
def hullTurnsSpec : ChangeSpec := { name := "hullTurns", fn := fun _ => fun
  | [d1, d2] => { results := [.lit (.bool true)], args := [d1, d2] }
  | _ => none }
def hullTurnsRow : OpenClaim := { program := "ytjdgibpjlhpanaagreatdoor", sum := "3ef8a9df498da44a1e322756f33d67df7f7faacba4dc513d0c8af4433dc48f86", func := "pergola/pergolalaw21.HullTurns", spec := "hullTurns", inPlace := ["internal/reflectlite.TypeOf", "internal/reflectlite.ValueOf", "(internal/reflectlite.Value).Type", "(internal/reflectlite.Value).IsNil", "(internal/reflectlite.Value).Elem", "(internal/reflectlite.Value).Set", "math/bits.Add64"], unfollowed := true, recurses := true, named := ["errors.errorType"], apart := false, laid := [("errors.errorType", laid_errors_errorType)] }
def HullTurnsSaid : Prop := hullTurnsRow.holds Tryz.pinned (OpenSpec.ofChange hullTurnsSpec)

/-- ITS FALSE NEIGHBOUR: 'it returns false'. Refute it at one input. -/
def hullTurnsWrong : ChangeSpec := { name := "hullTurns", fn := fun _ => fun
  | [d1, d2] => { results := [.lit (.bool false)], args := [d1, d2] }
  | _ => none }
def HullTurnsWrongFalsely : Prop := hullTurnsRow.holds Tryz.pinned (OpenSpec.ofChange hullTurnsWrong)

/-- 'pergolalaw21.HullClose': WHATEVER THE INPUT: true; the input reads as it did. -/
def hullCloseSpec : ChangeSpec := { name := "hullClose", fn := fun _ => fun
  | [d1, d2, d3] => { results := [.lit (.bool true)], args := [d1, d2, d3] }
  | _ => none }
def hullCloseRow : OpenClaim := { program := "ytjdgibpjlhpanaagreatdoor", sum := "3ef8a9df498da44a1e322756f33d67df7f7faacba4dc513d0c8af4433dc48f86", func := "pergola/pergolalaw21.HullClose", spec := "hullClose", inPlace := ["internal/reflectlite.TypeOf", "internal/reflectlite.ValueOf", "(internal/reflectlite.Value).Type", "(internal/reflectlite.Value).IsNil", "(internal/reflectlite.Value).Elem", "(internal/reflectlite.Value).Set", "math/bits.Add64"], unfollowed := true, recurses := true, named := ["errors.errorType"], apart := false, laid := [("errors.errorType", laid_errors_errorType)] }
def HullCloseSaid : Prop := hullCloseRow.holds Tryz.pinned (OpenSpec.ofChange hullCloseSpec)

/-- ITS FALSE NEIGHBOUR: 'it returns false'. Refute it at one input. -/
def hullCloseWrong : ChangeSpec := { name := "hullClose", fn := fun _ => fun
  | [d1, d2, d3] => { results := [.lit (.bool false)], args := [d1, d2, d3] }
  | _ => none }
def HullCloseWrongFalsely : Prop := hullCloseRow.holds Tryz.pinned (OpenSpec.ofChange hullCloseWrong)

/-- 'pergolalaw21.HullAsks': WHATEVER THE INPUT: true; the input reads as it did. -/
def hullAsksSpec : ChangeSpec := { name := "hullAsks", fn := fun _ => fun
  | [d] => { results := [.lit (.bool true)], args := [d] }
  | _ => none }
def hullAsksRow : OpenClaim := { program := "ytjdgibpjlhpanaagreatdoor", sum := "3ef8a9df498da44a1e322756f33d67df7f7faacba4dc513d0c8af4433dc48f86", func := "pergola/pergolalaw21.HullAsks", spec := "hullAsks", inPlace := ["internal/reflectlite.TypeOf", "internal/reflectlite.ValueOf", "(internal/reflectlite.Value).Type", "(internal/reflectlite.Value).IsNil", "(internal/reflectlite.Value).Elem", "(internal/reflectlite.Value).Set", "math/bits.Add64"], unfollowed := true, recurses := true, named := ["errors.errorType"], apart := false, laid := [("errors.errorType", laid_errors_errorType)] }
def HullAsksSaid : Prop := hullAsksRow.holds Tryz.pinned (OpenSpec.ofChange hullAsksSpec)

/-- ITS FALSE NEIGHBOUR: 'it returns false'. Refute it at one input. -/
def hullAsksWrong : ChangeSpec := { name := "hullAsks", fn := fun _ => fun
  | [d] => { results := [.lit (.bool false)], args := [d] }
  | _ => none }
def HullAsksWrongFalsely : Prop := hullAsksRow.holds Tryz.pinned (OpenSpec.ofChange hullAsksWrong)

/-- 'pergolalaw16.OpclassBoxes': WHATEVER THE INPUT: true; the input reads as it did. -/
def opclassBoxesSpec : ChangeSpec := { name := "opclassBoxes", fn := fun _ => fun
  | [d1, d2, d3, d4, d5] => { results := [.lit (.bool true)], args := [d1, d2, d3, d4, d5] }
  | _ => none }
def opclassBoxesRow : OpenClaim := { program := "ytjdgibpjlhpanaagreatdoor", sum := "3ef8a9df498da44a1e322756f33d67df7f7faacba4dc513d0c8af4433dc48f86", func := "pergola/pergolalaw16.OpclassBoxes", spec := "opclassBoxes", inPlace := ["internal/reflectlite.TypeOf", "internal/reflectlite.ValueOf", "(internal/reflectlite.Value).Type", "(internal/reflectlite.Value).IsNil", "(internal/reflectlite.Value).Elem", "(internal/reflectlite.Value).Set"], unfollowed := true, recurses := true, named := ["errors.errorType"], apart := false, laid := [("errors.errorType", laid_errors_errorType)] }
def OpclassBoxesSaid : Prop := opclassBoxesRow.holds Tryz.pinned (OpenSpec.ofChange opclassBoxesSpec)

/-- ITS FALSE NEIGHBOUR: 'it returns false'. Refute it at one input. -/
def opclassBoxesWrong : ChangeSpec := { name := "opclassBoxes", fn := fun _ => fun
  | [d1, d2, d3, d4, d5] => { results := [.lit (.bool false)], args := [d1, d2, d3, d4, d5] }
  | _ => none }
def OpclassBoxesWrongFalsely : Prop := opclassBoxesRow.holds Tryz.pinned (OpenSpec.ofChange opclassBoxesWrong)

/- THE SECOND FORM. 'bulk': how many values and letters a reading holds, each counted each time it is reached (what is shared counts as often as it is met; a slice's spare places count too). A statement '..UptoSaid' is the law's where the arguments, and the package variables that the reading takes, are together of bulk at most 1048576: NARROWER than '..Said'. Prove '..Said' where nothing that the law and all that it calls make is longer than what came in: it says more and counts as full. Else prove '..UptoSaid'. A law counts once. -/
mutual
def uptoBulk {H : Type} : DataW H → Nat
  | .lit (.string bytes) => bytes.length + 1
  | .lit _ => 1
  | .nil => 1
  | .ptr d => uptoBulk d + 1
  | .slice elems spare => uptoBulkAll elems + uptoBulkAll spare + 1
  | .agg parts => uptoBulkAll parts + 1
  | .iface _ d => uptoBulk d + 1
  | .map entries => uptoBulkEntries entries + 1
  | .held _ => 1
def uptoBulkAll {H : Type} : List (DataW H) → Nat
  | [] => 0
  | d :: r => uptoBulk d + uptoBulkAll r
def uptoBulkEntries {H : Type} : List (Lit × DataW H) → Nat
  | [] => 0
  | x :: r => uptoBulkEntry x + uptoBulkEntries r
def uptoBulkEntry {H : Type} : Lit × DataW H → Nat
  | (.string bytes, d) => bytes.length + uptoBulk d + 1
  | (_, d) => uptoBulk d + 1
 end
def uptoSmall : (H : Type) → List (DataW H) → Bool := fun _ ds => decide (uptoBulkAll ds ≤ 1048576)
def OpenSpec.upto (s : _root_.Go.ChangeSpec) : _root_.Go.OpenSpec := { _root_.Go.OpenSpec.ofChange s with cond := some uptoSmall }

/-- 'pergolalaw6.RelMoves', WHERE WHAT IT READS IS OF BULK AT MOST 1048576: true; the input reads as it did. -/
def relMovesUptoRow : OpenClaim := { program := "ytjdgibpjlhpanaagreatdoor", sum := "3ef8a9df498da44a1e322756f33d67df7f7faacba4dc513d0c8af4433dc48f86", func := "pergola/pergolalaw6.RelMoves", spec := "relMoves", inPlace := ["internal/reflectlite.TypeOf", "internal/reflectlite.ValueOf", "(internal/reflectlite.Value).Type", "(internal/reflectlite.Value).IsNil", "(internal/reflectlite.Value).Elem", "(internal/reflectlite.Value).Set", "math/bits.Add64"], unfollowed := true, recurses := true, named := ["errors.errorType", "math/bits.divideError", "math/bits.overflowError"], apart := false, laid := [("errors.errorType", laid_errors_errorType)], narrowed := true }
def RelMovesUptoSaid : Prop := relMovesUptoRow.holds Tryz.pinned (OpenSpec.upto relMovesSpec)

/-- 'pergolalaw21.HullTurns', WHERE WHAT IT READS IS OF BULK AT MOST 1048576: true; the input reads as it did. -/
def hullTurnsUptoRow : OpenClaim := { program := "ytjdgibpjlhpanaagreatdoor", sum := "3ef8a9df498da44a1e322756f33d67df7f7faacba4dc513d0c8af4433dc48f86", func := "pergola/pergolalaw21.HullTurns", spec := "hullTurns", inPlace := ["internal/reflectlite.TypeOf", "internal/reflectlite.ValueOf", "(internal/reflectlite.Value).Type", "(internal/reflectlite.Value).IsNil", "(internal/reflectlite.Value).Elem", "(internal/reflectlite.Value).Set", "math/bits.Add64"], unfollowed := true, recurses := true, named := ["errors.errorType"], apart := false, laid := [("errors.errorType", laid_errors_errorType)], narrowed := true }
def HullTurnsUptoSaid : Prop := hullTurnsUptoRow.holds Tryz.pinned (OpenSpec.upto hullTurnsSpec)

/-- 'pergolalaw21.HullClose', WHERE WHAT IT READS IS OF BULK AT MOST 1048576: true; the input reads as it did. -/
def hullCloseUptoRow : OpenClaim := { program := "ytjdgibpjlhpanaagreatdoor", sum := "3ef8a9df498da44a1e322756f33d67df7f7faacba4dc513d0c8af4433dc48f86", func := "pergola/pergolalaw21.HullClose", spec := "hullClose", inPlace := ["internal/reflectlite.TypeOf", "internal/reflectlite.ValueOf", "(internal/reflectlite.Value).Type", "(internal/reflectlite.Value).IsNil", "(internal/reflectlite.Value).Elem", "(internal/reflectlite.Value).Set", "math/bits.Add64"], unfollowed := true, recurses := true, named := ["errors.errorType"], apart := false, laid := [("errors.errorType", laid_errors_errorType)], narrowed := true }
def HullCloseUptoSaid : Prop := hullCloseUptoRow.holds Tryz.pinned (OpenSpec.upto hullCloseSpec)

/-- 'pergolalaw21.HullAsks', WHERE WHAT IT READS IS OF BULK AT MOST 1048576: true; the input reads as it did. -/
def hullAsksUptoRow : OpenClaim := { program := "ytjdgibpjlhpanaagreatdoor", sum := "3ef8a9df498da44a1e322756f33d67df7f7faacba4dc513d0c8af4433dc48f86", func := "pergola/pergolalaw21.HullAsks", spec := "hullAsks", inPlace := ["internal/reflectlite.TypeOf", "internal/reflectlite.ValueOf", "(internal/reflectlite.Value).Type", "(internal/reflectlite.Value).IsNil", "(internal/reflectlite.Value).Elem", "(internal/reflectlite.Value).Set", "math/bits.Add64"], unfollowed := true, recurses := true, named := ["errors.errorType"], apart := false, laid := [("errors.errorType", laid_errors_errorType)], narrowed := true }
def HullAsksUptoSaid : Prop := hullAsksUptoRow.holds Tryz.pinned (OpenSpec.upto hullAsksSpec)

/-- 'pergolalaw16.OpclassBoxes', WHERE WHAT IT READS IS OF BULK AT MOST 1048576: true; the input reads as it did. -/
def opclassBoxesUptoRow : OpenClaim := { program := "ytjdgibpjlhpanaagreatdoor", sum := "3ef8a9df498da44a1e322756f33d67df7f7faacba4dc513d0c8af4433dc48f86", func := "pergola/pergolalaw16.OpclassBoxes", spec := "opclassBoxes", inPlace := ["internal/reflectlite.TypeOf", "internal/reflectlite.ValueOf", "(internal/reflectlite.Value).Type", "(internal/reflectlite.Value).IsNil", "(internal/reflectlite.Value).Elem", "(internal/reflectlite.Value).Set"], unfollowed := true, recurses := true, named := ["errors.errorType"], apart := false, laid := [("errors.errorType", laid_errors_errorType)], narrowed := true }
def OpclassBoxesUptoSaid : Prop := opclassBoxesUptoRow.holds Tryz.pinned (OpenSpec.upto opclassBoxesSpec)

end Rows
end Go.Proofs.YtjdgibpjlhpanaaGreatDoor
