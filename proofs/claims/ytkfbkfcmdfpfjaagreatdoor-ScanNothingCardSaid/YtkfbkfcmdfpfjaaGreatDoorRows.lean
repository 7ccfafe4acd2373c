/-
  NARROWER THAN 'FOR EVERY INPUT', by the rows' own cells (each row's printed sentence says how): ScanNothing: laid · GistNothing: laid.
  DERIVED. THE GIVEN ROWS OF THIS SEAT. 2 by the template 'for every input the law returns true; each argument reads behind the call as it read before'; 0 by the template 'total and deterministic' (their statements: YtkfbkfcmdfpfjaaGreatDoorTotals.lean).
  GIVEN WITH THE SEED: the statements are not yours to turn. If you find one false, say at which input.
  Laid BY PROGRAM, IN A SANDBOX (cutbox-rows.mjs): the forced cells as the released guide's own fill.sh prints them over the translation 3051647f6841f5b3… (all of the seat's roots in one cut). By AI agents, Wed Nov 11 2026. No macro, syntax, notation, axiom, sorry.
-/
import Derived.Test.YtkfbkfcmdfpfjaaGreatDoorChecked
import GoSem.Claim
import GoSem.ClaimJoined
import GoSem.ClaimMapViews
import Derived.JoinedTies
import Derived.KernelRfl
namespace Go.Proofs.YtkfbkfcmdfpfjaaGreatDoor
/- THE CELL 'sum', in the pinned program and in every row, IS THE sha256 OF THE DUMP (.gsa) THAT YtkfbkfcmdfpfjaaGreatDoorProg.lean LOADS. Nothing in Lean hashes anything: it is a label: what it is worth is what the hold of that sum in a sandbox is worth. -/
noncomputable def Tryz.pinned : Pinned := { name := "ytkfbkfcmdfpfjaagreatdoor", sum := "3051647f6841f5b35f4b437c6274e7384e00ce57d44390d1e9702be35ec1c485", checked := Tryz.checked }
namespace Rows
def none {H : Type} : Left H := { results := [], args := [] }

/- WHAT THE LISTED PACKAGE-LEVEL VARIABLES READ AS WHEN THE CALL BEGINS. Each datum BY PROGRAM (the guide's laid-datum.mjs) off the statement by which the dump's own 'gosem.cut.vars' lays the variable. In a bare row this is a premise. The card (YtkfbkfcmdfpfjaaGreatDoorCards.lean) ties it to the program's text. -/
def laid_errors_errorType {H : Type} : DataW H := .iface "internal/reflectlite.rtype" (.agg [.ptr (.lit (.string [101, 114, 114, 111, 114]))])

/-- 'pergolalaw18.ScanNothing': WHATEVER THE INPUT: true; the input reads as it did. -/
def scanNothingSpec : ChangeSpec := { name := "scanNothing", fn := fun _ => fun
  | [d] => { results := [.lit (.bool true)], args := [d] }
  | _ => none }
def scanNothingRow : OpenClaim := { program := "ytkfbkfcmdfpfjaagreatdoor", sum := "3051647f6841f5b35f4b437c6274e7384e00ce57d44390d1e9702be35ec1c485", func := "pergola/pergolalaw18.ScanNothing", spec := "scanNothing", inPlace := ["math/bits.Add64", "internal/reflectlite.TypeOf", "internal/reflectlite.ValueOf", "(internal/reflectlite.Value).Type", "(internal/reflectlite.Value).IsNil", "(internal/reflectlite.Value).Elem", "(internal/reflectlite.Value).Set"], unfollowed := true, recurses := true, named := ["math/bits.divideError", "math/bits.overflowError", "errors.errorType"], apart := false, laid := [("errors.errorType", laid_errors_errorType)] }
def ScanNothingSaid : Prop := scanNothingRow.holds Tryz.pinned (OpenSpec.ofChange scanNothingSpec)

/-- ITS FALSE NEIGHBOUR: 'it returns false'. Refute it at one input. -/
def scanNothingWrong : ChangeSpec := { name := "scanNothing", fn := fun _ => fun
  | [d] => { results := [.lit (.bool false)], args := [d] }
  | _ => none }
def ScanNothingWrongFalsely : Prop := scanNothingRow.holds Tryz.pinned (OpenSpec.ofChange scanNothingWrong)

/-- 'pergolalaw17.GistNothing': WHATEVER THE INPUT: true; the input reads as it did. -/
def gistNothingSpec : ChangeSpec := { name := "gistNothing", fn := fun _ => fun
  | [d1, d2] => { results := [.lit (.bool true)], args := [d1, d2] }
  | _ => none }
def gistNothingRow : OpenClaim := { program := "ytkfbkfcmdfpfjaagreatdoor", sum := "3051647f6841f5b35f4b437c6274e7384e00ce57d44390d1e9702be35ec1c485", func := "pergola/pergolalaw17.GistNothing", spec := "gistNothing", inPlace := ["internal/reflectlite.TypeOf", "internal/reflectlite.ValueOf", "(internal/reflectlite.Value).Type", "(internal/reflectlite.Value).IsNil", "(internal/reflectlite.Value).Elem", "(internal/reflectlite.Value).Set", "math/bits.Add64"], unfollowed := true, recurses := true, named := ["errors.errorType", "math/bits.divideError", "math/bits.overflowError"], apart := false, laid := [("errors.errorType", laid_errors_errorType)] }
def GistNothingSaid : Prop := gistNothingRow.holds Tryz.pinned (OpenSpec.ofChange gistNothingSpec)

/-- ITS FALSE NEIGHBOUR: 'it returns false'. Refute it at one input. -/
def gistNothingWrong : ChangeSpec := { name := "gistNothing", fn := fun _ => fun
  | [d1, d2] => { results := [.lit (.bool false)], args := [d1, d2] }
  | _ => none }
def GistNothingWrongFalsely : Prop := gistNothingRow.holds Tryz.pinned (OpenSpec.ofChange gistNothingWrong)

/- THE SECOND FORM. 'bulk': how many values and letters a reading holds, each counted each time it is reached (what is shared counts as often as it is met; a slice's spare places count too). A statement '..UptoSaid' is the law's where the arguments, and the package variables that the reading takes, are together of bulk at most 1048576: NARROWER than '..Said'. Prove '..Said' where nothing that the law and all that it calls make is longer than what came in: it says more and counts as full. Else prove '..UptoSaid'. A law counts once. -/
mutual
def uptoBulk {H : Type} : DataW H → Nat
  | .lit (.string bytes) => bytes.length + 1
  | .lit _ => 1
  | .nil => 1
  | .ptr d => uptoBulk d + 1
  | .slice elems spare => uptoBulkAll elems + uptoBulkAll spare + 1
  | .agg parts => uptoBulkAll parts + 1
  | .iface _ d => uptoBulk d + 1
  | .map entries => uptoBulkEntries entries + 1
  | .held _ => 1
def uptoBulkAll {H : Type} : List (DataW H) → Nat
  | [] => 0
  | d :: r => uptoBulk d + uptoBulkAll r
def uptoBulkEntries {H : Type} : List (Lit × DataW H) → Nat
  | [] => 0
  | x :: r => uptoBulkEntry x + uptoBulkEntries r
def uptoBulkEntry {H : Type} : Lit × DataW H → Nat
  | (.string bytes, d) => bytes.length + uptoBulk d + 1
  | (_, d) => uptoBulk d + 1
 end
def uptoSmall : (H : Type) → List (DataW H) → Bool := fun _ ds => decide (uptoBulkAll ds ≤ 1048576)
def OpenSpec.upto (s : _root_.Go.ChangeSpec) : _root_.Go.OpenSpec := { _root_.Go.OpenSpec.ofChange s with cond := some uptoSmall }

/-- 'pergolalaw18.ScanNothing', WHERE WHAT IT READS IS OF BULK AT MOST 1048576: true; the input reads as it did. -/
def scanNothingUptoRow : OpenClaim := { program := "ytkfbkfcmdfpfjaagreatdoor", sum := "3051647f6841f5b35f4b437c6274e7384e00ce57d44390d1e9702be35ec1c485", func := "pergola/pergolalaw18.ScanNothing", spec := "scanNothing", inPlace := ["math/bits.Add64", "internal/reflectlite.TypeOf", "internal/reflectlite.ValueOf", "(internal/reflectlite.Value).Type", "(internal/reflectlite.Value).IsNil", "(internal/reflectlite.Value).Elem", "(internal/reflectlite.Value).Set"], unfollowed := true, recurses := true, named := ["math/bits.divideError", "math/bits.overflowError", "errors.errorType"], apart := false, laid := [("errors.errorType", laid_errors_errorType)], narrowed := true }
def ScanNothingUptoSaid : Prop := scanNothingUptoRow.holds Tryz.pinned (OpenSpec.upto scanNothingSpec)

/-- 'pergolalaw17.GistNothing', WHERE WHAT IT READS IS OF BULK AT MOST 1048576: true; the input reads as it did. -/
def gistNothingUptoRow : OpenClaim := { program := "ytkfbkfcmdfpfjaagreatdoor", sum := "3051647f6841f5b35f4b437c6274e7384e00ce57d44390d1e9702be35ec1c485", func := "pergola/pergolalaw17.GistNothing", spec := "gistNothing", inPlace := ["internal/reflectlite.TypeOf", "internal/reflectlite.ValueOf", "(internal/reflectlite.Value).Type", "(internal/reflectlite.Value).IsNil", "(internal/reflectlite.Value).Elem", "(internal/reflectlite.Value).Set", "math/bits.Add64"], unfollowed := true, recurses := true, named := ["errors.errorType", "math/bits.divideError", "math/bits.overflowError"], apart := false, laid := [("errors.errorType", laid_errors_errorType)], narrowed := true }
def GistNothingUptoSaid : Prop := gistNothingUptoRow.holds Tryz.pinned (OpenSpec.upto gistNothingSpec)

end Rows
end Go.Proofs.YtkfbkfcmdfpfjaaGreatDoor
