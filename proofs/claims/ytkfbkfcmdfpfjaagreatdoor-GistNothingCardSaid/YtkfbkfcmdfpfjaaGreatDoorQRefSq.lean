/-
  Contracts of the references: Add, sum, Square.
  Contract of the reference's BoxDist.
-/
import Derived.Test.YtkfbkfcmdfpfjaaGreatDoorQUAll
import Derived.Test.YtkfbkfcmdfpfjaaGreatDoorQPlane
import Derived.Test.YtkfbkfcmdfpfjaaGreatDoorQPlainSplit
import Derived.Test.YtkfbkfcmdfpfjaaGreatDoorQOn
import Derived.Test.YtkfbkfcmdfpfjaaGreatDoorQDist1
set_option linter.unusedSimpArgs false
set_option linter.unusedVariables false
namespace Go.Proofs.YtkfbkfcmdfpfjaaGreatDoor
open Go.RowKit Pg

theorem sqs_lt2 {x y : Int} (h1 : -4294967296 ≤ x) (h2 : x ≤ 4294967296) (h3 : -4294967296 ≤ y) (h4 : y ≤ 4294967296) : sqs x y < 340282366920938463463374607431768211456 := by
  have := sq_small h1 h2
  have := sq_small h3 h4
  unfold sqs
  omega

end Go.Proofs.YtkfbkfcmdfpfjaaGreatDoor
set_option linter.unusedSimpArgs false
set_option linter.unusedVariables false
namespace Go.Proofs.YtkfbkfcmdfpfjaaGreatDoor
open Go.RowKit Pg
/-- the answer of the reference's BoxDist -/
def bxF (b : Bx) (p : Pt) : Fr := if okBx b && okPt p then ⟨boxN b p, 1⟩ else fNone

end Go.Proofs.YtkfbkfcmdfpfjaaGreatDoor
