/-
  errors.Is by contracts, at an error that is nothing, a number, or one or two Faults around a number; the target is a number.
-/
import Derived.Test.YtmaogalgganhgaaRel2
import Derived.LaidEql
import Derived.Stop.Asserts
import Derived.Lib.IfaceEq
import Derived.RowKitTokens
set_option linter.unusedSimpArgs false
set_option linter.unusedVariables false
namespace Go.Proofs.Ytmaogalgganhgaa
open Go.RowKit Pg Go.Extern.Stop Go.Stop Go.Extern

def compE : Array Value → Sem Value := Extern.ReflectliteType.method fun t => do Rtype.noPackHeld "Comparable" t; pure (.bool (← typeInfo t).comparable)
theorem isComparable (w : World) : (compE #[.agg #[.pointer (some ⟨0, 48, none⟩)]]).run Try.prog w = .ok (.bool true) w := by kernel_rfl
theorem errnoComp : (Try.prog.info? 48).map (·.comparable) = some true := by kernel_rfl

end Go.Proofs.Ytmaogalgganhgaa
