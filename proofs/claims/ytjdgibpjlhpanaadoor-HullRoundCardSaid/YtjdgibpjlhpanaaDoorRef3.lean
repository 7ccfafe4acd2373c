/-
  Contracts of the references of chapter 5: clash.
-/
import Derived.Test.YtjdgibpjlhpanaaDoorRef2
import Derived.Test.YtjdgibpjlhpanaaDoorRel3
set_option linter.unusedSimpArgs false
set_option linter.unusedVariables false
namespace Go.Proofs.YtjdgibpjlhpanaaDoor
open Go.RowKit Pg

theorem wrap_s {k : Nat} (hk : k ≤ 1000000) : IntKind.i64.wrap ((k : Int) + 1) = (k : Int) + 1 := IntWalk.i64_in _ (by omega)

end Go.Proofs.YtjdgibpjlhpanaaDoor
