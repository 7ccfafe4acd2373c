/-
  Contracts of package segm: MeetsBox.
-/
import Derived.Test.YtmaogalgganhgaaDoorOn
import Derived.Test.YtmaogalgganhgaaDoorAlloc
import Derived.BigRegion
set_option linter.unusedSimpArgs false
set_option linter.unusedVariables false
namespace Go.Proofs.YtmaogalgganhgaaDoor
open Go.RowKit Pg

end Go.Proofs.YtmaogalgganhgaaDoor
