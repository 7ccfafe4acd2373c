/-
  Contracts of package segm: MeetsBox.
-/
import Derived.Test.YtmaogalgganhgaaOn
import Derived.Test.YtmaogalgganhgaaAlloc
import Derived.BigRegion
set_option linter.unusedSimpArgs false
set_option linter.unusedVariables false
namespace Go.Proofs.Ytmaogalgganhgaa
open Go.RowKit Pg

end Go.Proofs.Ytmaogalgganhgaa
