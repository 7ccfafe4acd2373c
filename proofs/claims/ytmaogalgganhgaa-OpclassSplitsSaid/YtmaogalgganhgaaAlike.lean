/-
  Contracts of pergolaalike: Code, Is, May.
-/
import Derived.Test.YtmaogalgganhgaaRef4
import Derived.Test.YtmaogalgganhgaaErrAs
set_option linter.unusedSimpArgs false
set_option linter.unusedVariables false
namespace Go.Proofs.Ytmaogalgganhgaa
open Go.RowKit Pg

end Go.Proofs.Ytmaogalgganhgaa
