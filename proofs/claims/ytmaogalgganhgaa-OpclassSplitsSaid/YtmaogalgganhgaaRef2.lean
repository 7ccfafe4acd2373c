/-
  Contracts of the references of chapters 4 and 5: On, Proper, Meet, over.
-/
import Derived.Test.YtmaogalgganhgaaRef1
import Derived.Test.YtmaogalgganhgaaOn
import Derived.Test.YtmaogalgganhgaaPlain2
set_option linter.unusedSimpArgs false
set_option linter.unusedVariables false
namespace Go.Proofs.Ytmaogalgganhgaa
open Go.RowKit Pg

end Go.Proofs.Ytmaogalgganhgaa
