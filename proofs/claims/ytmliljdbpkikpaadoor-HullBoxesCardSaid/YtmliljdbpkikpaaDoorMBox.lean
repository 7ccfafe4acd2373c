/-
  Contracts of package segm: MeetsBox.
-/
import Derived.Test.YtmliljdbpkikpaaDoorOn
import Derived.Test.YtmliljdbpkikpaaDoorAlloc
import Derived.BigRegion
set_option linter.unusedSimpArgs false
set_option linter.unusedVariables false
namespace Go.Proofs.YtmliljdbpkikpaaDoor
open Go.RowKit Pg

end Go.Proofs.YtmliljdbpkikpaaDoor
