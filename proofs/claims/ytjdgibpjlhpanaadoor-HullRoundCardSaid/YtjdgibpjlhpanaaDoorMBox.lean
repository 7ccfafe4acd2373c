/-
  Contracts of package segm: MeetsBox.
-/
import Derived.Test.YtjdgibpjlhpanaaDoorOn
import Derived.Test.YtjdgibpjlhpanaaDoorAlloc
import Derived.BigRegion
set_option linter.unusedSimpArgs false
set_option linter.unusedVariables false
namespace Go.Proofs.YtjdgibpjlhpanaaDoor
open Go.RowKit Pg

end Go.Proofs.YtjdgibpjlhpanaaDoor
