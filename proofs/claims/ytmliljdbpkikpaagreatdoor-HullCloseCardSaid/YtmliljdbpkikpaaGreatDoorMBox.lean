/-
  Contracts of package segm: MeetsBox.
-/
import Derived.Test.YtmliljdbpkikpaaGreatDoorOn
import Derived.Test.YtmliljdbpkikpaaGreatDoorAlloc
import Derived.BigRegion
set_option linter.unusedSimpArgs false
set_option linter.unusedVariables false
namespace Go.Proofs.YtmliljdbpkikpaaGreatDoor
open Go.RowKit Pg

end Go.Proofs.YtmliljdbpkikpaaGreatDoor
