/-
  errors.Is by contracts, at an error that is nothing, a number, or one or two Faults around a number; the target is a number.
  errors.As by a contract, at a Fault and a target that points to a variable for one.
  Contracts of pergolaalike: Code, Is, May.
-/
import Derived.Test.YtmliljdbpkikpaaGreatLex
import Derived.Test.YtmliljdbpkikpaaGreatRel1
import Derived.LaidEql
import Derived.Stop.Asserts
import Derived.Lib.IfaceEq
import Derived.RowKitTokens
set_option linter.unusedSimpArgs false
set_option linter.unusedVariables false
namespace Go.Proofs.YtmliljdbpkikpaaGreat
open Go.RowKit Pg Go.Extern.Stop Go.Stop Go.Extern

end Go.Proofs.YtmliljdbpkikpaaGreat
set_option linter.unusedSimpArgs false
set_option linter.unusedVariables false
namespace Go.Proofs.YtmliljdbpkikpaaGreat
open Go.RowKit Pg Go.Extern.Stop Go.Stop Go.Extern
end Go.Proofs.YtmliljdbpkikpaaGreat
set_option linter.unusedSimpArgs false
set_option linter.unusedVariables false
namespace Go.Proofs.YtmliljdbpkikpaaGreat
open Go.RowKit Pg
end Go.Proofs.YtmliljdbpkikpaaGreat
