/-gist-/
import Derived.Test.YteodamnfgcnmmaaGreatRGisJ
set_option linter.unusedVariables false
set_option linter.unusedSimpArgs false
namespace Pg
open Go Go.RowKit
def idcs (l:List Int):List Value:=l.map fun i=> .int .i64 i
end Pg
namespace Go.Proofs.YteodamnfgcnmmaaGreat
open Go Go.RowKit Pg
section
variable {own imm:Nat->Prop} {tb mb:Nat} {t:Tr}
end
end Go.Proofs.YteodamnfgcnmmaaGreat
