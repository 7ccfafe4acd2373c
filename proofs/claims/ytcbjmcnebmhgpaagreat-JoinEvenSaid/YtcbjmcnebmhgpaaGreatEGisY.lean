/-
  gist: search: the ids below a node whose keys ask and whose objects match.
-/
import Derived.Test.YtcbjmcnebmhgpaaGreatEGisJ
import Derived.Test.YtcbjmcnebmhgpaaGreatEHeaC
import Derived.Test.YtcbjmcnebmhgpaaGreatEDist2
import Derived.Test.YtcbjmcnebmhgpaaGreatEWide
import Derived.Test.YtcbjmcnebmhgpaaGreatEBits2
import Derived.Test.YtcbjmcnebmhgpaaGreatEPlainSplit
import Derived.StillTailTactics
import Derived.Test.YtcbjmcnebmhgpaaGreatELex
import Derived.Test.YtcbjmcnebmhgpaaGreatEAlloc
import Derived.Test.YtcbjmcnebmhgpaaGreatEMBox
import Derived.Test.YtcbjmcnebmhgpaaGreatERel1
import Derived.Test.YtcbjmcnebmhgpaaGreatENearP
import Derived.Test.YtcbjmcnebmhgpaaGreatELawsC
import Derived.Laws.AppendOwnNone
set_option linter.unusedVariables false
set_option linter.unusedSimpArgs false
namespace Pg
open Go Go.RowKit
def idcs (l : List Int) : List Value := l.map fun i => .int .i64 i
end Pg
namespace Go.Proofs.YtcbjmcnebmhgpaaGreat
open Go Go.RowKit Pg
section
variable {own imm : Nat → Prop} {tb mb : Nat} {t : Tr}
end
end Go.Proofs.YtcbjmcnebmhgpaaGreat
