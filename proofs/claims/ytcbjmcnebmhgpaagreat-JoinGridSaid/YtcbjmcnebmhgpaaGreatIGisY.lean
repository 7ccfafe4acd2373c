/-
  gist: search: the ids below a node whose keys ask and whose objects match.
-/
import Derived.Test.YtcbjmcnebmhgpaaGreatIGisJ
import Derived.Test.YtcbjmcnebmhgpaaGreatIHeaC
import Derived.Test.YtcbjmcnebmhgpaaGreatIDist2
import Derived.Test.YtcbjmcnebmhgpaaGreatIWide
import Derived.Test.YtcbjmcnebmhgpaaGreatIBits2
import Derived.Test.YtcbjmcnebmhgpaaGreatIPlainSplit
import Derived.StillTailTactics
import Derived.Test.YtcbjmcnebmhgpaaGreatILex
import Derived.Test.YtcbjmcnebmhgpaaGreatIAlloc
import Derived.Test.YtcbjmcnebmhgpaaGreatIMBox
import Derived.Test.YtcbjmcnebmhgpaaGreatIRel1
import Derived.Test.YtcbjmcnebmhgpaaGreatINearP
import Derived.Test.YtcbjmcnebmhgpaaGreatILawsC
import Derived.Laws.AppendOwnNone
set_option linter.unusedVariables false
set_option linter.unusedSimpArgs false
namespace Pg
open Go Go.RowKit
def idcs (l : List Int) : List Value := l.map fun i => .int .i64 i
theorem idcs_one (l : List Int) : ∀ u ∈ idcs l,u.oneCell' = true := by
 intro u hu;obtain ⟨x,_,rfl⟩ := List.mem_map.1 hu
 rfl
end Pg
namespace Go.Proofs.YtcbjmcnebmhgpaaGreat
open Go Go.RowKit Pg
theorem one_atY {w : World} {a : Value} {t : TypeId} : ∀ (j : Nat) (v : Value),[a][j]? = some v → (w.alloc (.cells #[a] t)).cell? ((⟨w.heap.size,0,none⟩ : Addr).add j) = some v := by
 intro j v hj
 match j,hj with
 | 0,hj => simp at hj;subst hj;simp [Addr.add]
section
variable {own imm : Nat → Prop} {tb mb : Nat} {t : Tr}
end
end Go.Proofs.YtcbjmcnebmhgpaaGreat
