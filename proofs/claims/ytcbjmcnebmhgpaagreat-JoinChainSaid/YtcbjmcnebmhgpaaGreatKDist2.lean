/-
  Contract of plane.Dist.
-/
import Derived.Test.YtcbjmcnebmhgpaaGreatKWide
import Derived.Test.YtcbjmcnebmhgpaaGreatKPlainSplit
set_option linter.unusedVariables false
set_option linter.unusedSimpArgs false
namespace Go.Proofs.YtcbjmcnebmhgpaaGreat
open Go.RowKit Pg
theorem okPt_range {p : Pt} (h : okPt p = true) : -1073741823 ≤ p.x ∧ p.x ≤ 1073741823 ∧ -1073741823 ≤ p.y ∧ p.y ≤ 1073741823 := by
 simp [okPt,farB] at h
 omega
end Go.Proofs.YtcbjmcnebmhgpaaGreat
