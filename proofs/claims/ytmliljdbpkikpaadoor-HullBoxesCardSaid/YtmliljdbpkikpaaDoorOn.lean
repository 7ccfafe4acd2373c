/-
  Contracts of package segm: On.
  Contracts of package segm: Proper, Meet.
  Contracts of package segm: Meet, MeetsBox.
-/
import Derived.Test.YtmliljdbpkikpaaDoorSegm
import Derived.Test.YtmliljdbpkikpaaDoorLex
import Derived.Test.YtmliljdbpkikpaaDoorPlain1
import Derived.RegionTactic
set_option linter.unusedSimpArgs false
set_option linter.unusedVariables false
namespace Go.Proofs.YtmliljdbpkikpaaDoor
open Go.RowKit Pg

end Go.Proofs.YtmliljdbpkikpaaDoor
set_option linter.unusedSimpArgs false
set_option linter.unusedVariables false
namespace Go.Proofs.YtmliljdbpkikpaaDoor
open Go.RowKit Pg
theorem orient_bd (a b c : Pt) : -1 ≤ orient a b c ∧ orient a b c ≤ 1 := by
  unfold orient sgn
  split
  · omega
  · split <;> omega
theorem mul_one_bd {p q : Int} (h1 : -1 ≤ p ∧ p ≤ 1) (h2 : -1 ≤ q ∧ q ≤ 1) : -1 ≤ p * q ∧ p * q ≤ 1 := by
  have := mul_bd (m := 1) (n := 1) h1.1 h1.2 h2.1 h2.2
  omega
theorem wrap_mul_one {p q : Int} (h1 : -1 ≤ p ∧ p ≤ 1) (h2 : -1 ≤ q ∧ q ≤ 1) : IntKind.i64.wrap (p * q) = p * q := by
  have h := mul_one_bd h1 h2
  exact IntWalk.i64_in _ (by omega)

theorem proper_eq (a b c d : Pt) : properR a b c d = ((okPt a && okPt b && okPt c && okPt d) && decide (orient a b c * orient a b d < 0) && decide (orient c d a * orient c d b < 0)) := by
  by_cases h : (okPt a && okPt b && okPt c && okPt d) = true
  · rw [properR, h]; simp
  · have h0 : (okPt a && okPt b && okPt c && okPt d) = false := by simpa using h
    rw [properR, h0]
    have : orient a b c * orient a b d = 0 := by
      by_cases h1 : (okPt a && okPt b && okPt c) = true
      · have h2 : (okPt a && okPt b && okPt d) = false := by simp_all
        have : orient a b d = 0 := by simp [orient, cross, h2, sgn]
        rw [this]; simp
      · have h1 : (okPt a && okPt b && okPt c) = false := by simpa using h1
        have : orient a b c = 0 := by simp [orient, cross, h1, sgn]
        rw [this]; simp
    rw [this]; simp

end Go.Proofs.YtmliljdbpkikpaaDoor
set_option linter.unusedSimpArgs false
set_option linter.unusedVariables false
namespace Go.Proofs.YtmliljdbpkikpaaDoor
open Go.RowKit Pg
theorem errV_ck (b : Bx) : errV (ckBox b) = if okBx b = true then .nilIface else .iface 60 (.int .i64 (ckBox b)) := by
  by_cases h : ckBox b = 0
  · rw [if_pos (by simp [okBx, h])]; exact errV_zero h
  · rw [if_neg (by simp [okBx, h])]; exact errV_pos h
end Go.Proofs.YtmliljdbpkikpaaDoor
