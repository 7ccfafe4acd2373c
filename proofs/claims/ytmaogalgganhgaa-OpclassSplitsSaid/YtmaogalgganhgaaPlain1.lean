/-
  Plain lemmas: small ones, on points, boxes, signs.
-/
import Derived.Test.YtmaogalgganhgaaGeo
namespace Pg

theorem okPt_iff (p : Pt) : okPt p = true ↔ (-1073741823 ≤ p.x ∧ p.x ≤ 1073741823) ∧ (-1073741823 ≤ p.y ∧ p.y ≤ 1073741823) := by
  simp [okPt, farB]
theorem sgn_zero (n : Int) : (sgn n == 0) = decide (n = 0) := by
  unfold sgn
  split
  · have : n ≠ 0 := by omega
    simp [this]
  · split
    · have : n ≠ 0 := by omega
      simp [this]
    · have : n = 0 := by omega
      simp [this]
theorem okBx_span {a b : Pt} (ha : okPt a = true) (hb : okPt b = true) : okBx (span a b) = true := by
  have h1 : okPt (span a b).lo = true := by rw [okPt_iff] at *; simp only [span]; omega
  have h2 : okPt (span a b).hi = true := by rw [okPt_iff] at *; simp only [span]; omega
  have h3 : ¬ (span a b).hi.x < (span a b).lo.x := by simp only [span]; omega
  have h4 : ¬ (span a b).hi.y < (span a b).lo.y := by simp only [span]; omega
  simp [okBx, ckBox, h1, h2, h3, h4]
/-- 'On' as the program asks it -/
theorem onS_eq (a b p : Pt) : onS a b p = ((okPt a && okPt b && okPt p) && (orient a b p == 0) && bhas (span a b) p) := by
  by_cases h : (okPt a && okPt b && okPt p) = true
  · have ha : okPt a = true := by simp_all
    have hb : okPt b = true := by simp_all
    have hp : okPt p = true := by simp_all
    rw [orient, sgn_zero, cross, if_pos h, onS, h, bhas, okBx_span ha hb, hp]
    simp
  · have h : (okPt a && okPt b && okPt p) = false := by simpa using h
    rw [onS, h]
    simp
end Pg
