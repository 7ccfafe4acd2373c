/-
  
-/
import Derived.Test.YtmaogalgganhgaaDoorPlain2
set_option linter.unusedVariables false
set_option linter.unusedSimpArgs false
namespace Pg
/- plain law of a segment and a box: by the separating axes -/

/-- of two averages: what is all below is below -/
theorem avg_sep {p q r s u v u' v' : Int} (hu : 0 < u) (hv : 0 < v) (hu' : 0 < u') (hv' : 0 < v') (hs : u + v = u' + v') (h : p * u + q * v = r * u' + s * v') : min r s ≤ max p q := by
  apply Int.not_lt.1
  intro hlt
  have hp : p ≤ max p q := by omega
  have hq : q ≤ max p q := by omega
  have hr : max p q + 1 ≤ r := by omega
  have hs' : max p q + 1 ≤ s := by omega
  generalize max p q = M at *
  have e1 := Int.mul_le_mul_of_nonneg_right hp (Int.le_of_lt hu)
  have e2 := Int.mul_le_mul_of_nonneg_right hq (Int.le_of_lt hv)
  have e3 := Int.mul_le_mul_of_nonneg_right hr (Int.le_of_lt hu')
  have e4 := Int.mul_le_mul_of_nonneg_right hs' (Int.le_of_lt hv')
  have e5 : M * u + M * v = M * u' + M * v' := by rw [← Int.mul_add, ← Int.mul_add, hs]
  grind
theorem avg_sep' {p q r s u v u' v' : Int} (hu : 0 < u) (hv : 0 < v) (hu' : 0 < u') (hv' : 0 < v') (hs : u + v = u' + v') (h : p * u + q * v = r * u' + s * v') : min r s ≤ max p q ∧ min p q ≤ max r s :=
  ⟨avg_sep hu hv hu' hv' hs h, avg_sep hu' hv' hu hv hs.symm h.symm⟩
/-- two that cross have spans that overlap -/
theorem proper_overlap {a b c d : Pt} (h1 : (crossR a b c < 0 ∧ 0 < crossR a b d) ∨ (0 < crossR a b c ∧ crossR a b d < 0)) (h2 : (crossR c d a < 0 ∧ 0 < crossR c d b) ∨ (0 < crossR c d a ∧ crossR c d b < 0)) :
    (min a.x b.x ≤ max c.x d.x ∧ min c.x d.x ≤ max a.x b.x) ∧ (min a.y b.y ≤ max c.y d.y ∧ min c.y d.y ≤ max a.y b.y) := by
  have e0 : crossR a b d - crossR a b c = crossR c d a - crossR c d b := by unfold crossR; grind
  have ex : c.x * crossR a b d - d.x * crossR a b c = b.x * crossR c d a - a.x * crossR c d b := by unfold crossR; grind
  have ey : c.y * crossR a b d - d.y * crossR a b c = b.y * crossR c d a - a.y * crossR c d b := by unfold crossR; grind
  generalize crossR a b d = F2 at *
  generalize crossR a b c = F1 at *
  generalize crossR c d a = G1 at *
  generalize crossR c d b = G2 at *
  rcases h1 with h1 | h1
  · have k : G2 < 0 ∧ 0 < G1 := by omega
    have x := avg_sep' (p := c.x) (q := d.x) (r := b.x) (s := a.x) (u := F2) (v := -F1) (u' := G1) (v' := -G2) (by omega) (by omega) (by omega) (by omega) (by omega) (by grind)
    have y := avg_sep' (p := c.y) (q := d.y) (r := b.y) (s := a.y) (u := F2) (v := -F1) (u' := G1) (v' := -G2) (by omega) (by omega) (by omega) (by omega) (by omega) (by grind)
    omega
  · have k : 0 < G2 ∧ G1 < 0 := by omega
    have x := avg_sep' (p := c.x) (q := d.x) (r := b.x) (s := a.x) (u := -F2) (v := F1) (u' := -G1) (v' := G2) (by omega) (by omega) (by omega) (by omega) (by omega) (by grind)
    have y := avg_sep' (p := c.y) (q := d.y) (r := b.y) (s := a.y) (u := -F2) (v := F1) (u' := -G1) (v' := G2) (by omega) (by omega) (by omega) (by omega) (by omega) (by grind)
    omega

/-- in the box, raw -/
def inR (r : Bx) (p : Pt) : Prop := (r.lo.x ≤ p.x ∧ p.x ≤ r.hi.x) ∧ (r.lo.y ≤ p.y ∧ p.y ≤ r.hi.y)
def allPos (a b : Pt) (r : Bx) : Prop := (0 < crossR a b r.lo ∧ 0 < crossR a b ⟨r.hi.x, r.lo.y⟩) ∧ (0 < crossR a b r.hi ∧ 0 < crossR a b ⟨r.lo.x, r.hi.y⟩)
/-- no axis parts the segment from the box -/
def sat (a b : Pt) (r : Bx) : Prop :=
  ((min a.x b.x ≤ r.hi.x ∧ r.lo.x ≤ max a.x b.x) ∧ (min a.y b.y ≤ r.hi.y ∧ r.lo.y ≤ max a.y b.y)) ∧ ¬ allPos a b r ∧ ¬ allPos b a r

theorem mul_le_of {t u v : Int} (h : u ≤ v) : (0 ≤ t → t * u ≤ t * v) ∧ (t ≤ 0 → t * v ≤ t * u) :=
  ⟨fun ht => Int.mul_le_mul_of_nonneg_left h ht, fun ht => Int.mul_le_mul_of_nonpos_left ht h⟩
theorem allPos_in {a b : Pt} {r : Bx} (h : allPos a b r) {c : Pt} (hc : inR r c) : 0 < crossR a b c := by
  obtain ⟨⟨h1, h2⟩, h3, h4⟩ := h
  obtain ⟨⟨x1, x2⟩, y1, y2⟩ := hc
  unfold crossR at *
  simp only at *
  have X1 := mul_le_of (t := b.y - a.y) (Int.sub_le_sub_right x1 a.x)
  have X2 := mul_le_of (t := b.y - a.y) (Int.sub_le_sub_right x2 a.x)
  have Y1 := mul_le_of (t := b.x - a.x) (Int.sub_le_sub_right y1 a.y)
  have Y2 := mul_le_of (t := b.x - a.x) (Int.sub_le_sub_right y2 a.y)
  rcases Int.le_total 0 (b.y - a.y) with hy | hy <;> rcases Int.le_total 0 (b.x - a.x) with hx | hx
  · have := X2.1 hy; have := Y1.1 hx; omega
  · have := X2.1 hy; have := Y2.2 hx; omega
  · have := X1.2 hy; have := Y1.1 hx; omega
  · have := X1.2 hy; have := Y2.2 hx; omega
theorem sat_of_zero {a b c : Pt} {r : Bx} (hc : inR r c) (h0 : crossR a b c = 0) : ¬ allPos a b r ∧ ¬ allPos b a r := by
  constructor
  · intro h; have := allPos_in h hc; omega
  · intro h; have := allPos_in h hc; rw [crossR_swap] at this; omega
theorem sat_in {a b : Pt} {r : Bx} (h : inR r a) : sat a b r := by
  refine ⟨?_, sat_of_zero h (crossR_aba a b)⟩
  unfold inR at h
  omega
theorem sat_swap {a b : Pt} {r : Bx} (h : sat a b r) : sat b a r := by
  obtain ⟨h1, h2, h3⟩ := h
  exact ⟨by omega, h3, h2⟩
/-- a segment that meets one in the box is not parted from it -/
theorem sat_of_meet {a b c d : Pt} {r : Bx} (hc : inR r c) (hd : inR r d) (h : meetS a b c d = true) : sat a b r := by
  rw [meetS_iff] at h
  obtain ⟨⟨oa, ob, oc, od⟩, h⟩ := h
  rcases h with h | h | h | h | h
  · rw [properR_iff oa ob oc od] at h
    obtain ⟨h1, h2⟩ := h
    have := proper_overlap h1 h2
    unfold inR at hc hd
    refine ⟨by omega, fun k => ?_, fun k => ?_⟩
    · have := allPos_in k hc; have := allPos_in k hd; omega
    · have u1 := allPos_in k hc; have u2 := allPos_in k hd; rw [crossR_swap] at u1 u2; omega
  · rw [onS_iff] at h
    refine ⟨?_, sat_of_zero hc h.2.1⟩
    unfold inR at hc; omega
  · rw [onS_iff] at h
    refine ⟨?_, sat_of_zero hd h.2.1⟩
    unfold inR at hd; omega
  · rw [onS_iff] at h
    exact sat_in (by unfold inR at *; omega)
  · rw [onS_iff] at h
    exact sat_swap (sat_in (by unfold inR at *; omega))
/-- a greater box -/
theorem sat_mono {a b : Pt} {r u : Bx} (h : sat a b r) (hlo : inR u r.lo) (hhi : inR u r.hi) : sat a b u := by
  obtain ⟨h1, h2, h3⟩ := h
  unfold inR at hlo hhi
  refine ⟨by omega, fun k => h2 ?_, fun k => h3 ?_⟩
  · exact ⟨⟨allPos_in k (by unfold inR; omega), allPos_in k (by unfold inR; simp only; omega)⟩, allPos_in k (by unfold inR; omega), allPos_in k (by unfold inR; simp only; omega)⟩
  · exact ⟨⟨allPos_in k (by unfold inR; omega), allPos_in k (by unfold inR; simp only; omega)⟩, allPos_in k (by unfold inR; omega), allPos_in k (by unfold inR; simp only; omega)⟩

section core
variable {lx ly hx hy ax ay bx b_y : Int}
theorem mz {p q : Int} (h : p * q = 0) : p = 0 ∨ q = 0 := Int.mul_eq_zero.1 h
theorem core1 (hW : lx ≤ hx) (hH : ly ≤ hy) (dx : ax ≤ bx) (dy : ay ≤ b_y) (o : (ax ≤ hx ∧ lx ≤ bx) ∧ (ay ≤ hy ∧ ly ≤ b_y)) (ha : ax < lx ∨ ay < ly) (hb : hx < bx ∨ hy < b_y)
    (h : (bx - ax) * (ly - ay) - (b_y - ay) * (hx - ax) = 0) : (ax ≤ hx ∧ hx ≤ bx) ∧ (ay ≤ ly ∧ ly ≤ b_y) := by
  refine ⟨⟨o.1.1, ?_⟩, ?_, o.2.2⟩
  · apply Int.not_lt.1
    intro k
    -- b.x < hx, so b.y > hy
    have hby : hy < b_y := by omega
    have e : (b_y - ay) * (bx - ax + 1) ≤ (b_y - ay) * (hx - ax) := Int.mul_le_mul_of_nonneg_left (by omega) (by omega)
    have e2 : (bx - ax) * (ly - ay) ≤ (bx - ax) * (b_y - ay) := Int.mul_le_mul_of_nonneg_left (by omega) (by omega)
    have e3 : 0 < b_y - ay := by omega
    grind
  · apply Int.not_lt.1
    intro k
    have hax : ax < lx := by omega
    have e : 0 ≤ (b_y - ay) * (hx - ax) := Int.mul_nonneg (by omega) (by omega)
    have e2 : 0 < (bx - ax) * (ay - ly) := Int.mul_pos (by omega) (by omega)
    grind
theorem core4 (hW : lx ≤ hx) (hH : ly ≤ hy) (dx : ax ≤ bx) (dy : ay ≤ b_y) (o : (ax ≤ hx ∧ lx ≤ bx) ∧ (ay ≤ hy ∧ ly ≤ b_y)) (ha : ax < lx ∨ ay < ly)
    (h : (bx - ax) * (ly - ay) - (b_y - ay) * (lx - ax) = 0) : (ax ≤ lx ∧ lx ≤ bx) ∧ (ay ≤ ly ∧ ly ≤ b_y) := by
  refine ⟨⟨?_, o.1.2⟩, ?_, o.2.2⟩
  · apply Int.not_lt.1
    intro k
    have : 0 < (b_y - ay) * (ax - lx) := Int.mul_pos (by omega) (by omega)
    have : 0 ≤ (bx - ax) * (ly - ay) := Int.mul_nonneg (by omega) (by omega)
    grind
  · apply Int.not_lt.1
    intro k
    have : 0 < (bx - ax) * (ay - ly) := Int.mul_pos (by omega) (by omega)
    have : 0 ≤ (b_y - ay) * (lx - ax) := Int.mul_nonneg (by omega) (by omega)
    grind
/-- the other diagonal parts a from b -/
theorem core3 (hW : lx ≤ hx) (hH : ly ≤ hy) (dx : ax ≤ bx) (dy : ay ≤ b_y) (o : (ax ≤ hx ∧ lx ≤ bx) ∧ (ay ≤ hy ∧ ly ≤ b_y)) (ha : ax < lx ∨ ay < ly) (hb : hx < bx ∨ hy < b_y)
    (h1 : (bx - ax) * (ly - ay) - (b_y - ay) * (hx - ax) < 0) (h2 : 0 < (bx - ax) * (hy - ay) - (b_y - ay) * (lx - ax)) :
    (hx - lx) * (ay - hy) - (ly - hy) * (ax - lx) < 0 ∧ 0 < (hx - lx) * (b_y - hy) - (ly - hy) * (bx - lx) := by
  have W := hW
  constructor
  · apply Int.not_le.1
    intro k
    rcases ha with ha | ha
    · have e1 : 0 ≤ (hx - lx) * (hy - ay) := Int.mul_nonneg (by omega) (by omega)
      have e2 : 0 ≤ (hy - ly) * (lx - ax) := Int.mul_nonneg (by omega) (by omega)
      have z1 : (hx - lx) * (hy - ay) = 0 := by (simp only [Int.sub_mul, Int.mul_sub, Int.add_mul, Int.mul_add, Int.neg_mul, Int.mul_neg, Int.mul_comm, Int.mul_left_comm, Int.mul_assoc] at *; omega)
      have z2 : (hy - ly) * (lx - ax) = 0 := by (simp only [Int.sub_mul, Int.mul_sub, Int.add_mul, Int.mul_add, Int.neg_mul, Int.mul_neg, Int.mul_comm, Int.mul_left_comm, Int.mul_assoc] at *; omega)
      have hl : hy = ly := by rcases mz z2 with h | h <;> omega
      rcases mz z1 with h | h
      · have : hx = lx := by omega
        subst this hl
        omega
      · have : hy = ay := by omega
        subst this
        have e3 : 0 ≤ (b_y - hy) * (lx - ax) := Int.mul_nonneg (by omega) (by omega)
        (simp only [Int.sub_mul, Int.mul_sub, Int.add_mul, Int.mul_add, Int.neg_mul, Int.mul_neg, Int.mul_comm, Int.mul_left_comm, Int.mul_assoc] at *; omega)
    · have e1 : 0 ≤ (hx - lx) * (ly - ay) := Int.mul_nonneg (by omega) (by omega)
      have e2 : 0 ≤ (hy - ly) * (hx - ax) := Int.mul_nonneg (by omega) (by omega)
      have z1 : (hx - lx) * (ly - ay) = 0 := by (simp only [Int.sub_mul, Int.mul_sub, Int.add_mul, Int.mul_add, Int.neg_mul, Int.mul_neg, Int.mul_comm, Int.mul_left_comm, Int.mul_assoc] at *; omega)
      have z2 : (hy - ly) * (hx - ax) = 0 := by (simp only [Int.sub_mul, Int.mul_sub, Int.add_mul, Int.mul_add, Int.neg_mul, Int.mul_neg, Int.mul_comm, Int.mul_left_comm, Int.mul_assoc] at *; omega)
      have hl : hx = lx := by rcases mz z1 with h | h <;> omega
      rcases mz z2 with h | h
      · have : hy = ly := by omega
        subst this hl
        omega
      · have : hx = ax := by omega
        subst this
        have e3 : 0 ≤ (bx - hx) * (ly - ay) := Int.mul_nonneg (by omega) (by omega)
        (simp only [Int.sub_mul, Int.mul_sub, Int.add_mul, Int.mul_add, Int.neg_mul, Int.mul_neg, Int.mul_comm, Int.mul_left_comm, Int.mul_assoc] at *; omega)
  · apply Int.not_le.1
    intro k
    rcases hb with hb | hb
    · have e1 : 0 ≤ (hx - lx) * (b_y - ly) := Int.mul_nonneg (by omega) (by omega)
      have e2 : 0 ≤ (hy - ly) * (bx - hx) := Int.mul_nonneg (by omega) (by omega)
      have z1 : (hx - lx) * (b_y - ly) = 0 := by (simp only [Int.sub_mul, Int.mul_sub, Int.add_mul, Int.mul_add, Int.neg_mul, Int.mul_neg, Int.mul_comm, Int.mul_left_comm, Int.mul_assoc] at *; omega)
      have z2 : (hy - ly) * (bx - hx) = 0 := by (simp only [Int.sub_mul, Int.mul_sub, Int.add_mul, Int.mul_add, Int.neg_mul, Int.mul_neg, Int.mul_comm, Int.mul_left_comm, Int.mul_assoc] at *; omega)
      have hl : hy = ly := by rcases mz z2 with h | h <;> omega
      rcases mz z1 with h | h
      · have : hx = lx := by omega
        subst this hl
        omega
      · have : b_y = ly := by omega
        subst this
        have e3 : 0 ≤ (b_y - ay) * (bx - hx) := Int.mul_nonneg (by omega) (by omega)
        (simp only [Int.sub_mul, Int.mul_sub, Int.add_mul, Int.mul_add, Int.neg_mul, Int.mul_neg, Int.mul_comm, Int.mul_left_comm, Int.mul_assoc] at *; omega)
    · have e1 : 0 ≤ (hx - lx) * (b_y - hy) := Int.mul_nonneg (by omega) (by omega)
      have e2 : 0 ≤ (hy - ly) * (bx - lx) := Int.mul_nonneg (by omega) (by omega)
      have z1 : (hx - lx) * (b_y - hy) = 0 := by (simp only [Int.sub_mul, Int.mul_sub, Int.add_mul, Int.mul_add, Int.neg_mul, Int.mul_neg, Int.mul_comm, Int.mul_left_comm, Int.mul_assoc] at *; omega)
      have z2 : (hy - ly) * (bx - lx) = 0 := by (simp only [Int.sub_mul, Int.mul_sub, Int.add_mul, Int.mul_add, Int.neg_mul, Int.mul_neg, Int.mul_comm, Int.mul_left_comm, Int.mul_assoc] at *; omega)
      have hl : hx = lx := by rcases mz z1 with h | h <;> omega
      rcases mz z2 with h | h
      · have : hy = ly := by omega
        subst this hl
        omega
      · have : bx = lx := by omega
        subst this
        have e3 : 0 ≤ (bx - ax) * (b_y - hy) := Int.mul_nonneg (by omega) (by omega)
        (simp only [Int.sub_mul, Int.mul_sub, Int.add_mul, Int.mul_add, Int.neg_mul, Int.mul_neg, Int.mul_comm, Int.mul_left_comm, Int.mul_assoc] at *; omega)
/-- through the bottom -/
theorem core5 (hW : lx ≤ hx) (hH : ly ≤ hy) (dx : ax ≤ bx) (dy : ay ≤ b_y) (o : (ax ≤ hx ∧ lx ≤ bx) ∧ (ay ≤ hy ∧ ly ≤ b_y)) (ha : ax < lx ∨ ay < ly) (hb : hx < bx ∨ hy < b_y)
    (h1 : (bx - ax) * (ly - ay) - (b_y - ay) * (hx - ax) < 0) (h2 : 0 < (bx - ax) * (ly - ay) - (b_y - ay) * (lx - ax)) :
    (hx - lx) * (ay - ly) < 0 ∧ 0 < (hx - lx) * (b_y - ly) := by
  have hW' : lx < hx := by
    rcases Int.lt_or_eq_of_le hW with h | h
    · exact h
    · subst h; omega
  have ya : ay < ly := by
    apply Int.not_le.1
    intro k
    have : ax < lx := by omega
    have e1 : 0 ≤ (bx - ax) * (ay - ly) := Int.mul_nonneg (by omega) (by omega)
    have e2 : 0 ≤ (b_y - ay) * (lx - ax) := Int.mul_nonneg (by omega) (by omega)
    (simp only [Int.sub_mul, Int.mul_sub, Int.add_mul, Int.mul_add, Int.neg_mul, Int.mul_neg, Int.mul_comm, Int.mul_left_comm, Int.mul_assoc] at *; omega)
  have yb : ly < b_y := by
    apply Int.not_le.1
    intro k
    have hl : b_y = ly := by omega
    subst hl
    have e1 : 0 ≤ (b_y - ay) * (bx - hx) := Int.mul_nonneg (by omega) (by omega)
    (simp only [Int.sub_mul, Int.mul_sub, Int.add_mul, Int.mul_add, Int.neg_mul, Int.mul_neg, Int.mul_comm, Int.mul_left_comm, Int.mul_assoc] at *; omega)
  exact ⟨Int.mul_neg_of_pos_of_neg (by omega) (by omega), Int.mul_pos (by omega) (by omega)⟩
end core
end Pg
set_option linter.unusedVariables false
set_option linter.unusedSimpArgs false
namespace Pg
/- a segment and a box: the program's look, the reference's look, and 'no axis parts them' are one -/

theorem meetS_proper {a b c d : Pt} (oa : okPt a = true) (ob : okPt b = true) (oc : okPt c = true) (od : okPt d = true)
    (h : ((crossR a b c < 0 ∧ 0 < crossR a b d) ∨ (0 < crossR a b c ∧ crossR a b d < 0)) ∧ ((crossR c d a < 0 ∧ 0 < crossR c d b) ∨ (0 < crossR c d a ∧ crossR c d b < 0))) : meetS a b c d = true := by
  rw [meetS_iff]
  exact ⟨⟨oa, ob, oc, od⟩, .inl ((properR_iff oa ob oc od).2 h)⟩
theorem meetS_on1 {a b c d : Pt} (oa : okPt a = true) (ob : okPt b = true) (oc : okPt c = true) (od : okPt d = true)
    (h : crossR a b c = 0 ∧ (min a.x b.x ≤ c.x ∧ c.x ≤ max a.x b.x) ∧ (min a.y b.y ≤ c.y ∧ c.y ≤ max a.y b.y)) : meetS a b c d = true := by
  rw [meetS_iff]
  exact ⟨⟨oa, ob, oc, od⟩, .inr (.inl ((onS_iff _ _ _).2 ⟨⟨oa, ob, oc⟩, h⟩))⟩
theorem meetS_on2 {a b c d : Pt} (oa : okPt a = true) (ob : okPt b = true) (oc : okPt c = true) (od : okPt d = true)
    (h : crossR a b d = 0 ∧ (min a.x b.x ≤ d.x ∧ d.x ≤ max a.x b.x) ∧ (min a.y b.y ≤ d.y ∧ d.y ≤ max a.y b.y)) : meetS a b c d = true := by
  rw [meetS_swap3]
  exact meetS_on1 oa ob od oc h

theorem core_dir {ax ay bx b_y lx ly hx hy : Int} (oa : okPt ⟨ax, ay⟩ = true) (ob : okPt ⟨bx, b_y⟩ = true) (ol : okPt ⟨lx, ly⟩ = true) (oh : okPt ⟨hx, hy⟩ = true) (hW : lx ≤ hx) (hH : ly ≤ hy)
    (hs : sat ⟨ax, ay⟩ ⟨bx, b_y⟩ ⟨⟨lx, ly⟩, ⟨hx, hy⟩⟩) (dx : ax ≤ bx) (dy : ay ≤ b_y) (na : ¬ inR ⟨⟨lx, ly⟩, ⟨hx, hy⟩⟩ ⟨ax, ay⟩) (nb : ¬ inR ⟨⟨lx, ly⟩, ⟨hx, hy⟩⟩ ⟨bx, b_y⟩) :
    meetS ⟨ax, ay⟩ ⟨bx, b_y⟩ ⟨lx, hy⟩ ⟨hx, ly⟩ = true ∧ (meetS ⟨ax, ay⟩ ⟨bx, b_y⟩ ⟨lx, ly⟩ ⟨hx, ly⟩ = true ∨ meetS ⟨ax, ay⟩ ⟨bx, b_y⟩ ⟨lx, hy⟩ ⟨lx, ly⟩ = true) := by
  have o1 : okPt ⟨lx, hy⟩ = true := by rw [okPt_iff] at *; simp only at *; omega
  have o2 : okPt ⟨hx, ly⟩ = true := by rw [okPt_iff] at *; simp only at *; omega
  obtain ⟨h1, h2, h3⟩ := hs
  unfold inR at na nb
  unfold allPos at h2 h3
  rw [crossR_swap, crossR_swap ⟨ax, ay⟩, crossR_swap ⟨ax, ay⟩, crossR_swap ⟨ax, ay⟩] at h3
  simp only at *
  have o : (ax ≤ hx ∧ lx ≤ bx) ∧ (ay ≤ hy ∧ ly ≤ b_y) := by omega
  have ha : ax < lx ∨ ay < ly := by omega
  have hb : hx < bx ∨ hy < b_y := by omega
  have P : (bx - ax) * (ly - ay) ≤ (bx - ax) * (hy - ay) := Int.mul_le_mul_of_nonneg_left (by omega) (by omega)
  have Q : (b_y - ay) * (lx - ax) ≤ (b_y - ay) * (hx - ax) := Int.mul_le_mul_of_nonneg_left (by omega) (by omega)
  have eLR : crossR ⟨ax, ay⟩ ⟨bx, b_y⟩ ⟨hx, ly⟩ = (bx - ax) * (ly - ay) - (b_y - ay) * (hx - ax) := rfl
  have eHL : crossR ⟨ax, ay⟩ ⟨bx, b_y⟩ ⟨lx, hy⟩ = (bx - ax) * (hy - ay) - (b_y - ay) * (lx - ax) := rfl
  have eLL : crossR ⟨ax, ay⟩ ⟨bx, b_y⟩ ⟨lx, ly⟩ = (bx - ax) * (ly - ay) - (b_y - ay) * (lx - ax) := rfl
  have eHH : crossR ⟨ax, ay⟩ ⟨bx, b_y⟩ ⟨hx, hy⟩ = (bx - ax) * (hy - ay) - (b_y - ay) * (hx - ax) := rfl
  rw [eLR, eHL, eLL, eHH] at h2 h3
  have fLR : (bx - ax) * (ly - ay) - (b_y - ay) * (hx - ax) ≤ 0 := by
    apply Int.not_lt.1
    intro k
    exact h2 (by omega)
  have fHL : 0 ≤ (bx - ax) * (hy - ay) - (b_y - ay) * (lx - ax) := by
    apply Int.not_lt.1
    intro k
    exact h3 (by omega)
  clear h2 h3 na nb P Q h1 eHH
  by_cases zLR : (bx - ax) * (ly - ay) - (b_y - ay) * (hx - ax) = 0
  · have := core1 hW hH dx dy o ha hb zLR
    have hm : crossR ⟨ax, ay⟩ ⟨bx, b_y⟩ ⟨hx, ly⟩ = 0 ∧ (min ax bx ≤ hx ∧ hx ≤ max ax bx) ∧ (min ay b_y ≤ ly ∧ ly ≤ max ay b_y) := by rw [eLR]; exact ⟨zLR, by omega⟩
    exact ⟨meetS_on2 oa ob o1 o2 hm, .inl (meetS_on2 oa ob ol o2 hm)⟩
  by_cases zHL : (bx - ax) * (hy - ay) - (b_y - ay) * (lx - ax) = 0
  · have := core1 (lx := ly) (ly := lx) (hx := hy) (hy := hx) (ax := ay) (ay := ax) (bx := b_y) (b_y := bx) hH hW dy dx ⟨o.2, o.1⟩ (by omega) (by omega) (by omega)
    have hm : crossR ⟨ax, ay⟩ ⟨bx, b_y⟩ ⟨lx, hy⟩ = 0 ∧ (min ax bx ≤ lx ∧ lx ≤ max ax bx) ∧ (min ay b_y ≤ hy ∧ hy ≤ max ay b_y) := by rw [eHL]; exact ⟨zHL, by omega⟩
    exact ⟨meetS_on1 oa ob o1 o2 hm, .inr (meetS_on1 oa ob o1 ol hm)⟩
  refine ⟨meetS_proper oa ob o1 o2 ⟨.inr (by rw [eLR, eHL]; omega), .inl ?_⟩, ?_⟩
  · have := core3 hW hH dx dy o ha hb (by omega) (by omega)
    exact this
  · by_cases zLL : (bx - ax) * (ly - ay) - (b_y - ay) * (lx - ax) = 0
    · have := core4 hW hH dx dy o ha zLL
      exact .inl (meetS_on1 oa ob ol o2 (by rw [eLL]; exact ⟨zLL, by simp only; omega⟩))
    by_cases pLL : 0 < (bx - ax) * (ly - ay) - (b_y - ay) * (lx - ax)
    · left
      have := core5 hW hH dx dy o ha hb (by omega) pLL
      refine meetS_proper oa ob ol o2 ⟨.inr (by rw [eLR, eLL]; omega), .inl ?_⟩
      unfold crossR
      simp only [Int.sub_self, Int.zero_mul, Int.sub_zero]
      exact this
    · right
      have := core5 (lx := ly) (ly := lx) (hx := hy) (hy := hx) (ax := ay) (ay := ax) (bx := b_y) (b_y := bx) hH hW dy dx ⟨o.2, o.1⟩ (by omega) (by omega) (by omega) (by omega)
      refine meetS_proper oa ob o1 ol ⟨.inr (by rw [eHL, eLL]; omega), .inl ?_⟩
      unfold crossR
      simp only [Int.sub_self, Int.zero_mul, Int.zero_sub]
      have e : ∀ t, -((ly - hy) * t) = (hy - ly) * t := fun t => by (simp only [Int.sub_mul, Int.mul_sub, Int.add_mul, Int.mul_add, Int.neg_mul, Int.mul_neg, Int.mul_comm, Int.mul_left_comm, Int.mul_assoc] at *; omega)
      rw [e, e]
      exact this

/-- turned over, up and down -/
def ry (p : Pt) : Pt := ⟨p.x, -p.y⟩
theorem okPt_ry (p : Pt) : okPt (ry p) = okPt p := by
  rw [Bool.eq_iff_iff, okPt_iff, okPt_iff]
  simp only [ry]
  omega
theorem crossR_ry (a b c : Pt) : crossR (ry a) (ry b) (ry c) = - crossR a b c := by unfold crossR ry; (simp only [Int.sub_mul, Int.mul_sub, Int.add_mul, Int.mul_add, Int.neg_mul, Int.mul_neg, Int.mul_comm, Int.mul_left_comm, Int.mul_assoc] at *; omega)
theorem onS_ry (a b p : Pt) : onS (ry a) (ry b) (ry p) = onS a b p := by
  rw [Bool.eq_iff_iff, onS_iff, onS_iff, okPt_ry, okPt_ry, okPt_ry, crossR_ry]
  simp only [ry]
  constructor <;> rintro ⟨h, h1⟩ <;> exact ⟨h, by omega⟩
theorem orient_ry (a b c : Pt) : orient (ry a) (ry b) (ry c) = - orient a b c := by
  unfold orient cross
  rw [okPt_ry, okPt_ry, okPt_ry, crossR_ry, ← sgn_neg]
  congr 1
  split <;> omega
theorem meetS_ry (a b c d : Pt) : meetS (ry a) (ry b) (ry c) (ry d) = meetS a b c d := by
  unfold meetS properR
  rw [okPt_ry, okPt_ry, okPt_ry, okPt_ry, onS_ry, onS_ry, onS_ry, onS_ry, orient_ry, orient_ry, orient_ry, orient_ry, Int.neg_mul_neg, Int.neg_mul_neg]
theorem okBx_iff (r : Bx) : okBx r = true ↔ (okPt r.lo = true ∧ okPt r.hi = true) ∧ r.lo.x ≤ r.hi.x ∧ r.lo.y ≤ r.hi.y := by
  unfold okBx ckBox
  cases h1 : okPt r.lo <;> cases h2 : okPt r.hi <;> simp
theorem bhas_iff {r : Bx} {p : Pt} (hr : okBx r = true) (hp : okPt p = true) : bhas r p = true ↔ inR r p := by
  simp [bhas, hr, hp, bhasR, inR, and_assoc]

theorem sat_ry {a b : Pt} {lx ly hx hy : Int} (h : sat a b ⟨⟨lx, ly⟩, ⟨hx, hy⟩⟩) : sat (ry a) (ry b) ⟨⟨lx, -hy⟩, ⟨hx, -ly⟩⟩ := by
  obtain ⟨h1, h2, h3⟩ := h
  have e : ∀ a b : Pt, ¬ allPos a b ⟨⟨lx, ly⟩, ⟨hx, hy⟩⟩ → ¬ allPos (ry b) (ry a) ⟨⟨lx, -hy⟩, ⟨hx, -ly⟩⟩ := fun a b hn k => by
    apply hn
    unfold allPos at *
    simp only at *
    have c1 := crossR_ry b a ⟨lx, ly⟩
    have c2 := crossR_ry b a ⟨hx, ly⟩
    have c3 := crossR_ry b a ⟨lx, hy⟩
    have c4 := crossR_ry b a ⟨hx, hy⟩
    rw [crossR_swap a b] at c1 c2 c3 c4
    simp only [ry] at *
    omega
  refine ⟨?_, e b a h3, e a b h2⟩
  simp only [ry] at *
  omega
/-- whatever way it goes: both looks find it -/
theorem core_x {a b : Pt} {r : Bx} (oa : okPt a = true) (ob : okPt b = true) (hr : okBx r = true) (hs : sat a b r) (dx : a.x ≤ b.x) (na : ¬ inR r a) (nb : ¬ inR r b) :
    (meetS a b r.lo r.hi = true ∨ meetS a b ⟨r.lo.x, r.hi.y⟩ ⟨r.hi.x, r.lo.y⟩ = true) ∧
    (((meetS a b r.lo ⟨r.hi.x, r.lo.y⟩ = true ∨ meetS a b ⟨r.hi.x, r.lo.y⟩ r.hi = true) ∨ meetS a b r.hi ⟨r.lo.x, r.hi.y⟩ = true) ∨ meetS a b ⟨r.lo.x, r.hi.y⟩ r.lo = true) := by
  obtain ⟨⟨ol, oh⟩, hW, hH⟩ := (okBx_iff r).1 hr
  obtain ⟨⟨lx, ly⟩, ⟨hx, hy⟩⟩ := r
  obtain ⟨ax, ay⟩ := a
  obtain ⟨bx, b_y⟩ := b
  simp only at *
  rcases Int.le_total ay b_y with dy | dy
  · obtain ⟨m1, m2⟩ := core_dir oa ob ol oh hW hH hs dx dy na nb
    refine ⟨.inr m1, ?_⟩
    rcases m2 with m2 | m2
    · exact .inl (.inl (.inl m2))
    · exact .inr m2
  · have h := sat_ry hs
    have hn : ∀ x y, ¬ inR ⟨⟨lx, ly⟩, ⟨hx, hy⟩⟩ ⟨x, y⟩ → ¬ inR ⟨⟨lx, -hy⟩, ⟨hx, -ly⟩⟩ ⟨x, -y⟩ := fun x y h k => h (by unfold inR at *; simp only at *; omega)
    have r1 := okPt_ry ⟨lx, hy⟩
    have r2 := okPt_ry ⟨hx, ly⟩
    obtain ⟨m1, m2⟩ := core_dir (ax := ax) (ay := -ay) (bx := bx) (b_y := -b_y) (lx := lx) (ly := -hy) (hx := hx) (hy := -ly) (by have := okPt_ry ⟨ax, ay⟩; rw [oa] at this; exact this) (by have := okPt_ry ⟨bx, b_y⟩; rw [ob] at this; exact this)
      (by rw [okPt_iff] at *; simp only at *; omega) (by rw [okPt_iff] at *; simp only at *; omega) hW (by omega) h dx (by omega) (hn _ _ na) (hn _ _ nb)
    have k1 := meetS_ry ⟨ax, ay⟩ ⟨bx, b_y⟩ ⟨lx, ly⟩ ⟨hx, hy⟩
    have k2 := meetS_ry ⟨ax, ay⟩ ⟨bx, b_y⟩ ⟨lx, hy⟩ ⟨hx, hy⟩
    have k3 := meetS_ry ⟨ax, ay⟩ ⟨bx, b_y⟩ ⟨lx, ly⟩ ⟨lx, hy⟩
    simp only [ry] at k1 k2 k3
    rw [k1] at m1
    rw [k2, k3] at m2
    refine ⟨.inl m1, ?_⟩
    rcases m2 with m2 | m2
    · rw [meetS_swap3] at m2
      exact .inl (.inr m2)
    · rw [meetS_swap3] at m2
      exact .inr m2
theorem core_all {a b : Pt} {r : Bx} (oa : okPt a = true) (ob : okPt b = true) (hr : okBx r = true) (hs : sat a b r) (na : ¬ inR r a) (nb : ¬ inR r b) :
    (meetS a b r.lo r.hi = true ∨ meetS a b ⟨r.lo.x, r.hi.y⟩ ⟨r.hi.x, r.lo.y⟩ = true) ∧
    (((meetS a b r.lo ⟨r.hi.x, r.lo.y⟩ = true ∨ meetS a b ⟨r.hi.x, r.lo.y⟩ r.hi = true) ∨ meetS a b r.hi ⟨r.lo.x, r.hi.y⟩ = true) ∨ meetS a b ⟨r.lo.x, r.hi.y⟩ r.lo = true) := by
  rcases Int.le_total a.x b.x with dx | dx
  · exact core_x oa ob hr hs dx na nb
  · have := core_x ob oa hr (sat_swap hs) dx nb na
    simp only [meetS_swap1 a b] at this
    exact this
theorem inR_corners {r : Bx} (hr : okBx r = true) : (inR r r.lo ∧ inR r r.hi) ∧ inR r ⟨r.lo.x, r.hi.y⟩ ∧ inR r ⟨r.hi.x, r.lo.y⟩ := by
  have := (okBx_iff r).1 hr
  unfold inR
  simp only
  omega
theorem mbox_iff {a b : Pt} {r : Bx} (oa : okPt a = true) (ob : okPt b = true) (hr : okBx r = true) : mbox a b r = true ↔ sat a b r := by
  obtain ⟨⟨c1, c2⟩, c3, c4⟩ := inR_corners hr
  simp only [mbox, oa, ob, hr, Bool.and_self, Bool.true_and, Bool.or_eq_true, bhas_iff hr oa, bhas_iff hr ob]
  constructor
  · rintro (((h | h) | h) | h)
    · exact sat_in h
    · exact sat_swap (sat_in h)
    · exact sat_of_meet c1 c2 h
    · exact sat_of_meet c3 c4 h
  · intro h
    by_cases na : inR r a
    · exact .inl (.inl (.inl na))
    by_cases nb : inR r b
    · exact .inl (.inl (.inr nb))
    rcases (core_all oa ob hr h na nb).1 with m | m
    · exact .inl (.inr m)
    · exact .inr m
theorem mboxR_iff {a b : Pt} {r : Bx} (oa : okPt a = true) (ob : okPt b = true) (hr : okBx r = true) : mboxR a b r = true ↔ sat a b r := by
  obtain ⟨⟨c1, c2⟩, c3, c4⟩ := inR_corners hr
  simp only [mboxR, oa, ob, hr, Bool.and_self, Bool.true_and, Bool.or_eq_true, bhas_iff hr oa, bhas_iff hr ob]
  constructor
  · rintro (((((h | h) | h) | h) | h) | h)
    · exact sat_in h
    · exact sat_swap (sat_in h)
    · exact sat_of_meet c1 c4 h
    · exact sat_of_meet c4 c2 h
    · exact sat_of_meet c2 c3 h
    · exact sat_of_meet c3 c1 h
  · intro h
    by_cases na : inR r a
    · exact .inl (.inl (.inl (.inl (.inl na))))
    by_cases nb : inR r b
    · exact .inl (.inl (.inl (.inl (.inr nb))))
    rcases (core_all oa ob hr h na nb).2 with ((m | m) | m) | m
    · exact .inl (.inl (.inl (.inr m)))
    · exact .inl (.inl (.inr m))
    · exact .inl (.inr m)
    · exact .inr m
/-- THE LOOKS AT A SEGMENT AND A BOX AGREE -/
theorem mbox_eq (a b : Pt) (r : Bx) : mbox a b r = mboxR a b r := by
  by_cases h : (okPt a && okPt b && okBx r) = true
  · have oa : okPt a = true := by simp_all
    have ob : okPt b = true := by simp_all
    have hr : okBx r = true := by simp_all
    rw [Bool.eq_iff_iff, mbox_iff oa ob hr, mboxR_iff oa ob hr]
  · have h : (okPt a && okPt b && okBx r) = false := by simpa using h
    rw [mbox, mboxR, h]
    rfl
end Pg
set_option linter.unusedVariables false
set_option linter.unusedSimpArgs false
namespace Pg
/- the parity of a ray's crossings: it telescopes; it stays where no edge is met -/

def parF (c : Nat → Bool) : Nat → Bool
  | 0 => false
  | k + 1 => xor (parF c k) (c k)
theorem parity_parF (l : List Pt) (p : Pt) (k : Nat) : parity l p k = parF (fun i => crossesB (pt l i) (nx l i) p) k := by
  induction k with
  | zero => rfl
  | succ k ih => rw [parity, parF, ih]
theorem parF_xor (c d : Nat → Bool) (k : Nat) : xor (parF c k) (parF d k) = parF (fun i => xor (c i) (d i)) k := by
  induction k with
  | zero => rfl
  | succ k ih =>
    rw [parF, parF, parF, ← ih]
    cases parF c k <;> cases parF d k <;> cases c k <;> cases d k <;> rfl
theorem parF_congr {c d : Nat → Bool} {n : Nat} (h : ∀ i, i < n → c i = d i) : parF c n = parF d n := by
  induction n with
  | zero => rfl
  | succ n ih => rw [parF, parF, ih fun i hi => h i (by omega), h n (by omega)]
theorem parF_tele {c : Nat → Bool} {l : List Pt} {g : Pt → Bool} (h : ∀ i, i < l.length → c i = xor (g (pt l i)) (g (nx l i))) : parF c l.length = false := by
  have step : ∀ k, k < l.length → parF c k = xor (g (pt l 0)) (g (pt l k)) := by
    intro k
    induction k with
    | zero => intro _; rw [parF]; cases g (pt l 0) <;> rfl
    | succ k ih =>
      intro hk
      rw [parF, ih (by omega), h k (by omega), nx_of_lt hk]
      cases g (pt l 0) <;> cases g (pt l k) <;> cases g (pt l (k + 1)) <;> rfl
  cases hn : l.length with
  | zero => rfl
  | succ m =>
    rw [parF, step m (by omega), h m (by omega), nx_last (by omega)]
    cases g (pt l 0) <;> cases g (pt l m) <;> rfl
/-- from one point to another one -/
theorem parity_move {l : List Pt} {p q : Pt} {g : Pt → Bool} (h : ∀ i, i < l.length → xor (crossesB (pt l i) (nx l i) p) (crossesB (pt l i) (nx l i) q) = xor (g (pt l i)) (g (nx l i))) :
    parity l p l.length = parity l q l.length := by
  have e : xor (parity l p l.length) (parity l q l.length) = false := by
    rw [parity_parF, parity_parF, parF_xor]
    exact parF_tele h
  revert e
  cases parity l p l.length <;> cases parity l q l.length <;> simp

theorem crossesB_swap (a b p : Pt) : crossesB b a p = crossesB a b p := by
  unfold crossesB
  by_cases h1 : b.y < a.y
  · rw [if_pos h1, if_neg (by omega)]
  · rw [if_neg h1]
    by_cases h2 : a.y < b.y
    · rw [if_pos h2]
    · rw [if_neg h2]
      have e : a.y = b.y := by omega
      have e1 : (decide (b.y ≤ p.y) && decide (p.y < a.y)) = false := by
        rw [Bool.and_eq_false_iff]
        by_cases h : b.y ≤ p.y
        · right; simp; omega
        · left; simp; omega
      have e2 : (decide (a.y ≤ p.y) && decide (p.y < b.y)) = false := by
        rw [Bool.and_eq_false_iff]
        by_cases h : a.y ≤ p.y
        · right; simp; omega
        · left; simp; omega
      rw [e1, e2]
      rfl
/-- of an edge that goes up: -/
theorem crossesB_up {a b p : Pt} (oa : okPt a = true) (ob : okPt b = true) (op : okPt p = true) (h : a.y ≤ b.y) : crossesB a b p = decide (a.y ≤ p.y ∧ p.y < b.y ∧ 0 < crossR a b p) := by
  have e : cross a b p = crossR a b p := by simp [cross, oa, ob, op]
  rw [crossesB, if_neg (by omega), e]
  by_cases h1 : a.y ≤ p.y <;> by_cases h2 : p.y < b.y <;> by_cases h3 : 0 < crossR a b p <;> simp [h1, h2, h3]
/-- right of both ends; left of both ends -/
theorem side_right {a b p : Pt} (h1 : a.y ≤ p.y) (h2 : p.y < b.y) (ha : a.x < p.x) (hb : b.x < p.x) : crossR a b p < 0 := by
  unfold crossR
  have e1 : (b.x - a.x) * (p.y - a.y) ≤ (p.x - a.x) * (p.y - a.y) := Int.mul_le_mul_of_nonneg_right (by omega) (by omega)
  have e2 : 0 < (p.x - a.x) * (b.y - p.y) := Int.mul_pos (by omega) (by omega)
  (simp only [Int.sub_mul, Int.mul_sub, Int.add_mul, Int.mul_add, Int.neg_mul, Int.mul_neg, Int.mul_comm, Int.mul_left_comm, Int.mul_assoc] at *; omega)
theorem side_left {a b p : Pt} (h1 : a.y ≤ p.y) (h2 : p.y < b.y) (ha : p.x < a.x) (hb : p.x < b.x) : 0 < crossR a b p := by
  unfold crossR
  have e1 : (p.x - a.x) * (p.y - a.y) ≤ (b.x - a.x) * (p.y - a.y) := Int.mul_le_mul_of_nonneg_right (by omega) (by omega)
  have e2 : 0 < (a.x - p.x) * (b.y - p.y) := Int.mul_pos (by omega) (by omega)
  (simp only [Int.sub_mul, Int.mul_sub, Int.add_mul, Int.mul_add, Int.neg_mul, Int.mul_neg, Int.mul_comm, Int.mul_left_comm, Int.mul_assoc] at *; omega)
/-- what parts an edge from a box -/
theorem not_sat {a b : Pt} {u : Bx} (h : ¬ sat a b u) : (u.hi.x < a.x ∧ u.hi.x < b.x) ∨ (a.x < u.lo.x ∧ b.x < u.lo.x) ∨ (u.hi.y < a.y ∧ u.hi.y < b.y) ∨ (a.y < u.lo.y ∧ b.y < u.lo.y) ∨ allPos a b u ∨ allPos b a u := by
  unfold sat at h
  by_cases h1 : allPos a b u
  · simp [h1]
  by_cases h2 : allPos b a u
  · simp [h2]
  simp only [h1, h2, not_false_eq_true, and_true, or_false] at *
  omega
/-- two points of a box are on one side of an edge that goes up past both and doesn't meet it -/
theorem same_side {a b p q : Pt} {u : Bx} (h : ¬ sat a b u) (hp : inR u p) (hq : inR u q) (p1 : a.y ≤ p.y) (p2 : p.y < b.y) (q1 : a.y ≤ q.y) (q2 : q.y < b.y) : 0 < crossR a b p ↔ 0 < crossR a b q := by
  have hn := not_sat h
  have hp' := hp
  have hq' := hq
  unfold inR at hp hq
  rcases hn with k | k | k | k | k | k
  · have := side_left p1 p2 (by omega) (by omega)
    have := side_left q1 q2 (by omega) (by omega)
    omega
  · have := side_right p1 p2 (by omega) (by omega)
    have := side_right q1 q2 (by omega) (by omega)
    omega
  · omega
  · omega
  · have := allPos_in k hp'
    have := allPos_in k hq'
    omega
  · have k1 := allPos_in k hp'
    have k2 := allPos_in k hq'
    rw [crossR_swap] at k1 k2
    omega
theorem cross_at_b (a b : Pt) (x : Int) : crossR a b ⟨x, b.y⟩ = (b.y - a.y) * (b.x - x) := by unfold crossR; (simp only [Int.sub_mul, Int.mul_sub, Int.add_mul, Int.mul_add, Int.neg_mul, Int.mul_neg, Int.mul_comm, Int.mul_left_comm, Int.mul_assoc] at *; omega)
theorem cross_at_a (a b : Pt) (x : Int) : crossR a b ⟨x, a.y⟩ = (b.y - a.y) * (a.x - x) := by unfold crossR; (simp only [Int.sub_mul, Int.mul_sub, Int.add_mul, Int.mul_add, Int.neg_mul, Int.mul_neg, Int.mul_comm, Int.mul_left_comm, Int.mul_assoc] at *; omega)
theorem pos_mul_iff {t v : Int} (ht : 0 < t) : (0 < t * v ↔ 0 < v) ∧ (t * v < 0 ↔ v < 0) := by
  rcases Int.lt_trichotomy v 0 with h | h | h
  · have := Int.mul_neg_of_pos_of_neg ht h
    omega
  · subst h; simp
  · have := Int.mul_pos ht h
    omega
/-- the upper end's side is the point's -/
theorem side_b {a b p : Pt} {u : Bx} (h : ¬ sat a b u) (hp : inR u p) (hb : inR u ⟨p.x, b.y⟩) (p1 : a.y ≤ p.y) (p2 : p.y < b.y) : 0 < crossR a b p ↔ p.x < b.x := by
  have hn := not_sat h
  have hp' := hp
  have hb' := hb
  have hc := cross_at_b a b p.x
  have hm := pos_mul_iff (t := b.y - a.y) (v := b.x - p.x) (by omega)
  rw [← hc] at hm
  unfold inR at hp hb
  simp only at hb
  rcases hn with k | k | k | k | k | k
  · have := side_left p1 p2 (by omega) (by omega)
    omega
  · have := side_right p1 p2 (by omega) (by omega)
    omega
  · omega
  · omega
  · have := allPos_in k hp'
    have := allPos_in k hb'
    omega
  · have k1 := allPos_in k hp'
    have k2 := allPos_in k hb'
    rw [crossR_swap] at k1 k2
    omega
theorem side_a {a b p : Pt} {u : Bx} (h : ¬ sat a b u) (hp : inR u p) (ha : inR u ⟨p.x, a.y⟩) (p1 : a.y ≤ p.y) (p2 : p.y < b.y) : 0 < crossR a b p ↔ p.x < a.x := by
  have hn := not_sat h
  have hp' := hp
  have ha' := ha
  have hc := cross_at_a a b p.x
  have hm := pos_mul_iff (t := b.y - a.y) (v := a.x - p.x) (by omega)
  rw [← hc] at hm
  unfold inR at hp ha
  simp only at ha
  rcases hn with k | k | k | k | k | k
  · have := side_left p1 p2 (by omega) (by omega)
    omega
  · have := side_right p1 p2 (by omega) (by omega)
    omega
  · omega
  · omega
  · have := allPos_in k hp'
    have := allPos_in k ha'
    omega
  · have k1 := allPos_in k hp'
    have k2 := allPos_in k ha'
    rw [crossR_swap] at k1 k2
    omega
/-- both ends are on one side, of an edge between -/
theorem side_ab {a b : Pt} {x : Int} {u : Bx} (h : ¬ sat a b u) (ha : inR u ⟨x, a.y⟩) (hb : inR u ⟨x, b.y⟩) (hab : a.y ≤ b.y) : x < a.x ↔ x < b.x := by
  have hn := not_sat h
  have ha' := ha
  have hb' := hb
  unfold inR at ha hb
  simp only at ha hb
  have ca := cross_at_a a b x
  have cb := cross_at_b a b x
  have key : ∀ t : Int, 0 ≤ t → (0 < t * (a.x - x) → 0 < t * (b.x - x) → (x < a.x ↔ x < b.x)) ∧ (t * (a.x - x) < 0 → t * (b.x - x) < 0 → (x < a.x ↔ x < b.x)) := by
    intro t ht
    rcases Int.lt_or_eq_of_le ht with h | h
    · have m1 := pos_mul_iff (v := a.x - x) h
      have m2 := pos_mul_iff (v := b.x - x) h
      constructor <;> intro _ _ <;> omega
    · subst h
      simp
  have key := key (b.y - a.y) (by omega)
  rw [← ca, ← cb] at key
  rcases hn with k | k | k | k | k | k
  · omega
  · omega
  · omega
  · omega
  · exact key.1 (allPos_in k ha') (allPos_in k hb')
  · have k1 := allPos_in k ha'
    have k2 := allPos_in k hb'
    rw [crossR_swap] at k1 k2
    exact key.2 (by omega) (by omega)

/-- sideways in a box that no edge meets -/
theorem move_x {a b p q : Pt} {u : Bx} (oa : okPt a = true) (ob : okPt b = true) (op : okPt p = true) (oq : okPt q = true) (h : ¬ sat a b u) (hp : inR u p) (hq : inR u q) (e : p.y = q.y) : crossesB a b p = crossesB a b q := by
  have go : ∀ a b : Pt, okPt a = true → okPt b = true → ¬ sat a b u → a.y ≤ b.y → crossesB a b p = crossesB a b q := by
    intro a b oa ob h hab
    rw [crossesB_up oa ob op hab, crossesB_up oa ob oq hab, decide_eq_decide, e]
    constructor
    · rintro ⟨h1, h2, h3⟩
      exact ⟨h1, h2, (same_side h hp hq (by omega) (by omega) h1 h2).1 h3⟩
    · rintro ⟨h1, h2, h3⟩
      exact ⟨h1, h2, (same_side h hp hq (by omega) (by omega) h1 h2).2 h3⟩
  rcases Int.le_total a.y b.y with hab | hab
  · exact go a b oa ob h hab
  · rw [← crossesB_swap a b p, ← crossesB_swap a b q]
    exact go b a ob oa (fun k => h (sat_swap k)) hab
/-- up in it: the corners that are passed on the right -/
def passed (x y y' : Int) (v : Pt) : Bool := decide (y < v.y ∧ v.y ≤ y' ∧ x < v.x)
theorem move_y {a b p q : Pt} {u : Bx} (oa : okPt a = true) (ob : okPt b = true) (op : okPt p = true) (oq : okPt q = true) (h : ¬ sat a b u) (hp : inR u p) (hq : inR u q) (e : p.x = q.x) (hy : p.y ≤ q.y) :
    xor (crossesB a b p) (crossesB a b q) = xor (passed p.x p.y q.y a) (passed p.x p.y q.y b) := by
  have go : ∀ a b : Pt, okPt a = true → okPt b = true → ¬ sat a b u → a.y ≤ b.y → xor (crossesB a b p) (crossesB a b q) = xor (passed p.x p.y q.y a) (passed p.x p.y q.y b) := by
    intro a b oa ob h hab
    rw [crossesB_up oa ob op hab, crossesB_up oa ob oq hab]
    unfold passed
    have hmid : ∀ y, p.y ≤ y → y ≤ q.y → inR u ⟨p.x, y⟩ := fun y h1 h2 => by unfold inR at *; simp only at *; omega
    by_cases c1 : b.y ≤ p.y
    · rw [decide_eq_false (by omega), decide_eq_false (by omega), decide_eq_false (by omega), decide_eq_false (by omega)]
    by_cases c2 : q.y < a.y
    · rw [decide_eq_false (by omega), decide_eq_false (by omega), decide_eq_false (by omega), decide_eq_false (by omega)]
    by_cases c3 : a.y ≤ p.y
    · by_cases c4 : b.y ≤ q.y
      · have k := side_b h hp (hmid b.y (by omega) c4) c3 (by omega)
        rw [decide_eq_false (p := a.y ≤ q.y ∧ _) (by omega), decide_eq_false (p := p.y < a.y ∧ _) (by omega), Bool.xor_false, Bool.false_xor, decide_eq_decide]
        omega
      · have k := same_side h hp hq c3 (by omega) (by omega) (by omega)
        rw [decide_eq_false (p := p.y < a.y ∧ _) (by omega), decide_eq_false (p := p.y < b.y ∧ b.y ≤ q.y ∧ _) (by omega)]
        have e : decide (a.y ≤ p.y ∧ p.y < b.y ∧ 0 < crossR a b p) = decide (a.y ≤ q.y ∧ q.y < b.y ∧ 0 < crossR a b q) := by
          rw [decide_eq_decide]; omega
        rw [e]
        cases decide (a.y ≤ q.y ∧ q.y < b.y ∧ 0 < crossR a b q) <;> rfl
    · by_cases c4 : b.y ≤ q.y
      · have k := side_ab h (hmid a.y (by omega) (by omega)) (hmid b.y (by omega) c4) hab
        rw [decide_eq_false (p := a.y ≤ p.y ∧ _) (by omega), decide_eq_false (p := a.y ≤ q.y ∧ _) (by omega)]
        have e : decide (p.y < a.y ∧ a.y ≤ q.y ∧ p.x < a.x) = decide (p.y < b.y ∧ b.y ≤ q.y ∧ p.x < b.x) := by
          rw [decide_eq_decide]; omega
        rw [e]
        cases decide (p.y < b.y ∧ b.y ≤ q.y ∧ p.x < b.x) <;> rfl
      · have hm := hmid a.y (by omega) (by omega)
        rw [e] at hm
        have k := side_a h hq hm (by omega) (by omega)
        rw [decide_eq_false (p := a.y ≤ p.y ∧ _) (by omega), decide_eq_false (p := p.y < b.y ∧ b.y ≤ q.y ∧ _) (by omega), Bool.xor_false, Bool.false_xor, decide_eq_decide]
        omega
  rcases Int.le_total a.y b.y with hab | hab
  · exact go a b oa ob h hab
  · rw [← crossesB_swap a b p, ← crossesB_swap a b q, Bool.xor_comm (passed p.x p.y q.y a)]
    exact go b a ob oa (fun k => h (sat_swap k)) hab
/-- IN A BOX THAT NO EDGE MEETS ALL POINTS ARE AT ONE SIDE OF THE RING -/
theorem parity_box {l : List Pt} {u : Bx} {p q : Pt} (hok : l.all okPt = true) (op : okPt p = true) (oq : okPt q = true) (hn : ∀ i, i < l.length → ¬ sat (pt l i) (nx l i) u) (hp : inR u p) (hq : inR u q) :
    parity l p l.length = parity l q l.length := by
  have om : okPt ⟨p.x, q.y⟩ = true := by rw [okPt_iff] at *; simp only; omega
  have hm : inR u ⟨p.x, q.y⟩ := by unfold inR at *; simp only; omega
  have e1 : parity l ⟨p.x, q.y⟩ l.length = parity l q l.length := by
    apply parity_move (g := fun _ => false)
    intro i hi
    rw [move_x (okPt_pt hok hi) (okPt_nx hok hi) om oq (hn i hi) hm hq rfl]
    cases crossesB (pt l i) (nx l i) q <;> rfl
  rw [← e1]
  rcases Int.le_total p.y q.y with h | h
  · exact parity_move fun i hi => move_y (okPt_pt hok hi) (okPt_nx hok hi) op om (hn i hi) hp hm rfl h
  · exact (parity_move fun i hi => move_y (okPt_pt hok hi) (okPt_nx hok hi) om op (hn i hi) hm hp rfl h).symm
end Pg
