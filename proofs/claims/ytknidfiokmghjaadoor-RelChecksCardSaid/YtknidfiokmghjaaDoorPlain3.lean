import Derived.Test.YtknidfiokmghjaaDoorPlain2
set_option linter.unusedVariables false
set_option linter.unusedSimpArgs false
namespace Pg
/- plain law of a segment and a box: by the separating axes -/

/-- of two averages: what is all below is below -/
theorem avg_sep {p q r s u v u' v' : Int} (hu : 0 < u) (hv : 0 < v) (hu' : 0 < u') (hv' : 0 < v') (hs : u + v = u' + v') (h : p * u + q * v = r * u' + s * v') : min r s ≤ max p q := by
  apply Int.not_lt.1
  intro hlt
  have hp : p ≤ max p q := by omega
  have hq : q ≤ max p q := by omega
  have hr : max p q + 1 ≤ r := by omega
  have hs' : max p q + 1 ≤ s := by omega
  generalize max p q = M at *
  have e1 := Int.mul_le_mul_of_nonneg_right hp (Int.le_of_lt hu)
  have e2 := Int.mul_le_mul_of_nonneg_right hq (Int.le_of_lt hv)
  have e3 := Int.mul_le_mul_of_nonneg_right hr (Int.le_of_lt hu')
  have e4 := Int.mul_le_mul_of_nonneg_right hs' (Int.le_of_lt hv')
  have e5 : M * u + M * v = M * u' + M * v' := by rw [← Int.mul_add, ← Int.mul_add, hs]
  grind
theorem avg_sep' {p q r s u v u' v' : Int} (hu : 0 < u) (hv : 0 < v) (hu' : 0 < u') (hv' : 0 < v') (hs : u + v = u' + v') (h : p * u + q * v = r * u' + s * v') : min r s ≤ max p q ∧ min p q ≤ max r s :=
  ⟨avg_sep hu hv hu' hv' hs h, avg_sep hu' hv' hu hv hs.symm h.symm⟩
/-- two that cross have spans that overlap -/
theorem proper_overlap {a b c d : Pt} (h1 : (crossR a b c < 0 ∧ 0 < crossR a b d) ∨ (0 < crossR a b c ∧ crossR a b d < 0)) (h2 : (crossR c d a < 0 ∧ 0 < crossR c d b) ∨ (0 < crossR c d a ∧ crossR c d b < 0)) :
    (min a.x b.x ≤ max c.x d.x ∧ min c.x d.x ≤ max a.x b.x) ∧ (min a.y b.y ≤ max c.y d.y ∧ min c.y d.y ≤ max a.y b.y) := by
  have e0 : crossR a b d - crossR a b c = crossR c d a - crossR c d b := by unfold crossR; grind
  have ex : c.x * crossR a b d - d.x * crossR a b c = b.x * crossR c d a - a.x * crossR c d b := by unfold crossR; grind
  have ey : c.y * crossR a b d - d.y * crossR a b c = b.y * crossR c d a - a.y * crossR c d b := by unfold crossR; grind
  generalize crossR a b d = F2 at *
  generalize crossR a b c = F1 at *
  generalize crossR c d a = G1 at *
  generalize crossR c d b = G2 at *
  rcases h1 with h1 | h1
  · have k : G2 < 0 ∧ 0 < G1 := by omega
    have x := avg_sep' (p := c.x) (q := d.x) (r := b.x) (s := a.x) (u := F2) (v := -F1) (u' := G1) (v' := -G2) (by omega) (by omega) (by omega) (by omega) (by omega) (by grind)
    have y := avg_sep' (p := c.y) (q := d.y) (r := b.y) (s := a.y) (u := F2) (v := -F1) (u' := G1) (v' := -G2) (by omega) (by omega) (by omega) (by omega) (by omega) (by grind)
    omega
  · have k : 0 < G2 ∧ G1 < 0 := by omega
    have x := avg_sep' (p := c.x) (q := d.x) (r := b.x) (s := a.x) (u := -F2) (v := F1) (u' := -G1) (v' := G2) (by omega) (by omega) (by omega) (by omega) (by omega) (by grind)
    have y := avg_sep' (p := c.y) (q := d.y) (r := b.y) (s := a.y) (u := -F2) (v := F1) (u' := -G1) (v' := G2) (by omega) (by omega) (by omega) (by omega) (by omega) (by grind)
    omega

/-- in the box, raw -/
def inR (r : Bx) (p : Pt) : Prop := (r.lo.x ≤ p.x ∧ p.x ≤ r.hi.x) ∧ (r.lo.y ≤ p.y ∧ p.y ≤ r.hi.y)
def allPos (a b : Pt) (r : Bx) : Prop := (0 < crossR a b r.lo ∧ 0 < crossR a b ⟨r.hi.x, r.lo.y⟩) ∧ (0 < crossR a b r.hi ∧ 0 < crossR a b ⟨r.lo.x, r.hi.y⟩)
/-- no axis parts the segment from the box -/
def sat (a b : Pt) (r : Bx) : Prop :=
  ((min a.x b.x ≤ r.hi.x ∧ r.lo.x ≤ max a.x b.x) ∧ (min a.y b.y ≤ r.hi.y ∧ r.lo.y ≤ max a.y b.y)) ∧ ¬ allPos a b r ∧ ¬ allPos b a r

theorem mul_le_of {t u v : Int} (h : u ≤ v) : (0 ≤ t → t * u ≤ t * v) ∧ (t ≤ 0 → t * v ≤ t * u) :=
  ⟨fun ht => Int.mul_le_mul_of_nonneg_left h ht, fun ht => Int.mul_le_mul_of_nonpos_left ht h⟩
theorem allPos_in {a b : Pt} {r : Bx} (h : allPos a b r) {c : Pt} (hc : inR r c) : 0 < crossR a b c := by
  obtain ⟨⟨h1, h2⟩, h3, h4⟩ := h
  obtain ⟨⟨x1, x2⟩, y1, y2⟩ := hc
  unfold crossR at *
  simp only at *
  have X1 := mul_le_of (t := b.y - a.y) (Int.sub_le_sub_right x1 a.x)
  have X2 := mul_le_of (t := b.y - a.y) (Int.sub_le_sub_right x2 a.x)
  have Y1 := mul_le_of (t := b.x - a.x) (Int.sub_le_sub_right y1 a.y)
  have Y2 := mul_le_of (t := b.x - a.x) (Int.sub_le_sub_right y2 a.y)
  rcases Int.le_total 0 (b.y - a.y) with hy | hy <;> rcases Int.le_total 0 (b.x - a.x) with hx | hx
  · have := X2.1 hy; have := Y1.1 hx; omega
  · have := X2.1 hy; have := Y2.2 hx; omega
  · have := X1.2 hy; have := Y1.1 hx; omega
  · have := X1.2 hy; have := Y2.2 hx; omega
theorem sat_of_zero {a b c : Pt} {r : Bx} (hc : inR r c) (h0 : crossR a b c = 0) : ¬ allPos a b r ∧ ¬ allPos b a r := by
  constructor
  · intro h; have := allPos_in h hc; omega
  · intro h; have := allPos_in h hc; rw [crossR_swap] at this; omega
theorem sat_in {a b : Pt} {r : Bx} (h : inR r a) : sat a b r := by
  refine ⟨?_, sat_of_zero h (crossR_aba a b)⟩
  unfold inR at h
  omega
theorem sat_swap {a b : Pt} {r : Bx} (h : sat a b r) : sat b a r := by
  obtain ⟨h1, h2, h3⟩ := h
  exact ⟨by omega, h3, h2⟩
/-- a segment that meets one in the box is not parted from it -/
theorem sat_of_meet {a b c d : Pt} {r : Bx} (hc : inR r c) (hd : inR r d) (h : meetS a b c d = true) : sat a b r := by
  rw [meetS_iff] at h
  obtain ⟨⟨oa, ob, oc, od⟩, h⟩ := h
  rcases h with h | h | h | h | h
  · rw [properR_iff oa ob oc od] at h
    obtain ⟨h1, h2⟩ := h
    have := proper_overlap h1 h2
    unfold inR at hc hd
    refine ⟨by omega, fun k => ?_, fun k => ?_⟩
    · have := allPos_in k hc; have := allPos_in k hd; omega
    · have u1 := allPos_in k hc; have u2 := allPos_in k hd; rw [crossR_swap] at u1 u2; omega
  · rw [onS_iff] at h
    refine ⟨?_, sat_of_zero hc h.2.1⟩
    unfold inR at hc; omega
  · rw [onS_iff] at h
    refine ⟨?_, sat_of_zero hd h.2.1⟩
    unfold inR at hd; omega
  · rw [onS_iff] at h
    exact sat_in (by unfold inR at *; omega)
  · rw [onS_iff] at h
    exact sat_swap (sat_in (by unfold inR at *; omega))
/-- a greater box -/
theorem sat_mono {a b : Pt} {r u : Bx} (h : sat a b r) (hlo : inR u r.lo) (hhi : inR u r.hi) : sat a b u := by
  obtain ⟨h1, h2, h3⟩ := h
  unfold inR at hlo hhi
  refine ⟨by omega, fun k => h2 ?_, fun k => h3 ?_⟩
  · exact ⟨⟨allPos_in k (by unfold inR; omega), allPos_in k (by unfold inR; simp only; omega)⟩, allPos_in k (by unfold inR; omega), allPos_in k (by unfold inR; simp only; omega)⟩
  · exact ⟨⟨allPos_in k (by unfold inR; omega), allPos_in k (by unfold inR; simp only; omega)⟩, allPos_in k (by unfold inR; omega), allPos_in k (by unfold inR; simp only; omega)⟩

section core
variable {lx ly hx hy ax ay bx b_y : Int}
theorem mz {p q : Int} (h : p * q = 0) : p = 0 ∨ q = 0 := Int.mul_eq_zero.1 h
theorem core1 (hW : lx ≤ hx) (hH : ly ≤ hy) (dx : ax ≤ bx) (dy : ay ≤ b_y) (o : (ax ≤ hx ∧ lx ≤ bx) ∧ (ay ≤ hy ∧ ly ≤ b_y)) (ha : ax < lx ∨ ay < ly) (hb : hx < bx ∨ hy < b_y)
    (h : (bx - ax) * (ly - ay) - (b_y - ay) * (hx - ax) = 0) : (ax ≤ hx ∧ hx ≤ bx) ∧ (ay ≤ ly ∧ ly ≤ b_y) := by
  refine ⟨⟨o.1.1, ?_⟩, ?_, o.2.2⟩
  · apply Int.not_lt.1
    intro k
    -- b.x < hx, so b.y > hy
    have hby : hy < b_y := by omega
    have e : (b_y - ay) * (bx - ax + 1) ≤ (b_y - ay) * (hx - ax) := Int.mul_le_mul_of_nonneg_left (by omega) (by omega)
    have e2 : (bx - ax) * (ly - ay) ≤ (bx - ax) * (b_y - ay) := Int.mul_le_mul_of_nonneg_left (by omega) (by omega)
    have e3 : 0 < b_y - ay := by omega
    grind
  · apply Int.not_lt.1
    intro k
    have hax : ax < lx := by omega
    have e : 0 ≤ (b_y - ay) * (hx - ax) := Int.mul_nonneg (by omega) (by omega)
    have e2 : 0 < (bx - ax) * (ay - ly) := Int.mul_pos (by omega) (by omega)
    grind
theorem core4 (hW : lx ≤ hx) (hH : ly ≤ hy) (dx : ax ≤ bx) (dy : ay ≤ b_y) (o : (ax ≤ hx ∧ lx ≤ bx) ∧ (ay ≤ hy ∧ ly ≤ b_y)) (ha : ax < lx ∨ ay < ly)
    (h : (bx - ax) * (ly - ay) - (b_y - ay) * (lx - ax) = 0) : (ax ≤ lx ∧ lx ≤ bx) ∧ (ay ≤ ly ∧ ly ≤ b_y) := by
  refine ⟨⟨?_, o.1.2⟩, ?_, o.2.2⟩
  · apply Int.not_lt.1
    intro k
    have : 0 < (b_y - ay) * (ax - lx) := Int.mul_pos (by omega) (by omega)
    have : 0 ≤ (bx - ax) * (ly - ay) := Int.mul_nonneg (by omega) (by omega)
    grind
  · apply Int.not_lt.1
    intro k
    have : 0 < (bx - ax) * (ay - ly) := Int.mul_pos (by omega) (by omega)
    have : 0 ≤ (b_y - ay) * (lx - ax) := Int.mul_nonneg (by omega) (by omega)
    grind
/-- the other diagonal parts a from b -/
theorem core3 (hW : lx ≤ hx) (hH : ly ≤ hy) (dx : ax ≤ bx) (dy : ay ≤ b_y) (o : (ax ≤ hx ∧ lx ≤ bx) ∧ (ay ≤ hy ∧ ly ≤ b_y)) (ha : ax < lx ∨ ay < ly) (hb : hx < bx ∨ hy < b_y)
    (h1 : (bx - ax) * (ly - ay) - (b_y - ay) * (hx - ax) < 0) (h2 : 0 < (bx - ax) * (hy - ay) - (b_y - ay) * (lx - ax)) :
    (hx - lx) * (ay - hy) - (ly - hy) * (ax - lx) < 0 ∧ 0 < (hx - lx) * (b_y - hy) - (ly - hy) * (bx - lx) := by
  have W := hW
  constructor
  · apply Int.not_le.1
    intro k
    rcases ha with ha | ha
    · have e1 : 0 ≤ (hx - lx) * (hy - ay) := Int.mul_nonneg (by omega) (by omega)
      have e2 : 0 ≤ (hy - ly) * (lx - ax) := Int.mul_nonneg (by omega) (by omega)
      have z1 : (hx - lx) * (hy - ay) = 0 := by (simp only [Int.sub_mul, Int.mul_sub, Int.add_mul, Int.mul_add, Int.neg_mul, Int.mul_neg, Int.mul_comm, Int.mul_left_comm, Int.mul_assoc] at *; omega)
      have z2 : (hy - ly) * (lx - ax) = 0 := by (simp only [Int.sub_mul, Int.mul_sub, Int.add_mul, Int.mul_add, Int.neg_mul, Int.mul_neg, Int.mul_comm, Int.mul_left_comm, Int.mul_assoc] at *; omega)
      have hl : hy = ly := by rcases mz z2 with h | h <;> omega
      rcases mz z1 with h | h
      · have : hx = lx := by omega
        subst this hl
        omega
      · have : hy = ay := by omega
        subst this
        have e3 : 0 ≤ (b_y - hy) * (lx - ax) := Int.mul_nonneg (by omega) (by omega)
        (simp only [Int.sub_mul, Int.mul_sub, Int.add_mul, Int.mul_add, Int.neg_mul, Int.mul_neg, Int.mul_comm, Int.mul_left_comm, Int.mul_assoc] at *; omega)
    · have e1 : 0 ≤ (hx - lx) * (ly - ay) := Int.mul_nonneg (by omega) (by omega)
      have e2 : 0 ≤ (hy - ly) * (hx - ax) := Int.mul_nonneg (by omega) (by omega)
      have z1 : (hx - lx) * (ly - ay) = 0 := by (simp only [Int.sub_mul, Int.mul_sub, Int.add_mul, Int.mul_add, Int.neg_mul, Int.mul_neg, Int.mul_comm, Int.mul_left_comm, Int.mul_assoc] at *; omega)
      have z2 : (hy - ly) * (hx - ax) = 0 := by (simp only [Int.sub_mul, Int.mul_sub, Int.add_mul, Int.mul_add, Int.neg_mul, Int.mul_neg, Int.mul_comm, Int.mul_left_comm, Int.mul_assoc] at *; omega)
      have hl : hx = lx := by rcases mz z1 with h | h <;> omega
      rcases mz z2 with h | h
      · have : hy = ly := by omega
        subst this hl
        omega
      · have : hx = ax := by omega
        subst this
        have e3 : 0 ≤ (bx - hx) * (ly - ay) := Int.mul_nonneg (by omega) (by omega)
        (simp only [Int.sub_mul, Int.mul_sub, Int.add_mul, Int.mul_add, Int.neg_mul, Int.mul_neg, Int.mul_comm, Int.mul_left_comm, Int.mul_assoc] at *; omega)
  · apply Int.not_le.1
    intro k
    rcases hb with hb | hb
    · have e1 : 0 ≤ (hx - lx) * (b_y - ly) := Int.mul_nonneg (by omega) (by omega)
      have e2 : 0 ≤ (hy - ly) * (bx - hx) := Int.mul_nonneg (by omega) (by omega)
      have z1 : (hx - lx) * (b_y - ly) = 0 := by (simp only [Int.sub_mul, Int.mul_sub, Int.add_mul, Int.mul_add, Int.neg_mul, Int.mul_neg, Int.mul_comm, Int.mul_left_comm, Int.mul_assoc] at *; omega)
      have z2 : (hy - ly) * (bx - hx) = 0 := by (simp only [Int.sub_mul, Int.mul_sub, Int.add_mul, Int.mul_add, Int.neg_mul, Int.mul_neg, Int.mul_comm, Int.mul_left_comm, Int.mul_assoc] at *; omega)
      have hl : hy = ly := by rcases mz z2 with h | h <;> omega
      rcases mz z1 with h | h
      · have : hx = lx := by omega
        subst this hl
        omega
      · have : b_y = ly := by omega
        subst this
        have e3 : 0 ≤ (b_y - ay) * (bx - hx) := Int.mul_nonneg (by omega) (by omega)
        (simp only [Int.sub_mul, Int.mul_sub, Int.add_mul, Int.mul_add, Int.neg_mul, Int.mul_neg, Int.mul_comm, Int.mul_left_comm, Int.mul_assoc] at *; omega)
    · have e1 : 0 ≤ (hx - lx) * (b_y - hy) := Int.mul_nonneg (by omega) (by omega)
      have e2 : 0 ≤ (hy - ly) * (bx - lx) := Int.mul_nonneg (by omega) (by omega)
      have z1 : (hx - lx) * (b_y - hy) = 0 := by (simp only [Int.sub_mul, Int.mul_sub, Int.add_mul, Int.mul_add, Int.neg_mul, Int.mul_neg, Int.mul_comm, Int.mul_left_comm, Int.mul_assoc] at *; omega)
      have z2 : (hy - ly) * (bx - lx) = 0 := by (simp only [Int.sub_mul, Int.mul_sub, Int.add_mul, Int.mul_add, Int.neg_mul, Int.mul_neg, Int.mul_comm, Int.mul_left_comm, Int.mul_assoc] at *; omega)
      have hl : hx = lx := by rcases mz z1 with h | h <;> omega
      rcases mz z2 with h | h
      · have : hy = ly := by omega
        subst this hl
        omega
      · have : bx = lx := by omega
        subst this
        have e3 : 0 ≤ (bx - ax) * (b_y - hy) := Int.mul_nonneg (by omega) (by omega)
        (simp only [Int.sub_mul, Int.mul_sub, Int.add_mul, Int.mul_add, Int.neg_mul, Int.mul_neg, Int.mul_comm, Int.mul_left_comm, Int.mul_assoc] at *; omega)
/-- through the bottom -/
theorem core5 (hW : lx ≤ hx) (hH : ly ≤ hy) (dx : ax ≤ bx) (dy : ay ≤ b_y) (o : (ax ≤ hx ∧ lx ≤ bx) ∧ (ay ≤ hy ∧ ly ≤ b_y)) (ha : ax < lx ∨ ay < ly) (hb : hx < bx ∨ hy < b_y)
    (h1 : (bx - ax) * (ly - ay) - (b_y - ay) * (hx - ax) < 0) (h2 : 0 < (bx - ax) * (ly - ay) - (b_y - ay) * (lx - ax)) :
    (hx - lx) * (ay - ly) < 0 ∧ 0 < (hx - lx) * (b_y - ly) := by
  have hW' : lx < hx := by
    rcases Int.lt_or_eq_of_le hW with h | h
    · exact h
    · subst h; omega
  have ya : ay < ly := by
    apply Int.not_le.1
    intro k
    have : ax < lx := by omega
    have e1 : 0 ≤ (bx - ax) * (ay - ly) := Int.mul_nonneg (by omega) (by omega)
    have e2 : 0 ≤ (b_y - ay) * (lx - ax) := Int.mul_nonneg (by omega) (by omega)
    (simp only [Int.sub_mul, Int.mul_sub, Int.add_mul, Int.mul_add, Int.neg_mul, Int.mul_neg, Int.mul_comm, Int.mul_left_comm, Int.mul_assoc] at *; omega)
  have yb : ly < b_y := by
    apply Int.not_le.1
    intro k
    have hl : b_y = ly := by omega
    subst hl
    have e1 : 0 ≤ (b_y - ay) * (bx - hx) := Int.mul_nonneg (by omega) (by omega)
    (simp only [Int.sub_mul, Int.mul_sub, Int.add_mul, Int.mul_add, Int.neg_mul, Int.mul_neg, Int.mul_comm, Int.mul_left_comm, Int.mul_assoc] at *; omega)
  exact ⟨Int.mul_neg_of_pos_of_neg (by omega) (by omega), Int.mul_pos (by omega) (by omega)⟩
end core
end Pg
