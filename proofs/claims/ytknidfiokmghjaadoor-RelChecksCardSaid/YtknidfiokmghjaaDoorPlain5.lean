import Derived.Test.YtknidfiokmghjaaDoorPlain4
set_option linter.unusedVariables false
set_option linter.unusedSimpArgs false
namespace Pg
/- the parity of a ray's crossings: it telescopes; it stays where no edge is met -/

def parF (c : Nat → Bool) : Nat → Bool
  | 0 => false
  | k + 1 => xor (parF c k) (c k)
theorem parity_parF (l : List Pt) (p : Pt) (k : Nat) : parity l p k = parF (fun i => crossesB (pt l i) (nx l i) p) k := by
  induction k with
  | zero => rfl
  | succ k ih => rw [parity, parF, ih]
theorem parF_xor (c d : Nat → Bool) (k : Nat) : xor (parF c k) (parF d k) = parF (fun i => xor (c i) (d i)) k := by
  induction k with
  | zero => rfl
  | succ k ih =>
    rw [parF, parF, parF, ← ih]
    cases parF c k <;> cases parF d k <;> cases c k <;> cases d k <;> rfl
theorem parF_congr {c d : Nat → Bool} {n : Nat} (h : ∀ i, i < n → c i = d i) : parF c n = parF d n := by
  induction n with
  | zero => rfl
  | succ n ih => rw [parF, parF, ih fun i hi => h i (by omega), h n (by omega)]
theorem parF_tele {c : Nat → Bool} {l : List Pt} {g : Pt → Bool} (h : ∀ i, i < l.length → c i = xor (g (pt l i)) (g (nx l i))) : parF c l.length = false := by
  have step : ∀ k, k < l.length → parF c k = xor (g (pt l 0)) (g (pt l k)) := by
    intro k
    induction k with
    | zero => intro _; rw [parF]; cases g (pt l 0) <;> rfl
    | succ k ih =>
      intro hk
      rw [parF, ih (by omega), h k (by omega), nx_of_lt hk]
      cases g (pt l 0) <;> cases g (pt l k) <;> cases g (pt l (k + 1)) <;> rfl
  cases hn : l.length with
  | zero => rfl
  | succ m =>
    rw [parF, step m (by omega), h m (by omega), nx_last (by omega)]
    cases g (pt l 0) <;> cases g (pt l m) <;> rfl
/-- from one point to another one -/
theorem parity_move {l : List Pt} {p q : Pt} {g : Pt → Bool} (h : ∀ i, i < l.length → xor (crossesB (pt l i) (nx l i) p) (crossesB (pt l i) (nx l i) q) = xor (g (pt l i)) (g (nx l i))) :
    parity l p l.length = parity l q l.length := by
  have e : xor (parity l p l.length) (parity l q l.length) = false := by
    rw [parity_parF, parity_parF, parF_xor]
    exact parF_tele h
  revert e
  cases parity l p l.length <;> cases parity l q l.length <;> simp

theorem crossesB_swap (a b p : Pt) : crossesB b a p = crossesB a b p := by
  unfold crossesB
  by_cases h1 : b.y < a.y
  · rw [if_pos h1, if_neg (by omega)]
  · rw [if_neg h1]
    by_cases h2 : a.y < b.y
    · rw [if_pos h2]
    · rw [if_neg h2]
      have e : a.y = b.y := by omega
      have e1 : (decide (b.y ≤ p.y) && decide (p.y < a.y)) = false := by
        rw [Bool.and_eq_false_iff]
        by_cases h : b.y ≤ p.y
        · right; simp; omega
        · left; simp; omega
      have e2 : (decide (a.y ≤ p.y) && decide (p.y < b.y)) = false := by
        rw [Bool.and_eq_false_iff]
        by_cases h : a.y ≤ p.y
        · right; simp; omega
        · left; simp; omega
      rw [e1, e2]
      rfl
/-- of an edge that goes up: -/
theorem crossesB_up {a b p : Pt} (oa : okPt a = true) (ob : okPt b = true) (op : okPt p = true) (h : a.y ≤ b.y) : crossesB a b p = decide (a.y ≤ p.y ∧ p.y < b.y ∧ 0 < crossR a b p) := by
  have e : cross a b p = crossR a b p := by simp [cross, oa, ob, op]
  rw [crossesB, if_neg (by omega), e]
  by_cases h1 : a.y ≤ p.y <;> by_cases h2 : p.y < b.y <;> by_cases h3 : 0 < crossR a b p <;> simp [h1, h2, h3]
/-- right of both ends; left of both ends -/
theorem side_right {a b p : Pt} (h1 : a.y ≤ p.y) (h2 : p.y < b.y) (ha : a.x < p.x) (hb : b.x < p.x) : crossR a b p < 0 := by
  unfold crossR
  have e1 : (b.x - a.x) * (p.y - a.y) ≤ (p.x - a.x) * (p.y - a.y) := Int.mul_le_mul_of_nonneg_right (by omega) (by omega)
  have e2 : 0 < (p.x - a.x) * (b.y - p.y) := Int.mul_pos (by omega) (by omega)
  (simp only [Int.sub_mul, Int.mul_sub, Int.add_mul, Int.mul_add, Int.neg_mul, Int.mul_neg, Int.mul_comm, Int.mul_left_comm, Int.mul_assoc] at *; omega)
theorem side_left {a b p : Pt} (h1 : a.y ≤ p.y) (h2 : p.y < b.y) (ha : p.x < a.x) (hb : p.x < b.x) : 0 < crossR a b p := by
  unfold crossR
  have e1 : (p.x - a.x) * (p.y - a.y) ≤ (b.x - a.x) * (p.y - a.y) := Int.mul_le_mul_of_nonneg_right (by omega) (by omega)
  have e2 : 0 < (a.x - p.x) * (b.y - p.y) := Int.mul_pos (by omega) (by omega)
  (simp only [Int.sub_mul, Int.mul_sub, Int.add_mul, Int.mul_add, Int.neg_mul, Int.mul_neg, Int.mul_comm, Int.mul_left_comm, Int.mul_assoc] at *; omega)
/-- what parts an edge from a box -/
theorem not_sat {a b : Pt} {u : Bx} (h : ¬ sat a b u) : (u.hi.x < a.x ∧ u.hi.x < b.x) ∨ (a.x < u.lo.x ∧ b.x < u.lo.x) ∨ (u.hi.y < a.y ∧ u.hi.y < b.y) ∨ (a.y < u.lo.y ∧ b.y < u.lo.y) ∨ allPos a b u ∨ allPos b a u := by
  unfold sat at h
  by_cases h1 : allPos a b u
  · simp [h1]
  by_cases h2 : allPos b a u
  · simp [h2]
  simp only [h1, h2, not_false_eq_true, and_true, or_false] at *
  omega
/-- two points of a box are on one side of an edge that goes up past both and doesn't meet it -/
theorem same_side {a b p q : Pt} {u : Bx} (h : ¬ sat a b u) (hp : inR u p) (hq : inR u q) (p1 : a.y ≤ p.y) (p2 : p.y < b.y) (q1 : a.y ≤ q.y) (q2 : q.y < b.y) : 0 < crossR a b p ↔ 0 < crossR a b q := by
  have hn := not_sat h
  have hp' := hp
  have hq' := hq
  unfold inR at hp hq
  rcases hn with k | k | k | k | k | k
  · have := side_left p1 p2 (by omega) (by omega)
    have := side_left q1 q2 (by omega) (by omega)
    omega
  · have := side_right p1 p2 (by omega) (by omega)
    have := side_right q1 q2 (by omega) (by omega)
    omega
  · omega
  · omega
  · have := allPos_in k hp'
    have := allPos_in k hq'
    omega
  · have k1 := allPos_in k hp'
    have k2 := allPos_in k hq'
    rw [crossR_swap] at k1 k2
    omega
theorem cross_at_b (a b : Pt) (x : Int) : crossR a b ⟨x, b.y⟩ = (b.y - a.y) * (b.x - x) := by unfold crossR; (simp only [Int.sub_mul, Int.mul_sub, Int.add_mul, Int.mul_add, Int.neg_mul, Int.mul_neg, Int.mul_comm, Int.mul_left_comm, Int.mul_assoc] at *; omega)
theorem cross_at_a (a b : Pt) (x : Int) : crossR a b ⟨x, a.y⟩ = (b.y - a.y) * (a.x - x) := by unfold crossR; (simp only [Int.sub_mul, Int.mul_sub, Int.add_mul, Int.mul_add, Int.neg_mul, Int.mul_neg, Int.mul_comm, Int.mul_left_comm, Int.mul_assoc] at *; omega)
theorem pos_mul_iff {t v : Int} (ht : 0 < t) : (0 < t * v ↔ 0 < v) ∧ (t * v < 0 ↔ v < 0) := by
  rcases Int.lt_trichotomy v 0 with h | h | h
  · have := Int.mul_neg_of_pos_of_neg ht h
    omega
  · subst h; simp
  · have := Int.mul_pos ht h
    omega
/-- the upper end's side is the point's -/
theorem side_b {a b p : Pt} {u : Bx} (h : ¬ sat a b u) (hp : inR u p) (hb : inR u ⟨p.x, b.y⟩) (p1 : a.y ≤ p.y) (p2 : p.y < b.y) : 0 < crossR a b p ↔ p.x < b.x := by
  have hn := not_sat h
  have hp' := hp
  have hb' := hb
  have hc := cross_at_b a b p.x
  have hm := pos_mul_iff (t := b.y - a.y) (v := b.x - p.x) (by omega)
  rw [← hc] at hm
  unfold inR at hp hb
  simp only at hb
  rcases hn with k | k | k | k | k | k
  · have := side_left p1 p2 (by omega) (by omega)
    omega
  · have := side_right p1 p2 (by omega) (by omega)
    omega
  · omega
  · omega
  · have := allPos_in k hp'
    have := allPos_in k hb'
    omega
  · have k1 := allPos_in k hp'
    have k2 := allPos_in k hb'
    rw [crossR_swap] at k1 k2
    omega
theorem side_a {a b p : Pt} {u : Bx} (h : ¬ sat a b u) (hp : inR u p) (ha : inR u ⟨p.x, a.y⟩) (p1 : a.y ≤ p.y) (p2 : p.y < b.y) : 0 < crossR a b p ↔ p.x < a.x := by
  have hn := not_sat h
  have hp' := hp
  have ha' := ha
  have hc := cross_at_a a b p.x
  have hm := pos_mul_iff (t := b.y - a.y) (v := a.x - p.x) (by omega)
  rw [← hc] at hm
  unfold inR at hp ha
  simp only at ha
  rcases hn with k | k | k | k | k | k
  · have := side_left p1 p2 (by omega) (by omega)
    omega
  · have := side_right p1 p2 (by omega) (by omega)
    omega
  · omega
  · omega
  · have := allPos_in k hp'
    have := allPos_in k ha'
    omega
  · have k1 := allPos_in k hp'
    have k2 := allPos_in k ha'
    rw [crossR_swap] at k1 k2
    omega
/-- both ends are on one side, of an edge between -/
theorem side_ab {a b : Pt} {x : Int} {u : Bx} (h : ¬ sat a b u) (ha : inR u ⟨x, a.y⟩) (hb : inR u ⟨x, b.y⟩) (hab : a.y ≤ b.y) : x < a.x ↔ x < b.x := by
  have hn := not_sat h
  have ha' := ha
  have hb' := hb
  unfold inR at ha hb
  simp only at ha hb
  have ca := cross_at_a a b x
  have cb := cross_at_b a b x
  have key : ∀ t : Int, 0 ≤ t → (0 < t * (a.x - x) → 0 < t * (b.x - x) → (x < a.x ↔ x < b.x)) ∧ (t * (a.x - x) < 0 → t * (b.x - x) < 0 → (x < a.x ↔ x < b.x)) := by
    intro t ht
    rcases Int.lt_or_eq_of_le ht with h | h
    · have m1 := pos_mul_iff (v := a.x - x) h
      have m2 := pos_mul_iff (v := b.x - x) h
      constructor <;> intro _ _ <;> omega
    · subst h
      simp
  have key := key (b.y - a.y) (by omega)
  rw [← ca, ← cb] at key
  rcases hn with k | k | k | k | k | k
  · omega
  · omega
  · omega
  · omega
  · exact key.1 (allPos_in k ha') (allPos_in k hb')
  · have k1 := allPos_in k ha'
    have k2 := allPos_in k hb'
    rw [crossR_swap] at k1 k2
    exact key.2 (by omega) (by omega)

/-- sideways in a box that no edge meets -/
theorem move_x {a b p q : Pt} {u : Bx} (oa : okPt a = true) (ob : okPt b = true) (op : okPt p = true) (oq : okPt q = true) (h : ¬ sat a b u) (hp : inR u p) (hq : inR u q) (e : p.y = q.y) : crossesB a b p = crossesB a b q := by
  have go : ∀ a b : Pt, okPt a = true → okPt b = true → ¬ sat a b u → a.y ≤ b.y → crossesB a b p = crossesB a b q := by
    intro a b oa ob h hab
    rw [crossesB_up oa ob op hab, crossesB_up oa ob oq hab, decide_eq_decide, e]
    constructor
    · rintro ⟨h1, h2, h3⟩
      exact ⟨h1, h2, (same_side h hp hq (by omega) (by omega) h1 h2).1 h3⟩
    · rintro ⟨h1, h2, h3⟩
      exact ⟨h1, h2, (same_side h hp hq (by omega) (by omega) h1 h2).2 h3⟩
  rcases Int.le_total a.y b.y with hab | hab
  · exact go a b oa ob h hab
  · rw [← crossesB_swap a b p, ← crossesB_swap a b q]
    exact go b a ob oa (fun k => h (sat_swap k)) hab
/-- up in it: the corners that are passed on the right -/
def passed (x y y' : Int) (v : Pt) : Bool := decide (y < v.y ∧ v.y ≤ y' ∧ x < v.x)
theorem move_y {a b p q : Pt} {u : Bx} (oa : okPt a = true) (ob : okPt b = true) (op : okPt p = true) (oq : okPt q = true) (h : ¬ sat a b u) (hp : inR u p) (hq : inR u q) (e : p.x = q.x) (hy : p.y ≤ q.y) :
    xor (crossesB a b p) (crossesB a b q) = xor (passed p.x p.y q.y a) (passed p.x p.y q.y b) := by
  have go : ∀ a b : Pt, okPt a = true → okPt b = true → ¬ sat a b u → a.y ≤ b.y → xor (crossesB a b p) (crossesB a b q) = xor (passed p.x p.y q.y a) (passed p.x p.y q.y b) := by
    intro a b oa ob h hab
    rw [crossesB_up oa ob op hab, crossesB_up oa ob oq hab]
    unfold passed
    have hmid : ∀ y, p.y ≤ y → y ≤ q.y → inR u ⟨p.x, y⟩ := fun y h1 h2 => by unfold inR at *; simp only at *; omega
    by_cases c1 : b.y ≤ p.y
    · rw [decide_eq_false (by omega), decide_eq_false (by omega), decide_eq_false (by omega), decide_eq_false (by omega)]
    by_cases c2 : q.y < a.y
    · rw [decide_eq_false (by omega), decide_eq_false (by omega), decide_eq_false (by omega), decide_eq_false (by omega)]
    by_cases c3 : a.y ≤ p.y
    · by_cases c4 : b.y ≤ q.y
      · have k := side_b h hp (hmid b.y (by omega) c4) c3 (by omega)
        rw [decide_eq_false (p := a.y ≤ q.y ∧ _) (by omega), decide_eq_false (p := p.y < a.y ∧ _) (by omega), Bool.xor_false, Bool.false_xor, decide_eq_decide]
        omega
      · have k := same_side h hp hq c3 (by omega) (by omega) (by omega)
        rw [decide_eq_false (p := p.y < a.y ∧ _) (by omega), decide_eq_false (p := p.y < b.y ∧ b.y ≤ q.y ∧ _) (by omega)]
        have e : decide (a.y ≤ p.y ∧ p.y < b.y ∧ 0 < crossR a b p) = decide (a.y ≤ q.y ∧ q.y < b.y ∧ 0 < crossR a b q) := by
          rw [decide_eq_decide]; omega
        rw [e]
        cases decide (a.y ≤ q.y ∧ q.y < b.y ∧ 0 < crossR a b q) <;> rfl
    · by_cases c4 : b.y ≤ q.y
      · have k := side_ab h (hmid a.y (by omega) (by omega)) (hmid b.y (by omega) c4) hab
        rw [decide_eq_false (p := a.y ≤ p.y ∧ _) (by omega), decide_eq_false (p := a.y ≤ q.y ∧ _) (by omega)]
        have e : decide (p.y < a.y ∧ a.y ≤ q.y ∧ p.x < a.x) = decide (p.y < b.y ∧ b.y ≤ q.y ∧ p.x < b.x) := by
          rw [decide_eq_decide]; omega
        rw [e]
        cases decide (p.y < b.y ∧ b.y ≤ q.y ∧ p.x < b.x) <;> rfl
      · have hm := hmid a.y (by omega) (by omega)
        rw [e] at hm
        have k := side_a h hq hm (by omega) (by omega)
        rw [decide_eq_false (p := a.y ≤ p.y ∧ _) (by omega), decide_eq_false (p := p.y < b.y ∧ b.y ≤ q.y ∧ _) (by omega), Bool.xor_false, Bool.false_xor, decide_eq_decide]
        omega
  rcases Int.le_total a.y b.y with hab | hab
  · exact go a b oa ob h hab
  · rw [← crossesB_swap a b p, ← crossesB_swap a b q, Bool.xor_comm (passed p.x p.y q.y a)]
    exact go b a ob oa (fun k => h (sat_swap k)) hab
/-- IN A BOX THAT NO EDGE MEETS ALL POINTS ARE AT ONE SIDE OF THE RING -/
theorem parity_box {l : List Pt} {u : Bx} {p q : Pt} (hok : l.all okPt = true) (op : okPt p = true) (oq : okPt q = true) (hn : ∀ i, i < l.length → ¬ sat (pt l i) (nx l i) u) (hp : inR u p) (hq : inR u q) :
    parity l p l.length = parity l q l.length := by
  have om : okPt ⟨p.x, q.y⟩ = true := by rw [okPt_iff] at *; simp only; omega
  have hm : inR u ⟨p.x, q.y⟩ := by unfold inR at *; simp only; omega
  have e1 : parity l ⟨p.x, q.y⟩ l.length = parity l q l.length := by
    apply parity_move (g := fun _ => false)
    intro i hi
    rw [move_x (okPt_pt hok hi) (okPt_nx hok hi) om oq (hn i hi) hm hq rfl]
    cases crossesB (pt l i) (nx l i) q <;> rfl
  rw [← e1]
  rcases Int.le_total p.y q.y with h | h
  · exact parity_move fun i hi => move_y (okPt_pt hok hi) (okPt_nx hok hi) op om (hn i hi) hp hm rfl h
  · exact (parity_move fun i hi => move_y (okPt_pt hok hi) (okPt_nx hok hi) om op (hn i hi) hm hp rfl h).symm
end Pg
