import Derived.Test.YtknidfiokmghjaaDoorPlain3
set_option linter.unusedVariables false
set_option linter.unusedSimpArgs false
namespace Pg
/- a segment and a box: the program's look, the reference's look, and 'no axis parts them' are one -/

theorem meetS_proper {a b c d : Pt} (oa : okPt a = true) (ob : okPt b = true) (oc : okPt c = true) (od : okPt d = true)
    (h : ((crossR a b c < 0 ∧ 0 < crossR a b d) ∨ (0 < crossR a b c ∧ crossR a b d < 0)) ∧ ((crossR c d a < 0 ∧ 0 < crossR c d b) ∨ (0 < crossR c d a ∧ crossR c d b < 0))) : meetS a b c d = true := by
  rw [meetS_iff]
  exact ⟨⟨oa, ob, oc, od⟩, .inl ((properR_iff oa ob oc od).2 h)⟩
theorem meetS_on1 {a b c d : Pt} (oa : okPt a = true) (ob : okPt b = true) (oc : okPt c = true) (od : okPt d = true)
    (h : crossR a b c = 0 ∧ (min a.x b.x ≤ c.x ∧ c.x ≤ max a.x b.x) ∧ (min a.y b.y ≤ c.y ∧ c.y ≤ max a.y b.y)) : meetS a b c d = true := by
  rw [meetS_iff]
  exact ⟨⟨oa, ob, oc, od⟩, .inr (.inl ((onS_iff _ _ _).2 ⟨⟨oa, ob, oc⟩, h⟩))⟩
theorem meetS_on2 {a b c d : Pt} (oa : okPt a = true) (ob : okPt b = true) (oc : okPt c = true) (od : okPt d = true)
    (h : crossR a b d = 0 ∧ (min a.x b.x ≤ d.x ∧ d.x ≤ max a.x b.x) ∧ (min a.y b.y ≤ d.y ∧ d.y ≤ max a.y b.y)) : meetS a b c d = true := by
  rw [meetS_swap3]
  exact meetS_on1 oa ob od oc h

theorem core_dir {ax ay bx b_y lx ly hx hy : Int} (oa : okPt ⟨ax, ay⟩ = true) (ob : okPt ⟨bx, b_y⟩ = true) (ol : okPt ⟨lx, ly⟩ = true) (oh : okPt ⟨hx, hy⟩ = true) (hW : lx ≤ hx) (hH : ly ≤ hy)
    (hs : sat ⟨ax, ay⟩ ⟨bx, b_y⟩ ⟨⟨lx, ly⟩, ⟨hx, hy⟩⟩) (dx : ax ≤ bx) (dy : ay ≤ b_y) (na : ¬ inR ⟨⟨lx, ly⟩, ⟨hx, hy⟩⟩ ⟨ax, ay⟩) (nb : ¬ inR ⟨⟨lx, ly⟩, ⟨hx, hy⟩⟩ ⟨bx, b_y⟩) :
    meetS ⟨ax, ay⟩ ⟨bx, b_y⟩ ⟨lx, hy⟩ ⟨hx, ly⟩ = true ∧ (meetS ⟨ax, ay⟩ ⟨bx, b_y⟩ ⟨lx, ly⟩ ⟨hx, ly⟩ = true ∨ meetS ⟨ax, ay⟩ ⟨bx, b_y⟩ ⟨lx, hy⟩ ⟨lx, ly⟩ = true) := by
  have o1 : okPt ⟨lx, hy⟩ = true := by rw [okPt_iff] at *; simp only at *; omega
  have o2 : okPt ⟨hx, ly⟩ = true := by rw [okPt_iff] at *; simp only at *; omega
  obtain ⟨h1, h2, h3⟩ := hs
  unfold inR at na nb
  unfold allPos at h2 h3
  rw [crossR_swap, crossR_swap ⟨ax, ay⟩, crossR_swap ⟨ax, ay⟩, crossR_swap ⟨ax, ay⟩] at h3
  simp only at *
  have o : (ax ≤ hx ∧ lx ≤ bx) ∧ (ay ≤ hy ∧ ly ≤ b_y) := by omega
  have ha : ax < lx ∨ ay < ly := by omega
  have hb : hx < bx ∨ hy < b_y := by omega
  have P : (bx - ax) * (ly - ay) ≤ (bx - ax) * (hy - ay) := Int.mul_le_mul_of_nonneg_left (by omega) (by omega)
  have Q : (b_y - ay) * (lx - ax) ≤ (b_y - ay) * (hx - ax) := Int.mul_le_mul_of_nonneg_left (by omega) (by omega)
  have eLR : crossR ⟨ax, ay⟩ ⟨bx, b_y⟩ ⟨hx, ly⟩ = (bx - ax) * (ly - ay) - (b_y - ay) * (hx - ax) := rfl
  have eHL : crossR ⟨ax, ay⟩ ⟨bx, b_y⟩ ⟨lx, hy⟩ = (bx - ax) * (hy - ay) - (b_y - ay) * (lx - ax) := rfl
  have eLL : crossR ⟨ax, ay⟩ ⟨bx, b_y⟩ ⟨lx, ly⟩ = (bx - ax) * (ly - ay) - (b_y - ay) * (lx - ax) := rfl
  have eHH : crossR ⟨ax, ay⟩ ⟨bx, b_y⟩ ⟨hx, hy⟩ = (bx - ax) * (hy - ay) - (b_y - ay) * (hx - ax) := rfl
  rw [eLR, eHL, eLL, eHH] at h2 h3
  have fLR : (bx - ax) * (ly - ay) - (b_y - ay) * (hx - ax) ≤ 0 := by
    apply Int.not_lt.1
    intro k
    exact h2 (by omega)
  have fHL : 0 ≤ (bx - ax) * (hy - ay) - (b_y - ay) * (lx - ax) := by
    apply Int.not_lt.1
    intro k
    exact h3 (by omega)
  clear h2 h3 na nb P Q h1 eHH
  by_cases zLR : (bx - ax) * (ly - ay) - (b_y - ay) * (hx - ax) = 0
  · have := core1 hW hH dx dy o ha hb zLR
    have hm : crossR ⟨ax, ay⟩ ⟨bx, b_y⟩ ⟨hx, ly⟩ = 0 ∧ (min ax bx ≤ hx ∧ hx ≤ max ax bx) ∧ (min ay b_y ≤ ly ∧ ly ≤ max ay b_y) := by rw [eLR]; exact ⟨zLR, by omega⟩
    exact ⟨meetS_on2 oa ob o1 o2 hm, .inl (meetS_on2 oa ob ol o2 hm)⟩
  by_cases zHL : (bx - ax) * (hy - ay) - (b_y - ay) * (lx - ax) = 0
  · have := core1 (lx := ly) (ly := lx) (hx := hy) (hy := hx) (ax := ay) (ay := ax) (bx := b_y) (b_y := bx) hH hW dy dx ⟨o.2, o.1⟩ (by omega) (by omega) (by omega)
    have hm : crossR ⟨ax, ay⟩ ⟨bx, b_y⟩ ⟨lx, hy⟩ = 0 ∧ (min ax bx ≤ lx ∧ lx ≤ max ax bx) ∧ (min ay b_y ≤ hy ∧ hy ≤ max ay b_y) := by rw [eHL]; exact ⟨zHL, by omega⟩
    exact ⟨meetS_on1 oa ob o1 o2 hm, .inr (meetS_on1 oa ob o1 ol hm)⟩
  refine ⟨meetS_proper oa ob o1 o2 ⟨.inr (by rw [eLR, eHL]; omega), .inl ?_⟩, ?_⟩
  · have := core3 hW hH dx dy o ha hb (by omega) (by omega)
    exact this
  · by_cases zLL : (bx - ax) * (ly - ay) - (b_y - ay) * (lx - ax) = 0
    · have := core4 hW hH dx dy o ha zLL
      exact .inl (meetS_on1 oa ob ol o2 (by rw [eLL]; exact ⟨zLL, by simp only; omega⟩))
    by_cases pLL : 0 < (bx - ax) * (ly - ay) - (b_y - ay) * (lx - ax)
    · left
      have := core5 hW hH dx dy o ha hb (by omega) pLL
      refine meetS_proper oa ob ol o2 ⟨.inr (by rw [eLR, eLL]; omega), .inl ?_⟩
      unfold crossR
      simp only [Int.sub_self, Int.zero_mul, Int.sub_zero]
      exact this
    · right
      have := core5 (lx := ly) (ly := lx) (hx := hy) (hy := hx) (ax := ay) (ay := ax) (bx := b_y) (b_y := bx) hH hW dy dx ⟨o.2, o.1⟩ (by omega) (by omega) (by omega) (by omega)
      refine meetS_proper oa ob o1 ol ⟨.inr (by rw [eHL, eLL]; omega), .inl ?_⟩
      unfold crossR
      simp only [Int.sub_self, Int.zero_mul, Int.zero_sub]
      have e : ∀ t, -((ly - hy) * t) = (hy - ly) * t := fun t => by (simp only [Int.sub_mul, Int.mul_sub, Int.add_mul, Int.mul_add, Int.neg_mul, Int.mul_neg, Int.mul_comm, Int.mul_left_comm, Int.mul_assoc] at *; omega)
      rw [e, e]
      exact this

/-- turned over, up and down -/
def ry (p : Pt) : Pt := ⟨p.x, -p.y⟩
theorem okPt_ry (p : Pt) : okPt (ry p) = okPt p := by
  rw [Bool.eq_iff_iff, okPt_iff, okPt_iff]
  simp only [ry]
  omega
theorem crossR_ry (a b c : Pt) : crossR (ry a) (ry b) (ry c) = - crossR a b c := by unfold crossR ry; (simp only [Int.sub_mul, Int.mul_sub, Int.add_mul, Int.mul_add, Int.neg_mul, Int.mul_neg, Int.mul_comm, Int.mul_left_comm, Int.mul_assoc] at *; omega)
theorem onS_ry (a b p : Pt) : onS (ry a) (ry b) (ry p) = onS a b p := by
  rw [Bool.eq_iff_iff, onS_iff, onS_iff, okPt_ry, okPt_ry, okPt_ry, crossR_ry]
  simp only [ry]
  constructor <;> rintro ⟨h, h1⟩ <;> exact ⟨h, by omega⟩
theorem orient_ry (a b c : Pt) : orient (ry a) (ry b) (ry c) = - orient a b c := by
  unfold orient cross
  rw [okPt_ry, okPt_ry, okPt_ry, crossR_ry, ← sgn_neg]
  congr 1
  split <;> omega
theorem meetS_ry (a b c d : Pt) : meetS (ry a) (ry b) (ry c) (ry d) = meetS a b c d := by
  unfold meetS properR
  rw [okPt_ry, okPt_ry, okPt_ry, okPt_ry, onS_ry, onS_ry, onS_ry, onS_ry, orient_ry, orient_ry, orient_ry, orient_ry, Int.neg_mul_neg, Int.neg_mul_neg]
theorem okBx_iff (r : Bx) : okBx r = true ↔ (okPt r.lo = true ∧ okPt r.hi = true) ∧ r.lo.x ≤ r.hi.x ∧ r.lo.y ≤ r.hi.y := by
  unfold okBx ckBox
  cases h1 : okPt r.lo <;> cases h2 : okPt r.hi <;> simp
theorem bhas_iff {r : Bx} {p : Pt} (hr : okBx r = true) (hp : okPt p = true) : bhas r p = true ↔ inR r p := by
  simp [bhas, hr, hp, bhasR, inR, and_assoc]

theorem sat_ry {a b : Pt} {lx ly hx hy : Int} (h : sat a b ⟨⟨lx, ly⟩, ⟨hx, hy⟩⟩) : sat (ry a) (ry b) ⟨⟨lx, -hy⟩, ⟨hx, -ly⟩⟩ := by
  obtain ⟨h1, h2, h3⟩ := h
  have e : ∀ a b : Pt, ¬ allPos a b ⟨⟨lx, ly⟩, ⟨hx, hy⟩⟩ → ¬ allPos (ry b) (ry a) ⟨⟨lx, -hy⟩, ⟨hx, -ly⟩⟩ := fun a b hn k => by
    apply hn
    unfold allPos at *
    simp only at *
    have c1 := crossR_ry b a ⟨lx, ly⟩
    have c2 := crossR_ry b a ⟨hx, ly⟩
    have c3 := crossR_ry b a ⟨lx, hy⟩
    have c4 := crossR_ry b a ⟨hx, hy⟩
    rw [crossR_swap a b] at c1 c2 c3 c4
    simp only [ry] at *
    omega
  refine ⟨?_, e b a h3, e a b h2⟩
  simp only [ry] at *
  omega
/-- whatever way it goes: both looks find it -/
theorem core_x {a b : Pt} {r : Bx} (oa : okPt a = true) (ob : okPt b = true) (hr : okBx r = true) (hs : sat a b r) (dx : a.x ≤ b.x) (na : ¬ inR r a) (nb : ¬ inR r b) :
    (meetS a b r.lo r.hi = true ∨ meetS a b ⟨r.lo.x, r.hi.y⟩ ⟨r.hi.x, r.lo.y⟩ = true) ∧
    (((meetS a b r.lo ⟨r.hi.x, r.lo.y⟩ = true ∨ meetS a b ⟨r.hi.x, r.lo.y⟩ r.hi = true) ∨ meetS a b r.hi ⟨r.lo.x, r.hi.y⟩ = true) ∨ meetS a b ⟨r.lo.x, r.hi.y⟩ r.lo = true) := by
  obtain ⟨⟨ol, oh⟩, hW, hH⟩ := (okBx_iff r).1 hr
  obtain ⟨⟨lx, ly⟩, ⟨hx, hy⟩⟩ := r
  obtain ⟨ax, ay⟩ := a
  obtain ⟨bx, b_y⟩ := b
  simp only at *
  rcases Int.le_total ay b_y with dy | dy
  · obtain ⟨m1, m2⟩ := core_dir oa ob ol oh hW hH hs dx dy na nb
    refine ⟨.inr m1, ?_⟩
    rcases m2 with m2 | m2
    · exact .inl (.inl (.inl m2))
    · exact .inr m2
  · have h := sat_ry hs
    have hn : ∀ x y, ¬ inR ⟨⟨lx, ly⟩, ⟨hx, hy⟩⟩ ⟨x, y⟩ → ¬ inR ⟨⟨lx, -hy⟩, ⟨hx, -ly⟩⟩ ⟨x, -y⟩ := fun x y h k => h (by unfold inR at *; simp only at *; omega)
    have r1 := okPt_ry ⟨lx, hy⟩
    have r2 := okPt_ry ⟨hx, ly⟩
    obtain ⟨m1, m2⟩ := core_dir (ax := ax) (ay := -ay) (bx := bx) (b_y := -b_y) (lx := lx) (ly := -hy) (hx := hx) (hy := -ly) (by have := okPt_ry ⟨ax, ay⟩; rw [oa] at this; exact this) (by have := okPt_ry ⟨bx, b_y⟩; rw [ob] at this; exact this)
      (by rw [okPt_iff] at *; simp only at *; omega) (by rw [okPt_iff] at *; simp only at *; omega) hW (by omega) h dx (by omega) (hn _ _ na) (hn _ _ nb)
    have k1 := meetS_ry ⟨ax, ay⟩ ⟨bx, b_y⟩ ⟨lx, ly⟩ ⟨hx, hy⟩
    have k2 := meetS_ry ⟨ax, ay⟩ ⟨bx, b_y⟩ ⟨lx, hy⟩ ⟨hx, hy⟩
    have k3 := meetS_ry ⟨ax, ay⟩ ⟨bx, b_y⟩ ⟨lx, ly⟩ ⟨lx, hy⟩
    simp only [ry] at k1 k2 k3
    rw [k1] at m1
    rw [k2, k3] at m2
    refine ⟨.inl m1, ?_⟩
    rcases m2 with m2 | m2
    · rw [meetS_swap3] at m2
      exact .inl (.inr m2)
    · rw [meetS_swap3] at m2
      exact .inr m2
theorem core_all {a b : Pt} {r : Bx} (oa : okPt a = true) (ob : okPt b = true) (hr : okBx r = true) (hs : sat a b r) (na : ¬ inR r a) (nb : ¬ inR r b) :
    (meetS a b r.lo r.hi = true ∨ meetS a b ⟨r.lo.x, r.hi.y⟩ ⟨r.hi.x, r.lo.y⟩ = true) ∧
    (((meetS a b r.lo ⟨r.hi.x, r.lo.y⟩ = true ∨ meetS a b ⟨r.hi.x, r.lo.y⟩ r.hi = true) ∨ meetS a b r.hi ⟨r.lo.x, r.hi.y⟩ = true) ∨ meetS a b ⟨r.lo.x, r.hi.y⟩ r.lo = true) := by
  rcases Int.le_total a.x b.x with dx | dx
  · exact core_x oa ob hr hs dx na nb
  · have := core_x ob oa hr (sat_swap hs) dx nb na
    simp only [meetS_swap1 a b] at this
    exact this
theorem inR_corners {r : Bx} (hr : okBx r = true) : (inR r r.lo ∧ inR r r.hi) ∧ inR r ⟨r.lo.x, r.hi.y⟩ ∧ inR r ⟨r.hi.x, r.lo.y⟩ := by
  have := (okBx_iff r).1 hr
  unfold inR
  simp only
  omega
theorem mbox_iff {a b : Pt} {r : Bx} (oa : okPt a = true) (ob : okPt b = true) (hr : okBx r = true) : mbox a b r = true ↔ sat a b r := by
  obtain ⟨⟨c1, c2⟩, c3, c4⟩ := inR_corners hr
  simp only [mbox, oa, ob, hr, Bool.and_self, Bool.true_and, Bool.or_eq_true, bhas_iff hr oa, bhas_iff hr ob]
  constructor
  · rintro (((h | h) | h) | h)
    · exact sat_in h
    · exact sat_swap (sat_in h)
    · exact sat_of_meet c1 c2 h
    · exact sat_of_meet c3 c4 h
  · intro h
    by_cases na : inR r a
    · exact .inl (.inl (.inl na))
    by_cases nb : inR r b
    · exact .inl (.inl (.inr nb))
    rcases (core_all oa ob hr h na nb).1 with m | m
    · exact .inl (.inr m)
    · exact .inr m
theorem mboxR_iff {a b : Pt} {r : Bx} (oa : okPt a = true) (ob : okPt b = true) (hr : okBx r = true) : mboxR a b r = true ↔ sat a b r := by
  obtain ⟨⟨c1, c2⟩, c3, c4⟩ := inR_corners hr
  simp only [mboxR, oa, ob, hr, Bool.and_self, Bool.true_and, Bool.or_eq_true, bhas_iff hr oa, bhas_iff hr ob]
  constructor
  · rintro (((((h | h) | h) | h) | h) | h)
    · exact sat_in h
    · exact sat_swap (sat_in h)
    · exact sat_of_meet c1 c4 h
    · exact sat_of_meet c4 c2 h
    · exact sat_of_meet c2 c3 h
    · exact sat_of_meet c3 c1 h
  · intro h
    by_cases na : inR r a
    · exact .inl (.inl (.inl (.inl (.inl na))))
    by_cases nb : inR r b
    · exact .inl (.inl (.inl (.inl (.inr nb))))
    rcases (core_all oa ob hr h na nb).2 with ((m | m) | m) | m
    · exact .inl (.inl (.inl (.inr m)))
    · exact .inl (.inl (.inr m))
    · exact .inl (.inr m)
    · exact .inr m
/-- THE LOOKS AT A SEGMENT AND A BOX AGREE -/
theorem mbox_eq (a b : Pt) (r : Bx) : mbox a b r = mboxR a b r := by
  by_cases h : (okPt a && okPt b && okBx r) = true
  · have oa : okPt a = true := by simp_all
    have ob : okPt b = true := by simp_all
    have hr : okBx r = true := by simp_all
    rw [Bool.eq_iff_iff, mbox_iff oa ob hr, mboxR_iff oa ob hr]
  · have h : (okPt a && okPt b && okBx r) = false := by simpa using h
    rw [mbox, mboxR, h]
    rfl
end Pg
