/-
  Plain laws of the statement RelSame.
-/
import Derived.Test.YtknidfiokmghjaaGreatDoorPlainMove
set_option linter.unusedVariables false
set_option linter.unusedSimpArgs false
namespace Pg

def cornL (b : Bx) : List Pt := [b.lo, ⟨b.hi.x, b.lo.y⟩, b.hi, ⟨b.lo.x, b.hi.y⟩]
theorem any_range_false' {n : Nat} {f : Nat → Bool} (h : ∀ k, k < n → f k = false) : (List.range n).any f = false := by
  rw [List.any_eq_false]
  intro k hk
  simp [h k (List.mem_range.1 hk)]
section
variable {b : Bx} (hb : okBx b = true) (hx : b.lo.x ≠ b.hi.x) (hy : b.lo.y ≠ b.hi.y)
include hb
theorem cornL_ok : (cornL b).all okPt = true := by
  obtain ⟨⟨o1, o2⟩, _, _⟩ := (okBx_iff b).1 hb
  have p1 := (okPt_iff _).1 o1
  have p2 := (okPt_iff _).1 o2
  have q1 : okPt ⟨b.hi.x, b.lo.y⟩ = true := (okPt_iff _).2 ⟨p2.1, p1.2⟩
  have q2 : okPt ⟨b.lo.x, b.hi.y⟩ = true := (okPt_iff _).2 ⟨p1.1, p2.2⟩
  simp [cornL, o1, o2, q1, q2]
include hx hy
theorem cornL_ck : ckRing (cornL b) = 0 := by
  have hok := cornL_ok hb
  obtain ⟨⟨o1, o2⟩, h1, h2⟩ := (okBx_iff b).1 hb
  rw [ckRing_eq]
  unfold ckRingR
  rw [if_neg (by simp [cornL]), if_pos hok, if_neg]
  rw [Bool.not_eq_true]
  unfold clashAny
  refine any_range_false' fun i hi => any_range_false' fun j hj => ?_
  have hl : (cornL b).length = 4 := rfl
  rw [hl] at hi hj
  have e : ∀ c d : Pt, c.x ≠ d.x ∨ c.y ≠ d.y → (decide (c = d)) = false := fun c d h => by
    rw [decide_eq_false_iff_not]
    rintro rfl
    omega
  have hov : ∀ a c d : Pt, dotR c a d = 0 → overR a c d = false := fun a c d h => by
    unfold overR
    rw [h]
    simp
  have hm : ∀ a c d e : Pt, (max a.y c.y < min d.y e.y ∨ max d.y e.y < min a.y c.y ∨ max a.x c.x < min d.x e.x ∨ max d.x e.x < min a.x c.x) → meetS a c d e = false := fun a c d e h => by
    cases hc : meetS a c d e
    · rfl
    · have := meetS_spans hc
      omega
  unfold clash
  rw [hl]
  match i, hi, j, hj with
  | 0, _, 0, _ => rfl
  | 0, _, 1, _ =>
    simp only [cornL, pt, nx, List.getD_cons_zero, List.getD_cons_succ, List.length_cons, List.length_nil]
    simp only [Nat.reduceAdd, Nat.reduceMod, List.getD_cons_zero, List.getD_cons_succ, ↓reduceIte, Nat.reduceLT, decide_true, Bool.true_and]
    rw [e _ _ (by first | omega | (simp only; omega)), hov _ _ _ (by simp only [dotR]; grind)]; rfl
  | 0, _, 2, _ =>
    simp only [cornL, pt, nx, List.getD_cons_zero, List.getD_cons_succ, List.length_cons, List.length_nil]
    simp only [Nat.reduceAdd, Nat.reduceMod, List.getD_cons_zero, List.getD_cons_succ, Nat.reduceLT, decide_true, Bool.true_and, Nat.reduceEqDiff, and_false, ↓reduceIte]
    rw [e _ _ (by first | omega | (simp only; omega)), hm _ _ _ _ (by first | omega | (simp only; omega))]; rfl
  | 0, _, 3, _ =>
    simp only [cornL, pt, nx, List.getD_cons_zero, List.getD_cons_succ, List.length_cons, List.length_nil]
    simp only [Nat.reduceAdd, Nat.reduceMod, List.getD_cons_zero, List.getD_cons_succ, Nat.reduceLT, decide_true, Bool.true_and, Nat.reduceEqDiff, and_self, ↓reduceIte]
    rw [e _ _ (by first | omega | (simp only; omega)), hov _ _ _ (by simp only [dotR]; grind)]; rfl
  | 1, _, 0, _ => rfl
  | 1, _, 1, _ => rfl
  | 1, _, 2, _ =>
    simp only [cornL, pt, nx, List.getD_cons_zero, List.getD_cons_succ, List.length_cons, List.length_nil]
    simp only [Nat.reduceAdd, Nat.reduceMod, List.getD_cons_zero, List.getD_cons_succ, ↓reduceIte, Nat.reduceLT, decide_true, Bool.true_and]
    rw [e _ _ (by first | omega | (simp only; omega)), hov _ _ _ (by simp only [dotR]; grind)]; rfl
  | 1, _, 3, _ =>
    simp only [cornL, pt, nx, List.getD_cons_zero, List.getD_cons_succ, List.length_cons, List.length_nil]
    simp only [Nat.reduceAdd, Nat.reduceMod, List.getD_cons_zero, List.getD_cons_succ, Nat.reduceLT, decide_true, Bool.true_and, Nat.reduceEqDiff, Nat.succ_ne_zero, false_and, ↓reduceIte]
    rw [e _ _ (by first | omega | (simp only; omega)), hm _ _ _ _ (by first | omega | (simp only; omega))]; rfl
  | 2, _, 0, _ => rfl
  | 2, _, 1, _ => rfl
  | 2, _, 2, _ => rfl
  | 2, _, 3, _ =>
    simp only [cornL, pt, nx, List.getD_cons_zero, List.getD_cons_succ, List.length_cons, List.length_nil]
    simp only [Nat.reduceAdd, Nat.reduceMod, List.getD_cons_zero, List.getD_cons_succ, ↓reduceIte, Nat.reduceLT, decide_true, Bool.true_and]
    rw [e _ _ (by first | omega | (simp only; omega)), hov _ _ _ (by simp only [dotR]; grind)]; rfl
  | 3, _, 0, _ => rfl
  | 3, _, 1, _ => rfl
  | 3, _, 2, _ => rfl
  | 3, _, 3, _ => rfl
omit hx hy in
theorem cornL_box : ringBx (cornL b) = b := by
  obtain ⟨_, h1, h2⟩ := (okBx_iff b).1 hb
  obtain ⟨_, s2, s3, _⟩ := ringBx_spec (l := cornL b) (by simp [cornL]) (cornL_ok hb)
  apply inB_antisymm
  · have a := s2 0 (by simp [cornL])
    have c := s2 2 (by simp [cornL])
    simp only [cornL, pt, List.getD_cons_zero, List.getD_cons_succ] at a c
    unfold inR at a c
    unfold inB
    simp only [cornL] at *
    omega
  · refine s3 b fun i hi => ?_
    unfold inR
    match i, hi with
    | 0, _ => simp only [cornL, pt, List.getD_cons_zero, List.getD_cons_succ]; omega
    | 1, _ => simp only [cornL, pt, List.getD_cons_zero, List.getD_cons_succ]; omega
    | 2, _ => simp only [cornL, pt, List.getD_cons_zero, List.getD_cons_succ]; omega
    | 3, _ => simp only [cornL, pt, List.getD_cons_zero, List.getD_cons_succ]; omega
omit hx hy in
theorem cornL_has {p : Pt} (op : okPt p = true) : rhasR (cornL b) p = true ↔ inR b p := by
  have hok := cornL_ok hb
  obtain ⟨⟨o1, o2⟩, h1, h2⟩ := (okBx_iff b).1 hb
  constructor
  · intro h
    have := rhasR_in (l := cornL b) (by simp [cornL]) hok op h
    rw [cornL_box hb] at this
    exact this
  · intro hin
    have hin' := hin
    unfold inR at hin
    unfold rhasR
    rw [Bool.or_eq_true]
    by_cases hex : p.x = b.hi.x
    · left
      unfold edgeB
      rw [any_range_iff]
      refine ⟨1, by simp [cornL], ?_⟩
      rw [onS_iff]
      refine ⟨⟨okPt_pt hok (by simp [cornL]), okPt_nx hok (by simp [cornL]), op⟩, ?_⟩
      simp only [cornL, pt, nx, List.getD_cons_zero, List.getD_cons_succ, List.length_cons, List.length_nil, Nat.reduceAdd, Nat.reduceMod]
      refine ⟨by unfold crossR; simp only [hex]; simp, by omega, by omega⟩
    by_cases hey : p.y = b.hi.y
    · left
      unfold edgeB
      rw [any_range_iff]
      refine ⟨2, by simp [cornL], ?_⟩
      rw [onS_iff]
      refine ⟨⟨okPt_pt hok (by simp [cornL]), okPt_nx hok (by simp [cornL]), op⟩, ?_⟩
      simp only [cornL, pt, nx, List.getD_cons_zero, List.getD_cons_succ, List.length_cons, List.length_nil, Nat.reduceAdd, Nat.reduceMod]
      refine ⟨by unfold crossR; simp only [hey]; simp, by omega, by omega⟩
    right
    have c0 := crossesB_up (a := b.lo) (b := ⟨b.hi.x, b.lo.y⟩) (p := p) (okPt_pt hok (i := 0) (by simp [cornL])) (okPt_pt hok (i := 1) (by simp [cornL])) op (Int.le_refl _)
    have c1 := crossesB_up (a := ⟨b.hi.x, b.lo.y⟩) (b := b.hi) (p := p) (okPt_pt hok (i := 1) (by simp [cornL])) (okPt_pt hok (i := 2) (by simp [cornL])) op h2
    have c2 := crossesB_up (a := b.hi) (b := ⟨b.lo.x, b.hi.y⟩) (p := p) (okPt_pt hok (i := 2) (by simp [cornL])) (okPt_pt hok (i := 3) (by simp [cornL])) op (Int.le_refl _)
    have c3 := crossesB_up (a := b.lo) (b := ⟨b.lo.x, b.hi.y⟩) (p := p) (okPt_pt hok (i := 0) (by simp [cornL])) (okPt_pt hok (i := 3) (by simp [cornL])) op h2
    rw [← crossesB_swap] at c3
    show parity (cornL b) p 4 = true
    simp only [parity]
    have e0 : crossesB (pt (cornL b) 0) (nx (cornL b) 0) p = false := by
      refine c0.trans ?_
      rw [decide_eq_false_iff_not]
      simp only
      omega
    have e2 : crossesB (pt (cornL b) 2) (nx (cornL b) 2) p = false := by
      refine c2.trans ?_
      rw [decide_eq_false_iff_not]
      simp only
      omega
    have e1 : crossesB (pt (cornL b) 1) (nx (cornL b) 1) p = true := by
      refine c1.trans ?_
      rw [decide_eq_true_eq]
      refine ⟨hin.2.1, by omega, ?_⟩
      have : crossR ⟨b.hi.x, b.lo.y⟩ b.hi p = (b.hi.y - b.lo.y) * (b.hi.x - p.x) := by unfold crossR; grind
      rw [this]
      exact Int.mul_pos (by omega) (by omega)
    have e3 : crossesB (pt (cornL b) 3) (nx (cornL b) 3) p = false := by
      rw [nx_last (l := cornL b) (i := 3) rfl]
      refine c3.trans ?_
      rw [decide_eq_false_iff_not]
      have : crossR b.lo ⟨b.lo.x, b.hi.y⟩ p = (b.hi.y - b.lo.y) * (b.lo.x - p.x) := by unfold crossR; grind
      rw [this]
      rintro ⟨_, _, h⟩
      have := Int.mul_nonneg (a := b.hi.y - b.lo.y) (b := p.x - b.lo.x) (by omega) (by omega)
      have e : (b.hi.y - b.lo.y) * (b.lo.x - p.x) = - ((b.hi.y - b.lo.y) * (p.x - b.lo.x)) := by grind
      omega
    rw [e0, e1, e2, e3]
    rfl
end
theorem pt_c0 (b : Bx) : pt (cornL b) 0 = b.lo := rfl
theorem pt_c1 (b : Bx) : pt (cornL b) 1 = ⟨b.hi.x, b.lo.y⟩ := rfl
theorem pt_c2 (b : Bx) : pt (cornL b) 2 = b.hi := rfl
theorem pt_c3 (b : Bx) : pt (cornL b) 3 = ⟨b.lo.x, b.hi.y⟩ := rfl
theorem nx_c0 (b : Bx) : nx (cornL b) 0 = ⟨b.hi.x, b.lo.y⟩ := rfl
theorem nx_c1 (b : Bx) : nx (cornL b) 1 = b.hi := rfl
theorem nx_c2 (b : Bx) : nx (cornL b) 2 = ⟨b.lo.x, b.hi.y⟩ := rfl
theorem nx_c3 (b : Bx) : nx (cornL b) 3 = b.lo := nx_last (l := cornL b) (i := 3) rfl
theorem len_c (b : Bx) : (cornL b).length = 4 := rfl
theorem corn_ok {b : Bx} (hb : okBx b = true) : okPt b.lo = true ∧ okPt ⟨b.hi.x, b.lo.y⟩ = true ∧ okPt b.hi = true ∧ okPt ⟨b.lo.x, b.hi.y⟩ = true := by
  have hok := cornL_ok hb
  exact ⟨okPt_pt hok (i := 0) (by simp [cornL]), okPt_pt hok (i := 1) (by simp [cornL]), okPt_pt hok (i := 2) (by simp [cornL]), okPt_pt hok (i := 3) (by simp [cornL])⟩

/-- of an edge that lies along an axis: what overlaps it meets it -/
theorem sat_flat {a c : Pt} {r : Bx} (h : a.x = c.x ∨ a.y = c.y) (ho : ((min a.x c.x ≤ r.hi.x ∧ r.lo.x ≤ max a.x c.x) ∧ (min a.y c.y ≤ r.hi.y ∧ r.lo.y ≤ max a.y c.y))) (hr : r.lo.x ≤ r.hi.x ∧ r.lo.y ≤ r.hi.y) : sat a c r := by
  have key : ∀ a c : Pt, (a.x = c.x ∨ a.y = c.y) → ((min a.x c.x ≤ r.hi.x ∧ r.lo.x ≤ max a.x c.x) ∧ (min a.y c.y ≤ r.hi.y ∧ r.lo.y ≤ max a.y c.y)) → ¬ allPos a c r := by
    rintro a c h ho ⟨⟨h1, h2⟩, h3, h4⟩
    unfold crossR at h1 h2 h3 h4
    simp only at h1 h2 h3 h4
    rcases h with h | h
    · rw [h] at h1 h2 h3 h4 ho
      rw [Int.sub_self, Int.zero_mul] at h1 h2 h3 h4
      have n : ∀ t v : Int, 0 < 0 - t * v → (0 < t → v < 0) ∧ (t < 0 → 0 < v) := fun t v hh => by
        constructor
        · intro ht
          apply Int.not_le.1
          intro hv
          have := Int.mul_nonneg (Int.le_of_lt ht) hv
          omega
        · intro ht
          apply Int.not_le.1
          intro hv
          have := Int.mul_nonneg_of_nonpos_of_nonpos (Int.le_of_lt ht) hv
          omega
      have k1 := n _ _ h1
      have k3 := n _ _ h3
      rcases Int.lt_trichotomy (c.y - a.y) 0 with e | e | e
      · have := k1.2 e; have := k3.2 e; omega
      · rw [e] at h1; simp at h1
      · have := k1.1 e; have := k3.1 e; omega
    · rw [h] at h1 h2 h3 h4 ho
      rw [Int.sub_self, Int.zero_mul] at h1 h2 h3 h4
      have n : ∀ t v : Int, 0 < t * v - 0 → (0 < t → 0 < v) ∧ (t < 0 → v < 0) := fun t v hh => by
        constructor
        · intro ht
          apply Int.not_le.1
          intro hv
          have := Int.mul_nonpos_of_nonneg_of_nonpos (Int.le_of_lt ht) hv
          omega
        · intro ht
          apply Int.not_le.1
          intro hv
          have := Int.mul_nonpos_of_nonpos_of_nonneg (Int.le_of_lt ht) hv
          omega
      have k1 := n _ _ h1
      have k3 := n _ _ h3
      rcases Int.lt_trichotomy (c.x - a.x) 0 with e | e | e
      · have := k1.2 e; have := k3.2 e; omega
      · rw [e] at h1; simp at h1
      · have := k1.1 e; have := k3.1 e; omega
  refine ⟨ho, key a c h ho, key c a ?_ ?_⟩
  · omega
  · omega
theorem same_cut {b r : Bx} (hb : okBx b = true) (hx : b.lo.x ≠ b.hi.x) (hy : b.lo.y ≠ b.hi.y) (hr : okBx r = true) : cutS (cornL b) r = bmeets b r := by
  have hc := cornL_ck hb hx hy
  have hok := cornL_ok hb
  rw [Bool.eq_iff_iff]
  constructor
  · intro h
    have ho : ckOb ⟨4, cornL b⟩ = 0 := hc
    have := meets_bounds (o := ⟨4, cornL b⟩) (r := r) ho (okBx_ck.1 hr) (by rw [match_meets ho (okBx_ck.1 hr)]; exact h)
    rw [boundsS_poly (o := ⟨4, cornL b⟩) rfl] at this
    rw [cornL_box hb] at this
    exact this
  · intro h
    rw [bmeets_iff hb hr] at h
    obtain ⟨⟨o1, o2⟩, h1, h2⟩ := (okBx_iff b).1 hb
    obtain ⟨⟨r1, r2⟩, h3, h4⟩ := (okBx_iff r).1 hr
    rw [cutS_eq hc hr]
    unfold ringBoxR
    rw [Bool.or_eq_true, any_range_iff, cornL_has hb r1]
    by_cases hin : inR b r.lo
    · exact .inl hin
    · right
      obtain ⟨k0, k1, k2, k3⟩ := corn_ok hb
      rcases (show r.lo.x < b.lo.x ∨ r.lo.y < b.lo.y by unfold inR at hin; omega) with e | e
      · refine ⟨3, by rw [len_c]; decide, ?_⟩
        rw [pt_c3, nx_c3, mboxR_iff k3 k0 hr]
        exact sat_flat (.inl rfl) (by simp only; omega) ⟨h3, h4⟩
      · refine ⟨0, by rw [len_c]; decide, ?_⟩
        rw [pt_c0, nx_c0, mboxR_iff k0 k1 hr]
        exact sat_flat (.inr rfl) (by simp only; omega) ⟨h3, h4⟩

/-- out of a corner of the plane: by which side? -/
theorem quad {dx dy A C : Int} (h0 : 0 ≤ dx) (h1 : 0 ≤ dy) (hA : 0 ≤ A) (hC : 0 ≤ C) (ho : A < dx ∨ C < dy) : (A ≤ dx ∧ 0 ≤ dx * C - dy * A) ∨ (C ≤ dy ∧ dx * C - dy * A ≤ 0) := by
  rcases Int.le_total 0 (dx * C - dy * A) with h | h
  · by_cases hA2 : A ≤ dx
    · exact .inl ⟨hA2, h⟩
    · have hC2 : C < dy := by omega
      have a1 : dx * C ≤ dx * dy := Int.mul_le_mul_of_nonneg_left (by omega) h0
      have a2 : dy * dx < dy * A := Int.mul_lt_mul_of_pos_left (by omega) (by omega)
      rw [Int.mul_comm dy dx] at a2
      omega
  · by_cases hC2 : C ≤ dy
    · exact .inr ⟨hC2, h⟩
    · have hA2 : A < dx := by omega
      have a1 : dy * A ≤ dy * dx := Int.mul_le_mul_of_nonneg_left (by omega) h1
      have a2 : dx * dy < dx * C := Int.mul_lt_mul_of_pos_left (by omega) (by omega)
      rw [Int.mul_comm dy dx] at a1
      omega
/-- an edge as a box -/
theorem sat_seg {a c d e : Pt} (oa : okPt a = true) (oc : okPt c = true) (od : okPt d = true) (oe : okPt e = true) (hde : okBx ⟨d, e⟩ = true) (hfl : d.x = e.x ∨ d.y = e.y) (h : sat a c ⟨d, e⟩) : meetS a c d e = true := by
  have hm := (mboxR_iff oa oc hde).2 h
  have hcor : (⟨e.x, d.y⟩ = d ∨ (⟨e.x, d.y⟩ : Pt) = e) ∧ (⟨d.x, e.y⟩ = e ∨ (⟨d.x, e.y⟩ : Pt) = d) := by
    rcases hfl with q | q
    · exact ⟨.inl (Pt.ext' q.symm rfl), .inl (Pt.ext' q rfl)⟩
    · exact ⟨.inr (Pt.ext' rfl q), .inr (Pt.ext' rfl q.symm)⟩
  have hin : ∀ p, okPt p = true → inR ⟨d, e⟩ p → onS d e p = true := fun p op hp => by
    obtain ⟨_, q1, q2⟩ := (okBx_iff _).1 hde
    simp only at q1 q2
    unfold inR at hp
    simp only at hp
    rw [onS_iff]
    refine ⟨⟨od, oe, op⟩, ?_, by omega, by omega⟩
    unfold crossR
    rcases hfl with q | q
    · have : p.x = d.x := by omega
      rw [this, q]; simp
    · have : p.y = d.y := by omega
      rw [this, q]; simp
  have hpt : ∀ p, okPt p = true → onS a c p = true → inR ⟨d, e⟩ p → p = d ∨ p = e → meetS a c d e = true := fun p op hon _ hp => by
    rw [meetS_iff]
    refine ⟨⟨oa, oc, od, oe⟩, ?_⟩
    rcases hp with rfl | rfl
    · exact .inr (.inl hon)
    · exact .inr (.inr (.inl hon))
  have hdeg : ∀ p, okPt p = true → meetS a c p p = true → onS a c p = true := fun p op hh => by
    rw [meetS_iff] at hh
    obtain ⟨_, hh⟩ := hh
    rcases hh with hh | hh | hh | hh | hh
    · rw [properR_iff oa oc op op] at hh
      have z : ∀ q : Pt, crossR p p q = 0 := fun q => crossR_aab p q
      rw [z, z] at hh
      omega
    · exact hh
    · exact hh
    · rw [onS_iff] at hh ⊢
      have : a = p := Pt.ext' (by omega) (by omega)
      subst this
      exact ⟨⟨oa, oc, oa⟩, crossR_aba _ _, by omega, by omega⟩
    · rw [onS_iff] at hh ⊢
      have : c = p := Pt.ext' (by omega) (by omega)
      subst this
      exact ⟨⟨oa, oc, oc⟩, crossR_abb _ _, by omega, by omega⟩
  have hd : inR ⟨d, e⟩ d := by
    obtain ⟨_, q1, q2⟩ := (okBx_iff _).1 hde
    exact ⟨⟨Int.le_refl _, q1⟩, Int.le_refl _, q2⟩
  have he : inR ⟨d, e⟩ e := by
    obtain ⟨_, q1, q2⟩ := (okBx_iff _).1 hde
    exact ⟨⟨q1, Int.le_refl _⟩, q2, Int.le_refl _⟩
  have hdd : meetS a c d d = true → meetS a c d e = true := fun hh => hpt d od (hdeg d od hh) hd (.inl rfl)
  have hee : meetS a c e e = true → meetS a c d e = true := fun hh => hpt e oe (hdeg e oe hh) he (.inr rfl)
  have hed : meetS a c e d = true → meetS a c d e = true := fun hh => by rw [meetS_swap3] at hh; exact hh
  unfold mboxR at hm
  simp only [Bool.and_eq_true, Bool.or_eq_true] at hm
  obtain ⟨_, hm⟩ := hm
  have hbh : ∀ p, okPt p = true → bhas ⟨d, e⟩ p = true → onS d e p = true := fun p op hp => hin p op ((bhas_iff hde op).1 hp)
  rcases hm with ((((hm | hm) | hm) | hm) | hm) | hm
  · rw [meetS_iff]
    exact ⟨⟨oa, oc, od, oe⟩, .inr (.inr (.inr (.inl (hbh a oa hm))))⟩
  · rw [meetS_iff]
    exact ⟨⟨oa, oc, od, oe⟩, .inr (.inr (.inr (.inr (hbh c oc hm))))⟩
  · rcases hcor.1 with q | q
    · rw [q] at hm; exact hdd hm
    · rw [q] at hm; exact hm
  · rcases hcor.1 with q | q
    · rw [q] at hm; exact hm
    · rw [q] at hm; exact hee hm
  · rcases hcor.2 with q | q
    · rw [q] at hm; exact hee hm
    · rw [q] at hm; exact hed hm
  · rcases hcor.2 with q | q
    · rw [q] at hm; exact hed hm
    · rw [q] at hm; exact hdd hm
/-- from in to out: over an edge -/
theorem leaves {a c : Pt} {b : Bx} (hb : okBx b = true) (oa : okPt a = true) (oc : okPt c = true) (ha : inR b a) (hc : ¬ inR b c) :
    ∃ i, i < 4 ∧ meetS (pt (cornL b) i) (nx (cornL b) i) a c = true := by
  obtain ⟨⟨o1, o2⟩, h1, h2⟩ := (okBx_iff b).1 hb
  obtain ⟨k0, k1, k2, k3⟩ := corn_ok hb
  have okB : ∀ d e : Pt, okPt d = true → okPt e = true → d.x ≤ e.x → d.y ≤ e.y → okBx ⟨d, e⟩ = true := fun d e od oe u v => by
    rw [okBx_iff]; exact ⟨⟨od, oe⟩, u, v⟩
  suffices hs : sat a c ⟨b.lo, ⟨b.hi.x, b.lo.y⟩⟩ ∨ sat a c ⟨⟨b.hi.x, b.lo.y⟩, b.hi⟩ ∨ sat a c ⟨⟨b.lo.x, b.hi.y⟩, b.hi⟩ ∨ sat a c ⟨b.lo, ⟨b.lo.x, b.hi.y⟩⟩ by
    rcases hs with hs | hs | hs | hs
    · refine ⟨0, by decide, ?_⟩
      rw [pt_c0, nx_c0, meetS_swap2]
      exact sat_seg oa oc k0 k1 (okB _ _ k0 k1 h1 (Int.le_refl _)) (.inr rfl) hs
    · refine ⟨1, by decide, ?_⟩
      rw [pt_c1, nx_c1, meetS_swap2]
      exact sat_seg oa oc k1 k2 (okB _ _ k1 k2 (Int.le_refl _) h2) (.inl rfl) hs
    · refine ⟨2, by decide, ?_⟩
      rw [pt_c2, nx_c2, meetS_swap1, meetS_swap2]
      exact sat_seg oa oc k3 k2 (okB _ _ k3 k2 h1 (Int.le_refl _)) (.inr rfl) hs
    · refine ⟨3, by decide, ?_⟩
      rw [pt_c3, nx_c3, meetS_swap1, meetS_swap2]
      exact sat_seg oa oc k0 k3 (okB _ _ k0 k3 (Int.le_refl _) h2) (.inl rfl) hs
  unfold inR at ha hc
  -- the four corners, seen from the segment
  have s0 : crossR a c b.lo = -((c.x - a.x) * (a.y - b.lo.y)) + (c.y - a.y) * (a.x - b.lo.x) := by unfold crossR; grind
  have s1 : crossR a c ⟨b.hi.x, b.lo.y⟩ = -((c.x - a.x) * (a.y - b.lo.y)) - (c.y - a.y) * (b.hi.x - a.x) := by unfold crossR; grind
  have s2 : crossR a c b.hi = (c.x - a.x) * (b.hi.y - a.y) - (c.y - a.y) * (b.hi.x - a.x) := by unfold crossR; grind
  have s3 : crossR a c ⟨b.lo.x, b.hi.y⟩ = (c.x - a.x) * (b.hi.y - a.y) + (c.y - a.y) * (a.x - b.lo.x) := by unfold crossR; grind
  have t : ∀ p, crossR c a p = - crossR a c p := fun p => crossR_swap a c p
  unfold sat allPos
  simp only [t]
  rw [s0, s1, s2, s3]
  have mn := fun (u v : Int) (hu : 0 ≤ u) (hv : 0 ≤ v) => Int.mul_nonneg hu hv
  rcases Int.le_total 0 (c.x - a.x) with dx | dx <;> rcases Int.le_total 0 (c.y - a.y) with dy | dy
  · have q := quad (A := b.hi.x - a.x) (C := b.hi.y - a.y) dx dy (by omega) (by omega) (by omega)
    have m1 := mn _ _ dx (show 0 ≤ a.y - b.lo.y by omega)
    have m2 := mn _ _ dx (show 0 ≤ b.hi.y - a.y by omega)
    have m3 := mn _ _ dy (show 0 ≤ a.x - b.lo.x by omega)
    have m4 := mn _ _ dy (show 0 ≤ b.hi.x - a.x by omega)
    clear s0 s1 s2 s3 t mn
    rcases q with ⟨q1, q2⟩ | ⟨q1, q2⟩
    · right; left; refine ⟨by omega, by omega, by omega⟩
    · right; right; left; refine ⟨by omega, by omega, by omega⟩
  · have q := quad (dx := c.x - a.x) (dy := -(c.y - a.y)) (A := b.hi.x - a.x) (C := a.y - b.lo.y) dx (by omega) (by omega) (by omega) (by omega)
    have m1 := mn _ _ dx (show 0 ≤ a.y - b.lo.y by omega)
    have m2 := mn _ _ dx (show 0 ≤ b.hi.y - a.y by omega)
    have m3 := mn _ _ (show 0 ≤ -(c.y - a.y) by omega) (show 0 ≤ a.x - b.lo.x by omega)
    have m4 := mn _ _ (show 0 ≤ -(c.y - a.y) by omega) (show 0 ≤ b.hi.x - a.x by omega)
    rw [Int.neg_mul] at q m3 m4
    clear s0 s1 s2 s3 t mn
    rcases q with ⟨q1, q2⟩ | ⟨q1, q2⟩
    · right; left; refine ⟨by omega, by omega, by omega⟩
    · left; refine ⟨by omega, by omega, by omega⟩
  · have q := quad (dx := -(c.x - a.x)) (dy := c.y - a.y) (A := a.x - b.lo.x) (C := b.hi.y - a.y) (by omega) dy (by omega) (by omega) (by omega)
    have m1 := mn _ _ (show 0 ≤ -(c.x - a.x) by omega) (show 0 ≤ a.y - b.lo.y by omega)
    have m2 := mn _ _ (show 0 ≤ -(c.x - a.x) by omega) (show 0 ≤ b.hi.y - a.y by omega)
    have m3 := mn _ _ dy (show 0 ≤ a.x - b.lo.x by omega)
    have m4 := mn _ _ dy (show 0 ≤ b.hi.x - a.x by omega)
    rw [Int.neg_mul] at q m1 m2
    clear s0 s1 s2 s3 t mn
    rcases q with ⟨q1, q2⟩ | ⟨q1, q2⟩
    · right; right; right; refine ⟨by omega, by omega, by omega⟩
    · right; right; left; refine ⟨by omega, by omega, by omega⟩
  · have q := quad (dx := -(c.x - a.x)) (dy := -(c.y - a.y)) (A := a.x - b.lo.x) (C := a.y - b.lo.y) (by omega) (by omega) (by omega) (by omega) (by omega)
    have m1 := mn _ _ (show 0 ≤ -(c.x - a.x) by omega) (show 0 ≤ a.y - b.lo.y by omega)
    have m2 := mn _ _ (show 0 ≤ -(c.x - a.x) by omega) (show 0 ≤ b.hi.y - a.y by omega)
    have m3 := mn _ _ (show 0 ≤ -(c.y - a.y) by omega) (show 0 ≤ a.x - b.lo.x by omega)
    have m4 := mn _ _ (show 0 ≤ -(c.y - a.y) by omega) (show 0 ≤ b.hi.x - a.x by omega)
    rw [Int.neg_mul, Int.neg_mul] at q
    rw [Int.neg_mul] at m1 m2 m3 m4
    clear s0 s1 s2 s3 t mn
    rcases q with ⟨q1, q2⟩ | ⟨q1, q2⟩
    · right; right; right; refine ⟨by omega, by omega, by omega⟩
    · left; refine ⟨by omega, by omega, by omega⟩
/-- round a ring: all are in, or one edge leaves -/
theorem all_or_leaves {l : List Pt} {P : Pt → Prop} [DecidablePred P] (k : Nat) (hk : k < l.length) (hP : P (pt l k)) (h0 : ¬ P (pt l 0)) : ∃ i, i < l.length ∧ P (pt l i) ∧ ¬ P (nx l i) := by
  apply Classical.byContradiction
  intro hn
  have step : ∀ i, i < l.length → P (pt l i) → P (nx l i) := fun i hi hp => Decidable.byContradiction fun hq => hn ⟨i, hi, hp, hq⟩
  have : ∀ j, k + j < l.length → P (pt l (k + j)) := by
    intro j
    induction j with
    | zero => intro _; exact hP
    | succ j ih =>
      intro hj
      have := step (k + j) (by omega) (ih (by omega))
      rw [nx_of_lt (by omega)] at this
      exact this
  have hl := this (l.length - 1 - k) (by omega)
  have := step _ (by omega) hl
  rw [nx_last (by omega)] at this
  exact h0 this
theorem same_rings {b : Bx} {l : List Pt} (hb : okBx b = true) (hx : b.lo.x ≠ b.hi.x) (hy : b.lo.y ≠ b.hi.y) (hl : ckRing l = 0) : ringsS (cornL b) l = cutS l b := by
  have hc := cornL_ck hb hx hy
  obtain ⟨n3, _, lok⟩ := ring_lens hl
  obtain ⟨k0, k1, k2, k3⟩ := corn_ok hb
  rw [ringsS_eq hc hl, cutS_eq hl hb, Bool.eq_iff_iff]
  unfold ringsR ringBoxR
  rw [Bool.or_eq_true, Bool.or_eq_true, Bool.or_eq_true, any_range_iff, pt_c0, cornL_has hb (okPt_pt lok (by omega))]
  unfold crossAny
  rw [any_range_iff]
  have hm4 : ∀ i k, i < 4 → k < l.length → meetS (pt (cornL b) i) (nx (cornL b) i) (pt l k) (nx l k) = true → mboxR (pt l k) (nx l k) b = true := fun i k hi hk hm => by
    rw [meetS_swap2] at hm
    unfold mboxR
    rw [okPt_pt lok hk, okPt_nx lok hk, hb]
    match i, hi with
    | 0, _ => rw [pt_c0, nx_c0] at hm; rw [hm]; simp
    | 1, _ => rw [pt_c1, nx_c1] at hm; rw [hm]; simp
    | 2, _ => rw [pt_c2, nx_c2] at hm; rw [hm]; simp
    | 3, _ => rw [pt_c3, nx_c3] at hm; rw [hm]; simp
  constructor
  · rintro ((h | h) | ⟨i, hi, h⟩)
    · right
      refine ⟨0, by omega, ?_⟩
      unfold mboxR
      rw [okPt_pt lok (by omega), okPt_nx lok (by omega), hb, (bhas_iff hb (okPt_pt lok (by omega))).2 h]
      simp
    · exact .inl h
    · rw [any_range_iff] at h
      obtain ⟨k, hk, h⟩ := h
      exact .inr ⟨k, hk, hm4 i k hi hk h⟩
  · rintro (h | ⟨k, hk, h⟩)
    · exact .inl (.inr h)
    · have hcr : ∀ i, i < 4 → meetS (pt l k) (nx l k) (pt (cornL b) i) (nx (cornL b) i) = true → ∃ i, i < (cornL b).length ∧ ((List.range l.length).any fun k => meetS (pt (cornL b) i) (nx (cornL b) i) (pt l k) (nx l k)) = true := fun i hi hm => by
        refine ⟨i, hi, ?_⟩
        rw [any_range_iff]
        exact ⟨k, hk, by rw [meetS_swap2]; exact hm⟩
      have hin : ∀ j, j < l.length → inR b (pt l j) → inR b (pt l 0) ∨ ∃ i, i < (cornL b).length ∧ ((List.range l.length).any fun k => meetS (pt (cornL b) i) (nx (cornL b) i) (pt l k) (nx l k)) = true := fun j hj hp => by
        by_cases h0 : inR b (pt l 0)
        · exact .inl h0
        · right
          have : DecidablePred (inR b) := fun p => by unfold inR; infer_instance
          obtain ⟨j', hj', p1, p2⟩ := all_or_leaves (P := inR b) j hj hp h0
          obtain ⟨i, hi, hm⟩ := leaves hb (okPt_pt lok hj') (okPt_nx lok hj') p1 p2
          refine ⟨i, hi, ?_⟩
          rw [any_range_iff]
          exact ⟨j', hj', hm⟩
      have two : (inR b (pt l 0) ∨ ∃ i, i < (cornL b).length ∧ ((List.range l.length).any fun k => meetS (pt (cornL b) i) (nx (cornL b) i) (pt l k) (nx l k)) = true) → ((inR b (pt l 0) ∨ rhasR l b.lo = true) ∨ ∃ i, i < (cornL b).length ∧ ((List.range l.length).any fun k => meetS (pt (cornL b) i) (nx (cornL b) i) (pt l k) (nx l k)) = true) := fun h => by
        rcases h with h | h
        · exact .inl (.inl h)
        · exact .inr h
      unfold mboxR at h
      simp only [Bool.and_eq_true, Bool.or_eq_true] at h
      obtain ⟨_, h⟩ := h
      rcases h with ((((h | h) | h) | h) | h) | h
      · exact two (hin k hk ((bhas_iff hb (okPt_pt lok hk)).1 h))
      · exact two (hin ((k + 1) % l.length) (Nat.mod_lt _ (by omega)) ((bhas_iff hb (okPt_nx lok hk)).1 h))
      · exact .inr (hcr 0 (by decide) (by rw [pt_c0, nx_c0]; exact h))
      · exact .inr (hcr 1 (by decide) (by rw [pt_c1, nx_c1]; exact h))
      · exact .inr (hcr 2 (by decide) (by rw [pt_c2, nx_c2]; exact h))
      · exact .inr (hcr 3 (by decide) (by rw [pt_c3, nx_c3]; exact h))
def boxO (b : Bx) : Ob := ⟨3, [b.lo, b.hi]⟩
def ringO (b : Bx) : Ob := ⟨4, cornL b⟩
theorem boxO_ck {b : Bx} (hb : okBx b = true) : ckOb (boxO b) = 0 := by
  have : ckBox b = 0 := okBx_ck.1 hb
  simpa [ckOb, boxO, pt] using this
theorem match_bad {o : Ob} {q : Qu} (h : ckQu q ≠ 0) : matchS o q = false := by
  unfold matchS
  rw [if_neg (fun k => h k.2)]
theorem same_match {b : Bx} (q : Qu) (hb : okBx b = true) (hx : b.lo.x ≠ b.hi.x) (hy : b.lo.y ≠ b.hi.y) : matchS (boxO b) q = matchS (ringO b) q := by
  have h1 := boxO_ck hb
  have h2 : ckOb (ringO b) = 0 := cornL_ck hb hx hy
  by_cases hq : ckQu q = 0
  case neg => rw [match_bad hq, match_bad hq]
  obtain ⟨k, r, l⟩ := q
  by_cases k1 : k = 1
  · subst k1
    have hr : ckBox r = 0 := by simpa [ckQu] using hq
    rw [match_meets h1 hr, match_meets h2 hr]
    exact (same_cut hb hx hy (okBx_ck.2 hr)).symm
  by_cases k2 : k = 2
  · subst k2
    have hr : ckBox r = 0 := by simpa [ckQu] using hq
    rw [match_in h1 hr, match_in h2 hr, boundsS_box (o := boxO b) rfl, boundsS_poly (o := ringO b) rfl]
    show binside b r = binside (ringBx (cornL b)) r
    rw [cornL_box hb]
  by_cases k3 : k = 3
  · subst k3
    have hr : okPt r.lo = true := by
      unfold ckQu at hq
      simp only [show ¬ ((3 : Int) = 1 ∨ (3 : Int) = 2) by decide, ↓reduceIte] at hq
      split at hq
      · assumption
      · omega
    rw [match_has h1 hr, match_has h2 hr]
    exact (same_cut hb hx hy (okBx_pp hr)).symm
  by_cases k4 : k = 4
  · subst k4
    have hl : ckRing l = 0 := by simpa [ckQu] using hq
    rw [match_cross h1 hl, match_cross h2 hl]
    exact (same_rings hb hx hy hl).symm
  · exfalso
    simp [ckQu, k1, k2, k3, k4] at hq
theorem same_touch {b : Bx} (hb : okBx b = true) (hx : b.lo.x ≠ b.hi.x) (hy : b.lo.y ≠ b.hi.y) : touchS (boxO b) (ringO b) = true := by
  unfold touchS
  rw [boxO_ck hb, show ckOb (ringO b) = 0 from cornL_ck hb hx hy]
  show cutS (cornL b) b = true
  rw [same_cut hb hx hy hb, bmeets_iff hb hb]
  obtain ⟨_, h1, h2⟩ := (okBx_iff b).1 hb
  omega

/-- to an edge along an axis -/
theorem flat_dist {a c p : Pt} (oa : okPt a = true) (oc : okPt c = true) (op : okPt p = true) (h : a.x = c.x ∨ a.y = c.y) : segF a c p = ⟨boxN (span a c) p, 1⟩ := by
  unfold segF
  rw [oa, oc, op]
  simp only [Bool.and_self, ↓reduceIte]
  have pos : ∀ u v : Int, u * v ≤ 0 → (0 < u → v ≤ 0) ∧ (u < 0 → 0 ≤ v) := fun u v hh => by
    constructor
    · intro hu
      apply Int.not_lt.1
      intro hv
      have := Int.mul_pos hu hv
      omega
    · intro hu
      apply Int.not_lt.1
      intro hv
      have := Int.mul_pos_of_neg_of_neg hu hv
      omega
  have pos' : ∀ u v : Int, 0 < u * v → (0 < u → 0 < v) ∧ (u < 0 → v < 0) := fun u v hh => by
    constructor
    · intro hu
      apply Int.not_le.1
      intro hv
      have := Int.mul_nonpos_of_nonneg_of_nonpos (Int.le_of_lt hu) hv
      omega
    · intro hu
      apply Int.not_le.1
      intro hv
      have := Int.mul_nonpos_of_nonpos_of_nonneg (Int.le_of_lt hu) hv
      omega
  have eqs : ∀ u v u' v' : Int, u.natAbs = u'.natAbs → v.natAbs = v'.natAbs → (⟨sqs u v, 1⟩ : Fr) = ⟨sqs u' v', 1⟩ := fun u v u' v' e1 e2 => by unfold sqs; rw [e1, e2]
  unfold boxN gap span
  simp only
  rcases h with h | h
  · have e1 : dotR a c p = (c.y - a.y) * (p.y - a.y) := by unfold dotR; rw [h]; simp
    have e2 : dotR c a p = (a.y - c.y) * (p.y - c.y) := by unfold dotR; rw [h]; simp
    rw [e1, e2]
    split
    · rename_i hd
      refine eqs _ _ _ _ (by omega) ?_
      rcases hd with rfl | hd
      · omega
      · have k := pos _ _ hd
        omega
    · rename_i hd
      have hne : a ≠ c := fun e => hd (.inl e)
      have hk := pos' _ _ (show 0 < (c.y - a.y) * (p.y - a.y) from Int.not_le.1 fun e => hd (.inr e))
      have hyy : a.y ≠ c.y := fun e => hne (Pt.ext' h e)
      split
      · rename_i hd2
        have k := pos _ _ hd2
        exact eqs _ _ _ _ (by omega) (by omega)
      · rename_i hd2
        have hk2 := pos' _ _ (show 0 < (a.y - c.y) * (p.y - c.y) from Int.not_le.1 hd2)
        have ec : crossR a c p = -((c.y - a.y) * (p.x - a.x)) := by unfold crossR; rw [h]; simp
        have es : sqs (a.x - c.x) (a.y - c.y) = (c.y - a.y).natAbs * (c.y - a.y).natAbs := by
          unfold sqs
          rw [show (a.x - c.x).natAbs = 0 by omega, show (a.y - c.y).natAbs = (c.y - a.y).natAbs by omega]
          simp
        have em : (crossR a c p).natAbs * (crossR a c p).natAbs = ((p.x - a.x).natAbs * (p.x - a.x).natAbs) * ((c.y - a.y).natAbs * (c.y - a.y).natAbs) := by
          rw [ec, Int.natAbs_neg, Int.natAbs_mul]
          grind
        rw [es, em, lowF_mulden _ (Nat.mul_pos (by omega) (by omega))]
        have : ((p.x - a.x).natAbs * (p.x - a.x).natAbs) = sqs (p.x - a.x) 0 := by unfold sqs; simp
        rw [this]
        refine eqs _ _ _ _ (by omega) (by omega)
  · have e1 : dotR a c p = (c.x - a.x) * (p.x - a.x) := by unfold dotR; rw [h]; simp
    have e2 : dotR c a p = (a.x - c.x) * (p.x - c.x) := by unfold dotR; rw [h]; simp
    rw [e1, e2]
    split
    · rename_i hd
      refine eqs _ _ _ _ ?_ (by omega)
      rcases hd with rfl | hd
      · omega
      · have k := pos _ _ hd
        omega
    · rename_i hd
      have hne : a ≠ c := fun e => hd (.inl e)
      have hk := pos' _ _ (show 0 < (c.x - a.x) * (p.x - a.x) from Int.not_le.1 fun e => hd (.inr e))
      have hxx : a.x ≠ c.x := fun e => hne (Pt.ext' e h)
      split
      · rename_i hd2
        have k := pos _ _ hd2
        exact eqs _ _ _ _ (by omega) (by omega)
      · rename_i hd2
        have hk2 := pos' _ _ (show 0 < (a.x - c.x) * (p.x - c.x) from Int.not_le.1 hd2)
        have ec : crossR a c p = ((c.x - a.x) * (p.y - a.y)) := by unfold crossR; rw [h]; simp
        have es : sqs (a.x - c.x) (a.y - c.y) = (c.x - a.x).natAbs * (c.x - a.x).natAbs := by
          unfold sqs
          rw [show (a.y - c.y).natAbs = 0 by omega, show (a.x - c.x).natAbs = (c.x - a.x).natAbs by omega]
          simp
        have em : (crossR a c p).natAbs * (crossR a c p).natAbs = ((p.y - a.y).natAbs * (p.y - a.y).natAbs) * ((c.x - a.x).natAbs * (c.x - a.x).natAbs) := by
          rw [ec, Int.natAbs_mul]
          grind
        rw [es, em, lowF_mulden _ (Nat.mul_pos (by omega) (by omega))]
        have : ((p.y - a.y).natAbs * (p.y - a.y).natAbs) = sqs 0 (p.y - a.y) := by unfold sqs; simp
        rw [this]
        refine eqs _ _ _ _ (by omega) (by omega)
theorem boxN_mono {v u : Bx} (p : Pt) (h : inB v u) : boxN v p ≤ boxN u p := by
  unfold inB at h
  exact sqs_mono (by unfold gap; omega) (by unfold gap; omega)
theorem same_dist {b : Bx} (p : Pt) (hb : okBx b = true) (hx : b.lo.x ≠ b.hi.x) (hy : b.lo.y ≠ b.hi.y) : distF (boxO b) p = distF (ringO b) p := by
  have h1 := boxO_ck hb
  have h2 : ckOb (ringO b) = 0 := cornL_ck hb hx hy
  have hc : ckRing (cornL b) = 0 := h2
  cases op : okPt p
  · unfold distF
    rw [if_neg (fun k => by rw [op] at k; cases k.2), if_neg (fun k => by rw [op] at k; cases k.2)]
  · rw [distF_box h1 op rfl, distF_poly h2 op rfl]
    show (⟨boxN b p, 1⟩ : Fr) = if rhas (cornL b) p then ⟨0, 1⟩ else minF (segsF (cornL b) p)
    rw [rhas_ok hc op]
    obtain ⟨⟨o1, o2⟩, q1, q2⟩ := (okBx_iff b).1 hb
    obtain ⟨k0, k1, k2, k3⟩ := corn_ok hb
    cases hr : rhasR (cornL b) p
    · simp only [Bool.false_eq_true, ↓reduceIte]
      have hn : ¬ inR b p := fun h => by rw [(cornL_has hb op).2 h] at hr; cases hr
      have e : segsF (cornL b) p = [⟨boxN (span b.lo ⟨b.hi.x, b.lo.y⟩) p, 1⟩, ⟨boxN (span ⟨b.hi.x, b.lo.y⟩ b.hi) p, 1⟩, ⟨boxN (span b.hi ⟨b.lo.x, b.hi.y⟩) p, 1⟩, ⟨boxN (span ⟨b.lo.x, b.hi.y⟩ b.lo) p, 1⟩] := by
        unfold segsF
        rw [len_c]
        show [segF (pt (cornL b) 0) (nx (cornL b) 0) p, segF (pt (cornL b) 1) (nx (cornL b) 1) p, segF (pt (cornL b) 2) (nx (cornL b) 2) p, segF (pt (cornL b) 3) (nx (cornL b) 3) p] = _
        rw [pt_c0, nx_c0, pt_c1, nx_c1, pt_c2, nx_c2, pt_c3, nx_c3, flat_dist k0 k1 op (.inr rfl), flat_dist k1 k2 op (.inl rfl), flat_dist k2 k3 op (.inr rfl), flat_dist k3 k0 op (.inl rfl)]
      rw [e]
      symm
      refine minF_one ?_ ?_ ?_
      · intro x hx
        simp only [List.mem_cons, List.not_mem_nil, or_false] at hx
        rcases hx with rfl | rfl | rfl | rfl <;> rfl
      · unfold inR at hn
        have eb : ∀ u : Bx, (gap p.x u.lo.x u.hi.x = gap p.x b.lo.x b.hi.x ∧ gap p.y u.lo.y u.hi.y = gap p.y b.lo.y b.hi.y) → (⟨boxN b p, 1⟩ : Fr) = ⟨boxN u p, 1⟩ := fun u hu => by
          unfold boxN
          rw [hu.1, hu.2]
        simp only [List.mem_cons, List.not_mem_nil, or_false]
        rcases (show p.x < b.lo.x ∨ b.hi.x < p.x ∨ p.y < b.lo.y ∨ b.hi.y < p.y by omega) with h | h | h | h
        · exact .inr (.inr (.inr (eb _ ⟨by unfold gap span; simp only; omega, by unfold gap span; simp only; omega⟩)))
        · exact .inr (.inl (eb _ ⟨by unfold gap span; simp only; omega, by unfold gap span; simp only; omega⟩))
        · exact .inl (eb _ ⟨by unfold gap span; simp only; omega, by unfold gap span; simp only; omega⟩)
        · exact .inr (.inr (.inl (eb _ ⟨by unfold gap span; simp only; omega, by unfold gap span; simp only; omega⟩)))
      · intro x hx
        simp only [List.mem_cons, List.not_mem_nil, or_false] at hx
        rcases hx with rfl | rfl | rfl | rfl
        all_goals
          refine boxN_mono p ?_
          unfold inB span
          simp only
          omega
    · simp only [↓reduceIte]
      rw [(boxN_zero hb).2 ((cornL_has hb op).1 hr)]
end Pg
