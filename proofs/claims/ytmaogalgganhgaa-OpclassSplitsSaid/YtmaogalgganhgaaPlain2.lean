import Derived.Test.YtmaogalgganhgaaPlain1
namespace Pg
/- plain law of rings: the program's look at a ring is the reference's -/

theorem sgn_neg (n : Int) : sgn (-n) = - sgn n := by unfold sgn; split <;> split <;> (try split) <;> (try split) <;> omega
theorem sgn_mul_neg (m n : Int) : sgn m * sgn n < 0 ↔ (m < 0 ∧ 0 < n) ∨ (0 < m ∧ n < 0) := by
  unfold sgn
  split
  · split
    · simp; omega
    · split <;> simp <;> omega
  · split
    · split
      · simp; omega
      · split <;> simp <;> omega
    · split
      · simp; omega
      · split <;> simp <;> omega
theorem crossR_swap (a b c : Pt) : crossR b a c = - crossR a b c := by unfold crossR; grind
theorem crossR_rot (a b c : Pt) : crossR b c a = crossR a b c := by unfold crossR; grind
theorem crossR_aab (a b : Pt) : crossR a a b = 0 := by unfold crossR; grind
theorem crossR_aba (a b : Pt) : crossR a b a = 0 := by unfold crossR; grind
theorem crossR_abb (a b : Pt) : crossR a b b = 0 := by unfold crossR; grind
theorem orient_swap (a b c : Pt) : orient b a c = - orient a b c := by
  unfold orient cross
  rw [← sgn_neg]
  congr 1
  by_cases h : (okPt a && okPt b && okPt c) = true
  · rw [if_pos h, if_pos (by simp_all), crossR_swap]
  · rw [if_neg h, if_neg (by simp_all)]
    rfl
theorem span_swap (a b : Pt) : span b a = span a b := by unfold span; congr 1 <;> congr 1 <;> omega
theorem onS_swap (a b p : Pt) : onS b a p = onS a b p := by
  unfold onS
  rw [span_swap, crossR_swap, Bool.and_comm (okPt b) (okPt a)]
  congr 2
  rw [decide_eq_decide]
  omega
theorem properR_swap1 (a b c d : Pt) : properR b a c d = properR a b c d := by
  unfold properR
  rw [orient_swap a b c, orient_swap a b d, Int.neg_mul_neg, Int.mul_comm (orient c d b)]
theorem properR_swap2 (a b c d : Pt) : properR c d a b = properR a b c d := by
  unfold properR
  rw [Bool.and_comm]
theorem meetS_swap2 (a b c d : Pt) : meetS c d a b = meetS a b c d := by
  unfold meetS
  rw [properR_swap2]
  cases okPt a <;> cases okPt b <;> cases okPt c <;> cases okPt d <;> simp
  cases properR a b c d <;> cases onS a b c <;> cases onS a b d <;> cases onS c d a <;> cases onS c d b <;> rfl
theorem meetS_swap1 (a b c d : Pt) : meetS b a c d = meetS a b c d := by
  unfold meetS
  rw [properR_swap1, onS_swap a b c, onS_swap a b d]
  cases okPt a <;> cases okPt b <;> cases okPt c <;> cases okPt d <;> simp
  cases properR a b c d <;> cases onS a b c <;> cases onS a b d <;> cases onS c d a <;> cases onS c d b <;> rfl
theorem meetS_swap3 (a b c d : Pt) : meetS a b d c = meetS a b c d := by
  rw [meetS_swap2, meetS_swap1, meetS_swap2]

theorem onS_iff (a b p : Pt) : onS a b p = true ↔ (okPt a = true ∧ okPt b = true ∧ okPt p = true) ∧ crossR a b p = 0 ∧ (min a.x b.x ≤ p.x ∧ p.x ≤ max a.x b.x) ∧ (min a.y b.y ≤ p.y ∧ p.y ≤ max a.y b.y) := by
  simp only [onS, bhasR, Bool.and_eq_true, decide_eq_true_eq, and_assoc]
  rfl
theorem properR_iff {a b c d : Pt} (ha : okPt a = true) (hb : okPt b = true) (hc : okPt c = true) (hd : okPt d = true) : properR a b c d = true ↔
    ((crossR a b c < 0 ∧ 0 < crossR a b d) ∨ (0 < crossR a b c ∧ crossR a b d < 0)) ∧ ((crossR c d a < 0 ∧ 0 < crossR c d b) ∨ (0 < crossR c d a ∧ crossR c d b < 0)) := by
  simp only [properR, orient, cross, ha, hb, hc, hd, Bool.and_self, if_true, Bool.and_eq_true, decide_eq_true_eq, sgn_mul_neg]
theorem meetS_iff (a b c d : Pt) : meetS a b c d = true ↔ (okPt a = true ∧ okPt b = true ∧ okPt c = true ∧ okPt d = true) ∧ (properR a b c d = true ∨ onS a b c = true ∨ onS a b d = true ∨ onS c d a = true ∨ onS c d b = true) := by
  simp [meetS, and_assoc, or_assoc]

/-- two directions with cross 0: one is the shorter one, both ways -/
theorem shorter (p q r s : Int) (hp : 0 ≤ p) (hq : 0 ≤ q) (hr : 0 ≤ r) (hs : 0 ≤ s) (h : p * s = q * r) : (r ≤ p ∧ s ≤ q) ∨ (p ≤ r ∧ q ≤ s) := by
  by_cases h1 : r ≤ p
  · by_cases h2 : s ≤ q
    · exact .inl ⟨h1, h2⟩
    · right
      refine ⟨?_, by omega⟩
      apply Int.not_lt.1
      intro h3
      have e1 : p * (q + 1) ≤ p * s := Int.mul_le_mul_of_nonneg_left (by omega) hp
      have e2 : q * r ≤ q * p := Int.mul_le_mul_of_nonneg_left (by omega) hq
      grind
  · by_cases h2 : q ≤ s
    · exact .inr ⟨by omega, h2⟩
    · exfalso
      have e1 : q * (p + 1) ≤ q * r := Int.mul_le_mul_of_nonneg_left (by omega) hq
      have e2 : p * s ≤ p * q := Int.mul_le_mul_of_nonneg_left (by omega) hp
      grind
/-- u, v: with cross 0 and dot above 0, one lies in the other's span -/
theorem same_way (p q r s : Int) (h : p * s = q * r) (hd : 0 < p * r + q * s) :
    ((min p 0 ≤ r ∧ r ≤ max p 0) ∧ (min q 0 ≤ s ∧ s ≤ max q 0)) ∨ ((min r 0 ≤ p ∧ p ≤ max r 0) ∧ (min s 0 ≤ q ∧ q ≤ max s 0)) := by
  have key : 0 ≤ p * r ∧ 0 ≤ q * s := by
    have e : (p * r) * (q * s) = (q * r) * (q * r) := by
      have : (p * r) * (q * s) = (p * s) * (q * r) := by grind
      rw [this, h]
    have e2 : 0 ≤ (q * r) * (q * r) := by
      rcases Int.le_total 0 (q * r) with h | h
      · exact Int.mul_nonneg h h
      · exact Int.mul_nonneg_of_nonpos_of_nonpos h h
    generalize p * r = X at *
    generalize q * s = Y at *
    constructor
    · apply Int.not_lt.1
      intro hx
      have : X * Y < 0 := Int.mul_neg_of_neg_of_pos hx (by omega)
      omega
    · apply Int.not_lt.1
      intro hy
      have : X * Y < 0 := Int.mul_neg_of_pos_of_neg (by omega) hy
      omega
  obtain ⟨k1, k2⟩ := key
  have sgn2 : ∀ a b : Int, 0 ≤ a * b → (0 ≤ a ∧ 0 ≤ b) ∨ (a ≤ 0 ∧ b ≤ 0) := fun a b hab => by
    rcases Int.lt_trichotomy a 0 with ha | ha | ha
    · right
      refine ⟨by omega, ?_⟩
      apply Int.not_lt.1
      intro hb
      have := Int.mul_neg_of_neg_of_pos ha hb
      omega
    · omega
    · left
      refine ⟨by omega, ?_⟩
      apply Int.not_lt.1
      intro hb
      have := Int.mul_neg_of_pos_of_neg ha hb
      omega
  rcases sgn2 _ _ k1 with ⟨a1, a2⟩ | ⟨a1, a2⟩ <;> rcases sgn2 _ _ k2 with ⟨b1, b2⟩ | ⟨b1, b2⟩
  · have := shorter p q r s a1 b1 a2 b2 h
    omega
  · have := shorter p (-q) r (-s) a1 (by omega) a2 (by omega) (by grind)
    omega
  · have := shorter (-p) q (-r) s (by omega) b1 (by omega) b2 (by grind)
    omega
  · have := shorter (-p) (-q) (-r) (-s) (by omega) (by omega) (by omega) (by omega) (by grind)
    omega
/-- the other way round -/
theorem same_way' (p q r s : Int) (hn : r ≠ 0 ∨ s ≠ 0) (hb : (min p 0 ≤ r ∧ r ≤ max p 0) ∧ (min q 0 ≤ s ∧ s ≤ max q 0)) : 0 < p * r + q * s := by
  have k : ∀ a b : Int, (min a 0 ≤ b ∧ b ≤ max a 0) → 0 ≤ a * b ∧ (b ≠ 0 → 0 < a * b) := fun a b hab => by
    rcases Int.lt_trichotomy b 0 with hb | hb | hb
    · have := Int.mul_pos_of_neg_of_neg (a := a) (b := b) (by omega) hb
      exact ⟨by omega, fun _ => this⟩
    · subst hb; simp
    · have := Int.mul_pos (a := a) (b := b) (by omega) hb
      exact ⟨by omega, fun _ => this⟩
  have k1 := k p r hb.1
  have k2 := k q s hb.2
  rcases hn with hn | hn
  · have := k1.2 hn; omega
  · have := k2.2 hn; omega

theorem over_eq {a c b : Pt} (ha : okPt a = true) (hc : okPt c = true) (hb : okPt b = true) (hac : a ≠ c) (hbc : b ≠ c) : (onS a c b || onS c b a) = overR a c b := by
  rw [Bool.eq_iff_iff, Bool.or_eq_true, onS_iff, onS_iff]
  have hx : cross c a b = crossR c a b := by simp [cross, ha, hb, hc]
  simp only [overR, hx, ha, hb, hc, Bool.and_eq_true, decide_eq_true_eq, ne_eq, hac, hbc, not_false_eq_true, true_and, and_true]
  have e1 : crossR a c b = 0 ↔ (a.x - c.x) * (b.y - c.y) = (a.y - c.y) * (b.x - c.x) := by unfold crossR; grind
  have e2 : crossR c b a = 0 ↔ (a.x - c.x) * (b.y - c.y) = (a.y - c.y) * (b.x - c.x) := by unfold crossR; grind
  have e3 : crossR c a b = 0 ↔ (a.x - c.x) * (b.y - c.y) = (a.y - c.y) * (b.x - c.x) := by unfold crossR; grind
  have n1 : a.x - c.x ≠ 0 ∨ a.y - c.y ≠ 0 := by
    apply Decidable.byContradiction
    intro h
    exact hac (Pt.ext' (by omega) (by omega))
  have n2 : b.x - c.x ≠ 0 ∨ b.y - c.y ≠ 0 := by
    apply Decidable.byContradiction
    intro h
    exact hbc (Pt.ext' (by omega) (by omega))
  rw [e1, e2, e3]
  unfold dotR
  constructor
  · rintro (⟨h, h1⟩ | ⟨h, h1⟩)
    · exact ⟨h, same_way' _ _ _ _ n2 (by omega)⟩
    · have := same_way' (b.x - c.x) (b.y - c.y) (a.x - c.x) (a.y - c.y) n1 (by omega)
      exact ⟨h, by grind⟩
  · rintro ⟨h, h1⟩
    rcases same_way _ _ _ _ h h1 with h2 | h2
    · exact .inl ⟨h, by omega⟩
    · exact .inr ⟨h, by omega⟩

theorem any_range_iff (n : Nat) (f : Nat → Bool) : (List.range n).any f = true ↔ ∃ i, i < n ∧ f i = true := by
  simp [List.any_eq_true]
theorem nx_of_lt {l : List Pt} {i : Nat} (h : i + 1 < l.length) : nx l i = pt l (i + 1) := by rw [nx, Nat.mod_eq_of_lt h]
theorem nx_last {l : List Pt} {i : Nat} (h : i + 1 = l.length) : nx l i = pt l 0 := by rw [nx, h, Nat.mod_self]
theorem okPt_pt {l : List Pt} (h : l.all okPt = true) {i : Nat} (hi : i < l.length) : okPt (pt l i) = true := by
  rw [List.all_eq_true] at h
  have e : pt l i = l[i] := by rw [pt, List.getD_eq_getElem?_getD, List.getElem?_eq_getElem hi]; rfl
  rw [e]
  exact h _ (List.getElem_mem hi)
theorem okPt_nx {l : List Pt} (h : l.all okPt = true) {i : Nat} (hi : i < l.length) : okPt (nx l i) = true := okPt_pt h (Nat.mod_lt _ (by omega))

/-- of two different corners' edges: the program's look, either way round, is the reference's -/
theorem spoil_clash {l : List Pt} (h3 : 3 ≤ l.length) (hok : l.all okPt = true) (hd : ∀ i j, i < l.length → j < l.length → i ≠ j → pt l i ≠ pt l j) {i k : Nat} (hik : i < k) (hk : k < l.length) :
    spoil l i k = clash l i k ∧ spoil l k i = clash l i k := by
  have hi : i < l.length := by omega
  have hne : pt l i ≠ pt l k := hd i k hi hk (by omega)
  have hm : (i + 1) % l.length = i + 1 := Nat.mod_eq_of_lt (by omega)
  unfold spoil clash
  rw [if_neg hne, if_neg (Ne.symm hne)]
  by_cases h1 : k = i + 1
  · subst h1
    have hw : ¬ (i + 1 + 1) % l.length = i := by
      by_cases e : i + 1 + 1 = l.length
      · rw [e, Nat.mod_self]; omega
      · rw [Nat.mod_eq_of_lt (by omega)]; omega
    have hnx : nx l i = pt l (i + 1) := nx_of_lt (by omega)
    have hb : nx l (i + 1) ≠ pt l (i + 1) := by
      by_cases e : i + 1 + 1 = l.length
      · rw [nx_last e]; exact hd _ _ (by omega) hk (by omega)
      · rw [nx_of_lt (by omega)]; exact hd _ _ (by omega) hk (by omega)
    rw [if_pos hm, if_pos rfl, if_neg hw, if_pos hm, hnx, over_eq (okPt_pt hok hi) (okPt_pt hok hk) (okPt_nx hok hk) hne hb]
    exact ⟨rfl, rfl⟩
  · rw [if_neg h1]
    have hm1 : ¬ (i + 1) % l.length = k := by omega
    rw [if_neg hm1, if_neg hm1]
    by_cases h2 : i = 0 ∧ k + 1 = l.length
    · obtain ⟨rfl, hl⟩ := h2
      have hw : (k + 1) % l.length = 0 := by rw [hl, Nat.mod_self]
      have hnx : nx l 0 = pt l 1 := nx_of_lt (by omega)
      have hnk : nx l k = pt l 0 := nx_last hl
      have e : (onS (pt l k) (nx l k) (nx l 0) || onS (pt l 0) (nx l 0) (pt l k)) = overR (pt l 1) (pt l 0) (pt l k) := by
        rw [hnx, hnk, ← over_eq (okPt_pt hok (by omega)) (okPt_pt hok hi) (okPt_pt hok hk) (hd _ _ (by omega) hi (by omega)) (Ne.symm hne), onS_swap (pt l 1) (pt l 0), onS_swap (pt l 0) (pt l k), Bool.or_comm]
      rw [if_pos hw, if_pos hw, if_pos ⟨rfl, hl⟩, e]
      exact ⟨rfl, rfl⟩
    · have hw : ¬ (k + 1) % l.length = i := by
        by_cases e : k + 1 = l.length
        · rw [e, Nat.mod_self]; omega
        · rw [Nat.mod_eq_of_lt (by omega)]; omega
      rw [if_neg hw, if_neg hw, if_neg h2, nx_of_lt (by omega), meetS_swap2]
      exact ⟨rfl, rfl⟩
theorem spoilAny_eq {l : List Pt} (h3 : 3 ≤ l.length) (hok : l.all okPt = true) : spoilAny l = clashAny l := by
  by_cases hd : ∀ i j, i < l.length → j < l.length → i ≠ j → pt l i ≠ pt l j
  · rw [Bool.eq_iff_iff]
    unfold spoilAny clashAny
    simp only [any_range_iff, Bool.and_eq_true, decide_eq_true_eq, Bool.or_eq_true]
    constructor
    · rintro ⟨i, hi, k, hk, hn, hs⟩
      rcases Nat.lt_or_ge i k with h | h
      · exact ⟨i, hi, k, hk, h, .inr ((spoil_clash h3 hok hd h hk).1 ▸ hs)⟩
      · have hki : k < i := by omega
        exact ⟨k, hk, i, hi, hki, .inr ((spoil_clash h3 hok hd hki hi).2 ▸ hs)⟩
    · rintro ⟨i, hi, k, hk, h, hs | hs⟩
      · exact absurd hs (hd i k hi hk (by omega))
      · exact ⟨i, hi, k, hk, by omega, (spoil_clash h3 hok hd h hk).1 ▸ hs⟩
  · have : ∃ i j, i < j ∧ j < l.length ∧ pt l i = pt l j := by
      apply Classical.byContradiction
      intro hno
      apply hd
      intro i j hi hj hij e
      rcases Nat.lt_or_ge i j with h | h
      · exact hno ⟨i, j, h, hj, e⟩
      · exact hno ⟨j, i, by omega, hi, e.symm⟩
    obtain ⟨i, j, hij, hj, e⟩ := this
    have e1 : spoilAny l = true := by
      unfold spoilAny
      simp only [any_range_iff, Bool.and_eq_true, decide_eq_true_eq]
      exact ⟨i, by omega, j, hj, by omega, by unfold spoil; rw [if_pos e]⟩
    have e2 : clashAny l = true := by
      unfold clashAny
      simp only [any_range_iff, Bool.and_eq_true, decide_eq_true_eq, Bool.or_eq_true]
      exact ⟨i, by omega, j, hj, hij, .inl e⟩
    rw [e1, e2]
/-- THE RING'S CHECKS AGREE -/
theorem ckRing_eq (l : List Pt) : ckRing l = ckRingR l := by
  unfold ckRing ckRingR
  by_cases h : l.length < 3 ∨ 64 < l.length
  · rw [if_pos h, if_pos h]
  · rw [if_neg h, if_neg h]
    by_cases hok : l.all okPt = true
    · rw [if_pos hok, if_pos hok, spoilAny_eq (by omega) hok]
    · rw [if_neg hok, if_neg hok]
theorem ckBox_same (p : Pt) : ckBox ⟨p, p⟩ = if okPt p then 0 else 2 := by
  unfold ckBox
  cases h : okPt p <;> simp
theorem ckOb_eq (o : Ob) : ckOb o = ckObR o := by
  unfold ckOb ckObR
  rw [ckRing_eq, ckBox_same]
theorem ckQu_eq (q : Qu) : ckQu q = ckQuR q := by
  unfold ckQu ckQuR
  rw [ckRing_eq]
end Pg
