/-
  Plain words and laws for fractions: lowest terms, comparing, the least; the distance to a segment and to an object.
  Plain laws of the statement RelZero.
-/
import Derived.Test.YtahiaekoaokgnaaGreatPlain1
set_option linter.unusedVariables false
set_option linter.unusedSimpArgs false
namespace Pg

structure Fr where
  num : Nat
  den : Nat
instance : DecidableEq Fr := fun a b =>
  if h : a.num = b.num ∧ a.den = b.den then isTrue (by cases a; cases b; simp_all) else isFalse (fun e => h (by subst e; exact ⟨rfl, rfl⟩))
instance : Inhabited Fr := ⟨⟨0, 0⟩⟩
theorem Fr.ext' {a b : Fr} (h : a.num = b.num) (k : a.den = b.den) : a = b := by cases a; cases b; simp_all
def fNone : Fr := ⟨0, 0⟩
def lowF (n d : Nat) : Fr := ⟨n / Nat.gcd d (n % d), d / Nat.gcd d (n % d)⟩
def cmpP (a b c d : Nat) : Int := sgn (((a * b : Nat) : Int) - ((c * d : Nat) : Int))
def cmpF (a b : Fr) : Int :=
  if a.den = 0 then (if b.den = 0 then 0 else 1) else if b.den = 0 then -1 else cmpP a.num b.den b.num a.den
def minGo (o : Fr) : List Fr → Fr
  | [] => o
  | d :: r => minGo (if cmpF d o < 0 then d else o) r
def minF : List Fr → Fr
  | [] => fNone
  | d :: r => minGo d r

theorem gcd_mod (d n : Nat) : Nat.gcd d (n % d) = Nat.gcd n d := by rw [Nat.gcd_comm n d, Nat.gcd_rec d n, Nat.gcd_comm]
theorem lowF_mul {n d : Nat} (hd : 0 < d) : (lowF n d).num * d = n * (lowF n d).den ∧ 0 < (lowF n d).den ∧ (lowF n d).den ≤ d ∧ (lowF n d).num ≤ n := by
  unfold lowF
  rw [gcd_mod]
  have h1 := Nat.gcd_dvd_left n d
  have h2 := Nat.gcd_dvd_right n d
  have h3 : 0 < Nat.gcd n d := Nat.gcd_pos_of_pos_right n hd
  simp only
  refine ⟨?_, Nat.div_pos (Nat.le_of_dvd hd h2) h3, Nat.div_le_self _ _, Nat.div_le_self _ _⟩
  rw [← Nat.mul_div_assoc _ h2, Nat.div_mul_right_comm h1]
theorem lowF_one (n : Nat) : lowF n 1 = ⟨n, 1⟩ := by unfold lowF; simp
theorem lowF_zero {d : Nat} (hd : 0 < d) : lowF 0 d = ⟨0, 1⟩ := by
  unfold lowF
  rw [Nat.zero_mod, Nat.gcd_zero_right, Nat.zero_div, Nat.div_self hd]
theorem lowF_mulden (m : Nat) {d : Nat} (hd : 0 < d) : lowF (m * d) d = ⟨m, 1⟩ := by
  unfold lowF
  rw [Nat.mul_mod_left, Nat.gcd_zero_right, Nat.mul_div_cancel _ hd, Nat.div_self hd]
theorem lowF_eq_zero {n d : Nat} (hd : 0 < d) (h : (lowF n d).num = 0) : n = 0 := by
  obtain ⟨h1, h2, _⟩ := lowF_mul (n := n) hd
  rw [h, Nat.zero_mul] at h1
  rcases Nat.mul_eq_zero.1 h1.symm with h | h
  · exact h
  · omega

theorem sgn_le (n : Int) : sgn n ≤ 0 ↔ n ≤ 0 := by unfold sgn; split <;> (try split) <;> omega
theorem sgn_lt (n : Int) : sgn n < 0 ↔ n < 0 := by unfold sgn; split <;> (try split) <;> omega
theorem sgn_gt (n : Int) : 0 < sgn n ↔ 0 < n := by unfold sgn; split <;> (try split) <;> omega
/-- of two that may be -/
theorem cmpF_lt {a b : Fr} (ha : 0 < a.den) (hb : 0 < b.den) : cmpF a b < 0 ↔ a.num * b.den < b.num * a.den := by
  unfold cmpF
  rw [if_neg (by omega), if_neg (by omega)]
  unfold cmpP
  rw [sgn_lt]
  omega
theorem cmpF_le {a b : Fr} (ha : 0 < a.den) (hb : 0 < b.den) : cmpF a b ≤ 0 ↔ a.num * b.den ≤ b.num * a.den := by
  unfold cmpF
  rw [if_neg (by omega), if_neg (by omega)]
  unfold cmpP
  rw [sgn_le]
  omega
theorem minGo_mem (l : List Fr) : ∀ o, minGo o l = o ∨ minGo o l ∈ l := by
  induction l with
  | nil => intro o; exact .inl rfl
  | cons d r ih =>
    intro o
    rw [minGo]
    rcases ih (if cmpF d o < 0 then d else o) with h | h
    · rw [h]
      split
      · exact .inr (by simp)
      · exact .inl rfl
    · exact .inr (by simp [h])
theorem minF_mem {l : List Fr} (h : l ≠ []) : minF l ∈ l := by
  cases l with
  | nil => exact absurd rfl h
  | cons d r =>
    rw [minF]
    rcases minGo_mem r d with h | h
    · rw [h]; simp
    · simp [h]
/-- where all are over 1, the least is the least -/
theorem minGo_one (l : List Fr) : ∀ o, o.den = 1 → (∀ x ∈ l, x.den = 1) → (minGo o l).den = 1 ∧ (minGo o l).num ≤ o.num ∧ ∀ x ∈ l, (minGo o l).num ≤ x.num := by
  induction l with
  | nil => intro o ho _; exact ⟨ho, Nat.le_refl _, fun x hx => absurd hx (by simp)⟩
  | cons d r ih =>
    intro o ho hr
    have hd := hr d (by simp)
    have hr' : ∀ x ∈ r, x.den = 1 := fun x hx => hr x (by simp [hx])
    rw [minGo]
    by_cases hc : cmpF d o < 0
    · rw [if_pos hc]
      rw [cmpF_lt (by omega) (by omega), hd, ho] at hc
      obtain ⟨a, b, c⟩ := ih d hd hr'
      refine ⟨a, by omega, fun x hx => ?_⟩
      rcases List.mem_cons.1 hx with rfl | hx
      · exact b
      · exact c x hx
    · rw [if_neg hc]
      rw [cmpF_lt (by omega) (by omega), hd, ho] at hc
      obtain ⟨a, b, c⟩ := ih o ho hr'
      refine ⟨a, by omega, fun x hx => ?_⟩
      rcases List.mem_cons.1 hx with rfl | hx
      · omega
      · exact c x hx
theorem minF_one {l : List Fr} (h : ∀ x ∈ l, x.den = 1) {m : Nat} (hm : (⟨m, 1⟩ : Fr) ∈ l) (hl : ∀ x ∈ l, m ≤ x.num) : minF l = ⟨m, 1⟩ := by
  have hne : l ≠ [] := by intro e; rw [e] at hm; simp at hm
  have h1 := minF_mem hne
  cases l with
  | nil => exact absurd rfl hne
  | cons d r =>
    rw [minF] at h1 ⊢
    obtain ⟨a, b, c⟩ := minGo_one r d (h d (by simp)) (fun x hx => h x (by simp [hx]))
    have h2 := hl _ h1
    refine Fr.ext' ?_ a
    simp only
    rcases List.mem_cons.1 hm with e | e
    · subst e; simp only at b; omega
    · have := c _ e; simp only at this; omega
theorem cmpF_self (a : Fr) : cmpF a a = 0 := by
  unfold cmpF
  split
  · rfl
  · unfold cmpP sgn
    split <;> (try split) <;> omega
/-- the references' loop: the first one, then each that is less -/
theorem minF_first (d : Fr) (r : List Fr) : minF (d :: r) = minGo d r := rfl

/-! distances -/
def sqs (x y : Int) : Nat := x.natAbs * x.natAbs + y.natAbs * y.natAbs
def boxN (b : Bx) (p : Pt) : Nat := sqs (gap p.x b.lo.x b.hi.x) (gap p.y b.lo.y b.hi.y)
def segF (a b p : Pt) : Fr :=
  if okPt a && okPt b && okPt p then
    (if a = b ∨ dotR a b p ≤ 0 then ⟨sqs (a.x - p.x) (a.y - p.y), 1⟩
     else if dotR b a p ≤ 0 then ⟨sqs (b.x - p.x) (b.y - p.y), 1⟩
     else lowF ((crossR a b p).natAbs * (crossR a b p).natAbs) (sqs (a.x - b.x) (a.y - b.y)))
  else fNone
def segsF (l : List Pt) (p : Pt) : List Fr := (List.range l.length).map fun i => segF (pt l i) (nx l i) p
def distF (o : Ob) (p : Pt) : Fr :=
  if ckOb o = 0 ∧ okPt p = true then (if isBox o then ⟨boxN (obBox o) p, 1⟩ else if rhas o.pts p then ⟨0, 1⟩ else minF (segsF o.pts p)) else fNone

theorem sqs_zero {x y : Int} (h : sqs x y = 0) : x = 0 ∧ y = 0 := by
  unfold sqs at h
  have h1 : x.natAbs * x.natAbs = 0 := by omega
  have h2 : y.natAbs * y.natAbs = 0 := by omega
  have h3 := Nat.mul_eq_zero.1 h1
  have h4 := Nat.mul_eq_zero.1 h2
  omega
theorem sqs_int (x y : Int) : ((sqs x y : Nat) : Int) = x * x + y * y := by
  unfold sqs
  rw [Int.natCast_add, Int.natAbs_mul_self, Int.natAbs_mul_self]
theorem natAbs_sq (x : Int) : ((x.natAbs * x.natAbs : Nat) : Int) = x * x := Int.natAbs_mul_self
theorem sq_nonneg (x : Int) : 0 ≤ x * x := by rw [← natAbs_sq]; omega
theorem sqs_pos {a b : Pt} (h : a ≠ b) : 0 < sqs (a.x - b.x) (a.y - b.y) := by
  rcases Nat.eq_zero_or_pos (sqs (a.x - b.x) (a.y - b.y)) with h0 | h0
  · obtain ⟨h1, h2⟩ := sqs_zero h0
    exact absurd (Pt.ext' (by omega) (by omega)) h
  · exact h0
theorem sqs_mono {x y x' y' : Int} (h1 : x.natAbs ≤ x'.natAbs) (h2 : y.natAbs ≤ y'.natAbs) : sqs x y ≤ sqs x' y' := Nat.add_le_add (Nat.mul_le_mul h1 h1) (Nat.mul_le_mul h2 h2)
theorem segF_den {a b p : Pt} (oa : okPt a = true) (ob : okPt b = true) (op : okPt p = true) : 0 < (segF a b p).den := by
  unfold segF
  rw [oa, ob, op]
  simp only [Bool.and_self, ↓reduceIte]
  split
  · exact Nat.one_pos
  · rename_i h
    split
    · exact Nat.one_pos
    · exact (lowF_mul (sqs_pos (fun e => h (.inl e)))).2.1
theorem mul_pos_of {t v : Int} (ht : 0 < t) (hv : 0 < v) : 0 < t * v := Int.mul_pos ht hv

/-- no distance to a segment: the point is on it -/
theorem segF_zero {a b p : Pt} (oa : okPt a = true) (ob : okPt b = true) (op : okPt p = true) (h : (segF a b p).num = 0) : onS a b p = true := by
  unfold segF at h
  rw [oa, ob, op] at h
  simp only [Bool.and_self, ↓reduceIte] at h
  rw [onS_iff]
  refine ⟨⟨oa, ob, op⟩, ?_⟩
  split at h
  · obtain ⟨h1, h2⟩ := sqs_zero h
    have e : p = a := Pt.ext' (by omega) (by omega)
    subst e
    exact ⟨crossR_aba _ _, by omega, by omega⟩
  · rename_i hn
    split at h
    · obtain ⟨h1, h2⟩ := sqs_zero h
      have e : p = b := Pt.ext' (by omega) (by omega)
      subst e
      exact ⟨crossR_abb _ _, by omega, by omega⟩
    · rename_i hm
      have hne : a ≠ b := fun e => hn (.inl e)
      have h0 := lowF_eq_zero (sqs_pos hne) h
      have hc : crossR a b p = 0 := by
        have := Nat.mul_eq_zero.1 h0
        omega
      refine ⟨hc, ?_⟩
      have d1 : 0 < dotR a b p := by
        apply Int.not_le.1
        exact fun e => hn (.inr e)
      have d2 : 0 < dotR b a p := Int.not_le.1 hm
      clear h h0 hn hm oa ob op
      -- u = b - a, v = p - a: u x v = 0, u.v > 0, u.(u - v) > 0
      unfold crossR at hc
      unfold dotR at d1 d2
      obtain ⟨ax, ay⟩ := a
      obtain ⟨bx, b_y⟩ := b
      obtain ⟨px, py⟩ := p
      simp only at *
      obtain ⟨ux, hux⟩ : ∃ u, bx - ax = u := ⟨_, rfl⟩
      obtain ⟨uy, huy⟩ : ∃ u, b_y - ay = u := ⟨_, rfl⟩
      obtain ⟨vx, hvx⟩ : ∃ u, px - ax = u := ⟨_, rfl⟩
      obtain ⟨vy, hvy⟩ : ∃ u, py - ay = u := ⟨_, rfl⟩
      rw [hux, huy, hvx, hvy] at d1
      rw [hux, huy, hvx, hvy] at hc
      rw [show ax - bx = - ux by omega, show ay - b_y = -uy by omega, show px - bx = vx - ux by omega, show py - b_y = vy - uy by omega] at d2
      have d2' : 0 < ux * (ux - vx) + uy * (uy - vy) := by grind
      have k1 := same_way ux uy vx vy (by grind) d1
      have k2 := same_way ux uy (ux - vx) (uy - vy) (by grind) d2'
      have k3 : ux ≠ 0 ∨ uy ≠ 0 := by
        apply Classical.byContradiction
        intro hh
        have : ux = 0 ∧ uy = 0 := by omega
        rw [this.1, this.2] at d1
        simp at d1
      clear d1 d2 d2' hc
      omega
theorem distF_box {o : Ob} {p : Pt} (ho : ckOb o = 0) (op : okPt p = true) (h : isBox o = true) : distF o p = ⟨boxN (obBox o) p, 1⟩ := by
  unfold distF; rw [if_pos ⟨ho, op⟩, if_pos h]
theorem distF_poly {o : Ob} {p : Pt} (ho : ckOb o = 0) (op : okPt p = true) (h : isBox o = false) : distF o p = if rhas o.pts p then ⟨0, 1⟩ else minF (segsF o.pts p) := by
  unfold distF; rw [if_pos ⟨ho, op⟩, if_neg (by simp [h])]
theorem boundsS_box {o : Ob} (h : isBox o = true) : boundsS o = obBox o := by unfold boundsS; rw [if_pos h]
theorem boundsS_poly {o : Ob} (h : isBox o = false) : boundsS o = ringBx o.pts := by unfold boundsS; rw [if_neg (by simp [h])]
end Pg
set_option linter.unusedVariables false
set_option linter.unusedSimpArgs false
namespace Pg

theorem okBx_pp {p : Pt} (op : okPt p = true) : okBx ⟨p, p⟩ = true := by
  rw [okBx_iff]
  exact ⟨⟨op, op⟩, Int.le_refl _, Int.le_refl _⟩
theorem sat_pp {a b p : Pt} (oa : okPt a = true) (ob : okPt b = true) (op : okPt p = true) (h : sat a b ⟨p, p⟩) : onS a b p = true := by
  obtain ⟨⟨⟨h1, h2⟩, h3, h4⟩, n1, n2⟩ := h
  rw [onS_iff]
  simp only at h1 h2 h3 h4
  refine ⟨⟨oa, ob, op⟩, ?_, ⟨h1, h2⟩, h3, h4⟩
  unfold allPos at n1 n2
  simp only at n1 n2
  have e : crossR b a p = - crossR a b p := crossR_swap a b p
  have ep : (⟨p.x, p.y⟩ : Pt) = p := rfl
  rw [ep] at n1 n2
  rw [e] at n2
  omega
theorem cut_pp {l : List Pt} {p : Pt} (h : ckRing l = 0) (op : okPt p = true) : cutS l ⟨p, p⟩ = rhasR l p := by
  rw [cutS_eq h (okBx_pp op)]
  unfold ringBoxR
  obtain ⟨hl3, hl64, hok⟩ := ring_lens h
  rw [Bool.eq_iff_iff, Bool.or_eq_true, any_range_iff]
  constructor
  · rintro (h1 | ⟨i, hi, hm⟩)
    · exact h1
    · have oa := okPt_pt hok hi
      have ob := okPt_nx hok hi
      have hs := sat_pp oa ob op ((mboxR_iff oa ob (okBx_pp op)).1 hm)
      unfold rhasR
      rw [Bool.or_eq_true]
      left
      unfold edgeB
      rw [any_range_iff]
      exact ⟨i, hi, hs⟩
  · exact fun h => .inl h
theorem gap_zero (n l h : Int) (hl : l ≤ h) : gap n l h = 0 ↔ l ≤ n ∧ n ≤ h := by unfold gap; omega
theorem gap_nonneg (n l h : Int) : 0 ≤ gap n l h := by unfold gap; omega
theorem boxN_zero {b : Bx} {p : Pt} (hb : okBx b = true) : boxN b p = 0 ↔ inR b p := by
  obtain ⟨_, h1, h2⟩ := (okBx_iff b).1 hb
  unfold boxN inR
  rw [← gap_zero p.x _ _ h1, ← gap_zero p.y _ _ h2]
  refine ⟨sqs_zero, ?_⟩
  rintro ⟨h1, h2⟩
  rw [h1, h2]
  rfl
theorem bmeets_pp {b : Bx} {p : Pt} (hb : okBx b = true) (op : okPt p = true) : bmeets b ⟨p, p⟩ = true ↔ inR b p := by
  rw [bmeets_iff hb (okBx_pp op)]
  unfold inR
  exact ⟨fun h => ⟨⟨h.1.1, h.1.2⟩, h.2.1, h.2.2⟩, fun h => ⟨⟨h.1.1, h.1.2⟩, h.2.1, h.2.2⟩⟩
theorem segsF_ne {l : List Pt} (h : 1 ≤ l.length) (p : Pt) : segsF l p ≠ [] := by
  intro e
  have := congrArg List.length e
  simp [segsF] at this
  rw [this] at h
  simp at h
theorem mem_segsF {l : List Pt} {p : Pt} {x : Fr} (h : x ∈ segsF l p) : ∃ i, i < l.length ∧ segF (pt l i) (nx l i) p = x := by
  unfold segsF at h
  obtain ⟨i, hi, e⟩ := List.mem_map.1 h
  exact ⟨i, List.mem_range.1 hi, e⟩
theorem distF_den {o : Ob} {p : Pt} (ho : ckOb o = 0) (op : okPt p = true) : 0 < (distF o p).den := by
  unfold distF
  rw [if_pos ⟨ho, op⟩]
  split
  · exact Nat.one_pos
  · rename_i hb
    split
    · exact Nat.one_pos
    · rcases ck_kinds ho with ⟨h1, _⟩ | ⟨_, _, h2⟩
      · exact absurd h1 hb
      · obtain ⟨a, _, b⟩ := ring_lens h2
        obtain ⟨i, hi, e⟩ := mem_segsF (minF_mem (segsF_ne (l := o.pts) (by omega) p))
        rw [← e]
        exact segF_den (okPt_pt b hi) (okPt_nx b hi) op
/-- 0 away just if it is there -/
theorem zero_has {o : Ob} {p q : Pt} {l : List Pt} (ho : ckOb o = 0) (op : okPt p = true) : (decide (distF o p = ⟨0, 1⟩)) = matchS o ⟨3, ⟨p, q⟩, l⟩ := by
  rw [match_has (r := ⟨p, q⟩) ho op, Bool.eq_iff_iff, decide_eq_true_eq]
  rcases ck_kinds ho with ⟨h1, h2⟩ | ⟨_, h1, h2⟩
  · rw [distF_box ho op h1, if_pos h1, bmeets_pp h2 op, ← boxN_zero h2]
    constructor
    · intro e; exact congrArg Fr.num e
    · intro e; rw [e]
  · rw [distF_poly ho op h1, h1, cut_pp h2 op, rhas_ok h2 op]
    simp only [Bool.false_eq_true, ↓reduceIte]
    cases hr : rhasR o.pts p
    · simp only [Bool.false_eq_true, ↓reduceIte, iff_false]
      intro e
      obtain ⟨a, _, b⟩ := ring_lens h2
      obtain ⟨i, hi, e2⟩ := mem_segsF (minF_mem (segsF_ne (l := o.pts) (by omega) p))
      rw [e] at e2
      have hs := segF_zero (okPt_pt b hi) (okPt_nx b hi) op (by rw [e2])
      have : edgeB o.pts p = true := by
        unfold edgeB
        rw [any_range_iff]
        exact ⟨i, hi, hs⟩
      unfold rhasR at hr
      rw [this] at hr
      cases hr
    · simp
theorem in_meets {o : Ob} {r : Bx} (ho : ckOb o = 0) (hr : ckBox r = 0) (h : matchS o ⟨2, r, []⟩ = true) : matchS o ⟨1, r, []⟩ = true := by
  have hb := bounds_okBx ho
  rw [match_in ho hr] at h
  exact nest_meets ho (okBx_ck.1 hb) (okBx_ck.2 hr) ((binside_iff hb (okBx_ck.2 hr)).1 h) (nest_self_meets ho)
theorem meets_bounds {o : Ob} {r : Bx} (ho : ckOb o = 0) (hr : ckBox r = 0) (h : matchS o ⟨1, r, []⟩ = true) : bmeets (boundsS o) r = true := by
  have hb := bounds_okBx ho
  have hr' := okBx_ck.2 hr
  rw [match_meets ho hr] at h
  rcases ck_kinds ho with ⟨h1, h2⟩ | ⟨_, h1, h2⟩
  · rw [if_pos h1] at h
    unfold boundsS
    rw [if_pos h1]
    exact h
  · rw [if_neg (by simp [h1]), cutS_eq h2 hr'] at h
    unfold boundsS at hb ⊢
    rw [if_neg (by simp [h1])] at hb ⊢
    obtain ⟨a, _, b⟩ := ring_lens h2
    rw [bmeets_iff hb hr']
    obtain ⟨⟨o1, o2⟩, o3, o4⟩ := (okBx_iff r).1 hr'
    unfold ringBoxR at h
    rw [Bool.or_eq_true, any_range_iff] at h
    rcases h with h | ⟨i, hi, hm⟩
    · have := rhasR_in (by omega) b o1 h
      unfold inR at this
      omega
    · obtain ⟨⟨⟨s1, s2⟩, s3, s4⟩, _⟩ := (mboxR_iff (okPt_pt b hi) (okPt_nx b hi) hr').1 hm
      have k1 := (ringBx_spec (by omega) b).2.1 i hi
      have k2 := (ringBx_spec (l := o.pts) (by omega) b).2.1 ((i + 1) % o.pts.length) (Nat.mod_lt _ (by omega))
      have k3 : inR (ringBx o.pts) (nx o.pts i) := k2
      unfold inR at k1 k3
      omega
theorem has_meets {o : Ob} {r : Bx} {p q : Pt} (ho : ckOb o = 0) (op : okPt p = true) (hr : ckBox r = 0) (h : matchS o ⟨3, ⟨p, q⟩, []⟩ = true) (hb : bhas r p = true) : matchS o ⟨1, r, []⟩ = true := by
  have hp := okBx_pp op
  have hin := (bhas_iff (okBx_ck.2 hr) op).1 hb
  rw [match_has (r := ⟨p, q⟩) ho op] at h
  refine nest_meets ho (okBx_ck.1 hp) (okBx_ck.2 hr) ?_ ((match_meets ho (okBx_ck.1 hp)).trans h)
  unfold inR at hin
  unfold inB
  simp only
  omega
theorem touch_self {o : Ob} (ho : ckOb o = 0) : touchS o o = true := by
  unfold touchS
  rw [ho]
  simp only [decide_true, Bool.true_and]
  unfold meetsO
  rcases ck_kinds ho with ⟨h1, h2⟩ | ⟨_, h1, h2⟩
  · rw [if_pos h1, if_pos h1, bmeets_iff h2 h2]
    obtain ⟨_, h3, h4⟩ := (okBx_iff _).1 h2
    omega
  · rw [if_neg (by simp [h1]), if_neg (by simp [h1]), ringsS_eq h2 h2]
    unfold ringsR
    rw [rhasR_first h2]
    rfl

/-! the box is no farther -/
theorem gap_le {n lo hi x : Int} (h1 : lo ≤ x) (h2 : x ≤ hi) : (gap n lo hi).natAbs ≤ (x - n).natAbs := by unfold gap; omega
theorem box_pt {b : Bx} {a p : Pt} (h : inR b a) : boxN b p ≤ sqs (a.x - p.x) (a.y - p.y) :=
  sqs_mono (gap_le h.1.1 h.1.2) (gap_le h.2.1 h.2.2)
theorem mul_self_le {x y : Int} (h0 : 0 ≤ x) (h : x ≤ y) : x * x ≤ y * y := Int.mul_le_mul h h h0 (by omega)
theorem gap_scaled {n lo hi a b s t N d : Int} (hN : N = s + t) (hs : 0 ≤ s) (ht : 0 ≤ t) (a1 : lo ≤ a) (a2 : a ≤ hi) (b1 : lo ≤ b) (b2 : b ≤ hi) (hd : d = N * n - (s * a + t * b)) :
    (N * gap n lo hi) * (N * gap n lo hi) ≤ d * d := by
  have g0 := gap_nonneg n lo hi
  have x1 := Int.mul_le_mul_of_nonneg_left a1 hs
  have x2 := Int.mul_le_mul_of_nonneg_left a2 hs
  have x3 := Int.mul_le_mul_of_nonneg_left b1 ht
  have x4 := Int.mul_le_mul_of_nonneg_left b2 ht
  have N0 : 0 ≤ N := by omega
  have y0 := Int.mul_nonneg N0 g0
  have eN : N * lo = s * lo + t * lo := by rw [hN, Int.add_mul]
  have eH : N * hi = s * hi + t * hi := by rw [hN, Int.add_mul]
  rcases (show gap n lo hi = 0 ∨ gap n lo hi = lo - n ∨ gap n lo hi = n - hi by unfold gap; omega) with e | e | e
  · rw [e, Int.mul_zero]
    exact sq_nonneg d
  · rw [e] at y0 ⊢
    have : N * (lo - n) ≤ -d := by rw [Int.mul_sub]; omega
    have := mul_self_le y0 this
    rw [Int.neg_mul_neg] at this
    exact this
  · rw [e] at y0 ⊢
    have : N * (n - hi) ≤ d := by rw [Int.mul_sub]; omega
    exact mul_self_le y0 this
theorem box_mid {b : Bx} {a c p : Pt} (ha : inR b a) (hc : inR b c) (hne : a ≠ c) (d1 : 0 ≤ dotR a c p) (d2 : 0 ≤ dotR c a p) :
    boxN b p * sqs (a.x - c.x) (a.y - c.y) ≤ (crossR a c p).natAbs * (crossR a c p).natAbs := by
  have hpos := sqs_pos hne
  have hN : ((sqs (a.x - c.x) (a.y - c.y) : Nat) : Int) = dotR c a p + dotR a c p := by
    rw [sqs_int]; unfold dotR; grind
  have eb : ((boxN b p : Nat) : Int) = gap p.x b.lo.x b.hi.x * gap p.x b.lo.x b.hi.x + gap p.y b.lo.y b.hi.y * gap p.y b.lo.y b.hi.y := by unfold boxN; rw [sqs_int]
  have ec : (((crossR a c p).natAbs * (crossR a c p).natAbs : Nat) : Int) = crossR a c p * crossR a c p := natAbs_sq _
  have hN2 : ((sqs (a.x - c.x) (a.y - c.y) : Nat) : Int) = (a.x - c.x) * (a.x - c.x) + (a.y - c.y) * (a.y - c.y) := sqs_int _ _
  generalize sqs (a.x - c.x) (a.y - c.y) = N at *
  have gx := gap_scaled (n := p.x) (lo := b.lo.x) (hi := b.hi.x) (a := a.x) (b := c.x) (d := -(crossR a c p * (c.y - a.y))) hN d2 d1 ha.1.1 ha.1.2 hc.1.1 hc.1.2 (by rw [hN2]; unfold crossR dotR; grind)
  have gy := gap_scaled (n := p.y) (lo := b.lo.y) (hi := b.hi.y) (a := a.y) (b := c.y) (d := crossR a c p * (c.x - a.x)) hN d2 d1 ha.2.1 ha.2.2 hc.2.1 hc.2.2 (by rw [hN2]; unfold crossR dotR; grind)
  have key : (N : Int) * ((N : Int) * (boxN b p : Nat)) ≤ (N : Int) * (crossR a c p * crossR a c p) := by
    rw [eb]
    have e1 : (N : Int) * ((N : Int) * (gap p.x b.lo.x b.hi.x * gap p.x b.lo.x b.hi.x + gap p.y b.lo.y b.hi.y * gap p.y b.lo.y b.hi.y)) = (N * gap p.x b.lo.x b.hi.x) * (N * gap p.x b.lo.x b.hi.x) + (N * gap p.y b.lo.y b.hi.y) * (N * gap p.y b.lo.y b.hi.y) := by grind
    have e2 : (N : Int) * (crossR a c p * crossR a c p) = (-(crossR a c p * (c.y - a.y))) * (-(crossR a c p * (c.y - a.y))) + (crossR a c p * (c.x - a.x)) * (crossR a c p * (c.x - a.x)) := by rw [hN2]; grind
    rw [e1, e2]
    omega
  have hN0 : (0 : Int) < N := by omega
  have := Int.le_of_mul_le_mul_left key hN0
  rw [← ec] at this
  have h3 : ((N * boxN b p : Nat) : Int) ≤ (((crossR a c p).natAbs * (crossR a c p).natAbs : Nat) : Int) := by rw [Int.natCast_mul]; exact this
  rw [Nat.mul_comm]
  omega
theorem box_seg {b : Bx} {a c p : Pt} (oa : okPt a = true) (oc : okPt c = true) (op : okPt p = true) (ha : inR b a) (hc : inR b c) : boxN b p * (segF a c p).den ≤ (segF a c p).num := by
  unfold segF
  rw [oa, oc, op]
  simp only [Bool.and_self, ↓reduceIte]
  split
  · simp only [Nat.mul_one]; exact box_pt ha
  · rename_i h
    split
    · simp only [Nat.mul_one]; exact box_pt hc
    · rename_i h2
      have hne : a ≠ c := fun e => h (.inl e)
      have hpos := sqs_pos hne
      obtain ⟨l1, l2, _⟩ := lowF_mul (n := (crossR a c p).natAbs * (crossR a c p).natAbs) hpos
      have hm := box_mid (p := p) ha hc hne (by have := fun e => h (.inr e); omega) (by omega)
      generalize lowF _ _ = f at *
      generalize sqs _ _ = N at *
      generalize (crossR a c p).natAbs * (crossR a c p).natAbs = C at *
      have h3 : (boxN b p * f.den) * N ≤ f.num * N := by
        rw [l1]
        calc (boxN b p * f.den) * N = (boxN b p * N) * f.den := by grind
          _ ≤ C * f.den := Nat.mul_le_mul_right _ hm
      exact Nat.le_of_mul_le_mul_right h3 hpos
theorem box_near {o : Ob} {p : Pt} (ho : ckOb o = 0) (op : okPt p = true) : cmpF ⟨boxN (boundsS o) p, 1⟩ (distF o p) ≤ 0 := by
  rw [cmpF_le Nat.one_pos (distF_den ho op)]
  simp only [Nat.mul_one]
  rcases ck_kinds ho with ⟨h1, h2⟩ | ⟨_, h1, h2⟩
  · rw [distF_box ho op h1, boundsS_box h1]
    simp
  · rw [distF_poly ho op h1, boundsS_poly h1]
    obtain ⟨a, _, b⟩ := ring_lens h2
    have hsp := ringBx_spec (l := o.pts) (by omega) b
    cases hr : rhas o.pts p
    · simp only [Bool.false_eq_true, ↓reduceIte]
      obtain ⟨i, hi, e2⟩ := mem_segsF (minF_mem (segsF_ne (l := o.pts) (by omega) p))
      rw [← e2]
      exact box_seg (okPt_pt b hi) (okPt_nx b hi) op (hsp.2.1 i hi) (hsp.2.1 ((i + 1) % o.pts.length) (Nat.mod_lt _ (by omega)))
    · simp only [↓reduceIte]
      rw [rhas_ok h2 op] at hr
      have := (boxN_zero hsp.2.2.2).2 (rhasR_in (by omega) b op hr)
      omega
end Pg
