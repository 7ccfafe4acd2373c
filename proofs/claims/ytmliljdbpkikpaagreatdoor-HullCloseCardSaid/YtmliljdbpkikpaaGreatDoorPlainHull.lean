/-
  Plain laws of the hull's sides: a chain turns always to the left, has all points on its left, and is the only one that does.
  Plain laws of the hull: there is one chain of points at most; the farthest in any direction is on it; the two sides together turn always to the left.
  Plain laws of the hull: the program's hull is the hull of its points; there is one only; it turns always to the left.
  Plain laws of the hull, as the statements ask: how it turns, that it is a ring that may be, the box around it, one more point, the farthest two.
  Plain laws of the hull: one more point inside it; the reference's way round it.
  Plain laws of the hull: the reference's way round it, corner by corner.
  Plain laws for the statements of the hull: why points may not be, of two rows with the same members; the hull of both; the farthest corners.
-/
import Derived.Test.YtmliljdbpkikpaaGreatDoorHulE
import Derived.Test.YtmliljdbpkikpaaGreatDoorPlainPair
set_option linter.unusedVariables false
set_option linter.unusedSimpArgs false
namespace Pg
/-- ahead: to the right, or straight up -/
def Vp (x y : Int) : Prop := 0 < x ∨ (x = 0 ∧ 0 < y)
theorem sqnn (a : Int) : 0 ≤ a * a := by
  rcases Int.le_total 0 a with h | h
  · exact Int.mul_nonneg h h
  · have := Int.mul_nonneg (show 0 ≤ -a by omega) (show 0 ≤ -a by omega)
    rwa [Int.neg_mul_neg] at this
theorem ppos {a b : Int} (ha : 0 < a) (h : 0 < a * b) : 0 < b := by
  rcases Int.lt_or_le 0 b with hb | hb
  · exact hb
  · have := Int.mul_nonneg (Int.le_of_lt ha) (show 0 ≤ -b by omega)
    rw [Int.mul_neg] at this
    omega
theorem pnn {a b : Int} (ha : 0 < a) (h : 0 ≤ a * b) : 0 ≤ b := by
  rcases Int.lt_or_le b 0 with hb | hb
  · have := Int.mul_pos ha (show 0 < -b by omega)
    rw [Int.mul_neg] at this
    omega
  · exact hb
theorem plk (ux uy vx vy wx wy : Int) : vx * (ux * wy - uy * wx) = ux * (vx * wy - vy * wx) + wx * (ux * vy - uy * vx) := by grind
theorem V3 {ux uy vx vy wx wy : Int} (hu : Vp ux uy) (hv : Vp vx vy) (hw : Vp wx wy) (h1 : 0 ≤ ux * vy - uy * vx) (h2 : 0 < vx * wy - vy * wx) : 0 < ux * wy - uy * wx := by
  have e := plk ux uy vx vy wx wy
  have hw0 : 0 ≤ wx := by rcases hw with h | h <;> omega
  rcases hv with hv | ⟨hv, hv2⟩
  · rcases hu with hu | ⟨hu, hu2⟩
    · refine ppos hv ?_
      rw [e]
      have a := Int.mul_pos hu h2
      have b := Int.mul_nonneg hw0 h1
      omega
    · subst hu
      have := Int.mul_pos hu2 hv
      simp at h1
      omega
  · subst hv
    have := Int.mul_nonneg (Int.le_of_lt hv2) hw0
    simp at h2
    omega
theorem V3b {ux uy vx vy wx wy : Int} (hu : Vp ux uy) (hv : Vp vx vy) (hw : Vp wx wy) (h1 : 0 < ux * vy - uy * vx) (h2 : 0 ≤ vx * wy - vy * wx) : 0 < ux * wy - uy * wx := by
  have e := plk ux uy vx vy wx wy
  have hu0 : 0 ≤ ux := by rcases hu with h | h <;> omega
  rcases hv with hv | ⟨hv, hv2⟩
  · rcases hw with hw | ⟨hw, hw2⟩
    · refine ppos hv ?_
      rw [e]
      have a := Int.mul_nonneg hu0 h2
      have b := Int.mul_pos hw h1
      omega
    · subst hw
      rcases hu with hu | ⟨hu, hu2⟩
      · have := Int.mul_pos hu hw2
        simp
        omega
      · subst hu
        have := Int.mul_pos hu2 hv
        simp at h1
        omega
  · subst hv
    rcases hw with hw | ⟨hw, hw2⟩
    · have := Int.mul_pos hv2 hw
      simp at h2
      omega
    · subst hw
      simp at h1
      have hux : 0 < ux := by
        rcases Int.lt_or_le 0 ux with h | h
        · exact h
        · have : ux = 0 := by omega
          subst this
          simp at h1
      have := Int.mul_pos hux hw2
      simp
      omega
theorem V2 {ux uy vx vy wx wy : Int} (hu : Vp ux uy) (hv : Vp vx vy) (hw : Vp wx wy) (h1 : 0 ≤ ux * vy - uy * vx) (h2 : 0 ≤ vx * wy - vy * wx) : 0 ≤ ux * wy - uy * wx := by
  rcases Int.lt_or_le 0 (ux * vy - uy * vx) with h | h
  · exact Int.le_of_lt (V3b hu hv hw h h2)
  · rcases Int.lt_or_le 0 (vx * wy - vy * wx) with h' | h'
    · exact Int.le_of_lt (V3 hu hv hw h1 h')
    · have a : ux * vy - uy * vx = 0 := by omega
      have b : vx * wy - vy * wx = 0 := by omega
      have e := plk ux uy vx vy wx wy
      rw [a, b] at e
      simp only [Int.mul_zero, Int.add_zero] at e
      rcases hv with hv | ⟨hv, hv2⟩
      · exact pnn hv (by rw [e]; exact Int.le_refl _)
      · subst hv
        have hux : ux = 0 := by
          rcases Int.mul_eq_zero.1 (show ux * vy = 0 by simpa using a) with h | h
          · exact h
          · omega
        have hwx : wx = 0 := by
          rcases Int.mul_eq_zero.1 (show vy * wx = 0 by simp at b; omega) with h | h
          · omega
          · exact h
        subst hux hwx
        simp

/-- b is ahead of a, in one of the two directions -/
def RR (s : Int) (a b : Pt) : Prop := Vp (s * (b.x - a.x)) (s * (b.y - a.y))
def Sg (s : Int) : Prop := s = 1 ∨ s = -1
theorem Sg.sq {s : Int} (h : Sg s) : s * s = 1 := by rcases h with rfl | rfl <;> rfl
theorem RR.tr {s : Int} (hs : Sg s) {a b c : Pt} (h1 : RR s a b) (h2 : RR s b c) : RR s a c := by
  unfold RR Vp at *
  rcases hs with rfl | rfl <;> omega
theorem RR.irr {s : Int} (hs : Sg s) (a : Pt) : ¬ RR s a a := by
  unfold RR Vp
  rcases hs with rfl | rfl <;> omega
theorem RR.asymm {s : Int} (hs : Sg s) {a b : Pt} (h1 : RR s a b) (h2 : RR s b a) : False := RR.irr hs a (h1.tr hs h2)
theorem RR.total {s : Int} (hs : Sg s) {a b : Pt} (h : a ≠ b) : RR s a b ∨ RR s b a := by
  have : a.x ≠ b.x ∨ a.y ≠ b.y := by
    rcases Decidable.em (a.x = b.x) with e | e
    · rcases Decidable.em (a.y = b.y) with e2 | e2
      · exact absurd (Pt.ext' e e2) h
      · exact .inr e2
    · exact .inl e
  unfold RR Vp
  rcases hs with rfl | rfl <;> omega
theorem RR.neg {s : Int} {a b : Pt} : RR (-s) a b ↔ RR s b a := by
  unfold RR
  rw [show -s * (b.x - a.x) = s * (a.x - b.x) by grind, show -s * (b.y - a.y) = s * (a.y - b.y) by grind]
theorem cr_rot (a b c : Pt) : crossR b c a = crossR a b c := by unfold crossR; grind
theorem cr_swap (a b c : Pt) : crossR a c b = -crossR a b c := by unfold crossR; grind
theorem cr_self (a b : Pt) : crossR a b b = 0 := by unfold crossR; grind
theorem cr_self2 (a b : Pt) : crossR a b a = 0 := by unfold crossR; grind
section
variable {s : Int}
theorem cr_vec (hs : Sg s) (a b c : Pt) : crossR a b c = s * (b.x - a.x) * (s * (c.y - b.y)) - s * (b.y - a.y) * (s * (c.x - b.x)) := by
  have := hs.sq
  unfold crossR
  grind
theorem cr_far (hs : Sg s) {a b c d : Pt} (h1 : RR s a b) (h2 : RR s b c) (h3 : RR s c d) (k1 : 0 < crossR a b c) (k2 : 0 < crossR b c d) : 0 < crossR a b d ∧ 0 < crossR a c d := by
  have e1 := cr_vec hs a b c
  have e2 := cr_vec hs b c d
  have h := V3 h1 h2 h3 (by omega) (by omega)
  have e3 : crossR a b d = crossR a b c + (s * (b.x - a.x) * (s * (d.y - c.y)) - s * (b.y - a.y) * (s * (d.x - c.x))) := by
    have := hs.sq
    unfold crossR
    grind
  have e4 : crossR a c d = crossR b c d + (s * (b.x - a.x) * (s * (d.y - c.y)) - s * (b.y - a.y) * (s * (d.x - c.x))) := by
    have := hs.sq
    unfold crossR
    grind
  omega
/-- q behind a: the next edge has it on its left -/
theorem cr_back (hs : Sg s) {z a p q : Pt} (h1 : RR s q a) (h2 : RR s z a) (h3 : RR s a p) (k1 : 0 ≤ crossR z a q) (k2 : 0 < crossR z a p) : 0 < crossR a p q := by
  have e1 : crossR z a q = s * (a.x - q.x) * (s * (a.y - z.y)) - s * (a.y - q.y) * (s * (a.x - z.x)) := by
    have := hs.sq
    unfold crossR
    grind
  have h := V3 h1 h2 h3 (by omega) (by have := cr_vec hs z a p; omega)
  have e2 : crossR a p q = s * (a.x - q.x) * (s * (p.y - a.y)) - s * (a.y - q.y) * (s * (p.x - a.x)) := by
    have := hs.sq
    unfold crossR
    grind
  omega
/-- q ahead of b: the edge before has it on its left -/
theorem cr_fore (hs : Sg s) {a b c q : Pt} (h1 : RR s a b) (h2 : RR s b c) (h3 : RR s b q) (k1 : 0 < crossR a b c) (k2 : 0 ≤ crossR b c q) : 0 < crossR a b q := by
  have e2 : crossR b c q = s * (c.x - b.x) * (s * (q.y - b.y)) - s * (c.y - b.y) * (s * (q.x - b.x)) := by
    have := hs.sq
    unfold crossR
    grind
  have h := V3b h1 h2 h3 (by have := cr_vec hs a b c; omega) (by omega)
  have := cr_vec hs a b q
  omega
/-- without b, that bends to the right: what was on the left still is -/
theorem cr_drop (hs : Sg s) {a b p q : Pt} (h1 : RR s a b) (h2 : RR s b p) (h3 : RR s a q) (k1 : 0 ≤ crossR a b q) (k2 : crossR a b p ≤ 0) : 0 ≤ crossR a p q := by
  have e1 : crossR a b q = s * (b.x - a.x) * (s * (q.y - a.y)) - s * (b.y - a.y) * (s * (q.x - a.x)) := by
    have := hs.sq
    unfold crossR
    grind
  have e2 : -crossR a b p = s * (p.x - b.x) * (s * (b.y - a.y)) - s * (p.y - b.y) * (s * (b.x - a.x)) := by
    have := hs.sq
    unfold crossR
    grind
  have h := V2 h2 h1 h3 (by omega) (by omega)
  have e3 : crossR a p q = crossR a b q + (s * (p.x - b.x) * (s * (q.y - a.y)) - s * (p.y - b.y) * (s * (q.x - a.x))) := by
    have := hs.sq
    unfold crossR
    grind
  omega
/-- between a and b, on their line, nothing is on another side than they -/
theorem cr_mid (hs : Sg s) {a b q y z : Pt} (h1 : RR s a q) (h2 : RR s q b) (h3 : RR s y z) (k1 : crossR y z a ≤ 0) (k2 : crossR y z b ≤ 0) (k3 : 0 < crossR y z q) : crossR a b q ≠ 0 := by
  intro h0
  have e1 : crossR y z q - crossR y z a = s * (z.x - y.x) * (s * (q.y - a.y)) - s * (z.y - y.y) * (s * (q.x - a.x)) := by
    have := hs.sq
    unfold crossR
    grind
  have e2 : crossR y z q - crossR y z b = s * (b.x - q.x) * (s * (z.y - y.y)) - s * (b.y - q.y) * (s * (z.x - y.x)) := by
    have := hs.sq
    unfold crossR
    grind
  have h := V3 h2 h3 h1 (by omega) (by omega)
  have e3 : crossR a b q = s * (b.x - q.x) * (s * (q.y - a.y)) - s * (b.y - q.y) * (s * (q.x - a.x)) := by
    have := hs.sq
    unfold crossR
    grind
  omega
end
theorem orient_le {a b c : Pt} (ha : okPt a = true) (hb : okPt b = true) (hc : okPt c = true) : orient a b c ≤ 0 ↔ crossR a b c ≤ 0 := by
  unfold orient cross sgn
  rw [ha, hb, hc]
  simp only [Bool.and_self, if_true]
  split
  · omega
  · split <;> omega

/-- of each two that follow each other -/
def EdgesP (P : Pt → Pt → Prop) : List Pt → Prop
  | a :: b :: r => P a b ∧ EdgesP P (b :: r)
  | _ => True
theorem EdgesP.tail {P : Pt → Pt → Prop} {a : Pt} {r : List Pt} (h : EdgesP P (a :: r)) : EdgesP P r := by
  cases r with
  | nil => trivial
  | cons b r => exact h.2
theorem EdgesP.imp {P Q : Pt → Pt → Prop} : ∀ (t : List Pt), (∀ a b, [a, b].Sublist t → P a b → Q a b) → EdgesP P t → EdgesP Q t
  | [], _, _ => trivial
  | [_], _, _ => trivial
  | a :: b :: r, h, k => ⟨h a b (by simp) k.1, EdgesP.imp (b :: r) (fun x y hs hp => h x y (hs.cons a) hp) k.2⟩
/-- the work of a chain: the last points first -/
structure Stk (s : Int) (S : Pt → Prop) (rs : List Pt) : Prop where
  sub : ∀ q ∈ rs, S q
  mono : rs.Pairwise (fun y x => RR s x y)
  tri : ∀ a b c, [c, b, a].Sublist rs → 0 < crossR a b c
  left : EdgesP (fun b a => ∀ q, S q → 0 ≤ crossR a b q) rs
  bot : ∃ z, rs.getLast? = some z ∧ ∀ q, S q → q = z ∨ RR s z q
theorem Stk.tail {s : Int} {S : Pt → Prop} {a b : Pt} {r : List Pt} (h : Stk s S (a :: b :: r)) : Stk s S (b :: r) := by
  refine ⟨fun q hq => h.sub q (List.mem_cons_of_mem _ hq), (List.pairwise_cons.1 h.mono).2, fun x y z hs => h.tri x y z (hs.cons a), h.left.2, ?_⟩
  obtain ⟨z, hz, h2⟩ := h.bot
  exact ⟨z, by simpa using hz, h2⟩
theorem pop_inv {s : Int} {S : Pt → Prop} {p : Pt} (hs : Sg s) (hS : ∀ q, S q → RR s q p) (hok : ∀ q, S q → okPt q = true) (hp : okPt p = true) : ∀ (a : Pt) (r : List Pt), Stk s S (a :: r) → (∀ q, S q → RR s a q → 0 ≤ crossR a p q) →
    ∃ a' r', popR p (a :: r) = a' :: r' ∧ Stk s S (a' :: r') ∧ (∀ q, S q → RR s a' q → 0 ≤ crossR a' p q) ∧ (∀ b t, r' = b :: t → 0 < crossR b a' p)
  | a, [], h, k => ⟨a, [], rfl, h, k, fun _ _ e => by cases e⟩
  | a, b :: r, h, k => by
    have ha := h.sub a (by simp)
    have hb := h.sub b (by simp)
    have hab : RR s b a := (List.pairwise_cons.1 h.mono).1 b (by simp)
    by_cases ho : orient b a p ≤ 0
    · rw [popR_pop ho]
      rw [orient_le (hok b hb) (hok a ha) hp] at ho
      exact pop_inv hs hS hok hp b r h.tail fun q hq hbq => cr_drop hs hab (hS a ha) hbq (h.left.1 q hq) ho
    · rw [popR_stay ho]
      rw [orient_le (hok b hb) (hok a ha) hp] at ho
      exact ⟨a, b :: r, rfl, h, k, fun _ _ e => by cases e; omega⟩
theorem push_inv {s : Int} {S : Pt → Prop} {p a : Pt} {r : List Pt} (hs : Sg s) (hS : ∀ q, S q → RR s q p) (h : Stk s S (a :: r)) (h2 : ∀ q, S q → RR s a q → 0 ≤ crossR a p q) (h3 : ∀ b t, r = b :: t → 0 < crossR b a p) :
    Stk s (fun q => S q ∨ q = p) (p :: a :: r) := by
  have ha := h.sub a (by simp)
  have hm := List.pairwise_cons.1 h.mono
  have hx : ∀ x ∈ r, 0 < crossR x a p := by
    intro x hx
    cases r with
    | nil => cases hx
    | cons b t =>
      have hb := h3 b t rfl
      have hm2 := List.pairwise_cons.1 hm.2
      rcases List.mem_cons.1 hx with rfl | hx
      · exact hb
      · have h1 := h.tri x b a (by simpa using hx)
        exact (cr_far hs (hm2.1 x hx) (hm.1 b (by simp)) (hS a ha) h1 hb).2
  have hT : ∀ x b c, [c, b, x].Sublist (p :: a :: r) → 0 < crossR x b c := by
    intro x b c hsub
    cases hsub with
    | cons _ h' => exact h.tri x b c h'
    | cons_cons _ h' =>
      cases h' with
      | cons_cons _ h'' => exact hx x (by simpa using h'')
      | cons _ h'' =>
        have hb : b ∈ r := h''.subset (by simp)
        have hxr : x ∈ r := h''.subset (by simp)
        have h1 := h.tri x b a (h''.cons_cons a)
        have h4 := hx b hb
        have hxb : RR s x b := by
          have := List.Pairwise.sublist h'' hm.2
          simpa using this
        exact (cr_far hs hxb (hm.1 b hb) (hS a ha) h1 h4).1
  refine ⟨?_, ?_, hT, ⟨?_, ?_⟩, ?_⟩
  · intro q hq
    rcases List.mem_cons.1 hq with rfl | hq
    · exact .inr rfl
    · exact .inl (h.sub q hq)
  · exact List.pairwise_cons.2 ⟨fun x hx => hS x (h.sub x hx), h.mono⟩
  · rintro q (hq | rfl)
    · rcases Decidable.em (q = a) with rfl | hqa
      · rw [cr_self2]; exact Int.le_refl _
      · rcases RR.total hs hqa with hqa | hqa
        · cases r with
          | nil =>
            obtain ⟨z, hz, hb⟩ := h.bot
            simp at hz
            subst hz
            rcases hb q hq with rfl | hb
            · exact absurd rfl (by assumption)
            · exact (RR.asymm hs hb hqa).elim
          | cons b t => exact Int.le_of_lt (cr_back hs hqa (hm.1 b (by simp)) (hS a ha) (h.left.1 q hq) (h3 b t rfl))
        · exact h2 q hq hqa
    · rw [cr_self]; exact Int.le_refl _
  · refine EdgesP.imp _ ?_ h.left
    rintro y x hyx hl q (hq | rfl)
    · exact hl q hq
    · exact Int.le_of_lt (hT x y q (hyx.cons_cons q))
  · obtain ⟨z, hz, hb⟩ := h.bot
    refine ⟨z, by simpa using hz, ?_⟩
    rintro q (hq | rfl)
    · exact hb q hq
    · exact .inr (hS z (h.sub z (List.mem_of_getLast? hz)))
theorem chain_fold {s : Int} (hs : Sg s) : ∀ (l pre : List Pt) (a : Pt) (r : List Pt), Stk s (· ∈ pre) (a :: r) → (∀ q ∈ pre, q = a ∨ RR s q a) → (pre ++ l).Pairwise (RR s) → (∀ q ∈ pre ++ l, okPt q = true) →
    ∃ a' r', l.foldl (fun rs p => p :: popR p rs) (a :: r) = a' :: r' ∧ Stk s (· ∈ pre ++ l) (a' :: r') ∧ (∀ q ∈ pre ++ l, q = a' ∨ RR s q a')
  | [], pre, a, r, h, k, _, _ => ⟨a, r, rfl, by simpa using h, by simpa using k⟩
  | p :: l, pre, a, r, h, k, hm, hok => by
    have hp : ∀ q ∈ pre, RR s q p := fun q hq => (List.pairwise_append.1 hm).2.2 q hq p (by simp)
    obtain ⟨a1, r1, e1, h1, h2, h3⟩ := pop_inv (p := p) hs hp (fun q hq => hok q (by simp [hq])) (hok p (by simp)) a r h (fun q hq ha => by
      rcases k q hq with rfl | hk
      · exact (RR.irr hs _ ha).elim
      · exact (RR.asymm hs ha hk).elim)
    have h4 := push_inv hs hp h1 h2 h3
    have e : pre ++ p :: l = (pre ++ [p]) ++ l := by simp
    rw [List.foldl_cons, e1, e]
    rw [e] at hm hok
    refine chain_fold hs l (pre ++ [p]) p (a1 :: r1) ?_ ?_ hm hok
    · simpa using h4
    · intro q hq
      rcases List.mem_append.1 hq with hq | hq
      · exact .inr (hp q hq)
      · exact .inl (by simpa using hq)

/-- one side of a hull: what it must be -/
def Adj (t : List Pt) (a b : Pt) : Prop := ∃ l1 l2, t = l1 ++ a :: b :: l2
structure LC (s : Int) (S : Pt → Prop) (t : List Pt) : Prop where
  sub : ∀ q ∈ t, S q
  mono : t.Pairwise (RR s)
  tri : ∀ a b c, [a, b, c].Sublist t → 0 < crossR a b c
  left : ∀ a b, Adj t a b → ∀ q, S q → 0 ≤ crossR a b q
  first : ∃ z, t.head? = some z ∧ ∀ q, S q → q = z ∨ RR s z q
  last : ∃ z, t.getLast? = some z ∧ ∀ q, S q → q = z ∨ RR s q z
theorem EdgesP.adj {P : Pt → Pt → Prop} {a b : Pt} {l2 : List Pt} : ∀ (l1 : List Pt), EdgesP P (l1 ++ a :: b :: l2) → P a b
  | [], h => h.1
  | x :: l1, h => EdgesP.adj l1 (EdgesP.tail h)
theorem chain_LC {s : Int} (hs : Sg s) {l : List Pt} (hl : l ≠ []) (hm : l.Pairwise (RR s)) (hok : ∀ q ∈ l, okPt q = true) : LC s (· ∈ l) (chainS l) := by
  cases l with
  | nil => exact absurd rfl hl
  | cons p l =>
    obtain ⟨a, r, e, h, k⟩ := chain_fold hs l [p] p [] ⟨by simp, by simp, fun a b c hh => by have := hh.length_le; simp at this, trivial, p, rfl, by simp⟩ (by simp) hm hok
    have e2 : chainR (p :: l) = a :: r := e
    unfold chainS
    rw [e2]
    refine ⟨fun q hq => h.sub q (List.mem_reverse.1 hq), by rw [List.pairwise_reverse]; exact h.mono, fun x y z hh => h.tri x y z ?_, ?_, ?_, ?_⟩
    · have := hh.reverse
      rw [List.reverse_reverse] at this
      simpa using this
    · rintro x y ⟨l1, l2, e3⟩
      have e4 : a :: r = l2.reverse ++ y :: x :: l1.reverse := by
        have := congrArg List.reverse e3
        rw [List.reverse_reverse] at this
        rw [this]
        simp
      have := h.left
      rw [e4] at this
      exact this.adj _
    · obtain ⟨z, hz, hb⟩ := h.bot
      exact ⟨z, by rw [List.head?_reverse]; exact hz, hb⟩
    · exact ⟨a, by simp, k⟩
end Pg
set_option linter.unusedVariables false
set_option linter.unusedSimpArgs false
namespace Pg
theorem Adj.tail {t : List Pt} {a b x : Pt} (h : Adj t a b) : Adj (x :: t) a b := by
  obtain ⟨l1, l2, rfl⟩ := h
  exact ⟨x :: l1, l2, rfl⟩
theorem LC.narrow {s : Int} {S S' : Pt → Prop} {t : List Pt} (h : LC s S t) (h1 : ∀ q, S' q → S q) (h2 : ∀ q ∈ t, S' q) : LC s S' t := by
  refine ⟨h2, h.mono, h.tri, fun a b hab q hq => h.left a b hab q (h1 q hq), ?_, ?_⟩
  · obtain ⟨z, hz, hb⟩ := h.first
    exact ⟨z, hz, fun q hq => hb q (h1 q hq)⟩
  · obtain ⟨z, hz, hb⟩ := h.last
    exact ⟨z, hz, fun q hq => hb q (h1 q hq)⟩
theorem LC.wide {s : Int} {S S' : Pt → Prop} {t : List Pt} (h : LC s S t) (h1 : ∀ q, S q → S' q) (h2 : ∀ a b, Adj t a b → ∀ q, S' q → 0 ≤ crossR a b q)
    (h3 : ∀ z, t.head? = some z → ∀ q, S' q → q = z ∨ RR s z q) (h4 : ∀ z, t.getLast? = some z → ∀ q, S' q → q = z ∨ RR s q z) : LC s S' t := by
  refine ⟨fun q hq => h1 q (h.sub q hq), h.mono, h.tri, h2, ?_, ?_⟩
  · obtain ⟨z, hz, hb⟩ := h.first
    exact ⟨z, hz, h3 z hz⟩
  · obtain ⟨z, hz, hb⟩ := h.last
    exact ⟨z, hz, h4 z hz⟩
theorem LC.next {s : Int} {S : Pt → Prop} {a b : Pt} {r : List Pt} (h : LC s S (a :: b :: r)) : LC s (fun q => S q ∧ (q = b ∨ RR s b q)) (b :: r) := by
  have hm := List.pairwise_cons.1 (List.pairwise_cons.1 h.mono).2
  refine ⟨?_, (List.pairwise_cons.1 h.mono).2, fun x y z hh => h.tri x y z (hh.cons a), fun x y hxy q hq => h.left x y hxy.tail q hq.1, ⟨b, rfl, fun q hq => hq.2⟩, ?_⟩
  · intro q hq
    refine ⟨h.sub q (List.mem_cons_of_mem _ hq), ?_⟩
    rcases List.mem_cons.1 hq with rfl | hq
    · exact .inl rfl
    · exact .inr (hm.1 q hq)
  · obtain ⟨z, hz, hb⟩ := h.last
    exact ⟨z, by simpa using hz, fun q hq => hb q hq.1⟩
theorem LC.ne_last {s : Int} (hs : Sg s) {S : Pt → Prop} {t : List Pt} {b q : Pt} (h : LC s S t) (hq : S q) (hbq : RR s b q) : t.getLast? ≠ some b := by
  intro e
  obtain ⟨z, hz, hb⟩ := h.last
  rw [e] at hz
  obtain rfl := Option.some.inj hz
  rcases hb q hq with rfl | hb
  · exact RR.irr hs _ hbq
  · exact RR.asymm hs hb hbq
theorem LC.ne_first {s : Int} (hs : Sg s) {S : Pt → Prop} {t : List Pt} {b q : Pt} (h : LC s S t) (hq : S q) (hbq : RR s q b) : t.head? ≠ some b := by
  intro e
  obtain ⟨z, hz, hb⟩ := h.first
  rw [e] at hz
  obtain rfl := Option.some.inj hz
  rcases hb q hq with rfl | hb
  · exact RR.irr hs _ hbq
  · exact RR.asymm hs hb hbq
/-- a point of the set ahead of an edge is not on its line -/
theorem LC.fore {s : Int} (hs : Sg s) {S : Pt → Prop} {t : List Pt} {a b q : Pt} (h : LC s S t) (hab : Adj t a b) (hq : S q) (hbq : RR s b q) : 0 < crossR a b q := by
  obtain ⟨l1, l2, rfl⟩ := hab
  cases l2 with
  | nil => exact absurd (by simp) (h.ne_last hs hq hbq)
  | cons c l2 =>
    have hm := (List.pairwise_append.1 h.mono).2.1
    have hm1 := List.pairwise_cons.1 hm
    have hm2 := List.pairwise_cons.1 hm1.2
    refine cr_fore hs (hm1.1 b (by simp)) (hm2.1 c (by simp)) hbq (h.tri a b c ?_) (h.left b c ⟨l1 ++ [a], l2, by simp⟩ q hq)
    refine List.Sublist.trans ?_ (List.sublist_append_right l1 _)
    simp
/-- nor one behind it -/
theorem LC.back {s : Int} (hs : Sg s) {S : Pt → Prop} {t : List Pt} {a b q : Pt} (h : LC s S t) (hab : Adj t a b) (hq : S q) (hqa : RR s q a) : 0 < crossR a b q := by
  obtain ⟨l1, l2, rfl⟩ := hab
  rcases List.eq_nil_or_concat l1 with rfl | ⟨l0, c, rfl⟩
  · exact absurd (by simp) (h.ne_first hs hq hqa)
  · rw [List.concat_eq_append] at h
    have hm := List.pairwise_append.1 h.mono
    have hm1 := List.pairwise_cons.1 hm.2.1
    refine cr_back hs hqa (hm.2.2 c (by simp) a (by simp)) (hm1.1 b (by simp)) (h.left c a ⟨l0, b :: l2, by simp⟩ q hq) (h.tri c a b ?_)
    have : [c, a, b].Sublist ([c] ++ (a :: b :: l2)) := by simp
    refine this.trans ?_
    rw [List.append_assoc]
    exact List.sublist_append_right l0 _
theorem LC.unique {s : Int} (hs : Sg s) : ∀ (t t' : List Pt) (S : Pt → Prop), LC s S t → LC s S t' → t = t'
  | [], t', S, h, _ => by obtain ⟨z, hz, _⟩ := h.first; cases hz
  | a :: r, [], S, _, h => by obtain ⟨z, hz, _⟩ := h.first; cases hz
  | a :: r, a' :: r', S, h, h' => by
    have e : a = a' := by
      obtain ⟨z, hz, hb⟩ := h.first
      obtain ⟨z', hz', hb'⟩ := h'.first
      simp at hz hz'
      subst hz hz'
      rcases hb a' (h'.sub a' (by simp)) with e | e
      · exact e.symm
      · rcases hb' a (h.sub a (by simp)) with e' | e'
        · exact e'
        · exact (RR.asymm hs e e').elim
    subst e
    have one : ∀ {b : Pt} {u : List Pt}, LC s S [a] → LC s S (a :: b :: u) → False := fun {b u} k k' => by
      have hab := (List.pairwise_cons.1 k'.mono).1 b (by simp)
      exact k.ne_last hs (k'.sub b (by simp)) hab (by simp)
    cases r with
    | nil =>
      cases r' with
      | nil => rfl
      | cons b' r' => exact (one h h').elim
    | cons b r =>
      cases r' with
      | nil => exact (one h' h).elim
      | cons b' r' =>
        have e : b = b' := by
          rcases Decidable.em (b = b') with e | e
          · exact e
          · have k1 := h.left a b ⟨[], r, rfl⟩ b' (h'.sub b' (by simp))
            have k2 := h'.left a b' ⟨[], r', rfl⟩ b (h.sub b (by simp))
            rw [cr_swap] at k2
            rcases RR.total hs e with hr | hr
            · have := h.fore hs ⟨[], r, rfl⟩ (h'.sub b' (by simp)) hr
              omega
            · have := h'.fore hs ⟨[], r', rfl⟩ (h.sub b (by simp)) hr
              rw [cr_swap] at this
              omega
        subst e
        have := LC.unique hs (b :: r) (b :: r') _ h.next h'.next
        rw [this]
theorem lin_id (al be ax ay bx by_ qx qy : Int) : (bx - qx) * (al * qx + be * qy - (al * ax + be * ay)) + (qx - ax) * (al * qx + be * qy - (al * bx + be * by_)) = be * ((bx - ax) * (qy - ay) - (by_ - ay) * (qx - ax)) := by grind
/-- in a direction that looks away from what is on the left, an end of the edge over a point is as far as it -/
theorem edge_max {s : Int} (hs : Sg s) {a b q : Pt} {al be : Int} (hbe : s * be ≤ 0) (h1 : q = a ∨ RR s a q) (h2 : q = b ∨ RR s q b) (h : 0 ≤ crossR a b q) : al * q.x + be * q.y ≤ al * a.x + be * a.y ∨ al * q.x + be * q.y ≤ al * b.x + be * b.y := by
  rcases h1 with rfl | h1
  · exact .inl (Int.le_refl _)
  rcases h2 with rfl | h2
  · exact .inr (Int.le_refl _)
  rcases Int.lt_or_le (al * a.x + be * a.y) (al * q.x + be * q.y) with c1 | c1
  case inr => exact .inl c1
  rcases Int.lt_or_le (al * b.x + be * b.y) (al * q.x + be * q.y) with c2 | c2
  case inr => exact .inr c2
  exfalso
  have e := lin_id al be a.x a.y b.x b.y q.x q.y
  have e2 : crossR a b q = (b.x - a.x) * (q.y - a.y) - (b.y - a.y) * (q.x - a.x) := rfl
  rw [← e2] at e
  unfold RR Vp at h1 h2
  rcases hs with rfl | rfl
  · have hbe' : be ≤ 0 := by omega
    have hm : be * crossR a b q ≤ 0 := Int.mul_nonpos_of_nonpos_of_nonneg hbe' h
    rcases Decidable.em (b.x = a.x) with hx | hx
    · have hqx : q.x = a.x := by omega
      have hy : a.y ≤ q.y := by omega
      have : be * q.y ≤ be * a.y := Int.mul_le_mul_of_nonpos_left hbe' hy
      rw [hqx] at c1
      omega
    · have p1 : 0 ≤ b.x - q.x := by omega
      have p2 : 0 ≤ q.x - a.x := by omega
      have m1 := Int.mul_nonneg p1 (show 0 ≤ al * q.x + be * q.y - (al * a.x + be * a.y) by omega)
      have m2 := Int.mul_nonneg p2 (show 0 ≤ al * q.x + be * q.y - (al * b.x + be * b.y) by omega)
      rcases Int.lt_or_le q.x b.x with hlt | hge
      · have := Int.mul_pos (show 0 < b.x - q.x by omega) (show 0 < al * q.x + be * q.y - (al * a.x + be * a.y) by omega)
        omega
      · have := Int.mul_pos (show 0 < q.x - a.x by omega) (show 0 < al * q.x + be * q.y - (al * b.x + be * b.y) by omega)
        omega
  · have hbe' : 0 ≤ be := by omega
    have hm : 0 ≤ be * crossR a b q := Int.mul_nonneg hbe' h
    rcases Decidable.em (b.x = a.x) with hx | hx
    · have hqx : q.x = a.x := by omega
      have hy : q.y ≤ a.y := by omega
      have : be * q.y ≤ be * a.y := Int.mul_le_mul_of_nonneg_left hy hbe'
      rw [hqx] at c1
      omega
    · have p1 : b.x - q.x ≤ 0 := by omega
      have p2 : q.x - a.x ≤ 0 := by omega
      have m1 := Int.mul_nonneg (show 0 ≤ -(b.x - q.x) by omega) (show 0 ≤ al * q.x + be * q.y - (al * a.x + be * a.y) by omega)
      have m2 := Int.mul_nonneg (show 0 ≤ -(q.x - a.x) by omega) (show 0 ≤ al * q.x + be * q.y - (al * b.x + be * b.y) by omega)
      rw [Int.neg_mul] at m1 m2
      rcases Int.lt_or_le b.x q.x with hlt | hge
      · have := Int.mul_pos (show 0 < -(b.x - q.x) by omega) (show 0 < al * q.x + be * q.y - (al * a.x + be * a.y) by omega)
        rw [Int.neg_mul] at this
        omega
      · have := Int.mul_pos (show 0 < -(q.x - a.x) by omega) (show 0 < al * q.x + be * q.y - (al * b.x + be * b.y) by omega)
        rw [Int.neg_mul] at this
        omega
theorem LC.max {s : Int} (hs : Sg s) {al be : Int} (hbe : s * be ≤ 0) : ∀ (t : List Pt) (S : Pt → Prop), LC s S t → ∀ q, S q → ∃ c ∈ t, al * q.x + be * q.y ≤ al * c.x + be * c.y
  | [], S, h, q, hq => by obtain ⟨z, hz, _⟩ := h.first; cases hz
  | [a], S, h, q, hq => by
    obtain ⟨z, hz, hb⟩ := h.first
    obtain ⟨z', hz', hb'⟩ := h.last
    simp at hz hz'
    subst hz hz'
    refine ⟨a, by simp, ?_⟩
    rcases hb q hq with rfl | e
    · exact Int.le_refl _
    · rcases hb' q hq with rfl | e'
      · exact Int.le_refl _
      · exact (RR.asymm hs e e').elim
  | a :: b :: r, S, h, q, hq => by
    have hab : q = b ∨ RR s q b ∨ RR s b q := by
      rcases Decidable.em (q = b) with e | e
      · exact .inl e
      · exact .inr (RR.total hs e)
    rcases hab with e | e | e
    · exact ⟨b, by simp, by rw [e]; exact Int.le_refl _⟩
    · obtain ⟨z, hz, hb⟩ := h.first
      simp at hz
      subst hz
      rcases edge_max (al := al) hs hbe (hb q hq) (.inr e) (h.left a b ⟨[], r, rfl⟩ q hq) with k | k
      · exact ⟨a, by simp, k⟩
      · exact ⟨b, by simp, k⟩
    · obtain ⟨c, hc, k⟩ := LC.max hs hbe (b :: r) _ h.next q ⟨hq, .inr e⟩
      exact ⟨c, List.mem_cons_of_mem _ hc, k⟩

theorem LC.ends {s : Int} {S : Pt → Prop} {t : List Pt} {y z q : Pt} (hs : Sg s) (h : LC s S t) (hy : t.head? = some y) (hz : t.getLast? = some z) (hq : q ∈ t) (h1 : q ≠ y) (h2 : q ≠ z) : [y, q, z].Sublist t ∧ RR s y q ∧ RR s q z := by
  cases t with
  | nil => cases hy
  | cons a r =>
    simp at hy
    subst hy
    have hqr : q ∈ r := by
      rcases List.mem_cons.1 hq with e | e
      · exact absurd e h1
      · exact e
    rcases List.eq_nil_or_concat r with rfl | ⟨r0, c, rfl⟩
    · cases hqr
    · rw [List.concat_eq_append] at *
      rw [← List.cons_append, List.getLast?_concat] at hz
      obtain rfl := Option.some.inj hz
      have hq0 : q ∈ r0 := by
        rcases List.mem_append.1 hqr with e | e
        · exact e
        · simp at e; exact absurd e h2
      have hm := List.pairwise_cons.1 h.mono
      refine ⟨List.Sublist.cons_cons _ ?_, hm.1 q (by simp [hq0]), (List.pairwise_append.1 hm.2).2.2 q hq0 _ (by simp)⟩
      have : ([q] ++ [c]).Sublist (r0 ++ [c]) := List.Sublist.append (by simpa using hq0) (List.Sublist.refl _)
      simpa using this

/-- the two sides of a hull -/
structure Two (s : Int) (S : Pt → Prop) (t t' : List Pt) : Prop where
  there : LC s S t
  back : LC (-s) S t'
theorem Sg.neg {s : Int} (h : Sg s) : Sg (-s) := by rcases h with rfl | rfl <;> simp [Sg]
theorem Two.swap {s : Int} {S : Pt → Prop} {t t' : List Pt} (h : Two s S t t') : Two (-s) S t' t := ⟨h.back, by rw [Int.neg_neg]; exact h.there⟩
theorem Two.ends {s : Int} {S : Pt → Prop} {t t' : List Pt} (hs : Sg s) (h : Two s S t t') {y z : Pt} (hy : t.head? = some y) (hz : t.getLast? = some z) : t'.head? = some z ∧ t'.getLast? = some y := by
  obtain ⟨y1, hy1, h1⟩ := h.there.first
  obtain ⟨z1, hz1, h2⟩ := h.there.last
  obtain ⟨z2, hz2, h3⟩ := h.back.first
  obtain ⟨y2, hy2, h4⟩ := h.back.last
  rw [hy] at hy1
  rw [hz] at hz1
  obtain rfl := Option.some.inj hy1
  obtain rfl := Option.some.inj hz1
  have sy := h.there.sub y (List.mem_of_head? hy)
  have sz := h.there.sub z (List.mem_of_getLast? hz)
  have sy2 := h.back.sub y2 (List.mem_of_getLast? hy2)
  have sz2 := h.back.sub z2 (List.mem_of_head? hz2)
  refine ⟨?_, ?_⟩
  · rw [hz2]
    rcases h2 z2 sz2 with e | e
    · rw [e]
    · rcases h3 z sz with e' | e'
      · rw [e']
      · exact (RR.asymm hs e (RR.neg.1 e')).elim
  · rw [hy2]
    rcases h1 y2 sy2 with e | e
    · rw [e]
    · rcases h4 y sy with e' | e'
      · rw [e']
      · exact (RR.asymm hs e (RR.neg.1 e')).elim
/-- each corner but the edge's own is strictly on its left -/
theorem Two.strict {s : Int} {S : Pt → Prop} {t t' : List Pt} (hs : Sg s) (h : Two s S t t') {a b q : Pt} (hab : Adj t a b) (hq : q ∈ t ∨ q ∈ t') (h1 : q ≠ a) (h2 : q ≠ b) : 0 < crossR a b q := by
  have inT : q ∈ t → 0 < crossR a b q := by
    intro hq
    obtain ⟨l1, l2, rfl⟩ := hab
    rcases List.mem_append.1 hq with hq | hq
    · have : ([q] ++ [a, b]).Sublist (l1 ++ (a :: b :: l2)) := List.Sublist.append (by simpa using hq) (by simp)
      rw [cr_rot q a b]
      exact h.there.tri q a b (by simpa using this)
    · rcases List.mem_cons.1 hq with e | hq
      · exact absurd e h1
      · rcases List.mem_cons.1 hq with e | hq
        · exact absurd e h2
        · refine h.there.tri a b q (List.Sublist.trans ?_ (List.sublist_append_right l1 _))
          simpa using hq
  rcases Decidable.em (q ∈ t) with hqt | hqt
  · exact inT hqt
  have hq' : q ∈ t' := hq.resolve_left hqt
  have hSq := h.back.sub q hq'
  have at_ : a ∈ t := by obtain ⟨l1, l2, rfl⟩ := hab; simp
  have bt : b ∈ t := by obtain ⟨l1, l2, rfl⟩ := hab; simp
  rcases RR.total hs h2 with k | k
  case inr => exact h.there.fore hs hab hSq k
  rcases RR.total hs h1 with k' | k'
  · exact h.there.back hs hab hSq k'
  obtain ⟨y, hy, _⟩ := h.there.first
  obtain ⟨z, hz, _⟩ := h.there.last
  obtain ⟨hz', hy'⟩ := h.ends hs hy hz
  have ny : q ≠ y := fun e => hqt (e ▸ List.mem_of_head? hy)
  have nz : q ≠ z := fun e => hqt (e ▸ List.mem_of_getLast? hz)
  obtain ⟨sub', r1, r2⟩ := h.back.ends hs.neg hz' hy' hq' nz ny
  have hc := h.back.tri z q y sub'
  rw [cr_rot y z q] at hc
  have hyz : RR s y z := (RR.neg.1 r2).tr hs (RR.neg.1 r1)
  have side : ∀ p ∈ t, crossR y z p ≤ 0 := by
    intro p hp
    rcases Decidable.em (p = y) with rfl | py
    · rw [cr_self2]; exact Int.le_refl _
    rcases Decidable.em (p = z) with rfl | pz
    · rw [cr_self]; exact Int.le_refl _
    have := h.there.tri y p z (h.there.ends hs hy hz hp py pz).1
    rw [cr_swap]
    omega
  have h0 := h.there.left a b hab q hSq
  have hne := cr_mid hs k' k hyz (side a at_) (side b bt) hc
  omega
end Pg
set_option linter.unusedVariables false
set_option linter.unusedSimpArgs false
namespace Pg
open Go
theorem rr_ltP {a b : Pt} : RR 1 a b ↔ ltP a b = true := by
  rw [ltP_iff]
  unfold RR Vp
  omega
theorem cu_mem {d : Array Pt} : ∀ (m : Nat) (x : Pt), x ∈ Lib.compactUpTo d m ↔ ∃ j, j < m ∧ d[j]! = x
  | 0, x => by simp [Lib.compactUpTo]
  | m + 1, x => by
    rw [Lib.compactUpTo_succ, List.mem_append, cu_mem m]
    constructor
    · rintro (⟨j, hj, e⟩ | h)
      · exact ⟨j, by omega, e⟩
      · split at h
        · exact ⟨m, by omega, (by simpa using h : x = _).symm⟩
        · cases h
    · rintro ⟨j, hj, e⟩
      rcases Nat.lt_or_ge j m with h | h
      · exact .inl ⟨j, h, e⟩
      · obtain rfl : j = m := by omega
        cases hk : Lib.keeps d j
        · left
          unfold Lib.keeps at hk
          simp at hk
          exact ⟨j - 1, by omega, by rw [← hk.2]; exact e⟩
        · right
          simp [e]
theorem cu_sorted {d : Array Pt} : ∀ (m : Nat), (∀ i j, i < j → j < m → ltP d[j]! d[i]! = false) → (Lib.compactUpTo d m).Pairwise (RR 1)
  | 0, _ => by simp [Lib.compactUpTo]
  | m + 1, h => by
    rw [Lib.compactUpTo_succ, List.pairwise_append]
    refine ⟨cu_sorted m (fun i j hi hj => h i j hi (by omega)), ?_, ?_⟩
    · split <;> simp
    · intro x hx y hy
      split at hy
      case isFalse => cases hy
      rename_i hk
      have e : y = d[m]! := by simpa using hy
      subst e
      obtain ⟨j, hj, rfl⟩ := (cu_mem m x).1 hx
      have h1 := h j m hj (by omega)
      have h2 := h (m - 1) m (by omega) (by omega)
      unfold Lib.keeps at hk
      simp at hk
      have hne : d[m]! ≠ d[m - 1]! := by
        rcases hk with hk | hk
        · omega
        · exact hk
      have l2 : ltP d[m - 1]! d[m]! = true := by
        cases e : ltP d[m - 1]! d[m]!
        · exact absurd (ltP_total h2 e) hne
        · rfl
      rcases Nat.lt_or_ge j (m - 1) with h3 | h3
      · have h4 := h j (m - 1) h3 (by omega)
        rw [rr_ltP]
        rw [ltP_iff] at l2 ⊢
        rw [Bool.eq_false_iff, Ne, ltP_iff] at h4
        omega
      · obtain rfl : j = m - 1 := by omega
        exact rr_ltP.2 l2
def hsort (l : List Pt) : List Pt := Lib.compact (sortP l)
theorem hsort_mem {l : List Pt} {q : Pt} : q ∈ hsort l ↔ q ∈ l := by
  rw [← (sortP_perm l).mem_iff]
  unfold hsort Lib.compact
  rw [cu_mem]
  constructor
  · rintro ⟨j, hj, e⟩
    rw [← e]
    simp [hj]
  · intro h
    obtain ⟨j, hj, e⟩ := List.getElem_of_mem h
    exact ⟨j, hj, by simp [hj, e]⟩
theorem hsort_mono (l : List Pt) : (hsort l).Pairwise (RR 1) := by
  unfold hsort Lib.compact
  refine cu_sorted _ fun i j hi hj => ?_
  have := List.pairwise_iff_getElem.1 (sortP_sorted l) i j (by omega) hj hi
  simpa [hj, show i < (sortP l).length by omega] using this

/-- what the hull of a set of points must be -/
def IsHull (S : Pt → Prop) (h : List Pt) : Prop := (∃ p, h = [p] ∧ S p ∧ ∀ q, S q → q = p) ∨ ∃ t t', Two 1 S t t' ∧ 2 ≤ t.length ∧ h = t.dropLast ++ t'.dropLast
theorem sg1 : Sg 1 := .inl rfl
theorem Two.form {S : Pt → Prop} {t t' : List Pt} (h : Two 1 S t t') (hl : 2 ≤ t.length) : ∃ y z m m', t = y :: (m ++ [z]) ∧ t' = z :: (m' ++ [y]) ∧ RR 1 y z := by
  obtain ⟨y, hy, _⟩ := h.there.first
  obtain ⟨z, hz, _⟩ := h.there.last
  obtain ⟨hz', hy'⟩ := h.ends sg1 hy hz
  cases t with
  | nil => cases hy
  | cons a r =>
    simp at hy
    subst hy
    rcases List.eq_nil_or_concat r with rfl | ⟨m, c, rfl⟩
    · simp at hl
    rw [List.concat_eq_append] at *
    rw [← List.cons_append, List.getLast?_concat] at hz
    obtain rfl := Option.some.inj hz
    have hr : RR 1 a c := (List.pairwise_cons.1 h.there.mono).1 c (by simp)
    cases t' with
    | nil => cases hz'
    | cons b r' =>
      simp at hz'
      subst hz'
      rcases List.eq_nil_or_concat r' with rfl | ⟨m', d, rfl⟩
      · simp at hy'
        subst hy'
        exact (RR.irr sg1 _ hr).elim
      · rw [List.concat_eq_append] at *
        rw [← List.cons_append, List.getLast?_concat] at hy'
        obtain rfl := Option.some.inj hy'
        exact ⟨_, _, m, m', rfl, rfl, hr⟩
theorem adj_split {x y : List Pt} {c a b : Pt} (h : Adj (x ++ c :: y) a b) : Adj (x ++ [c]) a b ∨ Adj (c :: y) a b := by
  obtain ⟨l1, l2, e⟩ := h
  rcases List.append_eq_append_iff.1 e with ⟨z, e1, e2⟩ | ⟨z, e1, e2⟩
  · exact .inr ⟨z, l2, e2⟩
  · cases z with
    | nil => 
      simp at e2
      exact .inr ⟨[], l2, by simp [e2]⟩
    | cons u z =>
      injection e2 with e2 e3
      subst e2
      cases z with
      | nil =>
        injection e3 with e3 e4
        subst e3
        exact .inl ⟨l1, [], by rw [e1]; simp⟩
      | cons v z =>
        injection e3 with e3 e4
        subst e3
        exact .inl ⟨l1, z ++ [c], by rw [e1]; simp⟩
theorem pt_app_left {l m : List Pt} {i : Nat} (h : i < l.length) : pt (l ++ m) i = pt l i := by
  unfold pt
  rw [List.getD_eq_getElem?_getD, List.getD_eq_getElem?_getD, List.getElem?_append_left h]
theorem pt_app_mid (l : List Pt) (a : Pt) (m : List Pt) : pt (l ++ a :: m) l.length = a := by
  unfold pt
  rw [List.getD_eq_getElem?_getD, List.getElem?_append_right (Nat.le_refl _)]
  simp
theorem ptIn {l : List Pt} {i : Nat} (h : i < l.length) : pt l i ∈ l := by
  unfold pt
  rw [List.getD_eq_getElem?_getD, List.getElem?_eq_getElem h]
  exact List.getElem_mem h
theorem inPt {l : List Pt} {q : Pt} (h : q ∈ l) : ∃ i, i < l.length ∧ pt l i = q := by
  obtain ⟨i, hi, e⟩ := List.getElem_of_mem h
  refine ⟨i, hi, ?_⟩
  unfold pt
  rw [List.getD_eq_getElem?_getD, List.getElem?_eq_getElem hi]
  exact e
theorem pt_inj {l : List Pt} (hn : l.Nodup) {i k : Nat} (hi : i < l.length) (hk : k < l.length) (h : pt l i = pt l k) : i = k := by
  unfold pt at h
  rw [List.getD_eq_getElem?_getD, List.getElem?_eq_getElem hi, List.getD_eq_getElem?_getD, List.getElem?_eq_getElem hk] at h
  exact (List.getElem_inj hn).1 h
theorem adj_pt {t : List Pt} {i : Nat} (h : i + 1 < t.length) : Adj t (pt t i) (pt t (i + 1)) := by
  refine ⟨t.take i, t.drop (i + 2), ?_⟩
  have h1 : pt t i = t[i] := by unfold pt; rw [List.getD_eq_getElem?_getD, List.getElem?_eq_getElem (by omega)]; rfl
  have h2 : pt t (i + 1) = t[i + 1] := by unfold pt; rw [List.getD_eq_getElem?_getD, List.getElem?_eq_getElem h]; rfl
  rw [h1, h2, ← List.drop_eq_getElem_cons h, ← List.drop_eq_getElem_cons (by omega), List.take_append_drop]
/-- each edge of the ring is one of the open row with the first point once more -/
theorem adj_ring {h : List Pt} {i : Nat} (hi : i < h.length) : Adj (h ++ [pt h 0]) (pt h i) (pt h ((i + 1) % h.length)) := by
  have := adj_pt (t := h ++ [pt h 0]) (i := i) (by simp; omega)
  rw [pt_app_left hi] at this
  rcases Nat.lt_or_ge (i + 1) h.length with hl | hl
  · rw [pt_app_left hl] at this
    rw [Nat.mod_eq_of_lt hl]
    exact this
  · have e : i + 1 = h.length := by omega
    rw [e, pt_app_mid] at this
    rw [e, Nat.mod_self]
    exact this
/-- all of a hull with three corners or more, and of one with two -/
structure Poly (S : Pt → Prop) (h : List Pt) : Prop where
  two : 2 ≤ h.length
  sub : ∀ q ∈ h, S q
  nodup : h.Nodup
  left : ∀ i, i < h.length → ∀ q, S q → 0 ≤ crossR (pt h i) (pt h ((i + 1) % h.length)) q
  strict : ∀ i, i < h.length → ∀ q ∈ h, q ≠ pt h i → q ≠ pt h ((i + 1) % h.length) → 0 < crossR (pt h i) (pt h ((i + 1) % h.length)) q
  max : ∀ (al be : Int) q, S q → ∃ c ∈ h, al * q.x + be * q.y ≤ al * c.x + be * c.y
  only : ∀ q, S q → pt h 0 = q ∨ RR 1 (pt h 0) q
theorem Two.poly {S : Pt → Prop} {t t' : List Pt} (h : Two 1 S t t') (hl : 2 ≤ t.length) : Poly S (t.dropLast ++ t'.dropLast) ∧ ∀ q, q ∈ t.dropLast ++ t'.dropLast ↔ q ∈ t ∨ q ∈ t' := by
  obtain ⟨y, z, m, m', e1, e2, hyz⟩ := h.form hl
  have d1 : t.dropLast = y :: m := by rw [e1, ← List.cons_append, List.dropLast_concat]
  have d2 : t'.dropLast = z :: m' := by rw [e2, ← List.cons_append, List.dropLast_concat]
  have hy : t.head? = some y := by rw [e1]; rfl
  have hz : t.getLast? = some z := by rw [e1, ← List.cons_append, List.getLast?_concat]
  obtain ⟨hz', hy'⟩ := h.ends sg1 hy hz
  have hmem : ∀ q, q ∈ t.dropLast ++ t'.dropLast ↔ q ∈ t ∨ q ∈ t' := by
    intro q
    rw [d1, d2, e1, e2]
    simp only [List.mem_append, List.mem_cons, List.not_mem_nil, or_false]
    constructor
    · rintro ((h | h) | (h | h)) <;> simp [h]
    · rintro ((h | h | h) | (h | h | h)) <;> simp [h]
  obtain ⟨H, hH⟩ : ∃ H, t.dropLast ++ t'.dropLast = H := ⟨_, rfl⟩
  have eH : H = (y :: m) ++ (z :: m') := by rw [← hH, d1, d2]
  have h0 : pt H 0 = y := by rw [eH]; rfl
  have hadj : ∀ i, i < H.length → Adj t (pt H i) (pt H ((i + 1) % H.length)) ∨ Adj t' (pt H i) (pt H ((i + 1) % H.length)) := by
    intro i hi
    have := adj_ring hi
    rw [h0] at this
    have e : H ++ [y] = (y :: m) ++ z :: (m' ++ [y]) := by rw [eH]; simp
    rw [e] at this
    rcases adj_split this with k | k
    · left
      rw [e1]
      simpa using k
    · right
      rw [e2]
      exact k
  rw [hH] at hmem ⊢
  refine ⟨⟨?_, ?_, ?_, ?_, ?_, ?_, ?_⟩, hmem⟩
  · rw [eH]
    simp
    omega
  · intro q hq
    rcases (hmem q).1 hq with k | k
    · exact h.there.sub q k
    · exact h.back.sub q k
  · have n1 : t.Nodup := h.there.mono.imp (S := (· ≠ ·)) (fun {a b} hr e => by subst e; exact RR.irr sg1 _ hr)
    have n2 : t'.Nodup := h.back.mono.imp (S := (· ≠ ·)) (fun {a b} hr e => by subst e; exact RR.irr sg1.neg _ hr)
    rw [← hH]
    refine List.nodup_append.2 ⟨n1.sublist (List.dropLast_sublist t), n2.sublist (List.dropLast_sublist t'), ?_⟩
    rintro a ha b hb rfl
    have at_ : a ∈ t := (List.dropLast_sublist t).subset ha
    have at' : a ∈ t' := (List.dropLast_sublist t').subset hb
    have naz : a ≠ z := by
      rintro rfl
      rw [d1] at ha
      rw [e1, ← List.cons_append] at n1
      exact (List.nodup_append.1 n1).2.2 a ha a (by simp) rfl
    have nay : a ≠ y := by
      rintro rfl
      rw [d2] at hb
      rw [e2, ← List.cons_append] at n2
      exact (List.nodup_append.1 n2).2.2 a hb a (by simp) rfl
    have k1 := h.there.tri y a z (h.there.ends sg1 hy hz at_ nay naz).1
    have k2 := h.back.tri z a y (h.back.ends sg1.neg hz' hy' at' naz nay).1
    rw [cr_rot y z a] at k2
    rw [cr_swap y z a] at k1
    omega
  · intro i hi q hq
    rcases hadj i hi with k | k
    · exact h.there.left _ _ k q hq
    · exact h.back.left _ _ k q hq
  · intro i hi q hq n1 n2
    rcases hadj i hi with k | k
    · exact h.strict sg1 k ((hmem q).1 hq) n1 n2
    · exact h.swap.strict sg1.neg k ((hmem q).1 hq).symm n1 n2
  · intro al be q hq
    rcases Int.le_total be 0 with hb | hb
    · obtain ⟨c, hc, k⟩ := LC.max sg1 (al := al) (be := be) (by omega) t S h.there q hq
      exact ⟨c, (hmem c).2 (.inl hc), k⟩
    · obtain ⟨c, hc, k⟩ := LC.max sg1.neg (al := al) (be := be) (by omega) t' S h.back q hq
      exact ⟨c, (hmem c).2 (.inr hc), k⟩
  · intro q hq
    rw [h0]
    obtain ⟨y1, hy1, k⟩ := h.there.first
    rw [hy] at hy1
    obtain rfl := Option.some.inj hy1
    rcases k q hq with k | k
    · exact .inl k.symm
    · exact .inr k
theorem IsHull.unique {S : Pt → Prop} {h h' : List Pt} (k : IsHull S h) (k' : IsHull S h') : h = h' := by
  have aux : ∀ {p : Pt} {t t' : List Pt}, S p → (∀ q, S q → q = p) → Two 1 S t t' → 2 ≤ t.length → False := by
    intro p t t' hp hq ht hl
    obtain ⟨y, z, m, m', e1, e2, hyz⟩ := ht.form hl
    have := hq y (ht.there.sub y (by simp [e1]))
    have := hq z (ht.there.sub z (by simp [e1]))
    subst y z
    exact RR.irr sg1 _ hyz
  rcases k with ⟨p, rfl, hp, hq⟩ | ⟨t, t', ht, hl, rfl⟩
  · rcases k' with ⟨p', rfl, hp', _⟩ | ⟨t, t', ht, hl, rfl⟩
    · rw [hq p' hp']
    · exact (aux hp hq ht hl).elim
  · rcases k' with ⟨p', rfl, hp', hq'⟩ | ⟨u, u', hu, hl', rfl⟩
    · exact (aux hp' hq' ht hl).elim
    · rw [LC.unique sg1 t u S ht.there hu.there, LC.unique sg1.neg t' u' S ht.back hu.back]
theorem IsHull.congr {S S' : Pt → Prop} {h : List Pt} (k : IsHull S h) (e : ∀ q, S q ↔ S' q) : IsHull S' h := by
  have : S = S' := funext fun q => propext (e q)
  exact this ▸ k
/-- the hull of a hull is it -/
theorem IsHull.self {S : Pt → Prop} {h : List Pt} (k : IsHull S h) : IsHull (· ∈ h) h := by
  rcases k with ⟨p, rfl, hp, hq⟩ | ⟨t, t', ht, hl, rfl⟩
  · exact .inl ⟨p, rfl, by simp, by simp⟩
  · obtain ⟨hP, hm⟩ := ht.poly hl
    exact .inr ⟨t, t', ⟨ht.there.narrow hP.sub (fun q hq => (hm q).2 (.inl hq)), ht.back.narrow hP.sub (fun q hq => (hm q).2 (.inr hq))⟩, hl, rfl⟩
theorem hullS_is {l : List Pt} (hl : l ≠ []) (hok : ∀ q ∈ l, okPt q = true) : IsHull (· ∈ l) (hullS l) := by
  have hm := hsort_mono l
  have hmem : ∀ q, q ∈ hsort l ↔ q ∈ l := fun q => hsort_mem
  have hne : hsort l ≠ [] := by
    intro e
    obtain ⟨a, ha⟩ := List.exists_mem_of_ne_nil l hl
    rw [← hmem, e] at ha
    cases ha
  unfold hullS
  rw [show Lib.compact (sortP l) = hsort l from rfl]
  split
  · rename_i h1
    obtain ⟨p, hp⟩ := List.length_eq_one_iff.1 h1
    refine .inl ⟨p, hp, (hmem p).1 (by simp [hp]), fun q hq => ?_⟩
    have := (hmem q).2 hq
    rw [hp] at this
    simpa using this
  · rename_i h1
    have ok1 : ∀ q ∈ hsort l, okPt q = true := fun q hq => hok q ((hmem q).1 hq)
    have c1 := chain_LC sg1 hne hm ok1
    have c2 := chain_LC (s := -1) sg1.neg (l := (hsort l).reverse) (by simpa using hne) (by rw [List.pairwise_reverse]; exact hm.imp fun h => RR.neg.2 h) (fun q hq => ok1 q (by simpa using hq))
    have e1 : (fun q => q ∈ hsort l) = (fun q => q ∈ l) := funext fun q => propext (hmem q)
    have e2 : (fun q => q ∈ (hsort l).reverse) = (fun q => q ∈ l) := funext fun q => propext (by rw [List.mem_reverse]; exact hmem q)
    have hT : Two 1 (· ∈ l) (chainS (hsort l)) (chainS (hsort l).reverse) := ⟨e1 ▸ c1, e2 ▸ c2⟩
    refine .inr ⟨_, _, hT, ?_, rfl⟩
    obtain ⟨y, hy, k1⟩ := c1.first
    obtain ⟨z, hz, k2⟩ := c1.last
    rcases Nat.lt_or_ge (chainS (hsort l)).length 2 with hlt | hge
    case inr => exact hge
    exfalso
    have hyz : y = z := by
      cases hc : chainS (hsort l) with
      | nil => rw [hc] at hy; cases hy
      | cons a r =>
        cases r with
        | nil =>
          rw [hc] at hy hz
          simp at hy hz
          rw [← hy, ← hz]
        | cons b r => rw [hc] at hlt; simp at hlt; omega
    subst hyz
    have all : ∀ q ∈ hsort l, q = y := fun q hq => by
      rcases k1 q hq with e | e
      · exact e
      · rcases k2 q hq with e' | e'
        · exact e'
        · exact (RR.asymm sg1 e e').elim
    cases hc : hsort l with
    | nil => exact hne hc
    | cons a r =>
      cases r with
      | nil => rw [hc] at h1; simp at h1
      | cons b r =>
        rw [hc] at hm all
        have := (List.pairwise_cons.1 hm).1 b (by simp)
        rw [all a (by simp), all b (by simp)] at this
        exact RR.irr sg1 _ this
end Pg
set_option linter.unusedVariables false
set_option linter.unusedSimpArgs false
namespace Pg
theorem orient_ok {a b c : Pt} (ha : okPt a = true) (hb : okPt b = true) (hc : okPt c = true) : orient a b c = sgn (crossR a b c) := by
  unfold orient cross
  rw [ha, hb, hc]
  rfl
theorem sgn_pos {n : Int} (h : 0 < n) : sgn n = 1 := by
  unfold sgn
  rw [if_neg (by omega), if_pos h]
theorem sgn_nn {n : Int} : 0 ≤ sgn n ↔ 0 ≤ n := by
  unfold sgn
  split
  · omega
  · split <;> omega
theorem IsHull.poly {S : Pt → Prop} {h : List Pt} (k : IsHull S h) (hl : h.length ≠ 1) : Poly S h := by
  rcases k with ⟨p, rfl, _⟩ | ⟨t, t', ht, h2, rfl⟩
  · exact absurd rfl hl
  · exact (ht.poly h2).1
theorem IsHull.sub {S : Pt → Prop} {h : List Pt} (k : IsHull S h) : ∀ q ∈ h, S q := by
  rcases k with ⟨p, rfl, hp, _⟩ | ⟨t, t', ht, h2, rfl⟩
  · intro q hq
    rw [List.mem_singleton.1 hq]
    exact hp
  · exact (ht.poly h2).1.sub
theorem IsHull.nodup {S : Pt → Prop} {h : List Pt} (k : IsHull S h) : h.Nodup := by
  rcases k with ⟨p, rfl, hp, _⟩ | ⟨t, t', ht, h2, rfl⟩
  · simp
  · exact (ht.poly h2).1.nodup
theorem IsHull.pos {S : Pt → Prop} {h : List Pt} (k : IsHull S h) : 0 < h.length := by
  rcases k with ⟨p, rfl, hp, _⟩ | ⟨t, t', ht, h2, rfl⟩
  · simp
  · have := (ht.poly h2).1.two
    omega
theorem IsHull.max {S : Pt → Prop} {h : List Pt} (k : IsHull S h) (al be : Int) {q : Pt} (hq : S q) : ∃ c ∈ h, al * q.x + be * q.y ≤ al * c.x + be * c.y := by
  rcases k with ⟨p, rfl, hp, hs⟩ | ⟨t, t', ht, h2, rfl⟩
  · exact ⟨p, by simp, by rw [hs q hq]; exact Int.le_refl _⟩
  · exact (ht.poly h2).1.max al be q hq
theorem nx_mod {n i : Nat} (hi : i < n) : (i + 1) % n < n := Nat.mod_lt _ (by omega)
theorem mod_ne {n i : Nat} (hi : i < n) (hn : 2 ≤ n) : (i + 1) % n ≠ i := by
  rcases Nat.lt_or_ge (i + 1) n with h | h
  · rw [Nat.mod_eq_of_lt h]; omega
  · rw [show i + 1 = n by omega, Nat.mod_self]; omega
theorem mod_two {n i : Nat} (hi : i < n) (hn : 3 ≤ n) : (i + 2) % n ≠ i ∧ (i + 2) % n ≠ (i + 1) % n ∧ (i + 2) % n < n := by
  refine ⟨?_, ?_, Nat.mod_lt _ (by omega)⟩
  · rcases Nat.lt_or_ge (i + 2) n with h | h
    · rw [Nat.mod_eq_of_lt h]; omega
    · rw [Nat.mod_eq_sub_mod h, Nat.mod_eq_of_lt (by omega)]; omega
  · rcases Nat.lt_or_ge (i + 2) n with h | h
    · rw [Nat.mod_eq_of_lt h, Nat.mod_eq_of_lt (by omega)]; omega
    · rw [Nat.mod_eq_sub_mod h, Nat.mod_eq_of_lt (by omega)]
      rcases Nat.lt_or_ge (i + 1) n with h' | h'
      · rw [Nat.mod_eq_of_lt h']; omega
      · rw [show i + 1 = n by omega, Nat.mod_self]; omega
section
variable {S : Pt → Prop} {h : List Pt}
theorem Poly.corner (k : Poly S h) {i j : Nat} (hi : i < h.length) (hj : j < h.length) (h1 : j ≠ i) (h2 : j ≠ (i + 1) % h.length) : 0 < crossR (pt h i) (pt h ((i + 1) % h.length)) (pt h j) :=
  k.strict i hi _ (ptIn hj) (fun e => h1 (pt_inj k.nodup hj hi e)) (fun e => h2 (pt_inj k.nodup hj (nx_mod hi) e))
theorem Poly.turn (k : Poly S h) (hok : ∀ q ∈ h, okPt q = true) (h3 : 3 ≤ h.length) {i : Nat} (hi : i < h.length) : orient (pt h i) (pt h ((i + 1) % h.length)) (pt h ((i + 2) % h.length)) = 1 := by
  obtain ⟨m1, m2, m3⟩ := mod_two hi h3
  rw [orient_ok (hok _ (ptIn hi)) (hok _ (ptIn (nx_mod hi))) (hok _ (ptIn m3))]
  exact sgn_pos (k.corner hi m3 m1 m2)
theorem Poly.leftO (k : Poly S h) (hok : ∀ q ∈ h, okPt q = true) {i : Nat} (hi : i < h.length) {q : Pt} (hq : S q) (hq2 : okPt q = true) : 0 ≤ orient (pt h i) (pt h ((i + 1) % h.length)) q := by
  rw [orient_ok (hok _ (ptIn hi)) (hok _ (ptIn (nx_mod hi))) hq2]
  exact sgn_nn.2 (k.left i hi q hq)
theorem onS_off {a b c : Pt} (h : crossR a b c ≠ 0) : onS a b c = false := by
  unfold onS
  simp [h]
/-- a hull of three corners and more is a ring that may be -/
theorem Poly.ring (k : Poly S h) (hok : ∀ q ∈ h, okPt q = true) (h3 : 3 ≤ h.length) (h64 : h.length ≤ 64) : ckRing h = 0 := by
  unfold ckRing
  rw [if_neg (by omega), if_pos (List.all_eq_true.2 hok)]
  have hs : spoilAny h = false := by
    unfold spoilAny
    rw [List.any_eq_false]
    intro i hi
    rw [List.mem_range] at hi
    rw [Bool.not_eq_true, List.any_eq_false]
    intro j hj
    rw [List.mem_range] at hj
    rcases Decidable.em (j = i) with e | e
    · simp [e]
    rw [Bool.not_eq_true, decide_eq_true e, Bool.true_and]
    have n1 : pt h i ≠ pt h j := fun e' => e (pt_inj k.nodup hi hj e').symm
    unfold spoil nx
    rw [if_neg n1]
    have key : ∀ {i j : Nat}, i < h.length → j < h.length → (i + 1) % h.length = j → onS (pt h i) (pt h ((i + 1) % h.length)) (pt h ((j + 1) % h.length)) = false ∧ onS (pt h j) (pt h ((j + 1) % h.length)) (pt h i) = false := by
      intro i j hi hj e
      have e2 : (j + 1) % h.length = (i + 2) % h.length := by rw [← e, Nat.mod_add_mod]
      obtain ⟨m1, m2, m3⟩ := mod_two hi h3
      refine ⟨onS_off (Int.ne_of_gt (k.corner hi (nx_mod hj) (by rw [e2]; exact m1) (by rw [e2]; exact m2))), onS_off (Int.ne_of_gt (k.corner hj hi ?_ (by rw [e2]; exact fun e => m1 e.symm)))⟩
      intro e'
      rw [← e] at e'
      exact mod_ne hi (by omega) e'.symm
    split
    · rename_i e1
      obtain ⟨a, b⟩ := key hi hj e1
      rw [a, b]; rfl
    · split
      · rename_i e1
        obtain ⟨a, b⟩ := key hj hi e1
        rw [a, b]; rfl
      · rename_i c1 c2
        have p1 := k.corner hi hj e (fun x => c1 x.symm)
        have p3 := k.corner hj hi (fun x => e x.symm) (fun x => c2 x.symm)
        have p2 : 0 < crossR (pt h i) (pt h ((i + 1) % h.length)) (pt h ((j + 1) % h.length)) := by
          refine k.corner hi (nx_mod hj) c2 ?_
          intro x
          have a1 := nx_mod hi
          have a2 := nx_mod hj
          rcases Nat.lt_or_ge (i + 1) h.length with h1 | h1 <;> rcases Nat.lt_or_ge (j + 1) h.length with h2 | h2
          · rw [Nat.mod_eq_of_lt h1, Nat.mod_eq_of_lt h2] at x; omega
          · rw [Nat.mod_eq_of_lt h1, show j + 1 = h.length by omega, Nat.mod_self] at x; omega
          · rw [show i + 1 = h.length by omega, Nat.mod_self, Nat.mod_eq_of_lt h2] at x; omega
          · omega
        have p4 : 0 < crossR (pt h j) (pt h ((j + 1) % h.length)) (pt h ((i + 1) % h.length)) := by
          refine k.corner hj (nx_mod hi) c1 ?_
          intro x
          have a1 := nx_mod hi
          have a2 := nx_mod hj
          rcases Nat.lt_or_ge (i + 1) h.length with h1 | h1 <;> rcases Nat.lt_or_ge (j + 1) h.length with h2 | h2
          · rw [Nat.mod_eq_of_lt h1, Nat.mod_eq_of_lt h2] at x; omega
          · rw [Nat.mod_eq_of_lt h1, show j + 1 = h.length by omega, Nat.mod_self] at x; omega
          · rw [show i + 1 = h.length by omega, Nat.mod_self, Nat.mod_eq_of_lt h2] at x; omega
          · omega
        have o1 := hok _ (ptIn hi)
        have o2 := hok _ (ptIn (nx_mod hi))
        have o3 := hok _ (ptIn hj)
        have o4 := hok _ (ptIn (nx_mod hj))
        unfold meetS properR
        rw [onS_off (Int.ne_of_gt p1), onS_off (Int.ne_of_gt p2), onS_off (Int.ne_of_gt p3), onS_off (Int.ne_of_gt p4), orient_ok o1 o2 o3, orient_ok o1 o2 o4, sgn_pos p1, sgn_pos p2]
        simp
  rw [hs]
  rfl
end

/-- the box of a set of points -/
structure BoxOf (S : Pt → Prop) (b : Bx) : Prop where
  has : ∀ q, S q → b.lo.x ≤ q.x ∧ q.x ≤ b.hi.x ∧ b.lo.y ≤ q.y ∧ q.y ≤ b.hi.y
  lox : ∃ q, S q ∧ q.x = b.lo.x
  hix : ∃ q, S q ∧ q.x = b.hi.x
  loy : ∃ q, S q ∧ q.y = b.lo.y
  hiy : ∃ q, S q ∧ q.y = b.hi.y
theorem BoxOf.unique {S : Pt → Prop} {b c : Bx} (h : BoxOf S b) (k : BoxOf S c) : b = c := by
  obtain ⟨q1, s1, e1⟩ := h.lox
  obtain ⟨q2, s2, e2⟩ := h.hix
  obtain ⟨q3, s3, e3⟩ := h.loy
  obtain ⟨q4, s4, e4⟩ := h.hiy
  obtain ⟨r1, t1, f1⟩ := k.lox
  obtain ⟨r2, t2, f2⟩ := k.hix
  obtain ⟨r3, t3, f3⟩ := k.loy
  obtain ⟨r4, t4, f4⟩ := k.hiy
  have a1 := k.has q1 s1
  have a2 := k.has q2 s2
  have a3 := k.has q3 s3
  have a4 := k.has q4 s4
  have b1 := h.has r1 t1
  have b2 := h.has r2 t2
  have b3 := h.has r3 t3
  have b4 := h.has r4 t4
  exact Bx.ext' (Pt.ext' (by omega) (by omega)) (Pt.ext' (by omega) (by omega))
theorem IsHull.box {S : Pt → Prop} {h : List Pt} (k : IsHull S h) (b : Bx) : BoxOf S b ↔ BoxOf (· ∈ h) b := by
  have hx : ∀ q, S q → ∃ c ∈ h, q.x ≤ c.x := fun q hq => by obtain ⟨c, hc, e⟩ := k.max 1 0 hq; exact ⟨c, hc, by omega⟩
  have hx2 : ∀ q, S q → ∃ c ∈ h, c.x ≤ q.x := fun q hq => by obtain ⟨c, hc, e⟩ := k.max (-1) 0 hq; exact ⟨c, hc, by omega⟩
  have hy : ∀ q, S q → ∃ c ∈ h, q.y ≤ c.y := fun q hq => by obtain ⟨c, hc, e⟩ := k.max 0 1 hq; exact ⟨c, hc, by omega⟩
  have hy2 : ∀ q, S q → ∃ c ∈ h, c.y ≤ q.y := fun q hq => by obtain ⟨c, hc, e⟩ := k.max 0 (-1) hq; exact ⟨c, hc, by omega⟩
  constructor
  · intro hb
    refine ⟨fun q hq => hb.has q (k.sub q hq), ?_, ?_, ?_, ?_⟩
    · obtain ⟨q, hq, e⟩ := hb.lox
      obtain ⟨c, hc, e2⟩ := hx2 q hq
      have := hb.has c (k.sub c hc)
      exact ⟨c, hc, by omega⟩
    · obtain ⟨q, hq, e⟩ := hb.hix
      obtain ⟨c, hc, e2⟩ := hx q hq
      have := hb.has c (k.sub c hc)
      exact ⟨c, hc, by omega⟩
    · obtain ⟨q, hq, e⟩ := hb.loy
      obtain ⟨c, hc, e2⟩ := hy2 q hq
      have := hb.has c (k.sub c hc)
      exact ⟨c, hc, by omega⟩
    · obtain ⟨q, hq, e⟩ := hb.hiy
      obtain ⟨c, hc, e2⟩ := hy q hq
      have := hb.has c (k.sub c hc)
      exact ⟨c, hc, by omega⟩
  · intro hb
    refine ⟨fun q hq => ?_, ?_, ?_, ?_, ?_⟩
    · obtain ⟨c1, h1, e1⟩ := hx q hq
      obtain ⟨c2, h2, e2⟩ := hx2 q hq
      obtain ⟨c3, h3, e3⟩ := hy q hq
      obtain ⟨c4, h4, e4⟩ := hy2 q hq
      have a1 := hb.has c1 h1
      have a2 := hb.has c2 h2
      have a3 := hb.has c3 h3
      have a4 := hb.has c4 h4
      omega
    · obtain ⟨q, hq, e⟩ := hb.lox
      exact ⟨q, k.sub q hq, e⟩
    · obtain ⟨q, hq, e⟩ := hb.hix
      exact ⟨q, k.sub q hq, e⟩
    · obtain ⟨q, hq, e⟩ := hb.loy
      exact ⟨q, k.sub q hq, e⟩
    · obtain ⟨q, hq, e⟩ := hb.hiy
      exact ⟨q, k.sub q hq, e⟩
/-- two corners bend to two points on one line: it is the points between them -/
theorem hull_two {S : Pt → Prop} {a b : Pt} (k : IsHull S [a, b]) (ha : okPt a = true) (hb : okPt b = true) {q : Pt} (hq : S q) (hok : okPt q = true) : onS a b q = true := by
  have hP := k.poly (by simp)
  have l0 := hP.left 0 (by simp) q hq
  have l1 := hP.left 1 (by simp) q hq
  have e0 : crossR (pt [a, b] 0) (pt [a, b] ((0 + 1) % [a, b].length)) q = crossR a b q := by simp [pt]
  have e1 : crossR (pt [a, b] 1) (pt [a, b] ((1 + 1) % [a, b].length)) q = crossR b a q := by simp [pt]
  rw [e0] at l0
  rw [e1] at l1
  have e2 : crossR b a q = -crossR a b q := by unfold crossR; grind
  have hz : crossR a b q = 0 := by omega
  unfold onS bhasR span
  rw [ha, hb, hok, hz]
  obtain ⟨c1, h1, e1⟩ := k.max 1 0 hq
  obtain ⟨c2, h2, e2⟩ := k.max (-1) 0 hq
  obtain ⟨c3, h3, e3⟩ := k.max 0 1 hq
  obtain ⟨c4, h4, e4⟩ := k.max 0 (-1) hq
  simp only [List.mem_cons, List.not_mem_nil, or_false] at h1 h2 h3 h4
  have g1 : q.x ≤ a.x ∨ q.x ≤ b.x := by rcases h1 with rfl | rfl <;> omega
  have g2 : a.x ≤ q.x ∨ b.x ≤ q.x := by rcases h2 with rfl | rfl <;> omega
  have g3 : q.y ≤ a.y ∨ q.y ≤ b.y := by rcases h3 with rfl | rfl <;> omega
  have g4 : a.y ≤ q.y ∨ b.y ≤ q.y := by rcases h4 with rfl | rfl <;> omega
  simp only [decide_true, Bool.and_self, Bool.true_and, Bool.and_eq_true, decide_eq_true_eq]
  omega

/-- the farthest two points are corners -/
theorem sq_far (p q c : Pt) (h : (q.x - p.x) * q.x + (q.y - p.y) * q.y ≤ (q.x - p.x) * c.x + (q.y - p.y) * c.y) : (sqP p q).num ≤ (sqP p c).num := by
  unfold sqP
  simp only
  have e1 : (((p.x - q.x).natAbs * (p.x - q.x).natAbs + (p.y - q.y).natAbs * (p.y - q.y).natAbs : Nat) : Int) = (p.x - q.x) * (p.x - q.x) + (p.y - q.y) * (p.y - q.y) := by
    rw [Int.natCast_add, Int.natCast_mul, Int.natCast_mul, Int.natAbs_mul_self', Int.natAbs_mul_self']
  have e2 : (((p.x - c.x).natAbs * (p.x - c.x).natAbs + (p.y - c.y).natAbs * (p.y - c.y).natAbs : Nat) : Int) = (p.x - c.x) * (p.x - c.x) + (p.y - c.y) * (p.y - c.y) := by
    rw [Int.natCast_add, Int.natCast_mul, Int.natCast_mul, Int.natAbs_mul_self', Int.natAbs_mul_self']
  have e3 : (p.x - c.x) * (p.x - c.x) + (p.y - c.y) * (p.y - c.y) - ((p.x - q.x) * (p.x - q.x) + (p.y - q.y) * (p.y - q.y)) = 2 * ((q.x - p.x) * c.x + (q.y - p.y) * c.y - ((q.x - p.x) * q.x + (q.y - p.y) * q.y)) + ((c.x - q.x) * (c.x - q.x) + (c.y - q.y) * (c.y - q.y)) := by grind
  have e4 : 0 ≤ (c.x - q.x) * (c.x - q.x) := sqnn _
  have e5 : 0 ≤ (c.y - q.y) * (c.y - q.y) := sqnn _
  omega
theorem IsHull.far {S : Pt → Prop} {h : List Pt} (k : IsHull S h) {p q : Pt} (hp : S p) (hq : S q) : ∃ a ∈ h, ∃ b ∈ h, (sqP p q).num ≤ (sqP a b).num := by
  obtain ⟨c, hc, e⟩ := k.max (q.x - p.x) (q.y - p.y) hq
  obtain ⟨d, hd, e'⟩ := k.max (p.x - c.x) (p.y - c.y) hp
  refine ⟨d, hd, c, hc, ?_⟩
  have h1 := sq_far p q c e
  have h2 := sq_far c p d e'
  rw [sqP_comm d c]
  rw [sqP_comm p c] at h1
  omega
end Pg
set_option linter.unusedVariables false
set_option linter.unusedSimpArgs false
namespace Pg
theorem adj_index {h : List Pt} {a b : Pt} (k : Adj (h ++ [pt h 0]) a b) : ∃ i, i < h.length ∧ pt h i = a ∧ pt h ((i + 1) % h.length) = b := by
  obtain ⟨l1, l2, e⟩ := k
  have hlen := congrArg List.length e
  simp at hlen
  have e1 := pt_app_mid l1 a (b :: l2)
  rw [← e] at e1
  have e2 := pt_app_mid (l1 ++ [a]) b l2
  rw [show l1 ++ [a] ++ b :: l2 = l1 ++ a :: b :: l2 by simp, ← e, List.length_append, List.length_singleton] at e2
  refine ⟨l1.length, by omega, ?_, ?_⟩
  · rw [pt_app_left (by omega)] at e1
    exact e1
  · rcases Nat.lt_or_ge (l1.length + 1) h.length with hl | hl
    · rw [pt_app_left hl] at e2
      rw [Nat.mod_eq_of_lt hl]
      exact e2
    · have e3 : l1.length + 1 = h.length := by omega
      rw [e3, pt_app_mid] at e2
      rw [e3, Nat.mod_self]
      exact e2
/-- what is behind a corner is not on the left of both its edges -/
theorem cr_corner {s : Int} (hs : Sg s) {p y b e : Pt} (h1 : RR s p y) (h2 : RR s y b) (h3 : RR s y e) (k1 : 0 ≤ crossR y b p) (k2 : 0 ≤ crossR e y p) (k3 : 0 < crossR e y b) : False := by
  have e1 : crossR y b p = s * (y.x - p.x) * (s * (b.y - y.y)) - s * (y.y - p.y) * (s * (b.x - y.x)) := by
    have := hs.sq
    unfold crossR
    grind
  have e2 : crossR e y b = s * (b.x - y.x) * (s * (e.y - y.y)) - s * (b.y - y.y) * (s * (e.x - y.x)) := by
    have := hs.sq
    unfold crossR
    grind
  have e3 : crossR e y p = -(s * (y.x - p.x) * (s * (e.y - y.y)) - s * (y.y - p.y) * (s * (e.x - y.x))) := by
    have := hs.sq
    unfold crossR
    grind
  have h := V3 h1 h2 h3 (by omega) (by omega)
  omega
theorem Two.rings {S : Pt → Prop} {t t' : List Pt} (h : Two 1 S t t') (hl : 2 ≤ t.length) : (∀ a b, Adj t a b ∨ Adj t' a b → Adj ((t.dropLast ++ t'.dropLast) ++ [pt (t.dropLast ++ t'.dropLast) 0]) a b) ∧
    ∃ k z, k < (t.dropLast ++ t'.dropLast).length ∧ 0 < k ∧ pt (t.dropLast ++ t'.dropLast) k = z ∧ t.getLast? = some z ∧ ∃ y, pt (t.dropLast ++ t'.dropLast) 0 = y ∧ t.head? = some y := by
  obtain ⟨y, z, m, m', e1, e2, hyz⟩ := h.form hl
  have d1 : t.dropLast = y :: m := by rw [e1, ← List.cons_append, List.dropLast_concat]
  have d2 : t'.dropLast = z :: m' := by rw [e2, ← List.cons_append, List.dropLast_concat]
  rw [d1, d2]
  have h0 : pt ((y :: m) ++ z :: m') 0 = y := rfl
  rw [h0]
  refine ⟨?_, (y :: m).length, z, ?_, by simp, pt_app_mid _ _ _, by rw [e1, ← List.cons_append, List.getLast?_concat], y, rfl, by rw [e1]; rfl⟩
  · rintro a b (⟨l1, l2, e⟩ | ⟨l1, l2, e⟩)
    · refine ⟨l1, l2 ++ m' ++ [y], ?_⟩
      have : (y :: m) ++ z :: m' ++ [y] = t ++ (m' ++ [y]) := by rw [e1]; simp
      rw [this, e]
      simp
    · refine ⟨(y :: m) ++ l1, l2, ?_⟩
      have : (y :: m) ++ z :: m' ++ [y] = (y :: m) ++ t' := by rw [e2]; simp
      rw [this, e]
      simp
  · simp
/-- one more point that no edge has on its right -/
theorem IsHull.add {S : Pt → Prop} {h : List Pt} {p : Pt} (k : IsHull S h) (h3 : 3 ≤ h.length) (hin : ∀ i, i < h.length → 0 ≤ crossR (pt h i) (pt h ((i + 1) % h.length)) p) : IsHull (fun q => S q ∨ q = p) h := by
  rcases k with ⟨p, rfl, _⟩ | ⟨t, t', ht, hl, rfl⟩
  · simp at h3
  obtain ⟨hP, _⟩ := ht.poly hl
  obtain ⟨hA, k, z, hk, hk0, hz, hz2, y, hy, hy2⟩ := ht.rings hl
  have hL : ∀ a b, Adj t a b ∨ Adj t' a b → ∀ q, S q ∨ q = p → 0 ≤ crossR a b q := by
    rintro a b hab q (hq | rfl)
    · rcases hab with hab | hab
      · exact ht.there.left a b hab q hq
      · exact ht.back.left a b hab q hq
    · obtain ⟨i, hi, rfl, rfl⟩ := adj_index (hA a b hab)
      exact hin i hi
  obtain ⟨hz', hy'⟩ := ht.ends sg1 hy2 hz2
  obtain ⟨y1, hy1, hyS⟩ := ht.there.first
  obtain ⟨z1, hz1, hzS⟩ := ht.there.last
  rw [hy2] at hy1
  rw [hz2] at hz1
  obtain rfl := Option.some.inj hy1
  obtain rfl := Option.some.inj hz1
  generalize hH : t.dropLast ++ t'.dropLast = H at *
  have hy3 : ∀ q, S q ∨ q = p → q = y ∨ RR 1 y q := by
    rintro q (hq | rfl)
    · exact hyS q hq
    · rcases Decidable.em (q = y) with e | e
      · exact .inl e
      · rcases RR.total sg1 e with r | r
        case inr => exact .inr r
        exfalso
        have i1 := hin 0 (by omega)
        have i2 := hin (H.length - 1) (by omega)
        have em : (H.length - 1 + 1) % H.length = 0 := by rw [show H.length - 1 + 1 = H.length by omega, Nat.mod_self]
        have em0 : (0 + 1) % H.length = 1 := Nat.mod_eq_of_lt (by omega)
        rw [em, hy] at i2
        rw [em0, hy] at i1
        have c := hP.corner (i := H.length - 1) (j := 1) (by omega) (by omega) (by omega) (by rw [em]; omega)
        rw [em, hy] at c
        have f : ∀ j, j < H.length → j ≠ 0 → RR 1 y (pt H j) := fun j hj hj0 => by
          rcases hyS _ (hP.sub _ (ptIn hj)) with e' | e'
          · rw [← hy] at e'
            exact absurd (pt_inj hP.nodup hj (by omega) e') hj0
          · exact e'
        exact cr_corner sg1 r (f 1 (by omega) (by omega)) (f (H.length - 1) (by omega) (by omega)) i1 i2 c
  have hz3 : ∀ q, S q ∨ q = p → q = z ∨ RR 1 q z := by
    rintro q (hq | rfl)
    · exact hzS q hq
    · rcases Decidable.em (q = z) with e | e
      · exact .inl e
      · rcases RR.total sg1 e with r | r
        · exact .inr r
        exfalso
        have i1 := hin k hk
        have i2 := hin (k - 1) (by omega)
        have em : (k - 1 + 1) % H.length = k := by rw [show k - 1 + 1 = k by omega, Nat.mod_eq_of_lt hk]
        rw [em, hz] at i2
        rw [hz] at i1
        have m1 : (k + 1) % H.length ≠ k := mod_ne hk (by omega)
        have m2 : (k + 1) % H.length ≠ k - 1 := by
          rcases Nat.lt_or_ge (k + 1) H.length with hl | hl
          · rw [Nat.mod_eq_of_lt hl]; omega
          · rw [show k + 1 = H.length by omega, Nat.mod_self]; omega
        have c := hP.corner (i := k - 1) (j := (k + 1) % H.length) (by omega) (nx_mod hk) m2 (by rw [em]; exact m1)
        rw [em, hz] at c
        have f : ∀ j, j < H.length → j ≠ k → RR (-1) z (pt H j) := fun j hj hjk => by
          rcases hzS _ (hP.sub _ (ptIn hj)) with e' | e'
          · rw [← hz] at e'
            exact absurd (pt_inj hP.nodup hj hk e') hjk
          · exact RR.neg.2 e'
        exact cr_corner sg1.neg (RR.neg.2 r) (f _ (nx_mod hk) m1) (f (k - 1) (by omega) (by omega)) i1 i2 c
  have fo : ∀ (u v : Pt) (w : Option Pt), w = some u → w = some v → u = v := fun u v w e1 e2 => Option.some.inj (e1.symm.trans e2)
  refine .inr ⟨t, t', ⟨ht.there.wide (fun q hq => .inl hq) (fun a b hab => hL a b (.inl hab)) ?_ ?_, ht.back.wide (fun q hq => .inl hq) (fun a b hab => hL a b (.inr hab)) ?_ ?_⟩, hl, ?_⟩
  · intro u hu q hq
    obtain rfl := fo _ _ _ hy2 hu
    exact hy3 q hq
  · intro u hu q hq
    obtain rfl := fo _ _ _ hz2 hu
    exact hz3 q hq
  · intro u hu q hq
    obtain rfl := fo _ _ _ hz' hu
    exact (hz3 q hq).imp id RR.neg.2
  · intro u hu q hq
    obtain rfl := fo _ _ _ hy' hu
    exact (hy3 q hq).imp id RR.neg.2
  · exact hH.symm
end Pg
set_option linter.unusedVariables false
set_option linter.unusedSimpArgs false
namespace Pg
theorem par_dot {ux uy wx wy : Int} (hu : Vp ux uy) (hw : Vp wx wy) (h : ux * wy - uy * wx = 0) : 0 < ux * wx + uy * wy := by
  rcases hu with hu | ⟨hu, hu2⟩
  · rcases hw with hw | ⟨hw, hw2⟩
    · have h1 := Int.mul_pos hu hw
      have e : ux * wx * (uy * wy) = (uy * wx) * (uy * wx) := by
        have : ux * wy = uy * wx := by omega
        calc ux * wx * (uy * wy) = (ux * wy) * (uy * wx) := by grind
          _ = _ := by rw [this]
      have h2 : 0 ≤ uy * wy := pnn h1 (by rw [e]; exact sqnn _)
      omega
    · subst hw
      have := Int.mul_pos hu hw2
      simp at h
      omega
  · subst hu
    rcases hw with hw | ⟨hw, hw2⟩
    · have := Int.mul_pos hu2 hw
      simp at h
      omega
    · have := Int.mul_pos hu2 hw2
      simp
      omega
theorem sqP_int (p q : Pt) : (((sqP p q).num : Nat) : Int) = (p.x - q.x) * (p.x - q.x) + (p.y - q.y) * (p.y - q.y) := by
  unfold sqP
  simp only
  rw [Int.natCast_add, Int.natCast_mul, Int.natCast_mul, Int.natAbs_mul_self', Int.natAbs_mul_self']
/-- of two points on one ray the nearer is nearer -/
theorem sq_near {s : Int} (hs : Sg s) {a b q : Pt} (h1 : RR s a q) (h2 : RR s q b) (h : crossR a b q = 0) : (sqP a q).num < (sqP a b).num := by
  have e : crossR a b q = s * (b.x - q.x) * (s * (q.y - a.y)) - s * (b.y - q.y) * (s * (q.x - a.x)) := by
    have := hs.sq
    unfold crossR
    grind
  have d := par_dot h2 h1 (by rw [← e]; exact h)
  have e1 := sqP_int a q
  have e2 := sqP_int a b
  have e3 : (a.x - b.x) * (a.x - b.x) + (a.y - b.y) * (a.y - b.y) = (a.x - q.x) * (a.x - q.x) + (a.y - q.y) * (a.y - q.y) + 2 * (s * (b.x - q.x) * (s * (q.x - a.x)) + s * (b.y - q.y) * (s * (q.y - a.y))) + ((b.x - q.x) * (b.x - q.x) + (b.y - q.y) * (b.y - q.y)) := by
    have := hs.sq
    grind
  have e4 : 0 ≤ (b.x - q.x) * (b.x - q.x) := sqnn _
  have e5 : 0 ≤ (b.y - q.y) * (b.y - q.y) := sqnn _
  omega
theorem LC.between {s : Int} (hs : Sg s) {S : Pt → Prop} {t : List Pt} {a b q : Pt} (h : LC s S t) (hab : Adj t a b) (hq : S q) (h0 : crossR a b q = 0) (h1 : q ≠ a) (h2 : q ≠ b) : (sqP a q).num < (sqP a b).num := by
  rcases RR.total hs h1 with r | r
  · have := h.back hs hab hq r
    omega
  rcases RR.total hs h2 with r' | r'
  case inr =>
    have := h.fore hs hab hq r'
    omega
  exact sq_near hs r r' h0
theorem IsHull.line {S : Pt → Prop} {h : List Pt} (k : IsHull S h) (h1 : h.length ≠ 1) {i : Nat} (hi : i < h.length) {q : Pt} (hq : S q) (h0 : crossR (pt h i) (pt h ((i + 1) % h.length)) q = 0) (n1 : q ≠ pt h i) (n2 : q ≠ pt h ((i + 1) % h.length)) :
    (sqP (pt h i) q).num < (sqP (pt h i) (pt h ((i + 1) % h.length))).num := by
  rcases k with ⟨p, rfl, _⟩ | ⟨t, t', ht, hl, rfl⟩
  · exact absurd rfl h1
  obtain ⟨y, z, m, m', e1, e2, hyz⟩ := ht.form hl
  have d1 : t.dropLast = y :: m := by rw [e1, ← List.cons_append, List.dropLast_concat]
  have d2 : t'.dropLast = z :: m' := by rw [e2, ← List.cons_append, List.dropLast_concat]
  have := adj_ring hi
  have h0' : pt (t.dropLast ++ t'.dropLast) 0 = y := by rw [d1]; rfl
  rw [h0'] at this
  have e : t.dropLast ++ t'.dropLast ++ [y] = (y :: m) ++ z :: (m' ++ [y]) := by rw [d1, d2]; simp
  generalize t.dropLast ++ t'.dropLast = H at *
  rw [e] at this
  rcases adj_split this with k | k
  · rw [show y :: m ++ [z] = t by rw [e1]; rfl] at k
    exact ht.there.between sg1 k hq h0 n1 n2
  · rw [← e2] at k
    exact ht.back.between sg1.neg k hq h0 n1 n2

/-- the reference's choice: is q rather the next corner than nx? -/
def wrapB (a nx q : Pt) : Bool := decide (nx = a) || decide (cross a nx q < 0) || (decide (cross a nx q = 0) && decide (0 < cmpF (sqP a q) (sqP a nx)))
def wrapG (a : Pt) (l : List Pt) (nx : Pt) : Pt := l.foldl (fun nx q => if wrapB a nx q then q else nx) nx
theorem cross_ok {a b c : Pt} (ha : okPt a = true) (hb : okPt b = true) (hc : okPt c = true) : cross a b c = crossR a b c := by
  unfold cross
  rw [ha, hb, hc]
  rfl
theorem cmp_sq {a p q : Pt} : 0 < cmpF (sqP a q) (sqP a p) ↔ (sqP a p).num < (sqP a q).num := by
  rw [sqP_eta a q, sqP_eta a p]
  exact cmp_gt
theorem wrap_step {S : Pt → Prop} {h : List Pt} (k : IsHull S h) (h2 : h.length ≠ 1) (hok : ∀ q, S q → okPt q = true) {i : Nat} (hi : i < h.length) : ∀ (r : List Pt) (nx : Pt), (∀ q ∈ r, S q) → S nx → (nx = pt h ((i + 1) % h.length) ∨ pt h ((i + 1) % h.length) ∈ r) →
    wrapG (pt h i) r nx = pt h ((i + 1) % h.length)
  | [], nx, _, _, hb => by
    rcases hb with hb | hb
    · exact hb
    · cases hb
  | q :: r, nx, hr, hnx, hb => by
    have hP := k.poly h2
    have hSq := hr q (by simp)
    have hr' : ∀ q ∈ r, S q := fun q hq => hr q (by simp [hq])
    have hSa := hP.sub _ (ptIn hi)
    have hSb := hP.sub _ (ptIn (nx_mod hi))
    have hab : pt h ((i + 1) % h.length) ≠ pt h i := fun e => mod_ne hi hP.two (pt_inj hP.nodup (nx_mod hi) hi e)
    have hstep : wrapG (pt h i) (q :: r) nx = wrapG (pt h i) r (if wrapB (pt h i) nx q then q else nx) := rfl
    rw [hstep]
    rcases Decidable.em (nx = pt h ((i + 1) % h.length)) with e | e
    · have hf : wrapB (pt h i) nx q = false := by
        subst e
        unfold wrapB
        rw [cross_ok (hok _ hSa) (hok _ hSb) (hok q hSq)]
        have hl := hP.left i hi q hSq
        rw [decide_eq_false hab, decide_eq_false (by omega), Bool.false_or, Bool.false_or]
        rcases Decidable.em (crossR (pt h i) (pt h ((i + 1) % h.length)) q = 0) with h0 | h0
        · rw [decide_eq_true h0, Bool.true_and, decide_eq_false_iff_not, cmp_sq]
          rcases Decidable.em (q = pt h i) with e1 | e1
          · rw [e1, sqP_self]; simp
          rcases Decidable.em (q = pt h ((i + 1) % h.length)) with e2 | e2
          · rw [e2]; exact Nat.lt_irrefl _
          have := k.line h2 hi hSq h0 e1 e2
          omega
        · rw [decide_eq_false h0]; rfl
      rw [hf]
      exact wrap_step k h2 hok hi r nx hr' hnx (.inl e)
    · have hb' := hb.resolve_left e
      rcases Decidable.em (q = pt h ((i + 1) % h.length)) with e2 | e2
      · have ht : wrapB (pt h i) nx q = true := by
          rw [e2]
          unfold wrapB
          rw [cross_ok (hok _ hSa) (hok _ hnx) (hok _ hSb)]
          rcases Decidable.em (nx = pt h i) with e1 | e1
          · simp [e1]
          have hl := hP.left i hi nx hnx
          have hsw := cr_swap (pt h i) (pt h ((i + 1) % h.length)) nx
          rcases Decidable.em (crossR (pt h i) (pt h ((i + 1) % h.length)) nx = 0) with h0 | h0
          · have := k.line h2 hi hnx h0 e1 e
            rw [decide_eq_true (p := crossR (pt h i) nx (pt h ((i + 1) % h.length)) = 0) (by omega), decide_eq_true (cmp_sq.2 this)]
            simp
          · rw [decide_eq_true (p := crossR (pt h i) nx (pt h ((i + 1) % h.length)) < 0) (by omega)]
            simp
        rw [ht]
        exact wrap_step k h2 hok hi r q hr' hSq (.inl e2)
      · have hb2 : pt h ((i + 1) % h.length) ∈ r := by
          rcases List.mem_cons.1 hb' with e3 | e3
          · exact absurd e3.symm e2
          · exact e3
        split
        · exact wrap_step k h2 hok hi r q hr' hSq (.inr hb2)
        · exact wrap_step k h2 hok hi r nx hr' hnx (.inr hb2)
theorem wrap_one {p : Pt} : ∀ (r : List Pt), (∀ q ∈ r, q = p) → wrapG p r p = p
  | [], _ => rfl
  | q :: r, hr => by
    have e := hr q (by simp)
    subst e
    have : wrapG q (q :: r) q = wrapG q r (if wrapB q q q then q else q) := rfl
    rw [this, ite_self]
    exact wrap_one r fun x hx => hr x (by simp [hx])
/-- the lowest of the leftmost -/
def minG (l : List Pt) (p : Pt) : Pt := l.foldl (fun p q => if ltP q p then q else p) p
theorem minG_in : ∀ (l : List Pt) (p : Pt), minG l p = p ∨ minG l p ∈ l
  | [], p => .inl rfl
  | q :: l, p => by
    have : minG (q :: l) p = minG l (if ltP q p then q else p) := rfl
    rw [this]
    split
    · rcases minG_in l q with e | e
      · exact .inr (by rw [e]; simp)
      · exact .inr (List.mem_cons_of_mem _ e)
    · rcases minG_in l p with e | e
      · exact .inl e
      · exact .inr (List.mem_cons_of_mem _ e)
theorem minG_le : ∀ (l : List Pt) (p : Pt), ltP p (minG l p) = false ∧ ∀ q ∈ l, ltP q (minG l p) = false
  | [], p => ⟨ltP_irrefl p, by simp⟩
  | q :: l, p => by
    have : minG (q :: l) p = minG l (if ltP q p then q else p) := rfl
    rw [this]
    cases h : ltP q p
    · simp only [Bool.false_eq_true, if_false]
      obtain ⟨h1, h2⟩ := minG_le l p
      refine ⟨h1, fun x hx => ?_⟩
      rcases List.mem_cons.1 hx with rfl | hx
      · exact ltP_ntrans h h1
      · exact h2 x hx
    · simp only [if_true]
      obtain ⟨h1, h2⟩ := minG_le l q
      refine ⟨ltP_ntrans ?_ h1, fun x hx => ?_⟩
      · rw [ltP_iff] at h
        rw [Bool.eq_false_iff, Ne, ltP_iff]
        omega
      · rcases List.mem_cons.1 hx with rfl | hx
        · exact h1
        · exact h2 x hx
theorem IsHull.min {l h : List Pt} (k : IsHull (· ∈ l) h) (hl : 0 < l.length) : minG l (pt l 0) = pt h 0 := by
  have h1 := minG_le l (pt l 0)
  have hin : minG l (pt l 0) ∈ l := by
    rcases minG_in l (pt l 0) with e | e
    · rw [e]; exact ptIn hl
    · exact e
  have h0 : pt h 0 ∈ l := k.sub _ (ptIn k.pos)
  have h2 := h1.2 _ h0
  rcases Decidable.em (h.length = 1) with e | e
  · rcases k with ⟨p, rfl, hp, hq⟩ | ⟨t, t', ht, hl2, rfl⟩
    · rw [hq _ hin]; rfl
    · have := (ht.poly hl2).1.two
      omega
  · rcases (k.poly e).only _ hin with e' | e'
    · exact e'.symm
    · rw [rr_ltP] at e'
      rw [e'] at h2
      cases h2
theorem IsHull.le {l h : List Pt} (k : IsHull (· ∈ l) h) : h.length ≤ l.length := by
  have : ∀ (h l : List Pt), h.Nodup → (∀ q ∈ h, q ∈ l) → h.length ≤ l.length := by
    intro h
    induction h with
    | nil => intro l _ _; simp
    | cons a r ih =>
      intro l hn hs
      have hn' := List.nodup_cons.1 hn
      have := ih (l.erase a) hn'.2 (fun q hq => (List.mem_erase_of_ne (fun e => hn'.1 (by rw [← e]; exact hq))).2 (hs q (by simp [hq])))
      have ha := hs a (by simp)
      have hle := List.length_erase_of_mem ha
      have hpos : 0 < l.length := List.length_pos_of_mem ha
      simp
      omega
  exact this h l k.nodup k.sub
end Pg
set_option linter.unusedSimpArgs false
set_option linter.unusedVariables false
namespace Pg
theorem hck_good {l : List Pt} {least : Nat} (h1 : least ≤ l.length) (h2 : l.length ≤ 1000) (h : ∀ q ∈ l, okPt q = true) : hullCk l least = (0, 0) := by
  unfold hullCk
  rw [if_neg (by omega), if_neg (by omega), firstBad_none fun j hj => h _ (ptIn hj)]
theorem hck_all {l : List Pt} {least : Nat} (h : (hullCk l least).1 = 0) : least ≤ l.length ∧ l.length ≤ 1000 ∧ ∀ q ∈ l, okPt q = true := by
  unfold hullCk at h
  split at h
  · cases h
  · split at h
    · cases h
    · rename_i h1 h2
      refine ⟨by omega, by omega, fun q hq => ?_⟩
      obtain ⟨j, hj, rfl⟩ := inPt hq
      cases e : firstBad l with
      | some i => rw [e] at h; cases h
      | none =>
        unfold firstBad at e
        rw [List.find?_eq_none] at e
        simpa using e j (List.mem_range.2 hj)
theorem hull_same {l m : List Pt} (hl : l ≠ []) (hok : ∀ q ∈ l, okPt q = true) (h : ∀ q, q ∈ l ↔ q ∈ m) : hullS m = hullS l := by
  have hm : m ≠ [] := by
    obtain ⟨a, ha⟩ := List.exists_mem_of_ne_nil l hl
    intro e
    rw [h, e] at ha
    cases ha
  exact (hullS_is hm fun q hq => hok q ((h q).2 hq)).unique ((hullS_is hl hok).congr h)
/-- the greatest distance of corners, looked at one by one, is that of the farthest two -/
theorem far_corners {l : List Pt} {F : Nat} (hl : 2 ≤ l.length) (hok : ∀ q ∈ l, okPt q = true) (h1 : F ≤ (pairS l 1).d.num) (h2 : ∀ x, x < (hullS l).length → ∀ y, y < x → (sqP (pt (hullS l) x) (pt (hullS l) y)).num ≤ F) : (⟨F, 1⟩ : Fr) = (pairS l 1).d := by
  have hI := hullS_is (by intro e; rw [e] at hl; simp at hl) hok
  obtain ⟨p1, p2, p3⟩ := pair_in (l := l) (way := 1) (.inl rfl) hl
  have hd := pair_den (l := l) (way := 1) (.inl rfl) hl
  obtain ⟨a, ha, b, hb, hab⟩ := hI.far (ptIn (l := l) (i := (pairS l 1).i) (by omega)) (ptIn (l := l) (i := (pairS l 1).j) p2)
  rw [← p3] at hab
  obtain ⟨x, hx, rfl⟩ := inPt ha
  obtain ⟨y, hy, rfl⟩ := inPt hb
  have hF : (sqP (pt (hullS l) x) (pt (hullS l) y)).num ≤ F := by
    rcases Nat.lt_trichotomy x y with h | h | h
    · rw [sqP_comm]
      exact h2 y hy x h
    · subst h
      rw [sqP_self]
      exact Nat.zero_le _
    · exact h2 x hx y h
  have e : F = (pairS l 1).d.num := by omega
  rw [e]
  conv => rhs; rw [show (pairS l 1).d = ⟨(pairS l 1).d.num, (pairS l 1).d.den⟩ from rfl, hd]
theorem close_wide {l : List Pt} (hl : 2 ≤ l.length) : cmpF (pairS l (-1)).d (pairS l 1).d ≤ 0 := by
  obtain ⟨p1, p2, p3⟩ := pair_in (l := l) (way := 1) (.inl rfl) hl
  have h := close_le hl (i := (pairS l 1).i) (j := (pairS l 1).j) (by omega) p2 (by omega)
  rw [← p3] at h
  have d1 := pair_den (l := l) (way := -1) (.inr rfl) hl
  have d2 := pair_den (l := l) (way := 1) (.inl rfl) hl
  have e1 : (pairS l (-1)).d = ⟨(pairS l (-1)).d.num, 1⟩ := by conv => lhs; rw [show (pairS l (-1)).d = ⟨(pairS l (-1)).d.num, (pairS l (-1)).d.den⟩ from rfl, d1]
  have e2 : (pairS l 1).d = ⟨(pairS l 1).d.num, 1⟩ := by conv => lhs; rw [show (pairS l 1).d = ⟨(pairS l 1).d.num, (pairS l 1).d.den⟩ from rfl, d2]
  rw [e1, e2]
  rcases cmpF_one (pairS l (-1)).d.num (pairS l 1).d.num with h' | h' | h'
  · rw [h'.2]; decide
  · rw [h'.2]; decide
  · omega
theorem hull_mem {l : List Pt} (hl : 0 < l.length) (hok : ∀ q ∈ l, okPt q = true) {x : Nat} (hx : x < (hullS l).length) : pt (hullS l) x ∈ l :=
  (hullS_is (by intro e; rw [e] at hl; simp at hl) hok).sub _ (ptIn hx)
theorem hull_pos {l : List Pt} (hl : 0 < l.length) (hok : ∀ q ∈ l, okPt q = true) : 0 < (hullS l).length :=
  (hullS_is (by intro e; rw [e] at hl; simp at hl) hok).pos
theorem hull_le {l : List Pt} (hl : 0 < l.length) (hok : ∀ q ∈ l, okPt q = true) : (hullS l).length ≤ l.length :=
  (hullS_is (by intro e; rw [e] at hl; simp at hl) hok).le
end Pg
