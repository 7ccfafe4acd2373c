/-
  Plain laws of the pairs of points: the best pair in a direction.
  Plain laws of the closest and the farthest two of points.
-/
import Derived.Test.YtmliljdbpkikpaaGreatDoorGeo
import Derived.Test.YtmliljdbpkikpaaGreatDoorPlainFr
set_option linter.unusedVariables false
set_option linter.unusedSimpArgs false
namespace Pg
/-- how far two points are, squared -/
def sqP (p q : Pt) : Fr := ⟨(p.x - q.x).natAbs * (p.x - q.x).natAbs + (p.y - q.y).natAbs * (p.y - q.y).natAbs, 1⟩
/-- the pairs with the first below k, in order -/
def pairsTo (n k : Nat) : List (Nat × Nat) := (List.range k).flatMap fun a => (List.range' (a + 1) (n - (a + 1))).map fun b => (a, b)
theorem pairsTo_succ (n k : Nat) : pairsTo n (k + 1) = pairsTo n k ++ (List.range' (k + 1) (n - (k + 1))).map fun b => (k, b) := by
  unfold pairsTo
  rw [List.range_succ, List.flatMap_append]
  simp
structure PSt where
  i : Nat
  j : Nat
  d : Fr
/-- one more pair looked at -/
def pstep (l : List Pt) (way : Int) (s : PSt) (ab : Nat × Nat) : PSt :=
  if s.j = 0 ∨ 0 < way * cmpF (sqP (pt l ab.1) (pt l ab.2)) s.d then ⟨ab.1, ab.2, sqP (pt l ab.1) (pt l ab.2)⟩ else s
def pairS (l : List Pt) (way : Int) : PSt := (pairsTo l.length l.length).foldl (pstep l way) ⟨0, 0, ⟨0, 0⟩⟩
theorem mem_pairsTo {n k a b : Nat} : (a, b) ∈ pairsTo n k ↔ a < k ∧ a < b ∧ b < n := by
  unfold pairsTo
  simp only [List.mem_flatMap, List.mem_range, List.mem_map, List.mem_range', Prod.mk.injEq]
  constructor
  · rintro ⟨x, hx, y, ⟨i, hi, rfl⟩, rfl, rfl⟩
    omega
  · rintro ⟨h1, h2, h3⟩
    exact ⟨a, h1, b, ⟨b - (a + 1), by omega, by omega⟩, rfl, rfl⟩
theorem cmpF_one (x y : Nat) : (x < y ∧ cmpF ⟨x, 1⟩ ⟨y, 1⟩ = -1) ∨ (x = y ∧ cmpF ⟨x, 1⟩ ⟨y, 1⟩ = 0) ∨ (y < x ∧ cmpF ⟨x, 1⟩ ⟨y, 1⟩ = 1) := by
  unfold cmpF cmpP
  rcases Nat.lt_trichotomy x y with h | h | h
  · left; refine ⟨h, ?_⟩; simp; unfold sgn; rw [if_pos (by omega)]
  · right; left; refine ⟨h, ?_⟩; simp; unfold sgn; rw [if_neg (by omega), if_neg (by omega)]
  · right; right; refine ⟨h, ?_⟩; simp; unfold sgn; rw [if_neg (by omega), if_pos (by omega)]
theorem sqP_den (p q : Pt) : (sqP p q).den = 1 := rfl
theorem sqP_eta (p q : Pt) : sqP p q = ⟨(sqP p q).num, 1⟩ := rfl
/-- what the best pair of some is: one of them, and none is better -/
def BestP (l : List Pt) (way : Int) (L : List (Nat × Nat)) (s : PSt) : Prop :=
  (s.i, s.j) ∈ L ∧ s.d = sqP (pt l s.i) (pt l s.j) ∧ s.j ≠ 0 ∧ ∀ ab ∈ L, way * ((sqP (pt l ab.1) (pt l ab.2)).num - s.d.num : Int) ≤ 0
theorem best_step {l : List Pt} {way : Int} (hw : way = 1 ∨ way = -1) {L : List (Nat × Nat)} {s : PSt} {ab : Nat × Nat} (h : BestP l way L s) (hab : ab.2 ≠ 0) : BestP l way (L ++ [ab]) (pstep l way s ab) := by
  obtain ⟨h1, h2, h3, h4⟩ := h
  have hc := cmpF_one (sqP (pt l ab.1) (pt l ab.2)).num (sqP (pt l s.i) (pt l s.j)).num
  rw [← sqP_eta, ← sqP_eta, ← h2] at hc
  unfold pstep
  split
  · rename_i hs
    have hs2 := hs.resolve_left h3
    refine ⟨by simp, rfl, hab, fun x hx => ?_⟩
    rcases List.mem_append.1 hx with hx | hx
    · have := h4 x hx
      dsimp only
      rcases hw with rfl | rfl <;> omega
    · simp at hx
      subst hx
      simp
  · rename_i hs
    refine ⟨by simp [h1], h2, h3, fun x hx => ?_⟩
    rcases List.mem_append.1 hx with hx | hx
    · exact h4 x hx
    · simp at hx
      subst hx
      have hs2 : ¬ 0 < way * cmpF (sqP (pt l x.1) (pt l x.2)) s.d := fun h => hs (.inr h)
      rcases hw with rfl | rfl <;> omega
theorem best_fold {l : List Pt} {way : Int} (hw : way = 1 ∨ way = -1) : ∀ (M L : List (Nat × Nat)) (s : PSt), BestP l way L s → (∀ ab ∈ M, ab.2 ≠ 0) → BestP l way (L ++ M) (M.foldl (pstep l way) s) := by
  intro M
  induction M with
  | nil => intro L s h _; simpa using h
  | cons a r ih =>
    intro L s h hM
    have := ih (L ++ [a]) (pstep l way s a) (best_step hw h (hM a (by simp))) (fun x hx => hM x (by simp [hx]))
    simpa using this
/-- the best pair of at least two points -/
theorem pairS_best {l : List Pt} {way : Int} (hw : way = 1 ∨ way = -1) (hl : 2 ≤ l.length) : BestP l way (pairsTo l.length l.length) (pairS l way) := by
  have hne : ∀ ab ∈ pairsTo l.length l.length, ab.2 ≠ 0 := fun ab h => by
    obtain ⟨a, b⟩ := ab
    have := mem_pairsTo.1 h
    simp
    omega
  unfold pairS
  cases e : pairsTo l.length l.length with
  | nil =>
    have : (0, 1) ∈ pairsTo l.length l.length := mem_pairsTo.2 ⟨by omega, by omega, by omega⟩
    rw [e] at this
    cases this
  | cons a r =>
    rw [e] at hne
    have h0 : BestP l way [a] (pstep l way ⟨0, 0, ⟨0, 0⟩⟩ a) := by
      unfold pstep
      rw [if_pos (.inl rfl)]
      refine ⟨by simp, rfl, hne a (by simp), fun x hx => ?_⟩
      simp at hx
      subst hx
      simp
    exact best_fold hw r [a] _ h0 (fun x hx => hne x (by simp [hx]))
/-- the best pair of those ahead of (k, b) -/
def stP (l : List Pt) (way : Int) (n k b : Nat) : PSt := ((List.range' (k + 1) (b - (k + 1))).map fun b => (k, b)).foldl (pstep l way) ((pairsTo n k).foldl (pstep l way) ⟨0, 0, ⟨0, 0⟩⟩)
theorem stP_start (l : List Pt) (way : Int) (n k : Nat) : stP l way n k (k + 1) = (pairsTo n k).foldl (pstep l way) ⟨0, 0, ⟨0, 0⟩⟩ := by simp [stP]
theorem stP_end (l : List Pt) (way : Int) (n k : Nat) : stP l way n k n = (pairsTo n (k + 1)).foldl (pstep l way) ⟨0, 0, ⟨0, 0⟩⟩ := by
  rw [pairsTo_succ, List.foldl_append]
  rfl
theorem stP_step (l : List Pt) (way : Int) (n k b : Nat) (h : k + 1 ≤ b) : stP l way n k (b + 1) = pstep l way (stP l way n k b) (k, b) := by
  unfold stP
  have e : b + 1 - (k + 1) = (b - (k + 1)) + 1 := by omega
  rw [e, List.range'_concat, List.map_append, List.foldl_append]
  simp only [List.map_cons, List.map_nil, List.foldl_cons, List.foldl_nil]
  have e2 : k + 1 + 1 * (b - (k + 1)) = b := by omega
  rw [e2]
end Pg
set_option linter.unusedVariables false
set_option linter.unusedSimpArgs false
namespace Pg
theorem sqP_comm (p q : Pt) : sqP p q = sqP q p := by
  unfold sqP
  have h1 : (p.x - q.x).natAbs = (q.x - p.x).natAbs := by omega
  have h2 : (p.y - q.y).natAbs = (q.y - p.y).natAbs := by omega
  rw [h1, h2]
theorem sqP_self (p : Pt) : sqP p p = ⟨0, 1⟩ := by
  unfold sqP
  simp
theorem pair_in {l : List Pt} {way : Int} (hw : way = 1 ∨ way = -1) (hl : 2 ≤ l.length) : (pairS l way).i < (pairS l way).j ∧ (pairS l way).j < l.length ∧ (pairS l way).d = sqP (pt l (pairS l way).i) (pt l (pairS l way).j) := by
  obtain ⟨h1, h2, _, _⟩ := pairS_best hw hl
  obtain ⟨_, h3, h4⟩ := mem_pairsTo.1 h1
  exact ⟨h3, h4, h2⟩
theorem pair_den {l : List Pt} {way : Int} (hw : way = 1 ∨ way = -1) (hl : 2 ≤ l.length) : (pairS l way).d.den = 1 := by
  rw [(pair_in hw hl).2.2]
  rfl
theorem close_le {l : List Pt} (hl : 2 ≤ l.length) {i j : Nat} (hi : i < l.length) (hj : j < l.length) (hij : i ≠ j) : (pairS l (-1)).d.num ≤ (sqP (pt l i) (pt l j)).num := by
  obtain ⟨_, _, _, h⟩ := pairS_best (.inr rfl) hl
  rcases Nat.lt_or_ge i j with k | k
  · have := h (i, j) (mem_pairsTo.2 ⟨hi, k, hj⟩)
    simp only at this
    omega
  · have := h (j, i) (mem_pairsTo.2 ⟨hj, by omega, hi⟩)
    simp only at this
    rw [sqP_comm]
    omega
theorem wide_ge {l : List Pt} (hl : 2 ≤ l.length) {i j : Nat} (hi : i < l.length) (hj : j < l.length) : (sqP (pt l i) (pt l j)).num ≤ (pairS l 1).d.num := by
  obtain ⟨_, _, _, h⟩ := pairS_best (.inl rfl) hl
  rcases Nat.lt_trichotomy i j with k | k | k
  · have := h (i, j) (mem_pairsTo.2 ⟨hi, k, hj⟩)
    simp only at this
    omega
  · subst k
    rw [sqP_self]
    exact Nat.zero_le _
  · have := h (j, i) (mem_pairsTo.2 ⟨hj, by omega, hi⟩)
    simp only at this
    rw [sqP_comm]
    omega
theorem close_dup {l : List Pt} (hl : 1 ≤ l.length) {i : Nat} (hi : i < l.length) : (pairS (l ++ [pt l i]) (-1)).d = ⟨0, 1⟩ := by
  have h2 : 2 ≤ (l ++ [pt l i]).length := by simp; omega
  have h := close_le (l := l ++ [pt l i]) h2 (i := i) (j := l.length) (by simp; omega) (by simp) (by omega)
  have e1 : pt (l ++ [pt l i]) i = pt l i := by
    unfold pt
    rw [List.getD_eq_getElem?_getD, List.getElem?_append_left hi, ← List.getD_eq_getElem?_getD]
  have e2 : pt (l ++ [pt l i]) l.length = pt l i := by
    conv => lhs; unfold pt
    rw [List.getD_eq_getElem?_getD, List.getElem?_append_right (Nat.le_refl _)]
    simp
    exact List.getD_eq_getElem?_getD.symm
  rw [e1, e2, sqP_self] at h
  have hd := pair_den (l := l ++ [pt l i]) (way := -1) (.inr rfl) h2
  have hn : (pairS (l ++ [pt l i]) (-1)).d.num = 0 := by simpa using h
  calc (pairS (l ++ [pt l i]) (-1)).d = ⟨(pairS (l ++ [pt l i]) (-1)).d.num, (pairS (l ++ [pt l i]) (-1)).d.den⟩ := rfl
    _ = ⟨0, 1⟩ := by rw [hn, hd]
theorem cmp_lt {x y : Nat} : cmpF ⟨x, 1⟩ ⟨y, 1⟩ < 0 ↔ x < y := by
  rcases cmpF_one x y with ⟨h, e⟩ | ⟨h, e⟩ | ⟨h, e⟩ <;> rw [e] <;> omega
theorem cmp_gt {x y : Nat} : 0 < cmpF ⟨x, 1⟩ ⟨y, 1⟩ ↔ y < x := by
  rcases cmpF_one x y with ⟨h, e⟩ | ⟨h, e⟩ | ⟨h, e⟩ <;> rw [e] <;> omega
end Pg
