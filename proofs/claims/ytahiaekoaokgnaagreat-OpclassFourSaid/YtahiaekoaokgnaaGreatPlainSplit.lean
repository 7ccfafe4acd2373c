/-
  Plain laws of the split of boxes: who goes is told by how many stand ahead.
-/
import Derived.Test.YtahiaekoaokgnaaGreatGeo
set_option linter.unusedVariables false
set_option linter.unusedSimpArgs false
namespace Pg

def cX (b : Bx) : Int := b.lo.x + b.hi.x
def cY (b : Bx) : Int := b.lo.y + b.hi.y
/-- box i stands ahead of box k -/
def ahd (l : List Bx) (i k : Nat) : Bool :=
  decide (cX (l.getD i bzero) < cX (l.getD k bzero)) || (decide (cX (l.getD i bzero) = cX (l.getD k bzero)) && (decide (cY (l.getD i bzero) < cY (l.getD k bzero)) || (decide (cY (l.getD i bzero) = cY (l.getD k bzero)) && decide (i < k))))
theorem ahd_irrefl (l : List Bx) (i : Nat) : ahd l i i = false := by unfold ahd; simp
theorem ahd_iff (l : List Bx) (i k : Nat) : ahd l i k = true ↔ cX (l.getD i bzero) < cX (l.getD k bzero) ∨ (cX (l.getD i bzero) = cX (l.getD k bzero) ∧ (cY (l.getD i bzero) < cY (l.getD k bzero) ∨ (cY (l.getD i bzero) = cY (l.getD k bzero) ∧ i < k))) := by
  unfold ahd
  simp
theorem ahd_asymm {l : List Bx} {i k : Nat} (h : ahd l i k = true) : ahd l k i = false := by
  rw [Bool.eq_false_iff]
  intro h2
  rw [ahd_iff] at h h2
  omega
theorem ahd_total {l : List Bx} {i k : Nat} (h : ahd l i k = false) (h2 : ahd l k i = false) : i = k := by
  rw [Bool.eq_false_iff] at h h2
  rw [Ne, ahd_iff] at h h2
  omega
theorem ahd_trans {l : List Bx} {i j k : Nat} (h : ahd l i j = true) (h2 : ahd l j k = true) : ahd l i k = true := by
  rw [ahd_iff] at *
  omega
/-- how many stand ahead of box i -/
def rank (l : List Bx) (i : Nat) : Nat := (List.range l.length).countP fun k => ahd l k i
def splitS (l : List Bx) : List Bool := (List.range l.length).map fun i => decide (l.length - l.length / 2 ≤ rank l i)
theorem countP_all {α : Type} {p : α → Bool} {l : List α} (h : ∀ x ∈ l, p x = true) : l.countP p = l.length := List.countP_eq_length.2 h
theorem countP_none {α : Type} {p : α → Bool} {l : List α} (h : ∀ x ∈ l, p x = false) : l.countP p = 0 := List.countP_eq_zero.2 fun x hx => by simp [h x hx]
/-- in a sorted row of all the places, a place's rank is where it stands -/
theorem rank_of {l : List Bx} {d : List Nat} (hp : d.Perm (List.range l.length)) (hs : d.Pairwise fun i k => ahd l i k = true) {j : Nat} (hj : j < d.length) : rank l d[j] = j := by
  unfold rank
  rw [← hp.countP_eq]
  have e : d = d.take j ++ d[j] :: d.drop (j + 1) := by
    rw [List.getElem_cons_drop, List.take_append_drop]
  have hs2 := hs
  rw [e, List.pairwise_append, List.pairwise_cons] at hs2
  obtain ⟨_, ⟨h2, _⟩, h3⟩ := hs2
  have e2 : d.countP (fun k => ahd l k d[j]) = (d.take j ++ d[j] :: d.drop (j + 1)).countP (fun k => ahd l k d[j]) := by
    generalize hy : d[j] = y at *
    exact congrArg (fun z : List Nat => z.countP fun k => ahd l k y) e
  rw [e2]
  rw [List.countP_append, List.countP_cons, countP_all (l := d.take j) (fun x hx => h3 x hx _ (List.mem_cons_self ..)), countP_none (l := d.drop (j + 1)) (fun x hx => ahd_asymm (h2 x hx)), ahd_irrefl]
  simp
  omega
theorem range_get {n i : Nat} (h : i < n) : (List.range n)[i]? = some i := by rw [List.getElem?_eq_getElem (by simpa using h)]; simp
theorem splitS_len (l : List Bx) : (splitS l).length = l.length := by simp [splitS]
theorem splitS_at {l : List Bx} {i : Nat} (h : i < l.length) : (splitS l)[i]? = some (decide (l.length - l.length / 2 ≤ rank l i)) := by
  unfold splitS
  rw [List.getElem?_map, range_get h]
  rfl
/-- there is a sorted row of all the places -/
theorem sorted_ex (l : List Bx) : ∃ d : List Nat, d.Perm (List.range l.length) ∧ d.Pairwise fun i k => ahd l i k = true := by
  refine ⟨(List.range l.length).mergeSort (fun i k => !ahd l k i), List.mergeSort_perm _ _, ?_⟩
  have h1 : ((List.range l.length).mergeSort (fun i k => !ahd l k i)).Pairwise (fun i k => (!ahd l k i) = true) :=
    List.pairwise_mergeSort (fun a b c h1 h2 => by
      simp only [Bool.not_eq_true'] at *
      cases h3 : ahd l c a
      · rfl
      · exfalso
        cases h4 : ahd l a b
        · have := ahd_total h4 h1
          subst this
          rw [h3] at h2
          cases h2
        · rw [ahd_trans h3 h4] at h2
          cases h2) (fun a b => by
      cases h1 : ahd l b a
      · simp
      · simp [ahd_asymm h1]) _
  have h2 : ((List.range l.length).mergeSort (fun i k => !ahd l k i)).Nodup := (List.mergeSort_perm _ _).nodup_iff.2 List.nodup_range
  refine (List.Pairwise.and h1 h2).imp fun {a b} h => ?_
  obtain ⟨h3, h4⟩ := h
  simp only [Bool.not_eq_true'] at h3
  cases h5 : ahd l a b
  · exact absurd (ahd_total h5 h3) h4
  · rfl
theorem countP_range_le (n m : Nat) (h : m ≤ n) : (List.range n).countP (fun j => decide (m ≤ j)) = n - m := by
  induction n with
  | zero => simp
  | succ n ih =>
    rw [List.range_succ, List.countP_append, List.countP_singleton]
    rcases Nat.lt_or_ge n m with h1 | h1
    · rw [countP_none (fun x hx => by have := List.mem_range.1 hx; simp; omega), decide_eq_false (by omega)]
      simp
      omega
    · rw [ih h1, decide_eq_true h1]
      simp
      omega
/-- a half goes -/
theorem splitS_count (l : List Bx) : (splitS l).countP (fun b => b) = l.length / 2 := by
  obtain ⟨d, hp, hs⟩ := sorted_ex l
  have hl : d.length = l.length := by rw [hp.length_eq]; simp
  unfold splitS
  rw [List.countP_map, ← hp.countP_eq]
  have : d.countP ((fun b => b) ∘ fun i => decide (l.length - l.length / 2 ≤ rank l i)) = (List.range l.length).countP (fun j => decide (l.length - l.length / 2 ≤ j)) := by
    have e : d = (List.range l.length).map (fun j => d.getD j 0) := by
      apply List.ext_getElem
      · simp [hl]
      · intro i h1 h2
        simp [List.getD_eq_getElem?_getD, List.getElem?_eq_getElem h1]
    conv => lhs; rw [e]
    rw [List.countP_map]
    refine List.countP_congr fun j hj => ?_
    have hj2 : j < d.length := by rw [hl]; exact List.mem_range.1 hj
    simp only [Function.comp, List.getD_eq_getElem?_getD, List.getElem?_eq_getElem hj2, Option.getD_some]
    rw [rank_of hp hs hj2]
  rw [this, countP_range_le _ _ (by omega)]
  omega
theorem countP_lt {α : Type} {p q : α → Bool} {l : List α} (h : ∀ x ∈ l, p x = true → q x = true) {y : α} (hy : y ∈ l) (hq : q y = true) (hn : p y = false) : l.countP p < l.countP q := by
  induction l with
  | nil => cases hy
  | cons a r ih =>
    rw [List.countP_cons, List.countP_cons]
    have h1 : r.countP p ≤ r.countP q := List.countP_mono_left fun x hx => h x (by simp [hx])
    rcases List.mem_cons.1 hy with rfl | hy
    · simp [hq, hn]; omega
    · have := ih (fun x hx => h x (by simp [hx])) hy
      have ha := h a (by simp)
      cases hp : p a
      · cases hq2 : q a <;> simp <;> omega
      · simp [ha hp]; omega
theorem rank_lt {l : List Bx} {i k : Nat} (hi : i < l.length) (h : ahd l i k = true) : rank l i < rank l k :=
  countP_lt (fun x _ hx => ahd_trans hx h) (List.mem_range.2 hi) h (ahd_irrefl l i)
/-- none that goes lies wholly ahead of one that stays -/
theorem splitS_parts {l : List Bx} {i k : Nat} (hi : i < l.length) (hk : k < l.length) (h1 : (splitS l)[i]? = some true) (h2 : (splitS l)[k]? = some false) : ¬ cX (l.getD i bzero) < cX (l.getD k bzero) := by
  intro h
  rw [splitS_at hi] at h1
  rw [splitS_at hk] at h2
  simp only [Option.some.injEq, decide_eq_true_eq, decide_eq_false_iff_not] at h1 h2
  have := rank_lt hi ((ahd_iff l i k).2 (.inl h))
  omega
end Pg
