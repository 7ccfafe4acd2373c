/-
  The contract of ring.Has.
-/
import Derived.Test.YtjdgibpjlhpanaaDoorRingCk
set_option linter.unusedSimpArgs false
set_option linter.unusedVariables false
namespace Go.Proofs.YtjdgibpjlhpanaaDoor
open Go.RowKit Pg

theorem sgn_pos (n : Int) : (0 < sgn n) ↔ 0 < n := by
  unfold sgn
  split
  · omega
  · split <;> omega
theorem crossesB_eq (a b p : Pt) : crossesB a b p = if b.y < a.y then decide (b.y ≤ p.y) && decide (p.y < a.y) && decide (0 < orient b a p) else decide (a.y ≤ p.y) && decide (p.y < b.y) && decide (0 < orient a b p) := by
  unfold crossesB orient
  simp only [sgn_pos]

theorem xor3 {A B C : Prop} [Decidable A] [Decidable B] [Decidable C] {p : Bool} (h : A ∧ B ∧ C) : Value.bool (!p) = Value.bool (xor p (decide A && decide B && decide C)) := by
  rw [decide_eq_true h.1, decide_eq_true h.2.1, decide_eq_true h.2.2]; simp
theorem xor0 {A B C : Prop} [Decidable A] [Decidable B] [Decidable C] {p : Bool} (h : ¬ (A ∧ B ∧ C)) : Value.bool p = Value.bool (xor p (decide A && decide B && decide C)) := by
  have : (decide A && decide B && decide C) = false := by
    cases hd : (decide A && decide B && decide C)
    · rfl
    · simp at hd; exact absurd ⟨hd.1.1, hd.1.2, hd.2⟩ h
  rw [this]; simp

end Go.Proofs.YtjdgibpjlhpanaaDoor
