/-
  Own rows of keys: built by append, each key a row of bytes of its own.
-/
import Derived.Test.YtkfbkfcmdfpfjaaGreatDoorQEncD
set_option linter.unusedSimpArgs false
set_option linter.unusedVariables false
namespace Pg
open Go Go.RowKit
theorem own_belowK {w w' : World} {base : Nat} {e : TypeId} {size : Nat} {v : Value} {n : Nat} {xs : List Value} (h : w.ownsRow base e size v n xs) (hb : Below w.heap.size w w') : w'.ownsRow base e size v n xs := by
  obtain ⟨h1, h2 | ⟨g, cap, cur, hv, hg, hh, r⟩⟩ := h
  · exact ⟨h1, .inl h2⟩
  · refine ⟨h1, .inr ⟨g, cap, cur, hv, hg, (hb.block g ?_).trans hh, r⟩⟩
    rcases Nat.lt_or_ge g w.heap.size with h | h
    · exact h
    · rw [Array.getElem?_eq_none h] at hh; cases hh
end Pg
namespace Go.Proofs.YtkfbkfcmdfpfjaaGreatDoor
open Go.RowKit Pg
/-- an own row of keys -/
def KeysAt (w : World) (base : Nat) (v : Value) (L : List (List Nat)) : Prop :=
  ∃ cs : List Value, w.ownsRow base 95 1 v L.length cs ∧ ∀ (j : Nat) (u : Value), cs[j]? = some u → ∃ l, L[j]? = some l ∧ w.ownsRow base 5 1 u l.length (ycells l)
theorem KeysAt.nil (w : World) (base : Nat) : KeysAt w base (.slice none 0 0) [] := ⟨[], World.ownsRow_nil _ _ _ _, fun j u h => by simp at h⟩
theorem KeysAt.below {w w' : World} {base : Nat} {v : Value} {L : List (List Nat)} (h : KeysAt w base v L) (hb : Below w.heap.size w w') : KeysAt w' base v L := by
  obtain ⟨cs, h1, h2⟩ := h
  refine ⟨cs, own_belowK h1 hb, fun j u hu => ?_⟩
  obtain ⟨l, hl, ho⟩ := h2 j u hu
  exact ⟨l, hl, own_belowK ho hb⟩
end Go.Proofs.YtkfbkfcmdfpfjaaGreatDoor
