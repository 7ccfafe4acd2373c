/-
  Plain laws of the reference's numbers: words of 32 bits, their value, the product word by word; the division bit by bit.
  Contracts of the reference's numbers: words, join, times.
  Contracts of the reference's numbers: Mul, Times, Abs, Square, Compare, Add, CompareProducts, gcd.
  Contracts of the reference's numbers: Add, CompareProducts, gcd, Num, CompareDist.
  Contracts of the reference's numbers: Div, Lowest.
-/
import Derived.Test.YtkfbkfcmdfpfjaaGreatDoorQWide
import Derived.Test.YtkfbkfcmdfpfjaaGreatDoorQLex
import Derived.Test.YtkfbkfcmdfpfjaaGreatDoorQBits2
import Derived.Lib.EndianBits
import Derived.Deep.OwnRows
import Derived.Test.YtkfbkfcmdfpfjaaGreatDoorQRatio
set_option linter.unusedVariables false
set_option linter.unusedSimpArgs false
namespace Pg

end Pg
namespace Pg
/-! the division, bit by bit -/
end Pg
set_option linter.unusedSimpArgs false
set_option linter.unusedVariables false
namespace Go.Proofs.YtkfbkfcmdfpfjaaGreatDoor
open Go.RowKit Pg

/-- the slice value reads as the numbers f 0, f 1, .. -/
def NatF (w : World) (B : Nat) (A : Option Addr) (n : Nat) (f : Nat → Nat) : Prop :=
  0 < n → ∃ b off, A = some ⟨b, off, none⟩ ∧ b < B ∧ ∀ k, k < n → w.cell? ⟨b, off + k, none⟩ = some (.int .u64 (f k))
theorem NatF.below {w w' : World} {B n : Nat} {A : Option Addr} {f : Nat → Nat} (h : NatF w B A n f) (hb : Below B w w') : NatF w' B A n f := fun hn => by
  obtain ⟨b, off, e, hlt, hc⟩ := h hn
  exact ⟨b, off, e, hlt, fun k hk => (hb.cell (p := ⟨b, off + k, none⟩) hlt).trans (hc k hk)⟩
theorem NatF.up {w : World} {B B' n : Nat} {A : Option Addr} {f : Nat → Nat} (h : NatF w B A n f) (hB : B ≤ B') : NatF w B' A n f := fun hn => by
  obtain ⟨b, off, e, hlt, hc⟩ := h hn
  exact ⟨b, off, e, by omega, hc⟩
end Go.Proofs.YtkfbkfcmdfpfjaaGreatDoor
set_option linter.unusedSimpArgs false
set_option linter.unusedVariables false
namespace Go.Proofs.YtkfbkfcmdfpfjaaGreatDoor
open Go.RowKit Pg

end Go.Proofs.YtkfbkfcmdfpfjaaGreatDoor
set_option linter.unusedSimpArgs false
set_option linter.unusedVariables false
namespace Go.Proofs.YtkfbkfcmdfpfjaaGreatDoor
open Go.RowKit Pg

end Go.Proofs.YtkfbkfcmdfpfjaaGreatDoor
set_option linter.unusedSimpArgs false
set_option linter.unusedVariables false
namespace Go.Proofs.YtkfbkfcmdfpfjaaGreatDoor
open Go.RowKit Pg
end Go.Proofs.YtkfbkfcmdfpfjaaGreatDoor
