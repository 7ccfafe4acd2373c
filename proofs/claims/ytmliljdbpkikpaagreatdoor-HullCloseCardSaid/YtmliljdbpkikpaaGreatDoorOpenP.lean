/-
  A list of points that can be read has room for what it has.
-/
import Derived.Test.YtmliljdbpkikpaaGreatDoorOpenArg
set_option linter.unusedSimpArgs false
set_option linter.unusedVariables false
set_option maxRecDepth 100000
namespace Go.Proofs.YtmliljdbpkikpaaGreatDoor
open Go.RowKit Go.ChangeShapes Go.WideShapes Go.Deep Pg
section
variable {H : Type} {enc : TypeId × Value → H} {W : World} {base : Nat} {spare : Nat → Bool} {held : Bool} {v : Value} {d : DataW H} {p : List MemPlace} {r : Reach} {b0 : Nat}
theorem open_ptsVc (hv : Value.okWide Tryz.prog W r b0 22 v) (h : DataW.Trod enc Tryz.prog W base spare held 22 v d p) :
    ∃ (A : Option Addr) (n c : Nat) (l : List Pt), v = .slice A n c ∧ PtsAt W W.heap.size A n l ∧ n ≤ c := by
  obtain ⟨fuel, hf⟩ := h
  obtain ⟨A, n, c, l, e, hp⟩ := open_pts hf
  obtain ⟨a', n', c', rfl⟩ := okWide_slice Tryz.underlying22 hv
  refine ⟨A, n, c, l, by simp [Value.cells] at e; rw [e.1, e.2.1, e.2.2], hp, ?_⟩
  rcases open_slice Tryz.underlying22 hf with ⟨h0, _⟩ | ⟨a, n2, c2, m, k, D, Pl, h0, _, hnc, _⟩
  · rw [e] at h0
    injection h0 with h0
    injection h0 with _ h1 h2
    omega
  · rw [e] at h0
    injection h0 with h0
    injection h0 with _ h1 h2
    omega
end
end Go.Proofs.YtmliljdbpkikpaaGreatDoor
