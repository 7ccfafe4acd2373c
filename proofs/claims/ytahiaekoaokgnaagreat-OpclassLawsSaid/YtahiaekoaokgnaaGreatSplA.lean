/-
  The split's comparison: its closure's contract.
  The split's sort of the places.
  Sorting nothing.
  The split of boxes: its contract.
-/
import Derived.Test.YtahiaekoaokgnaaGreatPlane
import Derived.Test.YtahiaekoaokgnaaGreatLex
import Derived.Test.YtahiaekoaokgnaaGreatWords
import Derived.Test.YtahiaekoaokgnaaGreatBits1
import Derived.Test.YtahiaekoaokgnaaGreatEncG
import Derived.Test.YtahiaekoaokgnaaGreatEncD
import Derived.Deep.OwnRows
import Derived.Test.YtahiaekoaokgnaaGreatGeo
set_option linter.unusedVariables false
set_option linter.unusedSimpArgs false
namespace Pg

def cX (b : Bx) : Int := b.lo.x + b.hi.x
def cY (b : Bx) : Int := b.lo.y + b.hi.y
/-- box i stands ahead of box k -/
def ahd (l : List Bx) (i k : Nat) : Bool :=
  decide (cX (l.getD i bzero) < cX (l.getD k bzero)) || (decide (cX (l.getD i bzero) = cX (l.getD k bzero)) && (decide (cY (l.getD i bzero) < cY (l.getD k bzero)) || (decide (cY (l.getD i bzero) = cY (l.getD k bzero)) && decide (i < k))))
/-- how many stand ahead of box i -/
def rank (l : List Bx) (i : Nat) : Nat := (List.range l.length).countP fun k => ahd l k i
def splitS (l : List Bx) : List Bool := (List.range l.length).map fun i => decide (l.length - l.length / 2 ≤ rank l i)
theorem splitS_len (l : List Bx) : (splitS l).length = l.length := by simp [splitS]
end Pg

set_option linter.unusedSimpArgs false
set_option linter.unusedVariables false
namespace Go.Proofs.YtahiaekoaokgnaaGreat
open Go.RowKit Pg

theorem small_bx {b : Bx} (h : okBx b = true ∨ b = bzero) : (-1073741824 ≤ b.lo.x ∧ b.lo.x ≤ 1073741824) ∧ (-1073741824 ≤ b.lo.y ∧ b.lo.y ≤ 1073741824) ∧ (-1073741824 ≤ b.hi.x ∧ b.hi.x ≤ 1073741824) ∧ (-1073741824 ≤ b.hi.y ∧ b.hi.y ≤ 1073741824) := by
  rcases h with h | rfl
  · have hp : okPt b.lo = true ∧ okPt b.hi = true := by
      unfold okBx ckBox at h
      cases h1 : okPt b.lo <;> cases h2 : okPt b.hi <;> simp [h1, h2] at h ⊢
    obtain ⟨h1, h2⟩ := hp
    simp [okPt, farB] at h1 h2
    omega
  · decide

end Go.Proofs.YtahiaekoaokgnaaGreat
set_option linter.unusedSimpArgs false
set_option linter.unusedVariables false
namespace Go.Proofs.YtahiaekoaokgnaaGreat
open Go.RowKit Pg

section
variable {α : Type} [Inhabited α] {enc : α → Value}
end
end Go.Proofs.YtahiaekoaokgnaaGreat
set_option linter.unusedSimpArgs false
set_option linter.unusedVariables false
namespace Go.Proofs.YtahiaekoaokgnaaGreat
open Go.RowKit Pg
end Go.Proofs.YtahiaekoaokgnaaGreat
set_option linter.unusedSimpArgs false
set_option linter.unusedVariables false
namespace Pg
open Go Go.RowKit
/-- a box's number r -/
def co (b : Bx) (r : Nat) : Int := match r with | 0 => b.lo.x | 1 => b.lo.y | 2 => b.hi.x | _ => b.hi.y
/-- who goes, as far as it is told -/
def ocl (s : Nat → Bool) (n : Nat) : List Value := (List.range n).map fun j => .bool (s j)
theorem ocl_set {s : Nat → Bool} {n k : Nat} (hk : k < n) : (ocl s n).toArray.setIfInBounds k (.bool true) = (ocl (fun j => s j || decide (j = k)) n).toArray := by
  apply Array.ext_getElem?
  intro j
  simp only [Array.getElem?_setIfInBounds, List.size_toArray, List.getElem?_toArray]
  by_cases hj : j < n
  · by_cases e : k = j
    · subst e
      simp [ocl, hj]
    · have e2 : ¬ j = k := fun h => e h.symm
      simp [ocl, hj, e, e2]
  · have e : ¬ k = j := by omega
    simp [ocl, hj, e]
theorem made_ocl (n : Nat) : madeCells #[Value.bool false] n = (ocl (fun _ => false) n).toArray := by
  apply Array.ext_getElem?
  intro j
  by_cases hj : j < n
  · simp [madeCells, ocl, hj, Nat.mod_one]
  · simp [madeCells, ocl, hj]
/-- the box of a key, or none's -/
def boxK (l : List Nat) : Bx := (unkeyS l).getD bzero
end Pg
namespace Go.Proofs.YtahiaekoaokgnaaGreat
open Go.RowKit Pg
theorem Tryz.infoB : (Tryz.prog.info? 4).map (fun i => (i.zero, i.size, i.bytes)) = some (some (.bool false), 1, 1) := by kernel_rfl
theorem make_b (n : Nat) (hn : n ≤ 1000000) (w : World) : (Instr.makeSlice 42 (.int .i64 (n : Int)) (.int .i64 (n : Int))).run Tryz.prog w = .ok (.slice (some ⟨w.heap.size, 0, none⟩) n n) (w.alloc (.cells (ocl (fun _ => false) n).toArray 4)) := by
  rw [← made_ocl]
  exact run_make_row' _ _ (.bool false) 1 Tryz.underlying42 Tryz.infoB rfl .i64 .i64 n (by omega) (by omega) w

theorem unkeyV_box (l : List Nat) : ∃ q, unkeyV l = .tuple #[bxV (boxK l).lo.x (boxK l).lo.y (boxK l).hi.x (boxK l).hi.y, .bool q] := by
  unfold unkeyV boxK
  cases unkeyS l with
  | none => exact ⟨false, rfl⟩
  | some b => exact ⟨true, rfl⟩

theorem boxK_ok {l : List Nat} (h : ∀ x ∈ l, x < 256) : okBx (boxK l) = true ∨ boxK l = bzero := by
  unfold boxK
  cases e : unkeyS l with
  | none => exact .inr rfl
  | some b => exact .inl (unkey_inv h e).1

end Go.Proofs.YtahiaekoaokgnaaGreat
