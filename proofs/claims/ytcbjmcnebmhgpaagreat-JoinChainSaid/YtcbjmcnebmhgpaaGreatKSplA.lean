/-
  The split's comparison: its closure's contract.
  The split's sort of the places.
  Sorting nothing.
  The split of boxes: its contract.
-/
import Derived.Test.YtcbjmcnebmhgpaaGreatKPlane
import Derived.Test.YtcbjmcnebmhgpaaGreatKLex
import Derived.Test.YtcbjmcnebmhgpaaGreatKWords
import Derived.Test.YtcbjmcnebmhgpaaGreatKPlainSplit
import Derived.Test.YtcbjmcnebmhgpaaGreatChecked
import Derived.Lib.Strings
import Derived.Lib.Slices
import Derived.Lib.Small
import Derived.Lib.Walk
import Derived.Lib.BitFns
import Derived.Lib.ItoaNum
import Derived.Test.YtcbjmcnebmhgpaaGreatKEncK
import Derived.Deep.OwnRows
set_option linter.unusedVariables false
set_option linter.unusedSimpArgs false
namespace Go.Proofs.YtcbjmcnebmhgpaaGreat
open Go.RowKit Pg
theorem small_bx {b : Bx} (h : okBx b = true ∨ b = bzero) : (-1073741824 ≤ b.lo.x ∧ b.lo.x ≤ 1073741824) ∧ (-1073741824 ≤ b.lo.y ∧ b.lo.y ≤ 1073741824) ∧ (-1073741824 ≤ b.hi.x ∧ b.hi.x ≤ 1073741824) ∧ (-1073741824 ≤ b.hi.y ∧ b.hi.y ≤ 1073741824) := by
 rcases h with h | rfl
 · have hp : okPt b.lo = true ∧ okPt b.hi = true := by
    unfold okBx ckBox at h
    cases h1 : okPt b.lo <;> cases h2 : okPt b.hi <;> simp [h1,h2] at h ⊢
   obtain ⟨h1,h2⟩ := hp
   simp [okPt, farB] at h1 h2
   omega
 · decide
end Go.Proofs.YtcbjmcnebmhgpaaGreat
namespace Pg
open Go Go.RowKit
def co (b : Bx) (r : Nat) : Int := match r with | 0 => b.lo.x | 1 => b.lo.y | 2 => b.hi.x | _ => b.hi.y
def bcl (f : Nat → Bx) (n : Nat) : List Value := (List.range (n * 4)).map fun j => .int .i64 (co (f (j / 4)) (j % 4))
def updB (f : Nat → Bx) (k : Nat) (b : Bx) : Nat → Bx := fun j => if j = k then b else f j
theorem bcl_at {f : Nat → Bx} {n j : Nat} (h : j < n * 4) : (bcl f n)[j]? = some (.int .i64 (co (f (j / 4)) (j % 4))) := by simp [bcl,h]
theorem bcl_set {f : Nat → Bx} {n k : Nat} (b : Bx) (hk : k < n) :
 (((((bcl f n).toArray.setIfInBounds (k * 4) (.int .i64 b.lo.x)).setIfInBounds (k * 4 + 1) (.int .i64 b.lo.y)).setIfInBounds (k * 4 + 2) (.int .i64 b.hi.x)).setIfInBounds (k * 4 + 3) (.int .i64 b.hi.y)) = (bcl (updB f k b) n).toArray := by
 apply Array.ext_getElem?
 intro j
 simp only [Array.getElem?_setIfInBounds,Array.size_setIfInBounds,List.size_toArray,lta]
 have hl : (bcl f n).length = n * 4 := by simp [bcl]
 simp only [hl]
 by_cases hj : j < n * 4
 · rw [bcl_at hj,bcl_at hj]
   by_cases e0 : k * 4 + 3 = j
   · subst e0
     rw [if_pos rfl, if_pos (by omega), show (k * 4 + 3) / 4 = k by omega, show (k * 4 + 3) % 4 = 3 by omega]
     simp [updB, co]
   · rw [if_neg e0]
     by_cases e1 : k * 4 + 2 = j
     · subst e1
       rw [if_pos rfl, if_pos (by omega), show (k * 4 + 2) / 4 = k by omega, show (k * 4 + 2) % 4 = 2 by omega]
       simp [updB, co]
     · rw [if_neg e1]
       by_cases e2 : k * 4 + 1 = j
       · subst e2
         rw [if_pos rfl, if_pos (by omega), show (k * 4 + 1) / 4 = k by omega, show (k * 4 + 1) % 4 = 1 by omega]
         simp [updB, co]
       · rw [if_neg e2]
         by_cases e3 : k * 4 = j
         · subst e3
           rw [if_pos rfl, if_pos (by omega), show (k * 4) / 4 = k by omega, show (k * 4) % 4 = 0 by omega]
           simp [updB, co]
         · rw [if_neg e3]
           have : j / 4 ≠ k := by omega
           simp [updB, this]
 · have h0 : (bcl f n)[j]? = none := List.getElem?_eq_none (by rw [hl];omega)
   have h1 : (bcl (updB f k b) n)[j]? = none := List.getElem?_eq_none (by simp [bcl];omega)
   rw [h0, h1]
   repeat' split
   all_goals first | rfl | (exfalso;omega)
def ocl (s : Nat → Bool) (n : Nat) : List Value := (List.range n).map fun j => .bool (s j)
theorem ocl_set {s : Nat → Bool} {n k : Nat} (hk : k < n) : (ocl s n).toArray.setIfInBounds k (.bool true) = (ocl (fun j => s j || decide (j = k)) n).toArray := by
 apply Array.ext_getElem?
 intro j
 simp only [Array.getElem?_setIfInBounds,List.size_toArray,lta]
 by_cases hj : j < n
 · by_cases e : k = j
   · subst e
     simp [ocl, hj]
   · have e2 : ¬ j = k := fun h => e h.symm
     simp [ocl, hj, e, e2]
 · have e : ¬ k = j := by omega
   simp [ocl, hj, e]
theorem made_bcl (n : Nat) : madeCells #[Value.int .i64 0,.int .i64 0,.int .i64 0,.int .i64 0] (n * 4) = (bcl (fun _ => bzero) n).toArray := by
 apply Array.ext_getElem?
 intro j
 by_cases hj : j < n * 4
 · have hm : j % 4 = 0 ∨ j % 4 = 1 ∨ j % 4 = 2 ∨ j % 4 = 3 := by omega
   rw [List.getElem?_toArray (xs := bcl _ n), bcl_at hj]
   rcases hm with h | h | h | h <;> simp [madeCells,hj,h,co,bzero]
 · simp [madeCells,bcl,hj]
theorem made_ocl (n : Nat) : madeCells #[Value.bool false] n = (ocl (fun _ => false) n).toArray := by
 apply Array.ext_getElem?
 intro j
 by_cases hj : j < n
 · simp [madeCells,ocl,hj,Nat.mod_one]
 · simp [madeCells,ocl,hj]
def boxK (l : List Nat) : Bx := (unkeyS l).getD bzero
end Pg
namespace Go.Proofs.YtcbjmcnebmhgpaaGreat
open Go.RowKit Pg
theorem Tryz.infoBx : (Tryz.prog.info? 73).map (fun i => (i.zero,i.size,i.bytes)) = some (some (bxV 0 0 0 0),4,32) := by kernel_rfl
theorem Tryz.infoB : (Tryz.prog.info? 4).map (fun i => (i.zero,i.size,i.bytes)) = some (some (.bool false),1,1) := by kernel_rfl
theorem make_bx (n : Nat) (hn : n ≤ 1000000) (w : World) : (Instr.makeSlice 71 (.int .i64 (n : Int)) (.int .i64 (n : Int))).run Tryz.prog w = .ok (.slice (some ⟨w.heap.size,0,none⟩) n n) (w.alloc (.cells (bcl (fun _ => bzero) n).toArray 73)) := by
 obtain ⟨i0,hi,iz0,iz1,iz2⟩ := info_parts Tryz.infoBx;have h := run_make (P := Tryz.prog) w 71 73 i0 (bxV 0 0 0 0) Tryz.underlying71 hi iz0 .i64 .i64 (n : Int) (n : Int) (by omega) (by omega) (by rw [iz2];omega) (by omega)
 rw [iz1] at h
 rw [← made_bcl]
 exact h
theorem make_b (n : Nat) (hn : n ≤ 1000000) (w : World) : (Instr.makeSlice 81 (.int .i64 (n : Int)) (.int .i64 (n : Int))).run Tryz.prog w = .ok (.slice (some ⟨w.heap.size,0,none⟩) n n) (w.alloc (.cells (ocl (fun _ => false) n).toArray 4)) := by
 rw [← made_ocl]
 exact run_make_row' _ _ (.bool false) 1 Tryz.underlying81 Tryz.infoB rfl .i64 .i64 n (by omega) (by omega) w
theorem unkeyV_box (l : List Nat) : ∃ q,unkeyV l = .tuple #[bxV (boxK l).lo.x (boxK l).lo.y (boxK l).hi.x (boxK l).hi.y,.bool q] := by
 unfold unkeyV boxK
 cases unkeyS l with
 | none => exact ⟨false,rfl⟩
 | some b => exact ⟨true,rfl⟩
theorem boxK_ok {l : List Nat} (h : ∀ x ∈ l,x < 256) : okBx (boxK l) = true ∨ boxK l = bzero := by
 unfold boxK
 cases e : unkeyS l with
 | none => exact .inr rfl
 | some b => exact .inl (unkey_inv h e).1
end Go.Proofs.YtcbjmcnebmhgpaaGreat
