/-
  Contracts: slices.Clone of bytes; what a key covers: opclass.asks, nears, Covers, of whatever class.
-/
import Derived.Test.YtkfbkfcmdfpfjaaGreatDoorQOpcA
import Derived.Test.YtkfbkfcmdfpfjaaGreatDoorQPlainCov
import Derived.Test.YtkfbkfcmdfpfjaaGreatDoorQRatio
import Derived.Test.YtkfbkfcmdfpfjaaGreatDoorQDist4
set_option linter.unusedSimpArgs false
set_option linter.unusedVariables false
namespace Go.Proofs.YtkfbkfcmdfpfjaaGreatDoor
open Go.RowKit Pg

theorem all_take_succ {α : Type} {p : α → Bool} {l : List α} {k : Nat} {x : α} (h : l[k]? = some x) : (l.take (k + 1)).all p = ((l.take k).all p && p x) := by
  rw [List.take_add_one, h]
  simp
/-- a class's method Consistent, at one key: f is its function -/
structure ConsAt (rv : Value) (f : Nat) (Y : List Nat) (cons : Qu → Bool) : Prop where
  enter : ∀ (args : Array Value) (w : World), (callFunc f args).run Tryz.prog w = .ok (.enter f args) w
  calls : ∀ (W : World) (A : Option Addr) (c : Nat) (q : Qu) (A' : Option Addr) (m c' : Nat), BysAt W W.heap.size A Y.length Y → Y.length ≤ c → (A = none → c = 0) → PtsAt W W.heap.size A' m q.ring → m ≤ 1000000 →
    Calls Tryz.prog f #[rv, .slice A Y.length c, quV q.kind q.box A' m c'] W (Ret W (.bool (cons q)))

/-- a class's method Dist, at one key: f is its function -/
structure DistAt (rv : Value) (f : Nat) (Y : List Nat) (d : Pt → Fr) : Prop where
  enter : ∀ (args : Array Value) (w : World), (callFunc f args).run Tryz.prog w = .ok (.enter f args) w
  ok : ∀ p, FrOk (d p)
  calls : ∀ (W : World) (B : Nat) (A : Option Addr) (c : Nat) (x y : Int), BysAt W B A Y.length Y → B ≤ W.heap.size → Y.length ≤ c → (A = none → c = 0) →
    Calls Tryz.prog f #[rv, .slice A Y.length c, ptV x y] W (Ret W (fV (d ⟨x, y⟩)))
theorem bxF_okC (b : Bx) (p : Pt) : FrOk (bxF b p) := by
  unfold bxF
  split
  · rename_i h
    rw [Bool.and_eq_true] at h
    obtain ⟨⟨o1, o2⟩, o3, o4⟩ := (Pg.okBx_iff _).1 h.1
    obtain ⟨p1, p2, p3, p4⟩ := okPt_range h.2
    obtain ⟨q1, q2, q3, q4⟩ := okPt_range o1
    obtain ⟨r1, r2, r3, r4⟩ := okPt_range o2
    have g1 : 0 ≤ gap p.x b.lo.x b.hi.x ∧ gap p.x b.lo.x b.hi.x ≤ 2147483646 := by unfold gap; omega
    have g2 : 0 ≤ gap p.y b.lo.y b.hi.y ∧ gap p.y b.lo.y b.hi.y ≤ 2147483646 := by unfold gap; omega
    exact ⟨sqs_lt2 (by omega) (by omega) (by omega) (by omega), by simp only; omega⟩
  · exact ⟨by decide, by decide⟩
end Go.Proofs.YtkfbkfcmdfpfjaaGreatDoor
