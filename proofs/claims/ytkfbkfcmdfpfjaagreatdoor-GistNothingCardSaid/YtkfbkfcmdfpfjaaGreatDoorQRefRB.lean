/-
  Contracts of the references of chapters 5 and 6: RingBox, Bounds.
  Contract of rel.Bounds at an object that may not be.
-/
import Derived.Test.YtkfbkfcmdfpfjaaGreatDoorQPlane
import Derived.Test.YtkfbkfcmdfpfjaaGreatDoorQPlainSplit
import Derived.Test.YtkfbkfcmdfpfjaaGreatDoorQOn
import Derived.Test.YtkfbkfcmdfpfjaaGreatDoorQSegm
import Derived.StillTailTactics
import Derived.Outline
import Derived.Test.YtkfbkfcmdfpfjaaGreatDoorQRel1
import Derived.Test.YtkfbkfcmdfpfjaaGreatDoorQRing
import Derived.Test.YtkfbkfcmdfpfjaaGreatDoorQLex
import Derived.Test.YtkfbkfcmdfpfjaaGreatDoorQRel8
import Derived.Test.YtkfbkfcmdfpfjaaGreatDoorQWide
set_option linter.unusedSimpArgs false
set_option linter.unusedVariables false
namespace Go.Proofs.YtkfbkfcmdfpfjaaGreatDoor
open Go.RowKit Pg

theorem box_put {W : World} {g : Nat} {t : TypeId} {x y z u a b c d : Value} (h : Blk W g t #[x, y, z, u]) :
    Blk ((((W.setCell ⟨g, 0, none⟩ a).setCell ⟨g, 1, none⟩ b).setCell ⟨g, 2, none⟩ c).setCell ⟨g, 3, none⟩ d) g t #[a, b, c, d] :=
  ((((h.set_ 0 a).set_ 1 b).set_ 2 c).set_ 3 d).eq_ (by simp)
end Go.Proofs.YtkfbkfcmdfpfjaaGreatDoor
set_option linter.unusedSimpArgs false
set_option linter.unusedVariables false
namespace Go.Proofs.YtkfbkfcmdfpfjaaGreatDoor
open Go.RowKit Pg

end Go.Proofs.YtkfbkfcmdfpfjaaGreatDoor
set_option linter.unusedSimpArgs false
set_option linter.unusedVariables false
namespace Go.Proofs.YtkfbkfcmdfpfjaaGreatDoor
open Go.RowKit Pg

theorem Blk.ne {w : World} {g g' : Nat} {t t' : TypeId} {cs cs' : Array Value} (h : Blk w g t cs) (h' : Blk w g' t' cs') (ht : t ≠ t') : g ≠ g' := by
  intro e
  subst e
  have h2 := (Option.some.inj (h.symm.trans h'))
  injection h2 with h3 h4
  exact ht h4
theorem ErrC.far {w : World} {v : Value} {k r : Nat} {t : TypeId} {cs : Array Value} (h : ErrC w v k) (hr : Blk w r t cs) (ht : 78 ≠ t) (i : Nat) (x : Value) : ErrC (w.setCell ⟨r, i, none⟩ x) v k := by
  rcases h with h | h | ⟨h0, g, s, id, e, hB⟩
  · exact .inl h
  · exact .inr (.inl h)
  · exact .inr (.inr ⟨h0, g, s, id, e, hB.far (p := ⟨r, i, none⟩) (Blk.ne hB hr ht) x⟩)
theorem ErrW.far {w : World} {v : Value} {k r : Nat} {s : ByteArray} {id : Int} {t : TypeId} {cs : Array Value} (h : ErrW w v k s id) (hr : Blk w r t cs) (ht : 78 ≠ t) (i : Nat) (x : Value) : ErrW (w.setCell ⟨r, i, none⟩ x) v k s id := by
  rcases h with h | ⟨h0, g, inner, e, hB, hi⟩
  · exact .inl h
  · exact .inr ⟨h0, g, inner, e, hB.far (p := ⟨r, i, none⟩) (Blk.ne hB hr ht) x, hi.far hr ht i x⟩
theorem ErrW.put4 {w : World} {v : Value} {k r : Nat} {s : ByteArray} {id : Int} {t : TypeId} {cs : Array Value} (h : ErrW w v k s id) (hr : Blk w r t cs) (ht : 78 ≠ t) (x y z u : Value) :
    ErrW ((((w.setCell ⟨r, 0, none⟩ x).setCell ⟨r, 1, none⟩ y).setCell ⟨r, 2, none⟩ z).setCell ⟨r, 3, none⟩ u) v k s id :=
  (((h.far hr ht 0 x).far (hr.set_ 0 x) ht 1 y).far ((hr.set_ 0 x).set_ 1 y) ht 2 z).far (((hr.set_ 0 x).set_ 1 y).set_ 2 z) ht 3 u

set_option maxHeartbeats 2000000 in
set_option maxRecDepth 20000 in
theorem Bounds_bad (B n c : Nat) (k : Int) (A : Option Addr) (l : List Pt) (w : World) (hl : PtsAt w B A n l) (hB : B ≤ w.heap.size) (hn : n ≤ 1000000) (ho : ckOb ⟨k, l⟩ ≠ 0) :
    Calls Tryz.prog 97 #[obV k A n c] w fun e w' => ∃ v, e = .returned (.tuple #[bxW bzero, v]) ∧ ErrW w' v (ckOb ⟨k, l⟩) ⟨#[111, 98, 106, 101, 99, 116]⟩ k ∧ Below w.heap.size w w' := by
  obtain ⟨m, hm⟩ : ∃ m : Nat, ckOb ⟨k, l⟩ = m := ⟨_, rfl⟩
  rw [hm] at ho ⊢
  have HF := Lib.hid hm
  clear hm
  go_enter Tryz.func97, Tryz.ntmps97
  go_wp2_with (go_at_call 66; refine (Check_any B n c k A l _ (hl.tr bel hB) (Nat.le_trans hB (Below.size (B := w.heap.size) (w := w) bel)) hn).mono ?_; rw [HF.out]; rintro e wa ⟨va, rfl, hva, hba⟩; obtain ⟨t, u, rfl⟩ : ∃ t u, va = .iface t u := (by rcases hva with ⟨h, _⟩ | ⟨_, g, i, h, _⟩; exact absurd h ho; exact ⟨_, _, h⟩); obtain ⟨hca, hfa⟩ := bcell hba; have hza := hba.size; (try simp at hza); have hy0 : w.heap.size < wa.heap.size := (by omega); have hy1 : w.heap.size + 1 < wa.heap.size := (by omega))
  refine post_gen2 (R := fun w2 => Blk w2 (w.heap.size + 1) 60 #[.int .i64 0, .int .i64 0, .int .i64 0, .int .i64 0] ∧ ErrW w2 (.iface t u) m ⟨#[111, 98, 106, 101, 99, 116]⟩ k ∧ Below w.heap.size w w2) ⟨?_, ?_, bel⟩ ?_
  · repeat (first | with_reducible exact box_put (x := .int .i64 0) (y := .int .i64 0) (z := .int .i64 0) (u := .int .i64 0) blkA | (with_reducible refine Blk.new ?_ rfl; focus (simp; done)) | with_reducible refine Blk.alloc ?_ _ | with_reducible refine Blk.drew ?_)
  · exact hva.put4 (r := w.heap.size + 1) (t := 60) (cs := #[.int .i64 0, .int .i64 0, .int .i64 0, .int .i64 0]) blkA (by decide) _ _ _ _
  rintro w2 ⟨HR, hE, hb2⟩
  have r0 := HR.cell 0
  have r1 := HR.cell 1
  have r2 := HR.cell 2
  have r3 := HR.cell 3
  simp only [List.getElem?_toArray, List.getElem?_cons_zero, List.getElem?_cons_succ] at r0 r1 r2 r3
  exact bodyPost_ret (v := .tuple #[bxW bzero, .iface t u]) (by simp [results, Tryz.results97, go_sem, r0, r1, r2, r3, bzero]) rfl ⟨_, rfl, hE, hb2⟩

end Go.Proofs.YtkfbkfcmdfpfjaaGreatDoor
