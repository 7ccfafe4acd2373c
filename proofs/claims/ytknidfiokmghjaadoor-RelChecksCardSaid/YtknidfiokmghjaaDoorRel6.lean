/-
  Contracts of package rel: bounds, Match.
-/
import Derived.Test.YtknidfiokmghjaaDoorRel5
set_option linter.unusedSimpArgs false
set_option linter.unusedVariables false
namespace Go.Proofs.YtknidfiokmghjaaDoor
open Go.RowKit Pg

set_option maxHeartbeats 1000000 in
set_option maxRecDepth 20000 in
theorem bounds_ok (B n c : Nat) (k : Int) (A : Option Addr) (l : List Pt) (w : World) (hl : PtsAt w B A n l) (hB : B ≤ w.heap.size) (hck : ckOb ⟨k, l⟩ = 0) :
    Calls Tryd.prog 33 #[obV k A n c] w (Ret w (bxW (boundsS ⟨k, l⟩))) := by
  obtain ⟨p1, p2, p3, p4⟩ := ck_lens hck
  rw [hl.1] at p1 p2 p3
  cases hx : isBox ⟨k, l⟩
  · have HX := Lib.hid hx
    have HF : Hid (boundsS ⟨k, l⟩ = ringBx l) := by simp [Hid, boundsS, hx]
    have P4 := Lib.hid (p4 hx)
    clear hx p4
    go_enter Tryd.func33, Tryd.ntmps33
    go_wp2_with (first | (go_at_call 42; refine (box_any B n c k A l _ (hl.tr (by repeat (first | with_reducible exact Below.refl _ _ | with_reducible assumption | with_reducible refine al ?_ _ | with_reducible refine Below.drew ?_ | with_reducible refine Below.setCell ?_ (by first | (simp; done) | (simp; omega)) _ | with_reducible refine tr ?_ (by with_reducible assumption))) hB) (Nat.le_trans hB (Below.size (B := w.heap.size) (w := w) (by repeat (first | with_reducible exact Below.refl _ _ | with_reducible assumption | with_reducible refine al ?_ _ | with_reducible refine Below.drew ?_ | with_reducible refine Below.setCell ?_ (by first | (simp; done) | (simp; omega)) _ | with_reducible refine tr ?_ (by with_reducible assumption))))) (by assumption) (by assumption)).mono ?_; rw [HX.out]; rintro e wa ⟨rfl, hba⟩; obtain ⟨hca, hfa⟩ := bcell hba; have hza := hba.size; (try simp at hza); have hy0 : w.heap.size < wa.heap.size := (by omega); have hy1 : w.heap.size + 1 < wa.heap.size := (by omega)) | (go_at_call 53; refine (ringBox_ok B n c A l _ (hl.tr (by repeat (first | with_reducible exact Below.refl _ _ | with_reducible assumption | with_reducible refine al ?_ _ | with_reducible refine Below.drew ?_ | with_reducible refine Below.setCell ?_ (by first | (simp; done) | (simp; omega)) _ | with_reducible refine tr ?_ (by with_reducible assumption))) hB) (Nat.le_trans hB (Below.size (B := w.heap.size) (w := w) (by repeat (first | with_reducible exact Below.refl _ _ | with_reducible assumption | with_reducible refine al ?_ _ | with_reducible refine Below.drew ?_ | with_reducible refine Below.setCell ?_ (by first | (simp; done) | (simp; omega)) _ | with_reducible refine tr ?_ (by with_reducible assumption))))) P4.out).mono ?_; rintro e w1 ⟨rfl, hb1⟩; obtain ⟨hc1, hf1⟩ := bcell hb1; have hz1 := hb1.size; (try simp at hz1); have hy2 : w.heap.size < w1.heap.size := (by omega); have hy3 : w.heap.size + 1 < w1.heap.size := (by omega); have hya : wa.heap.size < w1.heap.size := (by omega)))
    have hQ : Blk w1 (w.heap.size + 1) 28 #[.int .i64 0, .int .i64 0, .int .i64 0, .int .i64 0] := (by repeat (first | with_reducible assumption | with_reducible exact Blk.new (by simp) rfl | with_reducible refine Blk.alloc ?_ _ | with_reducible refine Blk.drew ?_ | with_reducible refine Blk.far ?_ (by simp; omega) _ | with_reducible refine Blk.tr ?_ (by with_reducible assumption)))
    have HR := (Blk.set_ (Blk.set_ (Blk.set_ (Blk.set_ (Blk.far (Blk.far (Blk.far (Blk.far hQ (p := ⟨wa.heap.size, 0, none⟩) (by simp; omega) (.int .i64 (ringBx l).lo.x)) (p := ⟨wa.heap.size, 1, none⟩) (by simp; omega) (.int .i64 (ringBx l).lo.y)) (p := ⟨wa.heap.size, 2, none⟩) (by simp; omega) (.int .i64 (ringBx l).hi.x)) (p := ⟨wa.heap.size, 3, none⟩) (by simp; omega) (.int .i64 (ringBx l).hi.y)) 0 (.int .i64 (ringBx l).lo.x)) 1 (.int .i64 (ringBx l).lo.y)) 2 (.int .i64 (ringBx l).hi.x)) 3 (.int .i64 (ringBx l).hi.y))
    have r0 := HR.cell 0
    have r1 := HR.cell 1
    have r2 := HR.cell 2
    have r3 := HR.cell 3
    simp at r0 r1 r2 r3
    exact bodyPost_ret (v := bxW (ringBx l)) (by simp [results, Tryd.results33, go_sem, r0, r1, r2, r3]) rfl ⟨by rw [HF.out], (by repeat (first | with_reducible exact Below.refl _ _ | with_reducible assumption | with_reducible refine al ?_ _ | with_reducible refine Below.drew ?_ | with_reducible refine Below.setCell ?_ (by first | (simp; done) | (simp; omega)) _ | with_reducible refine tr ?_ (by with_reducible assumption)))⟩
  · have HX := Lib.hid hx
    have HF : Hid (boundsS ⟨k, l⟩ = obBox ⟨k, l⟩) := by simp [Hid, boundsS, hx]
    clear hx p4
    go_enter Tryd.func33, Tryd.ntmps33
    go_wp2_with (first | (go_at_call 42; refine (box_any B n c k A l _ (hl.tr (by repeat (first | with_reducible exact Below.refl _ _ | with_reducible assumption | with_reducible refine al ?_ _ | with_reducible refine Below.drew ?_ | with_reducible refine Below.setCell ?_ (by first | (simp; done) | (simp; omega)) _ | with_reducible refine tr ?_ (by with_reducible assumption))) hB) (Nat.le_trans hB (Below.size (B := w.heap.size) (w := w) (by repeat (first | with_reducible exact Below.refl _ _ | with_reducible assumption | with_reducible refine al ?_ _ | with_reducible refine Below.drew ?_ | with_reducible refine Below.setCell ?_ (by first | (simp; done) | (simp; omega)) _ | with_reducible refine tr ?_ (by with_reducible assumption))))) (by assumption) (by assumption)).mono ?_; rw [HX.out]; rintro e wa ⟨rfl, hba⟩; obtain ⟨hca, hfa⟩ := bcell hba; have hza := hba.size; (try simp at hza); have hy0 : w.heap.size < wa.heap.size := (by omega); have hy1 : w.heap.size + 1 < wa.heap.size := (by omega)))
    have hQ : Blk wa (w.heap.size + 1) 28 #[.int .i64 0, .int .i64 0, .int .i64 0, .int .i64 0] := (by repeat (first | with_reducible assumption | with_reducible exact Blk.new (by simp) rfl | with_reducible refine Blk.alloc ?_ _ | with_reducible refine Blk.drew ?_ | with_reducible refine Blk.far ?_ (by simp; omega) _ | with_reducible refine Blk.tr ?_ (by with_reducible assumption)))
    have HR := Blk.alloc (Blk.set_ (Blk.set_ (Blk.set_ (Blk.set_ hQ 0 (.int .i64 (obBox ⟨k, l⟩).lo.x)) 1 (.int .i64 (obBox ⟨k, l⟩).lo.y)) 2 (.int .i64 (obBox ⟨k, l⟩).hi.x)) 3 (.int .i64 (obBox ⟨k, l⟩).hi.y)) (.cells #[.int .i64 (obBox ⟨k, l⟩).lo.x, .int .i64 (obBox ⟨k, l⟩).lo.y, .int .i64 (obBox ⟨k, l⟩).hi.x, .int .i64 (obBox ⟨k, l⟩).hi.y] 28)
    have r0 := HR.cell 0
    have r1 := HR.cell 1
    have r2 := HR.cell 2
    have r3 := HR.cell 3
    simp at r0 r1 r2 r3
    exact bodyPost_ret (v := bxW (obBox ⟨k, l⟩)) (by simp [results, Tryd.results33, go_sem, r0, r1, r2, r3]) rfl ⟨by rw [HF.out], (by repeat (first | with_reducible exact Below.refl _ _ | with_reducible assumption | with_reducible refine al ?_ _ | with_reducible refine Below.drew ?_ | with_reducible refine Below.setCell ?_ (by first | (simp; done) | (simp; omega)) _ | with_reducible refine tr ?_ (by with_reducible assumption)))⟩
end Go.Proofs.YtknidfiokmghjaaDoor
