/-
  Contracts of package rel: Touch, Bounds; pergolaalike.May.
-/
import Derived.Test.YtkfbkfcmdfpfjaaGreatDoorQRel1
import Derived.Test.YtkfbkfcmdfpfjaaGreatDoorQErrIs
set_option linter.unusedSimpArgs false
set_option linter.unusedVariables false
namespace Go.Proofs.YtkfbkfcmdfpfjaaGreatDoor
open Go.RowKit Pg



set_option maxHeartbeats 1000000 in
theorem Bounds_ok (B n c : Nat) (k : Int) (A : Option Addr) (l : List Pt) (w : World) (hl : PtsAt w B A n l) (hB : B ≤ w.heap.size) (hn : n ≤ 1000000) (ho : ckOb ⟨k, l⟩ = 0) :
    Calls Tryz.prog 97 #[obV k A n c] w (Ret w (.tuple #[bxW (boundsS ⟨k, l⟩), .nilIface])) := by
  have HO := Lib.hid ho
  have HF : Hid (ckOb ⟨k, l⟩ = 0) := ho
  clear ho
  go_enter Tryz.func97, Tryz.ntmps97
  go_wp2_with (first | (go_at_call 66; refine (Check_any B n c k A l _ (hl.tr bel hB) (Nat.le_trans hB (Below.size (B := w.heap.size) (w := w) bel)) hn).mono ?_; rw [HF.out]; rintro e wa ⟨va, rfl, hva, hba⟩; obtain rfl : va = .nilIface := (by rcases hva with ⟨_, h⟩ | ⟨h, _⟩; exact h; exact absurd rfl h); obtain ⟨hca, hfa⟩ := bcell hba; have hza := hba.size; (try simp at hza); have hy0 : w.heap.size < wa.heap.size := (by omega); have hy1 : w.heap.size + 1 < wa.heap.size := (by omega)) | (go_at_call 106; refine (bounds_ok B n c k A l _ (hl.tr bel hB) (Nat.le_trans hB (Below.size (B := w.heap.size) (w := w) bel)) HO.out).mono ?_; rintro e w1 ⟨rfl, hb1⟩; obtain ⟨hc1, hf1⟩ := bcell hb1; have hz1 := hb1.size; (try simp at hz1); have hy2 : w.heap.size < w1.heap.size := (by omega); have hy3 : w.heap.size + 1 < w1.heap.size := (by omega)))
  have hQ : Blk w1 (w.heap.size + 1) 60 #[.int .i64 0, .int .i64 0, .int .i64 0, .int .i64 0] := blkA
  have HR := (((hQ.set_ 0 (.int .i64 (boundsS ⟨k, l⟩).lo.x)).set_ 1 (.int .i64 (boundsS ⟨k, l⟩).lo.y)).set_ 2 (.int .i64 (boundsS ⟨k, l⟩).hi.x)).set_ 3 (.int .i64 (boundsS ⟨k, l⟩).hi.y)
  have r0 := HR.cell 0
  have r1 := HR.cell 1
  have r2 := HR.cell 2
  have r3 := HR.cell 3
  simp at r0 r1 r2 r3
  exact bodyPost_ret (v := .tuple #[bxW (boundsS ⟨k, l⟩), .nilIface]) (by simp [results, Tryz.results97, go_sem, r0, r1, r2, r3]) rfl ⟨rfl, bel⟩
end Go.Proofs.YtkfbkfcmdfpfjaaGreatDoor
