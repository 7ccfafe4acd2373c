/-
  Contracts of package segm: Meet, MeetsBox.
-/
import Derived.Test.YtknidfiokmghjaaDoorProper
import Derived.RegionTactic
set_option linter.unusedSimpArgs false
set_option linter.unusedVariables false
namespace Go.Proofs.YtknidfiokmghjaaDoor
open Go.RowKit Pg

set_option maxHeartbeats 1000000 in
theorem meet_any (ax ay bx by_ cx cy dx dy : Int) (w : World) :
    Calls Tryd.prog 67 #[ptV ax ay, ptV bx by_, ptV cx cy, ptV dx dy] w (Ret w (.bool (meetS ⟨ax, ay⟩ ⟨bx, by_⟩ ⟨cx, cy⟩ ⟨dx, dy⟩))) := by
  go_enter Tryd.func67, Tryd.ntmps67
  go_wp2_with (first | (go_at_call 73; refine (smay4 ax ay bx by_ cx cy dx dy _ _ ?_).mono ?_; exact block_last (by simp); rintro e w1 ⟨rfl, hb1⟩; obtain ⟨hc1, hf1⟩ := bcell hb1; have hz1 := hb1.size; (try simp at hz1); have hy0 : w.heap.size < w1.heap.size := (by omega); have hy1 : w.heap.size + 1 < w1.heap.size := (by omega); have hy2 : w.heap.size + 1 + 1 < w1.heap.size := (by omega); have hy3 : w.heap.size + 1 + 1 + 1 < w1.heap.size := (by omega)) | (go_at_call 76; refine (proper_any _ _ _ _ _ _ _ _ _).mono ?_; rintro e w1 ⟨rfl, hb1⟩; obtain ⟨hc1, hf1⟩ := bcell hb1; have hz1 := hb1.size; (try simp at hz1); have hy0 : w.heap.size < w1.heap.size := (by omega); have hy1 : w.heap.size + 1 < w1.heap.size := (by omega); have hy2 : w.heap.size + 1 + 1 < w1.heap.size := (by omega); have hy3 : w.heap.size + 1 + 1 + 1 < w1.heap.size := (by omega)) | (go_at_call 71; refine (on_any _ _ _ _ _ _ _).mono ?_; rintro e w1 ⟨rfl, hb1⟩; obtain ⟨hc1, hf1⟩ := bcell hb1; have hz1 := hb1.size; (try simp at hz1); have hy0 : w.heap.size < w1.heap.size := (by omega); have hy1 : w.heap.size + 1 < w1.heap.size := (by omega); have hy2 : w.heap.size + 1 + 1 < w1.heap.size := (by omega); have hy3 : w.heap.size + 1 + 1 + 1 < w1.heap.size := (by omega)))
  all_goals go_ret
  all_goals exact ⟨ret_bool (by simp [meetS, *]), (by repeat (first | with_reducible exact Below.refl _ _ | with_reducible assumption | with_reducible refine al ?_ _ | with_reducible refine Below.drew ?_ | with_reducible refine Below.setCell ?_ (by first | (simp; done) | (simp; omega)) _ | with_reducible refine tr ?_ (by with_reducible assumption)))⟩

theorem errV_ck (b : Bx) : errV (ckBox b) = if okBx b = true then .nilIface else .iface 66 (.int .i64 (ckBox b)) := by
  by_cases h : ckBox b = 0
  · rw [if_pos (by simp [okBx, h])]; exact errV_zero h
  · rw [if_neg (by simp [okBx, h])]; exact errV_pos h
end Go.Proofs.YtknidfiokmghjaaDoor
