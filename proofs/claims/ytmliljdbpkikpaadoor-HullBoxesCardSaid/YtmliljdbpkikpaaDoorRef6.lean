/-
  Contracts of the references of chapter 3: BoxHas, BoxMeets, BoxInside, Union.
  The contract of the reference's Union.
-/
import Derived.Test.YtmliljdbpkikpaaDoorRef1
import Derived.Test.YtmliljdbpkikpaaDoorUnion
import Derived.StillTailTactics
import Derived.Outline
set_option linter.unusedSimpArgs false
set_option linter.unusedVariables false
namespace Go.Proofs.YtmliljdbpkikpaaDoor
open Go.RowKit Pg

theorem ck_of_ok {b : Bx} : okBx b = true ↔ ckBox b = 0 := by unfold okBx; rw [decide_eq_true_eq]

set_option maxHeartbeats 1000000 in
theorem rboxHas_any (a b c d x y : Int) (w : World) : Calls Tryd.prog 9 #[bxV a b c d, ptV x y] w (Ret w (.bool (bhas ⟨⟨a, b⟩, ⟨c, d⟩⟩ ⟨x, y⟩))) := by
  obtain ⟨m, hm⟩ : ∃ m : Nat, ckBox ⟨⟨a, b⟩, ⟨c, d⟩⟩ = m := ⟨_, rfl⟩
  have HM := Lib.hid hm
  by_cases hz : m = 0
  · subst hz
    have hk := ck_of_ok.2 hm
    clear hm
    cases ho : okPt ⟨x, y⟩
    · have HF : Hid (bhas ⟨⟨a, b⟩, ⟨c, d⟩⟩ ⟨x, y⟩ = false) := by simp [Hid, bhas, ho]
      have HO := Lib.hid ho
      clear ho
      go_enter Tryd.func9, Tryd.ntmps9
      go_wp2_with (first | (go_at_call 25; refine (rcheckBox_any _ _ _ _ _).mono ?_; rw [HM.out]; rintro e w1 ⟨rfl, hb1⟩; obtain ⟨hc1, hf1⟩ := bcell hb1; have hz1 := hb1.size; (try simp at hz1); have hy0 : w.heap.size < w1.heap.size := (by omega); have hy1 : w.heap.size + 1 < w1.heap.size := (by omega)) | (go_at_call 5; refine (rpoint_any _ _ _).mono ?_; rw [HO.out]; rintro e w1 ⟨rfl, hb1⟩; obtain ⟨hc1, hf1⟩ := bcell hb1; have hz1 := hb1.size; (try simp at hz1); have hy0 : w.heap.size < w1.heap.size := (by omega); have hy1 : w.heap.size + 1 < w1.heap.size := (by omega)))
      go_ret
      exact ⟨ret_bool HF.out.symm, (by repeat (first | with_reducible exact Below.refl _ _ | with_reducible assumption | with_reducible refine al ?_ _ | with_reducible refine Below.drew ?_ | with_reducible refine Below.setCell ?_ (by first | (simp; done) | (simp; omega)) _ | with_reducible refine tr ?_ (by with_reducible assumption)))⟩
    · have HF : Hid (bhas ⟨⟨a, b⟩, ⟨c, d⟩⟩ ⟨x, y⟩ = (decide (a ≤ x) && decide (x ≤ c) && decide (b ≤ y) && decide (y ≤ d))) := by simp [Hid, bhas, hk, ho, bhasR]
      have HO := Lib.hid ho
      clear ho hk
      go_enter Tryd.func9, Tryd.ntmps9
      go_wp2_with (first | (go_at_call 25; refine (rcheckBox_any _ _ _ _ _).mono ?_; rw [HM.out]; rintro e w1 ⟨rfl, hb1⟩; obtain ⟨hc1, hf1⟩ := bcell hb1; have hz1 := hb1.size; (try simp at hz1); have hy0 : w.heap.size < w1.heap.size := (by omega); have hy1 : w.heap.size + 1 < w1.heap.size := (by omega)) | (go_at_call 5; refine (rpoint_any _ _ _).mono ?_; rw [HO.out]; rintro e w1 ⟨rfl, hb1⟩; obtain ⟨hc1, hf1⟩ := bcell hb1; have hz1 := hb1.size; (try simp at hz1); have hy0 : w.heap.size < w1.heap.size := (by omega); have hy1 : w.heap.size + 1 < w1.heap.size := (by omega)))
      all_goals go_ret
      all_goals exact ⟨ret_bool (by rw [HF.out, Bool.eq_iff_iff]; simp only [Bool.and_eq_true, decide_eq_true_eq, Bool.false_eq_true, false_iff, true_iff]; omega), (by repeat (first | with_reducible exact Below.refl _ _ | with_reducible assumption | with_reducible refine al ?_ _ | with_reducible refine Below.drew ?_ | with_reducible refine Below.setCell ?_ (by first | (simp; done) | (simp; omega)) _ | with_reducible refine tr ?_ (by with_reducible assumption)))⟩
  · have hz1 : ((m : Int) == 0) = false := by rw [beq_eq_false_iff_ne]; omega
    have HF : Hid (bhas ⟨⟨a, b⟩, ⟨c, d⟩⟩ ⟨x, y⟩ = false) := by
      have : okBx ⟨⟨a, b⟩, ⟨c, d⟩⟩ = false := by rw [← Bool.not_eq_true, ck_of_ok, hm]; exact hz
      simp [Hid, bhas, this]
    clear hm hz
    go_enter Tryd.func9, Tryd.ntmps9
    go_wp2_with (go_at_call 25; refine (rcheckBox_any _ _ _ _ _).mono ?_; rw [HM.out]; rintro e w1 ⟨rfl, hb1⟩; obtain ⟨hc1, hf1⟩ := bcell hb1; have hz1 := hb1.size; (try simp at hz1); have hy0 : w.heap.size < w1.heap.size := (by omega); have hy1 : w.heap.size + 1 < w1.heap.size := (by omega))
    go_ret
    exact ⟨ret_bool HF.out.symm, (by repeat (first | with_reducible exact Below.refl _ _ | with_reducible assumption | with_reducible refine al ?_ _ | with_reducible refine Below.drew ?_ | with_reducible refine Below.setCell ?_ (by first | (simp; done) | (simp; omega)) _ | with_reducible refine tr ?_ (by with_reducible assumption)))⟩


end Go.Proofs.YtmliljdbpkikpaaDoor
set_option linter.unusedSimpArgs false
set_option linter.unusedVariables false
namespace Go.Proofs.YtmliljdbpkikpaaDoor
open Go.RowKit Pg

end Go.Proofs.YtmliljdbpkikpaaDoor
