/-
  Contracts of the references of chapters 4 and 5: On, Proper, Meet, over.
-/
import Derived.Test.YtjdgibpjlhpanaaDoorRef1
import Derived.Test.YtjdgibpjlhpanaaDoorOn
import Derived.Test.YtjdgibpjlhpanaaDoorPlain1
set_option linter.unusedSimpArgs false
set_option linter.unusedVariables false
namespace Go.Proofs.YtjdgibpjlhpanaaDoor
open Go.RowKit Pg

set_option maxHeartbeats 1000000 in
theorem ron_any (ax ay bx by_ x y : Int) (w : World) :
    Calls Tryd.prog 22 #[ptV ax ay, ptV bx by_, ptV x y] w (Ret w (.bool (onS ⟨ax, ay⟩ ⟨bx, by_⟩ ⟨x, y⟩))) := by
  cases h1 : okPt ⟨ax, ay⟩
  · have HF : Hid (onS ⟨ax, ay⟩ ⟨bx, by_⟩ ⟨x, y⟩ = false) := by simp [Hid, onS, h1]
    have H1 := Lib.hid h1
    clear h1
    go_enter Tryd.func22, Tryd.ntmps22
    go_wp2_with (go_at_call 15; refine (rpoint_any _ _ _).mono ?_; rw [H1.out]; rintro e w1 ⟨rfl, hb1⟩; obtain ⟨hc1, hf1⟩ := bcell hb1; have hz1 := hb1.size; (try simp at hz1); have hy0 : w.heap.size < w1.heap.size := (by omega); have hy1 : w.heap.size + 1 < w1.heap.size := (by omega); have hy2 : w.heap.size + 1 + 1 < w1.heap.size := (by omega))
    go_ret
    exact ⟨ret_bool HF.out.symm, (by repeat (first | with_reducible exact Below.refl _ _ | with_reducible assumption | with_reducible refine al ?_ _ | with_reducible refine Below.drew ?_ | with_reducible refine Below.setCell ?_ (by first | (simp; done) | (simp; omega)) _ | with_reducible refine tr ?_ (by with_reducible assumption)))⟩
  cases h2 : okPt ⟨bx, by_⟩
  · have HF : Hid (onS ⟨ax, ay⟩ ⟨bx, by_⟩ ⟨x, y⟩ = false) := by simp [Hid, onS, h2]
    have H1 := Lib.hid h1
    have H2 := Lib.hid h2
    clear h1 h2
    go_enter Tryd.func22, Tryd.ntmps22
    go_wp2_with (go_at_call 15; refine (rpoint_any _ _ _).mono ?_; (first | rw [H1.out] | rw [H2.out]); rintro e w1 ⟨rfl, hb1⟩; obtain ⟨hc1, hf1⟩ := bcell hb1; have hz1 := hb1.size; (try simp at hz1); have hy0 : w.heap.size < w1.heap.size := (by omega); have hy1 : w.heap.size + 1 < w1.heap.size := (by omega); have hy2 : w.heap.size + 1 + 1 < w1.heap.size := (by omega))
    go_ret
    exact ⟨ret_bool HF.out.symm, (by repeat (first | with_reducible exact Below.refl _ _ | with_reducible assumption | with_reducible refine al ?_ _ | with_reducible refine Below.drew ?_ | with_reducible refine Below.setCell ?_ (by first | (simp; done) | (simp; omega)) _ | with_reducible refine tr ?_ (by with_reducible assumption)))⟩
  cases h3 : okPt ⟨x, y⟩
  · have HF : Hid (onS ⟨ax, ay⟩ ⟨bx, by_⟩ ⟨x, y⟩ = false) := by simp [Hid, onS, h3]
    have H1 := Lib.hid h1
    have H2 := Lib.hid h2
    have H3 := Lib.hid h3
    clear h1 h2 h3
    go_enter Tryd.func22, Tryd.ntmps22
    go_wp2_with (go_at_call 15; refine (rpoint_any _ _ _).mono ?_; (first | rw [H1.out] | rw [H2.out] | rw [H3.out]); rintro e w1 ⟨rfl, hb1⟩; obtain ⟨hc1, hf1⟩ := bcell hb1; have hz1 := hb1.size; (try simp at hz1); have hy0 : w.heap.size < w1.heap.size := (by omega); have hy1 : w.heap.size + 1 < w1.heap.size := (by omega); have hy2 : w.heap.size + 1 + 1 < w1.heap.size := (by omega))
    go_ret
    exact ⟨ret_bool HF.out.symm, (by repeat (first | with_reducible exact Below.refl _ _ | with_reducible assumption | with_reducible refine al ?_ _ | with_reducible refine Below.drew ?_ | with_reducible refine Below.setCell ?_ (by first | (simp; done) | (simp; omega)) _ | with_reducible refine tr ?_ (by with_reducible assumption)))⟩
  have HC : Hid (cross ⟨ax, ay⟩ ⟨bx, by_⟩ ⟨x, y⟩ = crossR ⟨ax, ay⟩ ⟨bx, by_⟩ ⟨x, y⟩) := by simp [Hid, cross, h1, h2, h3]
  by_cases hz : crossR ⟨ax, ay⟩ ⟨bx, by_⟩ ⟨x, y⟩ = 0
  · have HZ : Hid (cross ⟨ax, ay⟩ ⟨bx, by_⟩ ⟨x, y⟩ = 0) := HC.out.trans hz
    have HF : Hid (onS ⟨ax, ay⟩ ⟨bx, by_⟩ ⟨x, y⟩ = (decide (min ax bx ≤ x) && decide (x ≤ max ax bx) && decide (min ay by_ ≤ y) && decide (y ≤ max ay by_))) := by
      unfold Hid onS
      rw [h1, h2, h3, decide_eq_true hz]
      rfl
    have H1 := Lib.hid h1
    have H2 := Lib.hid h2
    have H3 := Lib.hid h3
    clear h1 h2 h3 HC hz
    go_enter Tryd.func22, Tryd.ntmps22
    go_wp2_with (first | (go_at_call 15; refine (rpoint_any _ _ _).mono ?_; (first | rw [H1.out] | rw [H2.out] | rw [H3.out]); rintro e w1 ⟨rfl, hb1⟩; obtain ⟨hc1, hf1⟩ := bcell hb1; have hz1 := hb1.size; (try simp at hz1); have hy0 : w.heap.size < w1.heap.size := (by omega); have hy1 : w.heap.size + 1 < w1.heap.size := (by omega); have hy2 : w.heap.size + 1 + 1 < w1.heap.size := (by omega)) | (go_at_call 45; refine (rcross_any _ _ _ _ _ _ _).mono ?_; rw [HZ.out]; rintro e w1 ⟨rfl, hb1⟩; obtain ⟨hc1, hf1⟩ := bcell hb1; have hz1 := hb1.size; (try simp at hz1); have hy0 : w.heap.size < w1.heap.size := (by omega); have hy1 : w.heap.size + 1 < w1.heap.size := (by omega); have hy2 : w.heap.size + 1 + 1 < w1.heap.size := (by omega)))
    all_goals go_ret
    all_goals exact ⟨ret_bool (by rw [HF.out, Bool.eq_iff_iff]; simp only [Bool.and_eq_true, decide_eq_true_eq, Bool.false_eq_true, false_iff, true_iff]; omega), (by repeat (first | with_reducible exact Below.refl _ _ | with_reducible assumption | with_reducible refine al ?_ _ | with_reducible refine Below.drew ?_ | with_reducible refine Below.setCell ?_ (by first | (simp; done) | (simp; omega)) _ | with_reducible refine tr ?_ (by with_reducible assumption)))⟩
  · obtain ⟨n, hn⟩ : ∃ n : Int, cross ⟨ax, ay⟩ ⟨bx, by_⟩ ⟨x, y⟩ = n := ⟨_, rfl⟩
    have hn0 : (n == 0) = false := by rw [beq_eq_false_iff_ne, ← hn, HC.out]; exact hz
    have HF : Hid (onS ⟨ax, ay⟩ ⟨bx, by_⟩ ⟨x, y⟩ = false) := by simp [Hid, onS, hz]
    have HZ := Lib.hid hn
    have H1 := Lib.hid h1
    have H2 := Lib.hid h2
    have H3 := Lib.hid h3
    clear h1 h2 h3 HC hz hn
    go_enter Tryd.func22, Tryd.ntmps22
    go_wp2_with (first | (go_at_call 15; refine (rpoint_any _ _ _).mono ?_; (first | rw [H1.out] | rw [H2.out] | rw [H3.out]); rintro e w1 ⟨rfl, hb1⟩; obtain ⟨hc1, hf1⟩ := bcell hb1; have hz1 := hb1.size; (try simp at hz1); have hy0 : w.heap.size < w1.heap.size := (by omega); have hy1 : w.heap.size + 1 < w1.heap.size := (by omega); have hy2 : w.heap.size + 1 + 1 < w1.heap.size := (by omega)) | (go_at_call 45; refine (rcross_any _ _ _ _ _ _ _).mono ?_; rw [HZ.out]; rintro e w1 ⟨rfl, hb1⟩; obtain ⟨hc1, hf1⟩ := bcell hb1; have hz1 := hb1.size; (try simp at hz1); have hy0 : w.heap.size < w1.heap.size := (by omega); have hy1 : w.heap.size + 1 < w1.heap.size := (by omega); have hy2 : w.heap.size + 1 + 1 < w1.heap.size := (by omega)))
    go_ret
    exact ⟨ret_bool HF.out.symm, (by repeat (first | with_reducible exact Below.refl _ _ | with_reducible assumption | with_reducible refine al ?_ _ | with_reducible refine Below.drew ?_ | with_reducible refine Below.setCell ?_ (by first | (simp; done) | (simp; omega)) _ | with_reducible refine tr ?_ (by with_reducible assumption)))⟩

end Go.Proofs.YtjdgibpjlhpanaaDoor
