/-
  Contracts of the references of chapter 3: Point, CheckBox, Cross, Orient, dot.
-/
import Derived.Test.YtmaogalgganhgaaPlane
import Derived.Test.YtmaogalgganhgaaPlain1
set_option linter.unusedSimpArgs false
set_option linter.unusedVariables false
namespace Go.Proofs.Ytmaogalgganhgaa
open Go.RowKit Pg

set_option maxHeartbeats 400000 in
theorem rpoint_any (x y : Int) (w : World) : Calls Try.prog 10 #[ptV x y] w (Ret w (.bool (okPt ⟨x, y⟩))) := by
  cases h : okPt ⟨x, y⟩
  · have hc : ¬ ((-1073741823 ≤ x ∧ x ≤ 1073741823) ∧ (-1073741823 ≤ y ∧ y ≤ 1073741823)) := fun k => by
      have := (okPt_iff ⟨x, y⟩).2 k
      rw [h] at this
      cases this
    have HC := Lib.hid hc
    clear hc h
    go_enter Try.func10, Try.ntmps10
    go_wp2
    all_goals go_ret
    all_goals exact ⟨ret_bool (by have := HC.out; simp <;> omega), (by repeat (first | with_reducible exact Below.refl _ _ | with_reducible assumption | with_reducible refine al ?_ _ | with_reducible refine Below.drew ?_ | with_reducible refine Below.setCell ?_ (by first | (simp; done) | (simp; omega)) _ | with_reducible refine tr ?_ (by with_reducible assumption)))⟩
  · have hc := (okPt_iff ⟨x, y⟩).1 h
    simp only at hc
    obtain ⟨⟨h1, h2⟩, h3, h4⟩ := hc
    clear h
    go_enter Try.func10, Try.ntmps10
    go_wp2
    go_ret
    exact ⟨rfl, (by repeat (first | with_reducible exact Below.refl _ _ | with_reducible assumption | with_reducible refine al ?_ _ | with_reducible refine Below.drew ?_ | with_reducible refine Below.setCell ?_ (by first | (simp; done) | (simp; omega)) _ | with_reducible refine tr ?_ (by with_reducible assumption)))⟩

set_option maxHeartbeats 400000 in
theorem rcheckBox_any (a b c d : Int) (w : World) : Calls Try.prog 6 #[bxV a b c d] w (Ret w (.int .i64 (ckBox ⟨⟨a, b⟩, ⟨c, d⟩⟩))) := by
  cases h1 : okPt ⟨a, b⟩
  · have HF : Hid (ckBox ⟨⟨a, b⟩, ⟨c, d⟩⟩ = 2) := by simp [Hid, ckBox, h1]
    have H1 := Lib.hid h1
    clear h1
    go_enter Try.func6, Try.ntmps6
    go_wp2_with (go_at_call 10; refine (rpoint_any _ _ _).mono ?_; rw [H1.out]; rintro e w1 ⟨rfl, hb1⟩; obtain ⟨hc1, hf1⟩ := bcell hb1; have hz1 := hb1.size; (try simp at hz1))
    go_ret
    exact ⟨by rw [HF.out]; rfl, (by repeat (first | with_reducible exact Below.refl _ _ | with_reducible assumption | with_reducible refine al ?_ _ | with_reducible refine Below.drew ?_ | with_reducible refine Below.setCell ?_ (by first | (simp; done) | (simp; omega)) _ | with_reducible refine tr ?_ (by with_reducible assumption)))⟩
  cases h2 : okPt ⟨c, d⟩
  · have HF : Hid (ckBox ⟨⟨a, b⟩, ⟨c, d⟩⟩ = 2) := by simp [Hid, ckBox, h1, h2]
    have H1 := Lib.hid h1
    have H2 := Lib.hid h2
    clear h1 h2
    go_enter Try.func6, Try.ntmps6
    go_wp2_with (go_at_call 10; refine (rpoint_any _ _ _).mono ?_; (first | rw [H1.out] | rw [H2.out]); rintro e w1 ⟨rfl, hb1⟩; obtain ⟨hc1, hf1⟩ := bcell hb1; have hz1 := hb1.size; (try simp at hz1); have hy0 : w.heap.size < w1.heap.size := (by omega))
    go_ret
    exact ⟨by rw [HF.out]; rfl, (by repeat (first | with_reducible exact Below.refl _ _ | with_reducible assumption | with_reducible refine al ?_ _ | with_reducible refine Below.drew ?_ | with_reducible refine Below.setCell ?_ (by first | (simp; done) | (simp; omega)) _ | with_reducible refine tr ?_ (by with_reducible assumption)))⟩
  · have HF : Hid (ckBox ⟨⟨a, b⟩, ⟨c, d⟩⟩ = if decide (c < a) || decide (d < b) then 1 else 0) := by simp [Hid, ckBox, h1, h2]
    have H1 := Lib.hid h1
    have H2 := Lib.hid h2
    clear h1 h2
    by_cases k1 : c < a
    · have HG : Hid (ckBox ⟨⟨a, b⟩, ⟨c, d⟩⟩ = 1) := by unfold Hid; rw [HF.out]; simp [k1]
      go_enter Try.func6, Try.ntmps6
      go_wp2_with (go_at_call 10; refine (rpoint_any _ _ _).mono ?_; (first | rw [H1.out] | rw [H2.out]); rintro e w1 ⟨rfl, hb1⟩; obtain ⟨hc1, hf1⟩ := bcell hb1; have hz1 := hb1.size; (try simp at hz1); have hy0 : w.heap.size < w1.heap.size := (by omega))
      go_ret
      exact ⟨by rw [HG.out]; rfl, (by repeat (first | with_reducible exact Below.refl _ _ | with_reducible assumption | with_reducible refine al ?_ _ | with_reducible refine Below.drew ?_ | with_reducible refine Below.setCell ?_ (by first | (simp; done) | (simp; omega)) _ | with_reducible refine tr ?_ (by with_reducible assumption)))⟩
    · by_cases k2 : d < b
      · have HG : Hid (ckBox ⟨⟨a, b⟩, ⟨c, d⟩⟩ = 1) := by unfold Hid; rw [HF.out]; simp [k2]
        go_enter Try.func6, Try.ntmps6
        go_wp2_with (go_at_call 10; refine (rpoint_any _ _ _).mono ?_; (first | rw [H1.out] | rw [H2.out]); rintro e w1 ⟨rfl, hb1⟩; obtain ⟨hc1, hf1⟩ := bcell hb1; have hz1 := hb1.size; (try simp at hz1); have hy0 : w.heap.size < w1.heap.size := (by omega))
        go_ret
        exact ⟨by rw [HG.out]; rfl, (by repeat (first | with_reducible exact Below.refl _ _ | with_reducible assumption | with_reducible refine al ?_ _ | with_reducible refine Below.drew ?_ | with_reducible refine Below.setCell ?_ (by first | (simp; done) | (simp; omega)) _ | with_reducible refine tr ?_ (by with_reducible assumption)))⟩
      · have HG : Hid (ckBox ⟨⟨a, b⟩, ⟨c, d⟩⟩ = 0) := by unfold Hid; rw [HF.out]; simp [k1, k2]
        go_enter Try.func6, Try.ntmps6
        go_wp2_with (go_at_call 10; refine (rpoint_any _ _ _).mono ?_; (first | rw [H1.out] | rw [H2.out]); rintro e w1 ⟨rfl, hb1⟩; obtain ⟨hc1, hf1⟩ := bcell hb1; have hz1 := hb1.size; (try simp at hz1); have hy0 : w.heap.size < w1.heap.size := (by omega))
        go_ret
        exact ⟨by rw [HG.out]; rfl, (by repeat (first | with_reducible exact Below.refl _ _ | with_reducible assumption | with_reducible refine al ?_ _ | with_reducible refine Below.drew ?_ | with_reducible refine Below.setCell ?_ (by first | (simp; done) | (simp; omega)) _ | with_reducible refine tr ?_ (by with_reducible assumption)))⟩

theorem pt_bd {x y : Int} (h : okPt ⟨x, y⟩ = true) : (-1073741823 ≤ x ∧ x ≤ 1073741823) ∧ (-1073741823 ≤ y ∧ y ≤ 1073741823) := (okPt_iff _).1 h
end Go.Proofs.Ytmaogalgganhgaa
