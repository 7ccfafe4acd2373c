/-
  Contracts of the references of chapter 3: Point, CheckBox, Cross, Orient, dot.
  Contracts of the references of chapters 4 and 5: On, Proper, Meet, over.
-/
import Derived.Test.YtmliljdbpkikpaaDoorPlane
import Derived.Test.YtmliljdbpkikpaaDoorPlain1
import Derived.Test.YtmliljdbpkikpaaDoorOn
set_option linter.unusedSimpArgs false
set_option linter.unusedVariables false
namespace Go.Proofs.YtmliljdbpkikpaaDoor
open Go.RowKit Pg

set_option maxHeartbeats 400000 in
theorem rpoint_any (x y : Int) (w : World) : Calls Tryd.prog 5 #[ptV x y] w (Ret w (.bool (okPt ⟨x, y⟩))) := by
  cases h : okPt ⟨x, y⟩
  · have hc : ¬ ((-1073741823 ≤ x ∧ x ≤ 1073741823) ∧ (-1073741823 ≤ y ∧ y ≤ 1073741823)) := fun k => by
      have := (okPt_iff ⟨x, y⟩).2 k
      rw [h] at this
      cases this
    have HC := Lib.hid hc
    clear hc h
    go_enter Tryd.func5, Tryd.ntmps5
    go_wp2
    all_goals go_ret
    all_goals exact ⟨ret_bool (by have := HC.out; simp <;> omega), (by repeat (first | with_reducible exact Below.refl _ _ | with_reducible assumption | with_reducible refine al ?_ _ | with_reducible refine Below.drew ?_ | with_reducible refine Below.setCell ?_ (by first | (simp; done) | (simp; omega)) _ | with_reducible refine tr ?_ (by with_reducible assumption)))⟩
  · have hc := (okPt_iff ⟨x, y⟩).1 h
    simp only at hc
    obtain ⟨⟨h1, h2⟩, h3, h4⟩ := hc
    clear h
    go_enter Tryd.func5, Tryd.ntmps5
    go_wp2
    go_ret
    exact ⟨rfl, (by repeat (first | with_reducible exact Below.refl _ _ | with_reducible assumption | with_reducible refine al ?_ _ | with_reducible refine Below.drew ?_ | with_reducible refine Below.setCell ?_ (by first | (simp; done) | (simp; omega)) _ | with_reducible refine tr ?_ (by with_reducible assumption)))⟩

set_option maxHeartbeats 400000 in
theorem rcheckBox_any (a b c d : Int) (w : World) : Calls Tryd.prog 25 #[bxV a b c d] w (Ret w (.int .i64 (ckBox ⟨⟨a, b⟩, ⟨c, d⟩⟩))) := by
  cases h1 : okPt ⟨a, b⟩
  · have HF : Hid (ckBox ⟨⟨a, b⟩, ⟨c, d⟩⟩ = 2) := by simp [Hid, ckBox, h1]
    have H1 := Lib.hid h1
    clear h1
    go_enter Tryd.func25, Tryd.ntmps25
    go_wp2_with (go_at_call 5; refine (rpoint_any _ _ _).mono ?_; rw [H1.out]; rintro e w1 ⟨rfl, hb1⟩; obtain ⟨hc1, hf1⟩ := bcell hb1; have hz1 := hb1.size; (try simp at hz1))
    go_ret
    exact ⟨by rw [HF.out]; rfl, (by repeat (first | with_reducible exact Below.refl _ _ | with_reducible assumption | with_reducible refine al ?_ _ | with_reducible refine Below.drew ?_ | with_reducible refine Below.setCell ?_ (by first | (simp; done) | (simp; omega)) _ | with_reducible refine tr ?_ (by with_reducible assumption)))⟩
  cases h2 : okPt ⟨c, d⟩
  · have HF : Hid (ckBox ⟨⟨a, b⟩, ⟨c, d⟩⟩ = 2) := by simp [Hid, ckBox, h1, h2]
    have H1 := Lib.hid h1
    have H2 := Lib.hid h2
    clear h1 h2
    go_enter Tryd.func25, Tryd.ntmps25
    go_wp2_with (go_at_call 5; refine (rpoint_any _ _ _).mono ?_; (first | rw [H1.out] | rw [H2.out]); rintro e w1 ⟨rfl, hb1⟩; obtain ⟨hc1, hf1⟩ := bcell hb1; have hz1 := hb1.size; (try simp at hz1); have hy0 : w.heap.size < w1.heap.size := (by omega))
    go_ret
    exact ⟨by rw [HF.out]; rfl, (by repeat (first | with_reducible exact Below.refl _ _ | with_reducible assumption | with_reducible refine al ?_ _ | with_reducible refine Below.drew ?_ | with_reducible refine Below.setCell ?_ (by first | (simp; done) | (simp; omega)) _ | with_reducible refine tr ?_ (by with_reducible assumption)))⟩
  · have HF : Hid (ckBox ⟨⟨a, b⟩, ⟨c, d⟩⟩ = if decide (c < a) || decide (d < b) then 1 else 0) := by simp [Hid, ckBox, h1, h2]
    have H1 := Lib.hid h1
    have H2 := Lib.hid h2
    clear h1 h2
    by_cases k1 : c < a
    · have HG : Hid (ckBox ⟨⟨a, b⟩, ⟨c, d⟩⟩ = 1) := by unfold Hid; rw [HF.out]; simp [k1]
      go_enter Tryd.func25, Tryd.ntmps25
      go_wp2_with (go_at_call 5; refine (rpoint_any _ _ _).mono ?_; (first | rw [H1.out] | rw [H2.out]); rintro e w1 ⟨rfl, hb1⟩; obtain ⟨hc1, hf1⟩ := bcell hb1; have hz1 := hb1.size; (try simp at hz1); have hy0 : w.heap.size < w1.heap.size := (by omega))
      go_ret
      exact ⟨by rw [HG.out]; rfl, (by repeat (first | with_reducible exact Below.refl _ _ | with_reducible assumption | with_reducible refine al ?_ _ | with_reducible refine Below.drew ?_ | with_reducible refine Below.setCell ?_ (by first | (simp; done) | (simp; omega)) _ | with_reducible refine tr ?_ (by with_reducible assumption)))⟩
    · by_cases k2 : d < b
      · have HG : Hid (ckBox ⟨⟨a, b⟩, ⟨c, d⟩⟩ = 1) := by unfold Hid; rw [HF.out]; simp [k2]
        go_enter Tryd.func25, Tryd.ntmps25
        go_wp2_with (go_at_call 5; refine (rpoint_any _ _ _).mono ?_; (first | rw [H1.out] | rw [H2.out]); rintro e w1 ⟨rfl, hb1⟩; obtain ⟨hc1, hf1⟩ := bcell hb1; have hz1 := hb1.size; (try simp at hz1); have hy0 : w.heap.size < w1.heap.size := (by omega))
        go_ret
        exact ⟨by rw [HG.out]; rfl, (by repeat (first | with_reducible exact Below.refl _ _ | with_reducible assumption | with_reducible refine al ?_ _ | with_reducible refine Below.drew ?_ | with_reducible refine Below.setCell ?_ (by first | (simp; done) | (simp; omega)) _ | with_reducible refine tr ?_ (by with_reducible assumption)))⟩
      · have HG : Hid (ckBox ⟨⟨a, b⟩, ⟨c, d⟩⟩ = 0) := by unfold Hid; rw [HF.out]; simp [k1, k2]
        go_enter Tryd.func25, Tryd.ntmps25
        go_wp2_with (go_at_call 5; refine (rpoint_any _ _ _).mono ?_; (first | rw [H1.out] | rw [H2.out]); rintro e w1 ⟨rfl, hb1⟩; obtain ⟨hc1, hf1⟩ := bcell hb1; have hz1 := hb1.size; (try simp at hz1); have hy0 : w.heap.size < w1.heap.size := (by omega))
        go_ret
        exact ⟨by rw [HG.out]; rfl, (by repeat (first | with_reducible exact Below.refl _ _ | with_reducible assumption | with_reducible refine al ?_ _ | with_reducible refine Below.drew ?_ | with_reducible refine Below.setCell ?_ (by first | (simp; done) | (simp; omega)) _ | with_reducible refine tr ?_ (by with_reducible assumption)))⟩

set_option maxHeartbeats 400000 in
theorem rcross_any (ax ay bx by_ cx cy : Int) (w : World) :
    Calls Tryd.prog 26 #[ptV ax ay, ptV bx by_, ptV cx cy] w (Ret w (.int .i64 (cross ⟨ax, ay⟩ ⟨bx, by_⟩ ⟨cx, cy⟩))) := by
  cases h : (okPt ⟨ax, ay⟩ && okPt ⟨bx, by_⟩ && okPt ⟨cx, cy⟩)
  · have H : Hid (cross ⟨ax, ay⟩ ⟨bx, by_⟩ ⟨cx, cy⟩ = 0) := by simp [Hid, cross, h]
    cases h1 : okPt ⟨ax, ay⟩
    · have H1 := Lib.hid h1
      clear h1 h
      go_enter Tryd.func26, Tryd.ntmps26
      go_wp2_with (go_at_call 5; refine (rpoint_any _ _ _).mono ?_; rw [H1.out]; rintro e w1 ⟨rfl, hb1⟩; obtain ⟨hc1, hf1⟩ := bcell hb1; have hz1 := hb1.size; (try simp at hz1); have hy0 : w.heap.size < w1.heap.size := (by omega); have hy1 : w.heap.size + 1 < w1.heap.size := (by omega); have hy2 : w.heap.size + 1 + 1 < w1.heap.size := (by omega))
      go_ret
      exact ⟨by rw [H.out]; rfl, (by repeat (first | with_reducible exact Below.refl _ _ | with_reducible assumption | with_reducible refine al ?_ _ | with_reducible refine Below.drew ?_ | with_reducible refine Below.setCell ?_ (by first | (simp; done) | (simp; omega)) _ | with_reducible refine tr ?_ (by with_reducible assumption)))⟩
    cases h2 : okPt ⟨bx, by_⟩
    · have H1 := Lib.hid h1
      have H2 := Lib.hid h2
      clear h1 h2 h
      go_enter Tryd.func26, Tryd.ntmps26
      go_wp2_with (go_at_call 5; refine (rpoint_any _ _ _).mono ?_; (first | rw [H1.out] | rw [H2.out]); rintro e w1 ⟨rfl, hb1⟩; obtain ⟨hc1, hf1⟩ := bcell hb1; have hz1 := hb1.size; (try simp at hz1); have hy0 : w.heap.size < w1.heap.size := (by omega); have hy1 : w.heap.size + 1 < w1.heap.size := (by omega); have hy2 : w.heap.size + 1 + 1 < w1.heap.size := (by omega))
      go_ret
      exact ⟨by rw [H.out]; rfl, (by repeat (first | with_reducible exact Below.refl _ _ | with_reducible assumption | with_reducible refine al ?_ _ | with_reducible refine Below.drew ?_ | with_reducible refine Below.setCell ?_ (by first | (simp; done) | (simp; omega)) _ | with_reducible refine tr ?_ (by with_reducible assumption)))⟩
    · have H1 := Lib.hid h1
      have H2 := Lib.hid h2
      have H3 : Hid (okPt ⟨cx, cy⟩ = false) := by simpa [Hid, h1, h2] using h
      clear h1 h2 h
      go_enter Tryd.func26, Tryd.ntmps26
      go_wp2_with (go_at_call 5; refine (rpoint_any _ _ _).mono ?_; (first | rw [H1.out] | rw [H2.out] | rw [H3.out]); rintro e w1 ⟨rfl, hb1⟩; obtain ⟨hc1, hf1⟩ := bcell hb1; have hz1 := hb1.size; (try simp at hz1); have hy0 : w.heap.size < w1.heap.size := (by omega); have hy1 : w.heap.size + 1 < w1.heap.size := (by omega); have hy2 : w.heap.size + 1 + 1 < w1.heap.size := (by omega))
      go_ret
      exact ⟨by rw [H.out]; rfl, (by repeat (first | with_reducible exact Below.refl _ _ | with_reducible assumption | with_reducible refine al ?_ _ | with_reducible refine Below.drew ?_ | with_reducible refine Below.setCell ?_ (by first | (simp; done) | (simp; omega)) _ | with_reducible refine tr ?_ (by with_reducible assumption)))⟩
  · have H : Hid (cross ⟨ax, ay⟩ ⟨bx, by_⟩ ⟨cx, cy⟩ = (bx - ax) * (cy - ay) - (by_ - ay) * (cx - ax)) := by simp [Hid, cross, h, crossR]
    obtain ⟨⟨a1, a2⟩, ⟨a3, a4⟩, ⟨a5, a6⟩, ⟨a7, a8⟩⟩ := cross_bd h
    have b1 := mul_bd (m := 2147483646) (n := 2147483646) a1 a2 a3 a4
    have b2 := mul_bd (m := 2147483646) (n := 2147483646) a5 a6 a7 a8
    simp only at a1 a2 a3 a4 a5 a6 a7 a8 b1 b2
    obtain ⟨b1, b3⟩ := b1
    obtain ⟨b2, b4⟩ := b2
    simp only [Bool.and_eq_true] at h
    obtain ⟨⟨h1, h2⟩, h3⟩ := h
    have H1 := Lib.hid h1
    have H2 := Lib.hid h2
    have H3 := Lib.hid h3
    clear h1 h2 h3
    go_enter Tryd.func26, Tryd.ntmps26
    go_wp2_with (go_at_call 5; refine (rpoint_any _ _ _).mono ?_; (first | rw [H1.out] | rw [H2.out] | rw [H3.out]); rintro e w1 ⟨rfl, hb1⟩; obtain ⟨hc1, hf1⟩ := bcell hb1; have hz1 := hb1.size; (try simp at hz1); have hy0 : w.heap.size < w1.heap.size := (by omega); have hy1 : w.heap.size + 1 < w1.heap.size := (by omega); have hy2 : w.heap.size + 1 + 1 < w1.heap.size := (by omega))
    go_ret
    exact ⟨by rw [H.out]; rfl, (by repeat (first | with_reducible exact Below.refl _ _ | with_reducible assumption | with_reducible refine al ?_ _ | with_reducible refine Below.drew ?_ | with_reducible refine Below.setCell ?_ (by first | (simp; done) | (simp; omega)) _ | with_reducible refine tr ?_ (by with_reducible assumption)))⟩

set_option maxHeartbeats 400000 in
theorem rorient_any (ax ay bx by_ cx cy : Int) (w : World) :
    Calls Tryd.prog 11 #[ptV ax ay, ptV bx by_, ptV cx cy] w (Ret w (.int .i64 (orient ⟨ax, ay⟩ ⟨bx, by_⟩ ⟨cx, cy⟩))) := by
  obtain ⟨n, hn⟩ : ∃ n : Int, cross ⟨ax, ay⟩ ⟨bx, by_⟩ ⟨cx, cy⟩ = n := ⟨_, rfl⟩
  have HN := Lib.hid hn
  have HF : Hid (orient ⟨ax, ay⟩ ⟨bx, by_⟩ ⟨cx, cy⟩ = sgn n) := by unfold Hid orient; rw [hn]
  clear hn
  rcases Int.lt_trichotomy n 0 with h | h | h
  · have hn : ¬ 0 < n := by omega
    go_enter Tryd.func11, Tryd.ntmps11
    go_wp2_with (go_at_call 26; refine (rcross_any _ _ _ _ _ _ _).mono ?_; rw [HN.out]; rintro e w1 ⟨rfl, hb1⟩; obtain ⟨hc1, hf1⟩ := bcell hb1; have hz1 := hb1.size; (try simp at hz1); have hy0 : w.heap.size < w1.heap.size := (by omega); have hy1 : w.heap.size + 1 < w1.heap.size := (by omega); have hy2 : w.heap.size + 1 + 1 < w1.heap.size := (by omega))
    go_ret
    exact ⟨ret_int (by rw [HF.out, sgn, if_pos h]), (by repeat (first | with_reducible exact Below.refl _ _ | with_reducible assumption | with_reducible refine al ?_ _ | with_reducible refine Below.drew ?_ | with_reducible refine Below.setCell ?_ (by first | (simp; done) | (simp; omega)) _ | with_reducible refine tr ?_ (by with_reducible assumption)))⟩
  · subst h
    go_enter Tryd.func11, Tryd.ntmps11
    go_wp2_with (go_at_call 26; refine (rcross_any _ _ _ _ _ _ _).mono ?_; rw [HN.out]; rintro e w1 ⟨rfl, hb1⟩; obtain ⟨hc1, hf1⟩ := bcell hb1; have hz1 := hb1.size; (try simp at hz1); have hy0 : w.heap.size < w1.heap.size := (by omega); have hy1 : w.heap.size + 1 < w1.heap.size := (by omega); have hy2 : w.heap.size + 1 + 1 < w1.heap.size := (by omega))
    go_ret
    exact ⟨ret_int (by rw [HF.out]; rfl), (by repeat (first | with_reducible exact Below.refl _ _ | with_reducible assumption | with_reducible refine al ?_ _ | with_reducible refine Below.drew ?_ | with_reducible refine Below.setCell ?_ (by first | (simp; done) | (simp; omega)) _ | with_reducible refine tr ?_ (by with_reducible assumption)))⟩
  · have hn : ¬ n < 0 := by omega
    go_enter Tryd.func11, Tryd.ntmps11
    go_wp2_with (go_at_call 26; refine (rcross_any _ _ _ _ _ _ _).mono ?_; rw [HN.out]; rintro e w1 ⟨rfl, hb1⟩; obtain ⟨hc1, hf1⟩ := bcell hb1; have hz1 := hb1.size; (try simp at hz1); have hy0 : w.heap.size < w1.heap.size := (by omega); have hy1 : w.heap.size + 1 < w1.heap.size := (by omega); have hy2 : w.heap.size + 1 + 1 < w1.heap.size := (by omega))
    go_ret
    exact ⟨ret_int (by rw [HF.out, sgn, if_neg (by omega), if_pos h]), (by repeat (first | with_reducible exact Below.refl _ _ | with_reducible assumption | with_reducible refine al ?_ _ | with_reducible refine Below.drew ?_ | with_reducible refine Below.setCell ?_ (by first | (simp; done) | (simp; omega)) _ | with_reducible refine tr ?_ (by with_reducible assumption)))⟩

theorem pt_bd {x y : Int} (h : okPt ⟨x, y⟩ = true) : (-1073741823 ≤ x ∧ x ≤ 1073741823) ∧ (-1073741823 ≤ y ∧ y ≤ 1073741823) := (okPt_iff _).1 h
end Go.Proofs.YtmliljdbpkikpaaDoor
set_option linter.unusedSimpArgs false
set_option linter.unusedVariables false
namespace Go.Proofs.YtmliljdbpkikpaaDoor
open Go.RowKit Pg
end Go.Proofs.YtmliljdbpkikpaaDoor
