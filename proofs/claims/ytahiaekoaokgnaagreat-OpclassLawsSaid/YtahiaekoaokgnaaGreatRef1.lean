/-
  Contracts of the references of chapter 3: Point, CheckBox, Cross, Orient, dot.
  Contracts of the references of chapters 4 and 5: On, Proper, Meet, over.
-/
import Derived.Test.YtahiaekoaokgnaaGreatPlane
import Derived.Test.YtahiaekoaokgnaaGreatPlain1
import Derived.Test.YtahiaekoaokgnaaGreatOn
set_option linter.unusedSimpArgs false
set_option linter.unusedVariables false
namespace Go.Proofs.YtahiaekoaokgnaaGreat
open Go.RowKit Pg

set_option maxHeartbeats 400000 in
theorem rpoint_any (x y : Int) (w : World) : Calls Tryz.prog 24 #[ptV x y] w (Ret w (.bool (okPt ⟨x, y⟩))) := by
  cases h : okPt ⟨x, y⟩
  · have hc : ¬ ((-1073741823 ≤ x ∧ x ≤ 1073741823) ∧ (-1073741823 ≤ y ∧ y ≤ 1073741823)) := fun k => by
      have := (okPt_iff ⟨x, y⟩).2 k
      rw [h] at this
      cases this
    have HC := Lib.hid hc
    clear hc h
    go_enter Tryz.func24, Tryz.ntmps24
    go_wp2
    all_goals go_ret
    all_goals exact ⟨ret_bool (by have := HC.out; simp <;> omega), bel⟩
  · have hc := (okPt_iff ⟨x, y⟩).1 h
    simp only at hc
    obtain ⟨⟨h1, h2⟩, h3, h4⟩ := hc
    clear h
    go_enter Tryz.func24, Tryz.ntmps24
    go_wp2
    go_ret
    exact ⟨rfl, bel⟩

set_option maxHeartbeats 400000 in
theorem rcheckBox_any (a b c d : Int) (w : World) : Calls Tryz.prog 25 #[bxV a b c d] w (Ret w (.int .i64 (ckBox ⟨⟨a, b⟩, ⟨c, d⟩⟩))) := by
  cases h1 : okPt ⟨a, b⟩
  · have HF : Hid (ckBox ⟨⟨a, b⟩, ⟨c, d⟩⟩ = 2) := by simp [Hid, ckBox, h1]
    have H1 := Lib.hid h1
    clear h1
    go_enter Tryz.func25, Tryz.ntmps25
    go_wp2_with (go_at_call 24; refine (rpoint_any _ _ _).mono ?_; rw [H1.out]; rintro e w1 ⟨rfl, hb1⟩; obtain ⟨hc1, hf1⟩ := bcell hb1; have hz1 := hb1.size; (try simp at hz1))
    go_ret
    exact ⟨by rw [HF.out]; rfl, bel⟩
  cases h2 : okPt ⟨c, d⟩
  · have HF : Hid (ckBox ⟨⟨a, b⟩, ⟨c, d⟩⟩ = 2) := by simp [Hid, ckBox, h1, h2]
    have H1 := Lib.hid h1
    have H2 := Lib.hid h2
    clear h1 h2
    go_enter Tryz.func25, Tryz.ntmps25
    go_wp2_with (go_at_call 24; refine (rpoint_any _ _ _).mono ?_; (first | rw [H1.out] | rw [H2.out]); rintro e w1 ⟨rfl, hb1⟩; obtain ⟨hc1, hf1⟩ := bcell hb1; have hz1 := hb1.size; (try simp at hz1); have hy0 : w.heap.size < w1.heap.size := (by omega))
    go_ret
    exact ⟨by rw [HF.out]; rfl, bel⟩
  · have HF : Hid (ckBox ⟨⟨a, b⟩, ⟨c, d⟩⟩ = if decide (c < a) || decide (d < b) then 1 else 0) := by simp [Hid, ckBox, h1, h2]
    have H1 := Lib.hid h1
    have H2 := Lib.hid h2
    clear h1 h2
    by_cases k1 : c < a
    · have HG : Hid (ckBox ⟨⟨a, b⟩, ⟨c, d⟩⟩ = 1) := by unfold Hid; rw [HF.out]; simp [k1]
      go_enter Tryz.func25, Tryz.ntmps25
      go_wp2_with (go_at_call 24; refine (rpoint_any _ _ _).mono ?_; (first | rw [H1.out] | rw [H2.out]); rintro e w1 ⟨rfl, hb1⟩; obtain ⟨hc1, hf1⟩ := bcell hb1; have hz1 := hb1.size; (try simp at hz1); have hy0 : w.heap.size < w1.heap.size := (by omega))
      go_ret
      exact ⟨by rw [HG.out]; rfl, bel⟩
    · by_cases k2 : d < b
      · have HG : Hid (ckBox ⟨⟨a, b⟩, ⟨c, d⟩⟩ = 1) := by unfold Hid; rw [HF.out]; simp [k2]
        go_enter Tryz.func25, Tryz.ntmps25
        go_wp2_with (go_at_call 24; refine (rpoint_any _ _ _).mono ?_; (first | rw [H1.out] | rw [H2.out]); rintro e w1 ⟨rfl, hb1⟩; obtain ⟨hc1, hf1⟩ := bcell hb1; have hz1 := hb1.size; (try simp at hz1); have hy0 : w.heap.size < w1.heap.size := (by omega))
        go_ret
        exact ⟨by rw [HG.out]; rfl, bel⟩
      · have HG : Hid (ckBox ⟨⟨a, b⟩, ⟨c, d⟩⟩ = 0) := by unfold Hid; rw [HF.out]; simp [k1, k2]
        go_enter Tryz.func25, Tryz.ntmps25
        go_wp2_with (go_at_call 24; refine (rpoint_any _ _ _).mono ?_; (first | rw [H1.out] | rw [H2.out]); rintro e w1 ⟨rfl, hb1⟩; obtain ⟨hc1, hf1⟩ := bcell hb1; have hz1 := hb1.size; (try simp at hz1); have hy0 : w.heap.size < w1.heap.size := (by omega))
        go_ret
        exact ⟨by rw [HG.out]; rfl, bel⟩

set_option maxHeartbeats 400000 in
theorem rcross_any (ax ay bx by_ cx cy : Int) (w : World) :
    Calls Tryz.prog 98 #[ptV ax ay, ptV bx by_, ptV cx cy] w (Ret w (.int .i64 (cross ⟨ax, ay⟩ ⟨bx, by_⟩ ⟨cx, cy⟩))) := by
  cases h : (okPt ⟨ax, ay⟩ && okPt ⟨bx, by_⟩ && okPt ⟨cx, cy⟩)
  · have H : Hid (cross ⟨ax, ay⟩ ⟨bx, by_⟩ ⟨cx, cy⟩ = 0) := by simp [Hid, cross, h]
    cases h1 : okPt ⟨ax, ay⟩
    · have H1 := Lib.hid h1
      clear h1 h
      go_enter Tryz.func98, Tryz.ntmps98
      go_wp2_with (go_at_call 24; refine (rpoint_any _ _ _).mono ?_; rw [H1.out]; rintro e w1 ⟨rfl, hb1⟩; obtain ⟨hc1, hf1⟩ := bcell hb1; have hz1 := hb1.size; (try simp at hz1); have hy0 : w.heap.size < w1.heap.size := (by omega); have hy1 : w.heap.size + 1 < w1.heap.size := (by omega); have hy2 : w.heap.size + 1 + 1 < w1.heap.size := (by omega))
      go_ret
      exact ⟨by rw [H.out]; rfl, bel⟩
    cases h2 : okPt ⟨bx, by_⟩
    · have H1 := Lib.hid h1
      have H2 := Lib.hid h2
      clear h1 h2 h
      go_enter Tryz.func98, Tryz.ntmps98
      go_wp2_with (go_at_call 24; refine (rpoint_any _ _ _).mono ?_; (first | rw [H1.out] | rw [H2.out]); rintro e w1 ⟨rfl, hb1⟩; obtain ⟨hc1, hf1⟩ := bcell hb1; have hz1 := hb1.size; (try simp at hz1); have hy0 : w.heap.size < w1.heap.size := (by omega); have hy1 : w.heap.size + 1 < w1.heap.size := (by omega); have hy2 : w.heap.size + 1 + 1 < w1.heap.size := (by omega))
      go_ret
      exact ⟨by rw [H.out]; rfl, bel⟩
    · have H1 := Lib.hid h1
      have H2 := Lib.hid h2
      have H3 : Hid (okPt ⟨cx, cy⟩ = false) := by simpa [Hid, h1, h2] using h
      clear h1 h2 h
      go_enter Tryz.func98, Tryz.ntmps98
      go_wp2_with (go_at_call 24; refine (rpoint_any _ _ _).mono ?_; (first | rw [H1.out] | rw [H2.out] | rw [H3.out]); rintro e w1 ⟨rfl, hb1⟩; obtain ⟨hc1, hf1⟩ := bcell hb1; have hz1 := hb1.size; (try simp at hz1); have hy0 : w.heap.size < w1.heap.size := (by omega); have hy1 : w.heap.size + 1 < w1.heap.size := (by omega); have hy2 : w.heap.size + 1 + 1 < w1.heap.size := (by omega))
      go_ret
      exact ⟨by rw [H.out]; rfl, bel⟩
  · have H : Hid (cross ⟨ax, ay⟩ ⟨bx, by_⟩ ⟨cx, cy⟩ = (bx - ax) * (cy - ay) - (by_ - ay) * (cx - ax)) := by simp [Hid, cross, h, crossR]
    obtain ⟨⟨a1, a2⟩, ⟨a3, a4⟩, ⟨a5, a6⟩, ⟨a7, a8⟩⟩ := cross_bd h
    have b1 := mul_bd (m := 2147483646) (n := 2147483646) a1 a2 a3 a4
    have b2 := mul_bd (m := 2147483646) (n := 2147483646) a5 a6 a7 a8
    simp only at a1 a2 a3 a4 a5 a6 a7 a8 b1 b2
    obtain ⟨b1, b3⟩ := b1
    obtain ⟨b2, b4⟩ := b2
    simp only [Bool.and_eq_true] at h
    obtain ⟨⟨h1, h2⟩, h3⟩ := h
    have H1 := Lib.hid h1
    have H2 := Lib.hid h2
    have H3 := Lib.hid h3
    clear h1 h2 h3
    go_enter Tryz.func98, Tryz.ntmps98
    go_wp2_with (go_at_call 24; refine (rpoint_any _ _ _).mono ?_; (first | rw [H1.out] | rw [H2.out] | rw [H3.out]); rintro e w1 ⟨rfl, hb1⟩; obtain ⟨hc1, hf1⟩ := bcell hb1; have hz1 := hb1.size; (try simp at hz1); have hy0 : w.heap.size < w1.heap.size := (by omega); have hy1 : w.heap.size + 1 < w1.heap.size := (by omega); have hy2 : w.heap.size + 1 + 1 < w1.heap.size := (by omega))
    go_ret
    exact ⟨by rw [H.out]; rfl, bel⟩

set_option maxHeartbeats 400000 in
theorem rorient_any (ax ay bx by_ cx cy : Int) (w : World) :
    Calls Tryz.prog 150 #[ptV ax ay, ptV bx by_, ptV cx cy] w (Ret w (.int .i64 (orient ⟨ax, ay⟩ ⟨bx, by_⟩ ⟨cx, cy⟩))) := by
  obtain ⟨n, hn⟩ : ∃ n : Int, cross ⟨ax, ay⟩ ⟨bx, by_⟩ ⟨cx, cy⟩ = n := ⟨_, rfl⟩
  have HN := Lib.hid hn
  have HF : Hid (orient ⟨ax, ay⟩ ⟨bx, by_⟩ ⟨cx, cy⟩ = sgn n) := by unfold Hid orient; rw [hn]
  clear hn
  rcases Int.lt_trichotomy n 0 with h | h | h
  · have hn : ¬ 0 < n := by omega
    go_enter Tryz.func150, Tryz.ntmps150
    go_wp2_with (go_at_call 98; refine (rcross_any _ _ _ _ _ _ _).mono ?_; rw [HN.out]; rintro e w1 ⟨rfl, hb1⟩; obtain ⟨hc1, hf1⟩ := bcell hb1; have hz1 := hb1.size; (try simp at hz1); have hy0 : w.heap.size < w1.heap.size := (by omega); have hy1 : w.heap.size + 1 < w1.heap.size := (by omega); have hy2 : w.heap.size + 1 + 1 < w1.heap.size := (by omega))
    go_ret
    exact ⟨ret_int (by rw [HF.out, sgn, if_pos h]), bel⟩
  · subst h
    go_enter Tryz.func150, Tryz.ntmps150
    go_wp2_with (go_at_call 98; refine (rcross_any _ _ _ _ _ _ _).mono ?_; rw [HN.out]; rintro e w1 ⟨rfl, hb1⟩; obtain ⟨hc1, hf1⟩ := bcell hb1; have hz1 := hb1.size; (try simp at hz1); have hy0 : w.heap.size < w1.heap.size := (by omega); have hy1 : w.heap.size + 1 < w1.heap.size := (by omega); have hy2 : w.heap.size + 1 + 1 < w1.heap.size := (by omega))
    go_ret
    exact ⟨ret_int (by rw [HF.out]; rfl), bel⟩
  · have hn : ¬ n < 0 := by omega
    go_enter Tryz.func150, Tryz.ntmps150
    go_wp2_with (go_at_call 98; refine (rcross_any _ _ _ _ _ _ _).mono ?_; rw [HN.out]; rintro e w1 ⟨rfl, hb1⟩; obtain ⟨hc1, hf1⟩ := bcell hb1; have hz1 := hb1.size; (try simp at hz1); have hy0 : w.heap.size < w1.heap.size := (by omega); have hy1 : w.heap.size + 1 < w1.heap.size := (by omega); have hy2 : w.heap.size + 1 + 1 < w1.heap.size := (by omega))
    go_ret
    exact ⟨ret_int (by rw [HF.out, sgn, if_neg (by omega), if_pos h]), bel⟩

theorem pt_bd {x y : Int} (h : okPt ⟨x, y⟩ = true) : (-1073741823 ≤ x ∧ x ≤ 1073741823) ∧ (-1073741823 ≤ y ∧ y ≤ 1073741823) := (okPt_iff _).1 h
set_option maxHeartbeats 400000 in
theorem rdot_ok (ox oy ax ay bx by_ : Int) (w : World) (ho : okPt ⟨ox, oy⟩ = true) (ha : okPt ⟨ax, ay⟩ = true) (hb : okPt ⟨bx, by_⟩ = true) :
    Calls Tryz.prog 99 #[ptV ox oy, ptV ax ay, ptV bx by_] w (Ret w (.int .i64 (dotR ⟨ox, oy⟩ ⟨ax, ay⟩ ⟨bx, by_⟩))) := by
  have H : Hid (dotR ⟨ox, oy⟩ ⟨ax, ay⟩ ⟨bx, by_⟩ = (ax - ox) * (bx - ox) + (ay - oy) * (by_ - oy)) := rfl
  obtain ⟨⟨o1, o2⟩, o3, o4⟩ := pt_bd ho
  obtain ⟨⟨p1, p2⟩, p3, p4⟩ := pt_bd ha
  obtain ⟨⟨q1, q2⟩, q3, q4⟩ := pt_bd hb
  clear ho ha hb
  have b1 := mul_bd (p := ax - ox) (q := bx - ox) (m := 2147483646) (n := 2147483646) (by omega) (by omega) (by omega) (by omega)
  have b2 := mul_bd (p := ay - oy) (q := by_ - oy) (m := 2147483646) (n := 2147483646) (by omega) (by omega) (by omega) (by omega)
  obtain ⟨b1, b3⟩ := b1
  obtain ⟨b2, b4⟩ := b2
  go_enter Tryz.func99, Tryz.ntmps99
  go_wp2
  go_ret
  exact ⟨by rw [H.out]; rfl, bel⟩
end Go.Proofs.YtahiaekoaokgnaaGreat
set_option linter.unusedSimpArgs false
set_option linter.unusedVariables false
namespace Go.Proofs.YtahiaekoaokgnaaGreat
open Go.RowKit Pg

set_option maxHeartbeats 1000000 in
theorem ron_any (ax ay bx by_ x y : Int) (w : World) :
    Calls Tryz.prog 128 #[ptV ax ay, ptV bx by_, ptV x y] w (Ret w (.bool (onS ⟨ax, ay⟩ ⟨bx, by_⟩ ⟨x, y⟩))) := by
  cases h1 : okPt ⟨ax, ay⟩
  · have HF : Hid (onS ⟨ax, ay⟩ ⟨bx, by_⟩ ⟨x, y⟩ = false) := by simp [Hid, onS, h1]
    have H1 := Lib.hid h1
    clear h1
    go_enter Tryz.func128, Tryz.ntmps128
    go_wp2_with (go_at_call 24; refine (rpoint_any _ _ _).mono ?_; rw [H1.out]; rintro e w1 ⟨rfl, hb1⟩; obtain ⟨hc1, hf1⟩ := bcell hb1; have hz1 := hb1.size; (try simp at hz1); have hy0 : w.heap.size < w1.heap.size := (by omega); have hy1 : w.heap.size + 1 < w1.heap.size := (by omega); have hy2 : w.heap.size + 1 + 1 < w1.heap.size := (by omega))
    go_ret
    exact ⟨ret_bool HF.out.symm, bel⟩
  cases h2 : okPt ⟨bx, by_⟩
  · have HF : Hid (onS ⟨ax, ay⟩ ⟨bx, by_⟩ ⟨x, y⟩ = false) := by simp [Hid, onS, h2]
    have H1 := Lib.hid h1
    have H2 := Lib.hid h2
    clear h1 h2
    go_enter Tryz.func128, Tryz.ntmps128
    go_wp2_with (go_at_call 24; refine (rpoint_any _ _ _).mono ?_; (first | rw [H1.out] | rw [H2.out]); rintro e w1 ⟨rfl, hb1⟩; obtain ⟨hc1, hf1⟩ := bcell hb1; have hz1 := hb1.size; (try simp at hz1); have hy0 : w.heap.size < w1.heap.size := (by omega); have hy1 : w.heap.size + 1 < w1.heap.size := (by omega); have hy2 : w.heap.size + 1 + 1 < w1.heap.size := (by omega))
    go_ret
    exact ⟨ret_bool HF.out.symm, bel⟩
  cases h3 : okPt ⟨x, y⟩
  · have HF : Hid (onS ⟨ax, ay⟩ ⟨bx, by_⟩ ⟨x, y⟩ = false) := by simp [Hid, onS, h3]
    have H1 := Lib.hid h1
    have H2 := Lib.hid h2
    have H3 := Lib.hid h3
    clear h1 h2 h3
    go_enter Tryz.func128, Tryz.ntmps128
    go_wp2_with (go_at_call 24; refine (rpoint_any _ _ _).mono ?_; (first | rw [H1.out] | rw [H2.out] | rw [H3.out]); rintro e w1 ⟨rfl, hb1⟩; obtain ⟨hc1, hf1⟩ := bcell hb1; have hz1 := hb1.size; (try simp at hz1); have hy0 : w.heap.size < w1.heap.size := (by omega); have hy1 : w.heap.size + 1 < w1.heap.size := (by omega); have hy2 : w.heap.size + 1 + 1 < w1.heap.size := (by omega))
    go_ret
    exact ⟨ret_bool HF.out.symm, bel⟩
  have HC : Hid (cross ⟨ax, ay⟩ ⟨bx, by_⟩ ⟨x, y⟩ = crossR ⟨ax, ay⟩ ⟨bx, by_⟩ ⟨x, y⟩) := by simp [Hid, cross, h1, h2, h3]
  by_cases hz : crossR ⟨ax, ay⟩ ⟨bx, by_⟩ ⟨x, y⟩ = 0
  · have HZ : Hid (cross ⟨ax, ay⟩ ⟨bx, by_⟩ ⟨x, y⟩ = 0) := HC.out.trans hz
    have HF : Hid (onS ⟨ax, ay⟩ ⟨bx, by_⟩ ⟨x, y⟩ = (decide (min ax bx ≤ x) && decide (x ≤ max ax bx) && decide (min ay by_ ≤ y) && decide (y ≤ max ay by_))) := by
      unfold Hid onS
      rw [h1, h2, h3, decide_eq_true hz]
      rfl
    have H1 := Lib.hid h1
    have H2 := Lib.hid h2
    have H3 := Lib.hid h3
    clear h1 h2 h3 HC hz
    go_enter Tryz.func128, Tryz.ntmps128
    go_wp2_with (first | (go_at_call 24; refine (rpoint_any _ _ _).mono ?_; (first | rw [H1.out] | rw [H2.out] | rw [H3.out]); rintro e w1 ⟨rfl, hb1⟩; obtain ⟨hc1, hf1⟩ := bcell hb1; have hz1 := hb1.size; (try simp at hz1); have hy0 : w.heap.size < w1.heap.size := (by omega); have hy1 : w.heap.size + 1 < w1.heap.size := (by omega); have hy2 : w.heap.size + 1 + 1 < w1.heap.size := (by omega)) | (go_at_call 98; refine (rcross_any _ _ _ _ _ _ _).mono ?_; rw [HZ.out]; rintro e w1 ⟨rfl, hb1⟩; obtain ⟨hc1, hf1⟩ := bcell hb1; have hz1 := hb1.size; (try simp at hz1); have hy0 : w.heap.size < w1.heap.size := (by omega); have hy1 : w.heap.size + 1 < w1.heap.size := (by omega); have hy2 : w.heap.size + 1 + 1 < w1.heap.size := (by omega)))
    all_goals go_ret
    all_goals exact ⟨ret_bool (by rw [HF.out, Bool.eq_iff_iff]; simp only [Bool.and_eq_true, decide_eq_true_eq, Bool.false_eq_true, false_iff, true_iff]; omega), bel⟩
  · obtain ⟨n, hn⟩ : ∃ n : Int, cross ⟨ax, ay⟩ ⟨bx, by_⟩ ⟨x, y⟩ = n := ⟨_, rfl⟩
    have hn0 : (n == 0) = false := by rw [beq_eq_false_iff_ne, ← hn, HC.out]; exact hz
    have HF : Hid (onS ⟨ax, ay⟩ ⟨bx, by_⟩ ⟨x, y⟩ = false) := by simp [Hid, onS, hz]
    have HZ := Lib.hid hn
    have H1 := Lib.hid h1
    have H2 := Lib.hid h2
    have H3 := Lib.hid h3
    clear h1 h2 h3 HC hz hn
    go_enter Tryz.func128, Tryz.ntmps128
    go_wp2_with (first | (go_at_call 24; refine (rpoint_any _ _ _).mono ?_; (first | rw [H1.out] | rw [H2.out] | rw [H3.out]); rintro e w1 ⟨rfl, hb1⟩; obtain ⟨hc1, hf1⟩ := bcell hb1; have hz1 := hb1.size; (try simp at hz1); have hy0 : w.heap.size < w1.heap.size := (by omega); have hy1 : w.heap.size + 1 < w1.heap.size := (by omega); have hy2 : w.heap.size + 1 + 1 < w1.heap.size := (by omega)) | (go_at_call 98; refine (rcross_any _ _ _ _ _ _ _).mono ?_; rw [HZ.out]; rintro e w1 ⟨rfl, hb1⟩; obtain ⟨hc1, hf1⟩ := bcell hb1; have hz1 := hb1.size; (try simp at hz1); have hy0 : w.heap.size < w1.heap.size := (by omega); have hy1 : w.heap.size + 1 < w1.heap.size := (by omega); have hy2 : w.heap.size + 1 + 1 < w1.heap.size := (by omega)))
    go_ret
    exact ⟨ret_bool HF.out.symm, bel⟩

set_option maxHeartbeats 1000000 in
theorem rproper_any (ax ay bx by_ cx cy dx dy : Int) (w : World) :
    Calls Tryz.prog 127 #[ptV ax ay, ptV bx by_, ptV cx cy, ptV dx dy] w (Ret w (.bool (properR ⟨ax, ay⟩ ⟨bx, by_⟩ ⟨cx, cy⟩ ⟨dx, dy⟩))) := by
    have hw1 := wrap_mul_one (orient_bd ⟨ax, ay⟩ ⟨bx, by_⟩ ⟨cx, cy⟩) (orient_bd ⟨ax, ay⟩ ⟨bx, by_⟩ ⟨dx, dy⟩)
    have hw2 := wrap_mul_one (orient_bd ⟨cx, cy⟩ ⟨dx, dy⟩ ⟨ax, ay⟩) (orient_bd ⟨cx, cy⟩ ⟨dx, dy⟩ ⟨bx, by_⟩)
    go_enter Tryz.func127, Tryz.ntmps127
    go_wp2_with fail
    refine wp_region_below [0, 1, 2, 4, 5, 6, 3, 7, 8, 9, 10, 11, 12, 13, 15, 16, 17, 14, 18, 19, 20, 21, 22] (by kernel_rfl) (by kernel_rfl) (fun _ _ d _ _ h => by cases d <;> exact h) ?_
    simp only [List.map_cons, List.map_nil, List.getD_cons_zero, List.getD_cons_succ, bare, gslot, List.getElem?_cons_zero, List.getElem?_cons_succ, Option.bind_some]
    repeat' ((try simp only [Act.put, List.setIfInBounds_toArray, List.set_cons_zero, List.set_cons_succ]); first | (refine lexL_quiet (v := ?_) wantB_none rfl ?_ ?_; rotate_left; focus (intro wq hq; obtain ⟨hcq, hfq⟩ := bcell hq; go_simp; try with_reducible rfl)) | (refine lexL_loud wantB_none rfl (fun K hK => ?_); go_simp; ((first | (go_at_call 150; refine (rorient_any _ _ _ _ _ _ _).mono ?_; rintro e w1 ⟨rfl, hb1⟩; obtain ⟨hc1, hf1⟩ := bcell hb1; have hz1 := hb1.size; (try simp at hz1); have hy0 : w.heap.size < w1.heap.size := (by omega); have hy1 : w.heap.size + 1 < w1.heap.size := (by omega); have hy2 : w.heap.size + 1 + 1 < w1.heap.size := (by omega); have hy3 : w.heap.size + 1 + 1 + 1 < w1.heap.size := (by omega)) | skip) <;> (refine hK.out _ _ bel ?_; clear hK K))) | (refine lexL_on ?_ ?_; focus (simp only [List.getElem?_toArray, List.getElem?_cons_succ, List.getElem?_cons_zero, Bool.not_true, Bool.not_false]; done)) | (refine lexL_off ?_ ?_ ?_; (focus (simp only [List.getElem?_toArray, List.getElem?_cons_succ, List.getElem?_cons_zero, Bool.not_true, Bool.not_false]; done)); (focus (exact bel))) | (refine lexL_splitS (X := ?_) ?_ ?_ (fun hg => ?_) (fun hg => ?_); rotate_left; (focus (simp only [List.getElem?_toArray, List.getElem?_cons_succ, List.getElem?_cons_zero]; with_reducible rfl)); (focus (exact bel)); all_goals (try simp only [Bool.not_true, Bool.not_false] at hg)))
    (all_goals try simp only [Act.put, List.setIfInBounds_toArray, List.set_cons_zero, List.set_cons_succ]); all_goals (refine lexL_nil ?_)
    all_goals go_wp2
    all_goals go_ret
    all_goals exact ⟨ret_bool (by unfold properR; simp [*]), bel⟩

set_option maxHeartbeats 2000000 in
theorem rmeet_any (ax ay bx by_ cx cy dx dy : Int) (w : World) :
    Calls Tryz.prog 88 #[ptV ax ay, ptV bx by_, ptV cx cy, ptV dx dy] w (Ret w (.bool (meetS ⟨ax, ay⟩ ⟨bx, by_⟩ ⟨cx, cy⟩ ⟨dx, dy⟩))) := by
  by_cases hok : (okPt ⟨ax, ay⟩ && okPt ⟨bx, by_⟩ && okPt ⟨cx, cy⟩ && okPt ⟨dx, dy⟩) = true
  · have HF : Hid (meetS ⟨ax, ay⟩ ⟨bx, by_⟩ ⟨cx, cy⟩ ⟨dx, dy⟩ = (properR ⟨ax, ay⟩ ⟨bx, by_⟩ ⟨cx, cy⟩ ⟨dx, dy⟩ || onS ⟨ax, ay⟩ ⟨bx, by_⟩ ⟨cx, cy⟩ || onS ⟨ax, ay⟩ ⟨bx, by_⟩ ⟨dx, dy⟩ || onS ⟨cx, cy⟩ ⟨dx, dy⟩ ⟨ax, ay⟩ || onS ⟨cx, cy⟩ ⟨dx, dy⟩ ⟨bx, by_⟩)) := by unfold Hid meetS; rw [hok]; simp
    simp only [Bool.and_eq_true] at hok
    obtain ⟨⟨⟨h1, h2⟩, h3⟩, h4⟩ := hok
    have H1 := Lib.hid h1
    have H2 := Lib.hid h2
    have H3 := Lib.hid h3
    have H4 := Lib.hid h4
    clear h1 h2 h3 h4
    go_enter Tryz.func88, Tryz.ntmps88
    go_wp2_with (first | (go_at_call 24; refine (rpoint_any _ _ _).mono ?_; (first | rw [H1.out] | rw [H2.out] | rw [H3.out] | rw [H4.out]); rintro e w1 ⟨rfl, hb1⟩; obtain ⟨hc1, hf1⟩ := bcell hb1; have hz1 := hb1.size; (try simp at hz1); have hy0 : w.heap.size < w1.heap.size := (by omega); have hy1 : w.heap.size + 1 < w1.heap.size := (by omega); have hy2 : w.heap.size + 1 + 1 < w1.heap.size := (by omega); have hy3 : w.heap.size + 1 + 1 + 1 < w1.heap.size := (by omega)) | (go_at_call 127; refine (rproper_any _ _ _ _ _ _ _ _ _).mono ?_; rintro e w1 ⟨rfl, hb1⟩; obtain ⟨hc1, hf1⟩ := bcell hb1; have hz1 := hb1.size; (try simp at hz1); have hy0 : w.heap.size < w1.heap.size := (by omega); have hy1 : w.heap.size + 1 < w1.heap.size := (by omega); have hy2 : w.heap.size + 1 + 1 < w1.heap.size := (by omega); have hy3 : w.heap.size + 1 + 1 + 1 < w1.heap.size := (by omega)) | (go_at_call 128; refine (ron_any _ _ _ _ _ _ _).mono ?_; rintro e w1 ⟨rfl, hb1⟩; obtain ⟨hc1, hf1⟩ := bcell hb1; have hz1 := hb1.size; (try simp at hz1); have hy0 : w.heap.size < w1.heap.size := (by omega); have hy1 : w.heap.size + 1 < w1.heap.size := (by omega); have hy2 : w.heap.size + 1 + 1 < w1.heap.size := (by omega); have hy3 : w.heap.size + 1 + 1 + 1 < w1.heap.size := (by omega)))
    all_goals go_ret
    all_goals exact ⟨ret_bool (by rw [HF.out]; simp [*]), bel⟩
  · have HF : Hid (meetS ⟨ax, ay⟩ ⟨bx, by_⟩ ⟨cx, cy⟩ ⟨dx, dy⟩ = false) := by
      have : (okPt ⟨ax, ay⟩ && okPt ⟨bx, by_⟩ && okPt ⟨cx, cy⟩ && okPt ⟨dx, dy⟩) = false := by simpa using hok
      unfold Hid meetS; rw [this]; rfl
    cases h1 : okPt ⟨ax, ay⟩
    · have H1 := Lib.hid h1
      clear h1 hok
      go_enter Tryz.func88, Tryz.ntmps88
      go_wp2_with (go_at_call 24; refine (rpoint_any _ _ _).mono ?_; rw [H1.out]; rintro e w1 ⟨rfl, hb1⟩; obtain ⟨hc1, hf1⟩ := bcell hb1; have hz1 := hb1.size; (try simp at hz1); have hy0 : w.heap.size < w1.heap.size := (by omega); have hy1 : w.heap.size + 1 < w1.heap.size := (by omega); have hy2 : w.heap.size + 1 + 1 < w1.heap.size := (by omega); have hy3 : w.heap.size + 1 + 1 + 1 < w1.heap.size := (by omega))
      go_ret
      exact ⟨ret_bool HF.out.symm, bel⟩
    cases h2 : okPt ⟨bx, by_⟩
    · have H1 := Lib.hid h1
      have H2 := Lib.hid h2
      clear h1 h2 hok
      go_enter Tryz.func88, Tryz.ntmps88
      go_wp2_with (go_at_call 24; refine (rpoint_any _ _ _).mono ?_; (first | rw [H1.out] | rw [H2.out]); rintro e w1 ⟨rfl, hb1⟩; obtain ⟨hc1, hf1⟩ := bcell hb1; have hz1 := hb1.size; (try simp at hz1); have hy0 : w.heap.size < w1.heap.size := (by omega); have hy1 : w.heap.size + 1 < w1.heap.size := (by omega); have hy2 : w.heap.size + 1 + 1 < w1.heap.size := (by omega); have hy3 : w.heap.size + 1 + 1 + 1 < w1.heap.size := (by omega))
      go_ret
      exact ⟨ret_bool HF.out.symm, bel⟩
    cases h3 : okPt ⟨cx, cy⟩
    · have H1 := Lib.hid h1
      have H2 := Lib.hid h2
      have H3 := Lib.hid h3
      clear h1 h2 h3 hok
      go_enter Tryz.func88, Tryz.ntmps88
      go_wp2_with (go_at_call 24; refine (rpoint_any _ _ _).mono ?_; (first | rw [H1.out] | rw [H2.out] | rw [H3.out]); rintro e w1 ⟨rfl, hb1⟩; obtain ⟨hc1, hf1⟩ := bcell hb1; have hz1 := hb1.size; (try simp at hz1); have hy0 : w.heap.size < w1.heap.size := (by omega); have hy1 : w.heap.size + 1 < w1.heap.size := (by omega); have hy2 : w.heap.size + 1 + 1 < w1.heap.size := (by omega); have hy3 : w.heap.size + 1 + 1 + 1 < w1.heap.size := (by omega))
      go_ret
      exact ⟨ret_bool HF.out.symm, bel⟩
    · have H1 := Lib.hid h1
      have H2 := Lib.hid h2
      have H3 := Lib.hid h3
      have H4 : Hid (okPt ⟨dx, dy⟩ = false) := by simpa [Hid, h1, h2, h3] using hok
      clear h1 h2 h3 hok
      go_enter Tryz.func88, Tryz.ntmps88
      go_wp2_with (go_at_call 24; refine (rpoint_any _ _ _).mono ?_; (first | rw [H1.out] | rw [H2.out] | rw [H3.out] | rw [H4.out]); rintro e w1 ⟨rfl, hb1⟩; obtain ⟨hc1, hf1⟩ := bcell hb1; have hz1 := hb1.size; (try simp at hz1); have hy0 : w.heap.size < w1.heap.size := (by omega); have hy1 : w.heap.size + 1 < w1.heap.size := (by omega); have hy2 : w.heap.size + 1 + 1 < w1.heap.size := (by omega); have hy3 : w.heap.size + 1 + 1 + 1 < w1.heap.size := (by omega))
      go_ret
      exact ⟨ret_bool HF.out.symm, bel⟩

set_option maxHeartbeats 1000000 in
theorem rover_ok (ax ay cx cy bx by_ : Int) (w : World) (h1 : okPt ⟨ax, ay⟩ = true) (h2 : okPt ⟨cx, cy⟩ = true) (h3 : okPt ⟨bx, by_⟩ = true) :
    Calls Tryz.prog 87 #[ptV ax ay, ptV cx cy, ptV bx by_] w (Ret w (.bool (overR ⟨ax, ay⟩ ⟨cx, cy⟩ ⟨bx, by_⟩))) := by
  have HD := Lib.hid (fun w => rdot_ok cx cy ax ay bx by_ w h2 h1 h3)
  clear h1 h2 h3
  by_cases e1 : (⟨ax, ay⟩ : Pt) = ⟨cx, cy⟩
  · have HF : Hid (overR ⟨ax, ay⟩ ⟨cx, cy⟩ ⟨bx, by_⟩ = false) := by simp [Hid, overR, e1]
    injection e1 with e2 e3
    subst e2 e3
    go_enter Tryz.func87, Tryz.ntmps87
    go_wp2
    all_goals go_ret
    all_goals exact ⟨ret_bool HF.out.symm, bel⟩
  have n1 : ¬ (ax = cx ∧ ay = cy) := fun h => e1 (by rw [h.1, h.2])
  by_cases e2 : (⟨bx, by_⟩ : Pt) = ⟨cx, cy⟩
  · have HF : Hid (overR ⟨ax, ay⟩ ⟨cx, cy⟩ ⟨bx, by_⟩ = false) := by simp [Hid, overR, e2]
    injection e2 with e3 e4
    subst e3 e4
    clear e1
    go_enter Tryz.func87, Tryz.ntmps87
    go_wp2
    all_goals go_ret
    all_goals exact ⟨ret_bool HF.out.symm, bel⟩
  have n2 : ¬ (bx = cx ∧ by_ = cy) := fun h => e2 (by rw [h.1, h.2])
  have HF : Hid (overR ⟨ax, ay⟩ ⟨cx, cy⟩ ⟨bx, by_⟩ = (decide (cross ⟨cx, cy⟩ ⟨ax, ay⟩ ⟨bx, by_⟩ = 0) && decide (0 < dotR ⟨cx, cy⟩ ⟨ax, ay⟩ ⟨bx, by_⟩))) := by simp [Hid, overR, e1, e2]
  clear e1 e2
  obtain ⟨n, hn⟩ : ∃ n : Int, cross ⟨cx, cy⟩ ⟨ax, ay⟩ ⟨bx, by_⟩ = n := ⟨_, rfl⟩
  obtain ⟨d, hd⟩ : ∃ d : Int, dotR ⟨cx, cy⟩ ⟨ax, ay⟩ ⟨bx, by_⟩ = d := ⟨_, rfl⟩
  have HZ := Lib.hid hn
  have HY := Lib.hid hd
  clear hn hd
  have k1 : (¬ ax = cx) ∨ (ax = cx ∧ ¬ ay = cy) := by omega
  have k2 : (¬ bx = cx) ∨ (bx = cx ∧ ¬ by_ = cy) := by omega
  clear n1 n2
  by_cases hz : n = 0
  · subst hz
    rcases k1 with k1 | ⟨k0, k1⟩ <;> rcases k2 with k2 | ⟨k3, k2⟩ <;> (try subst k0) <;> (try subst k3)
    all_goals
      go_enter Tryz.func87, Tryz.ntmps87
      go_wp2_with (first | (go_at_call 98; refine (rcross_any _ _ _ _ _ _ _).mono ?_; rw [HZ.out]; rintro e w1 ⟨rfl, hb1⟩; obtain ⟨hc1, hf1⟩ := bcell hb1; have hz1 := hb1.size; (try simp at hz1); have hy0 : w.heap.size < w1.heap.size := (by omega); have hy1 : w.heap.size + 1 < w1.heap.size := (by omega); have hy2 : w.heap.size + 1 + 1 < w1.heap.size := (by omega)) | (go_at_call 99; refine (HD.out _).mono ?_; rw [HY.out]; rintro e w1 ⟨rfl, hb1⟩; obtain ⟨hc1, hf1⟩ := bcell hb1; have hz1 := hb1.size; (try simp at hz1); have hy0 : w.heap.size < w1.heap.size := (by omega); have hy1 : w.heap.size + 1 < w1.heap.size := (by omega); have hy2 : w.heap.size + 1 + 1 < w1.heap.size := (by omega)))
      go_ret
      exact ⟨ret_bool (by rw [HF.out, HZ.out, HY.out]; simp), bel⟩
  · have hz' : (n == 0) = false := by simpa using hz
    have HN := Lib.hid hz
    clear hz
    rcases k1 with k1 | ⟨k0, k1⟩ <;> rcases k2 with k2 | ⟨k3, k2⟩ <;> (try subst k0) <;> (try subst k3)
    all_goals
      go_enter Tryz.func87, Tryz.ntmps87
      go_wp2_with (first | (go_at_call 98; refine (rcross_any _ _ _ _ _ _ _).mono ?_; rw [HZ.out]; rintro e w1 ⟨rfl, hb1⟩; obtain ⟨hc1, hf1⟩ := bcell hb1; have hz1 := hb1.size; (try simp at hz1); have hy0 : w.heap.size < w1.heap.size := (by omega); have hy1 : w.heap.size + 1 < w1.heap.size := (by omega); have hy2 : w.heap.size + 1 + 1 < w1.heap.size := (by omega)) | (go_at_call 99; refine (HD.out _).mono ?_; rw [HY.out]; rintro e w1 ⟨rfl, hb1⟩; obtain ⟨hc1, hf1⟩ := bcell hb1; have hz1 := hb1.size; (try simp at hz1); have hy0 : w.heap.size < w1.heap.size := (by omega); have hy1 : w.heap.size + 1 < w1.heap.size := (by omega); have hy2 : w.heap.size + 1 + 1 < w1.heap.size := (by omega)))
      go_ret
      exact ⟨ret_bool (by rw [HF.out, HZ.out, HY.out]; simp [HN.out]), bel⟩
end Go.Proofs.YtahiaekoaokgnaaGreat
