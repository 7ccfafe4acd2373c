/-
  Contracts of package segm: On.
  Contracts of package segm: Proper, Meet.
  Contracts of package segm: Meet, MeetsBox.
-/
import Derived.Test.YtkfbkfcmdfpfjaaGreatDoorSSegm
import Derived.Test.YtkfbkfcmdfpfjaaGreatDoorSLex
import Derived.Test.YtkfbkfcmdfpfjaaGreatDoorSPlainSplit
import Derived.RegionTactic
set_option linter.unusedSimpArgs false
set_option linter.unusedVariables false
namespace Go.Proofs.YtkfbkfcmdfpfjaaGreatDoor
open Go.RowKit Pg

set_option maxHeartbeats 1000000 in
theorem on_any (ax ay bx by_ x y : Int) (w : World) :
    Calls Tryz.prog 151 #[ptV ax ay, ptV bx by_, ptV x y] w (Ret w (.bool (onS ⟨ax, ay⟩ ⟨bx, by_⟩ ⟨x, y⟩))) := by
    go_enter Tryz.func151, Tryz.ntmps151
    go_wp2_with fail
    refine wp_region_below [0, 1, 2, 3, 4, 5, 6, 7, 8, 9, 10, 11, 12, 13, 14, 16, 15, 17, 18, 19] (by kernel_rfl) (by kernel_rfl) (fun _ _ d _ _ h => by cases d <;> exact h) ?_
    simp only [List.map_cons, List.map_nil, List.getD_cons_zero, List.getD_cons_succ, bare, gslot, List.getElem?_cons_zero, List.getElem?_cons_succ, Option.bind_some]
    repeat' ((try simp only [Act.put, List.setIfInBounds_toArray, List.set_cons_zero, List.set_cons_succ]); first | (refine lexL_quiet (v := ?_) wantB_none rfl ?_ ?_; rotate_left; focus (intro wq hq; obtain ⟨hcq, hfq⟩ := bcell hq; go_simp; try with_reducible rfl)) | (refine lexL_loud wantB_none rfl (fun K hK => ?_); go_simp; ((first | (go_at_call 119; refine (retB (smay3 ax ay bx by_ x y _ _ ?_)).mono ?_; exact block_last (by simp); rintro e w1 ⟨b, HB, rfl, hb1⟩; obtain ⟨hc1, hf1⟩ := bcell hb1; have hz1 := hb1.size; (try simp at hz1); cases b) | (go_at_call 117; refine (orient_any _ _ _ _ _ _ _).mono ?_; rintro e w1 ⟨rfl, hb1⟩; obtain ⟨hc1, hf1⟩ := bcell hb1; have hz1 := hb1.size; (try simp at hz1); have hy0 : w.heap.size < w1.heap.size := (by omega); have hy1 : w.heap.size + 1 < w1.heap.size := (by omega); have hy2 : w.heap.size + 1 + 1 < w1.heap.size := (by omega); cases hz : (orient ⟨ax, ay⟩ ⟨bx, by_⟩ ⟨x, y⟩ == 0)) | (go_at_call 170; refine (span_any _ _ _ _ _).mono ?_; rintro e w1 ⟨rfl, hb1⟩; obtain ⟨hc1, hf1⟩ := bcell hb1; have hz1 := hb1.size; (try simp at hz1); have hy0 : w.heap.size < w1.heap.size := (by omega); have hy1 : w.heap.size + 1 < w1.heap.size := (by omega); have hy2 : w.heap.size + 1 + 1 < w1.heap.size := (by omega)) | (go_at_call 145; refine (has_any _ _ _ _ _ _ _).mono ?_; rintro e w1 ⟨rfl, hb1⟩; obtain ⟨hc1, hf1⟩ := bcell hb1; have hz1 := hb1.size; (try simp at hz1); have hy0 : w.heap.size < w1.heap.size := (by omega); have hy1 : w.heap.size + 1 < w1.heap.size := (by omega); have hy2 : w.heap.size + 1 + 1 < w1.heap.size := (by omega)) | skip) <;> (refine hK.out _ _ bel ?_; clear hK K))) | (refine lexL_on ?_ ?_; focus (simp only [List.getElem?_toArray, List.getElem?_cons_succ, List.getElem?_cons_zero, Bool.not_true, Bool.not_false]; done)) | (refine lexL_off ?_ ?_ ?_; (focus (simp only [List.getElem?_toArray, List.getElem?_cons_succ, List.getElem?_cons_zero, Bool.not_true, Bool.not_false]; done)); (focus (exact bel))) | (refine lexL_splitS (X := ?_) ?_ ?_ (fun hg => ?_) (fun hg => ?_); rotate_left; (focus (simp only [List.getElem?_toArray, List.getElem?_cons_succ, List.getElem?_cons_zero]; with_reducible rfl)); (focus (exact bel)); all_goals (try simp only [Bool.not_true, Bool.not_false] at hg)))
    (all_goals try simp only [Act.put, List.setIfInBounds_toArray, List.set_cons_zero, List.set_cons_succ]); all_goals (refine lexL_nil ?_)
    all_goals go_wp2
    all_goals go_ret
    all_goals exact ⟨ret_bool (by have hb := HB.out; rw [onS_eq, hb]; simp [*, span]), bel⟩
end Go.Proofs.YtkfbkfcmdfpfjaaGreatDoor
set_option linter.unusedSimpArgs false
set_option linter.unusedVariables false
namespace Go.Proofs.YtkfbkfcmdfpfjaaGreatDoor
open Go.RowKit Pg

theorem orient_bd (a b c : Pt) : -1 ≤ orient a b c ∧ orient a b c ≤ 1 := by
  unfold orient sgn
  split
  · omega
  · split <;> omega
theorem mul_one_bd {p q : Int} (h1 : -1 ≤ p ∧ p ≤ 1) (h2 : -1 ≤ q ∧ q ≤ 1) : -1 ≤ p * q ∧ p * q ≤ 1 := by
  have := mul_bd (m := 1) (n := 1) h1.1 h1.2 h2.1 h2.2
  omega
theorem wrap_mul_one {p q : Int} (h1 : -1 ≤ p ∧ p ≤ 1) (h2 : -1 ≤ q ∧ q ≤ 1) : IntKind.i64.wrap (p * q) = p * q := by
  have h := mul_one_bd h1 h2
  exact IntWalk.i64_in _ (by omega)

theorem proper_eq (a b c d : Pt) : properR a b c d = ((okPt a && okPt b && okPt c && okPt d) && decide (orient a b c * orient a b d < 0) && decide (orient c d a * orient c d b < 0)) := by
  by_cases h : (okPt a && okPt b && okPt c && okPt d) = true
  · rw [properR, h]; simp
  · have h0 : (okPt a && okPt b && okPt c && okPt d) = false := by simpa using h
    rw [properR, h0]
    have : orient a b c * orient a b d = 0 := by
      by_cases h1 : (okPt a && okPt b && okPt c) = true
      · have h2 : (okPt a && okPt b && okPt d) = false := by simp_all
        have : orient a b d = 0 := by simp [orient, cross, h2, sgn]
        rw [this]; simp
      · have h1 : (okPt a && okPt b && okPt c) = false := by simpa using h1
        have : orient a b c = 0 := by simp [orient, cross, h1, sgn]
        rw [this]; simp
    rw [this]; simp

set_option maxHeartbeats 1000000 in
theorem proper_any (ax ay bx by_ cx cy dx dy : Int) (w : World) :
    Calls Tryz.prog 178 #[ptV ax ay, ptV bx by_, ptV cx cy, ptV dx dy] w (Ret w (.bool (properR ⟨ax, ay⟩ ⟨bx, by_⟩ ⟨cx, cy⟩ ⟨dx, dy⟩))) := by
    have hw1 := wrap_mul_one (orient_bd ⟨ax, ay⟩ ⟨bx, by_⟩ ⟨cx, cy⟩) (orient_bd ⟨ax, ay⟩ ⟨bx, by_⟩ ⟨dx, dy⟩)
    have hw2 := wrap_mul_one (orient_bd ⟨cx, cy⟩ ⟨dx, dy⟩ ⟨ax, ay⟩) (orient_bd ⟨cx, cy⟩ ⟨dx, dy⟩ ⟨bx, by_⟩)
    go_enter Tryz.func178, Tryz.ntmps178
    go_wp2_with fail
    refine wp_region_below [0, 1, 2, 3, 4, 5, 6, 7, 8, 9, 11, 12, 13, 10, 14, 15, 16, 17, 18, 19, 20, 21, 23, 24, 25, 22, 26, 27, 28, 29, 30] (by kernel_rfl) (by kernel_rfl) (fun _ _ d _ _ h => by cases d <;> exact h) ?_
    simp only [List.map_cons, List.map_nil, List.getD_cons_zero, List.getD_cons_succ, bare, gslot, List.getElem?_cons_zero, List.getElem?_cons_succ, Option.bind_some]
    repeat' ((try simp only [Act.put, List.setIfInBounds_toArray, List.set_cons_zero, List.set_cons_succ]); first | (refine lexL_quiet (v := ?_) wantB_none rfl ?_ ?_; rotate_left; focus (intro wq hq; obtain ⟨hcq, hfq⟩ := bcell hq; go_simp; try with_reducible rfl)) | (refine lexL_loud wantB_none rfl (fun K hK => ?_); go_simp; ((first | (go_at_call 119; refine (retB (smay4 ax ay bx by_ cx cy dx dy _ _ ?_)).mono ?_; exact block_last (by simp); rintro e w1 ⟨b, HB, rfl, hb1⟩; obtain ⟨hc1, hf1⟩ := bcell hb1; have hz1 := hb1.size; (try simp at hz1); cases b) | (go_at_call 117; refine (orient_any _ _ _ _ _ _ _).mono ?_; rintro e w1 ⟨rfl, hb1⟩; obtain ⟨hc1, hf1⟩ := bcell hb1; have hz1 := hb1.size; (try simp at hz1); have hy0 : w.heap.size < w1.heap.size := (by omega); have hy1 : w.heap.size + 1 < w1.heap.size := (by omega); have hy2 : w.heap.size + 1 + 1 < w1.heap.size := (by omega); have hy3 : w.heap.size + 1 + 1 + 1 < w1.heap.size := (by omega)) | skip) <;> (refine hK.out _ _ bel ?_; clear hK K))) | (refine lexL_on ?_ ?_; focus (simp only [List.getElem?_toArray, List.getElem?_cons_succ, List.getElem?_cons_zero, Bool.not_true, Bool.not_false]; done)) | (refine lexL_off ?_ ?_ ?_; (focus (simp only [List.getElem?_toArray, List.getElem?_cons_succ, List.getElem?_cons_zero, Bool.not_true, Bool.not_false]; done)); (focus (exact bel))) | (refine lexL_splitS (X := ?_) ?_ ?_ (fun hg => ?_) (fun hg => ?_); rotate_left; (focus (simp only [List.getElem?_toArray, List.getElem?_cons_succ, List.getElem?_cons_zero]; with_reducible rfl)); (focus (exact bel)); all_goals (try simp only [Bool.not_true, Bool.not_false] at hg)))
    (all_goals try simp only [Act.put, List.setIfInBounds_toArray, List.set_cons_zero, List.set_cons_succ]); all_goals (refine lexL_nil ?_)
    all_goals go_wp2
    all_goals go_ret
    all_goals exact ⟨ret_bool (by have hb := HB.out; rw [proper_eq, hb]; simp [*]), bel⟩
end Go.Proofs.YtkfbkfcmdfpfjaaGreatDoor
set_option linter.unusedSimpArgs false
set_option linter.unusedVariables false
namespace Go.Proofs.YtkfbkfcmdfpfjaaGreatDoor
open Go.RowKit Pg

set_option maxHeartbeats 1000000 in
theorem meet_any (ax ay bx by_ cx cy dx dy : Int) (w : World) :
    Calls Tryz.prog 161 #[ptV ax ay, ptV bx by_, ptV cx cy, ptV dx dy] w (Ret w (.bool (meetS ⟨ax, ay⟩ ⟨bx, by_⟩ ⟨cx, cy⟩ ⟨dx, dy⟩))) := by
  go_enter Tryz.func161, Tryz.ntmps161
  go_wp2_with (first | (go_at_call 119; refine (smay4 ax ay bx by_ cx cy dx dy _ _ ?_).mono ?_; exact block_last (by simp); rintro e w1 ⟨rfl, hb1⟩; obtain ⟨hc1, hf1⟩ := bcell hb1; have hz1 := hb1.size; (try simp at hz1); have hy0 : w.heap.size < w1.heap.size := (by omega); have hy1 : w.heap.size + 1 < w1.heap.size := (by omega); have hy2 : w.heap.size + 1 + 1 < w1.heap.size := (by omega); have hy3 : w.heap.size + 1 + 1 + 1 < w1.heap.size := (by omega)) | (go_at_call 178; refine (proper_any _ _ _ _ _ _ _ _ _).mono ?_; rintro e w1 ⟨rfl, hb1⟩; obtain ⟨hc1, hf1⟩ := bcell hb1; have hz1 := hb1.size; (try simp at hz1); have hy0 : w.heap.size < w1.heap.size := (by omega); have hy1 : w.heap.size + 1 < w1.heap.size := (by omega); have hy2 : w.heap.size + 1 + 1 < w1.heap.size := (by omega); have hy3 : w.heap.size + 1 + 1 + 1 < w1.heap.size := (by omega)) | (go_at_call 151; refine (on_any _ _ _ _ _ _ _).mono ?_; rintro e w1 ⟨rfl, hb1⟩; obtain ⟨hc1, hf1⟩ := bcell hb1; have hz1 := hb1.size; (try simp at hz1); have hy0 : w.heap.size < w1.heap.size := (by omega); have hy1 : w.heap.size + 1 < w1.heap.size := (by omega); have hy2 : w.heap.size + 1 + 1 < w1.heap.size := (by omega); have hy3 : w.heap.size + 1 + 1 + 1 < w1.heap.size := (by omega)))
  all_goals go_ret
  all_goals exact ⟨ret_bool (by simp [meetS, *]), bel⟩

end Go.Proofs.YtkfbkfcmdfpfjaaGreatDoor
