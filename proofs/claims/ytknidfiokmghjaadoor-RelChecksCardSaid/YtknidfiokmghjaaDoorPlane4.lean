/-
  Contracts of package plane, more: Orient, Has, Meets, Inside, gap.
-/
import Derived.Test.YtknidfiokmghjaaDoorPlane3
namespace Go.Proofs.YtknidfiokmghjaaDoor
open Go.RowKit Pg

set_option maxHeartbeats 400000 in
theorem compareInt_any (a b : Int) (w : World) :
    Calls Tryd.prog 78 #[.int .i64 a, .int .i64 b] w fun e w' => e = .returned (.int .i64 (sgn (a - b))) ∧ w = w' := by
  rcases Int.lt_trichotomy a b with h | h | h
  · have H : Hid (sgn (a - b) = -1) := by unfold Hid sgn; rw [if_pos (by omega)]
    go_enter Tryd.func78, Tryd.ntmps78
    go_wp2
    go_ret
    exact ⟨ret_int H.out.symm, rfl⟩
  · have H : Hid (sgn (a - b) = 0) := by unfold Hid sgn; rw [if_neg (by omega), if_neg (by omega)]
    subst h
    go_enter Tryd.func78, Tryd.ntmps78
    go_wp2
    go_ret
    exact ⟨ret_int H.out.symm, rfl⟩
  · have H : Hid (sgn (a - b) = 1) := by unfold Hid sgn; rw [if_neg (by omega), if_pos (by omega)]
    go_enter Tryd.func78, Tryd.ntmps78
    go_wp2
    go_ret
    exact ⟨ret_int H.out.symm, rfl⟩

set_option maxHeartbeats 400000 in
theorem orient_any (ax ay bx by_ cx cy : Int) (w : World) :
    Calls Tryd.prog 75 #[ptV ax ay, ptV bx by_, ptV cx cy] w (Ret w (.int .i64 (orient ⟨ax, ay⟩ ⟨bx, by_⟩ ⟨cx, cy⟩))) := by
  go_enter Tryd.func75, Tryd.ntmps75
  go_wp2_with (first | (go_at_call 79; refine (cross_any _ _ _ _ _ _ _).mono ?_; rintro e w1 ⟨rfl, hb1⟩; obtain ⟨hc1, hf1⟩ := bcell hb1; have hz1 := hb1.size; (try simp at hz1)) | (go_at_call 78; refine (compareInt_any _ _ _).mono ?_; rintro e w' ⟨rfl, rfl⟩))
  go_ret
  exact ⟨by simp [orient], (by repeat (first | with_reducible exact Below.refl _ _ | with_reducible assumption | with_reducible refine al ?_ _ | with_reducible refine Below.drew ?_ | with_reducible refine Below.setCell ?_ (by first | (simp; done) | (simp; omega)) _ | with_reducible refine tr ?_ (by with_reducible assumption)))⟩

set_option maxHeartbeats 400000 in
theorem has_any (a b c d x y : Int) (w : World) :
    Calls Tryd.prog 52 #[bxV a b c d, ptV x y] w (Ret w (.bool (bhas ⟨⟨a, b⟩, ⟨c, d⟩⟩ ⟨x, y⟩))) := by
  go_enter Tryd.func52, Tryd.ntmps52
  go_wp2_with (first | (go_at_call 51; refine (boxes1 a b c d _ _ ?_).mono ?_; exact block_last (by simp); rintro e w1 ⟨rfl, hb1⟩; obtain ⟨hc1, hf1⟩ := bcell hb1; have hz1 := hb1.size; (try simp at hz1); have hy0 : w.heap.size < w1.heap.size := (by omega); have hy1 : w.heap.size + 1 < w1.heap.size := (by omega)) | (go_at_call 58; refine (may1 x y _ _ ?_).mono ?_; exact block_last (by simp); rintro e w1 ⟨rfl, hb1⟩; obtain ⟨hc1, hf1⟩ := bcell hb1; have hz1 := hb1.size; (try simp at hz1); have hy0 : w.heap.size < w1.heap.size := (by omega); have hy1 : w.heap.size + 1 < w1.heap.size := (by omega)))
  all_goals go_ret
  all_goals exact ⟨ret_bool (by first | (simp [bhas, bhasR, *]; done) | (simp [bhas, bhasR, *]; omega)), (by repeat (first | with_reducible exact Below.refl _ _ | with_reducible assumption | with_reducible refine al ?_ _ | with_reducible refine Below.drew ?_ | with_reducible refine Below.setCell ?_ (by first | (simp; done) | (simp; omega)) _ | with_reducible refine tr ?_ (by with_reducible assumption)))⟩

set_option maxHeartbeats 400000 in
theorem meets_any (a b c d x y z t : Int) (w : World) :
    Calls Tryd.prog 48 #[bxV a b c d, bxV x y z t] w (Ret w (.bool (bmeets ⟨⟨a, b⟩, ⟨c, d⟩⟩ ⟨⟨x, y⟩, ⟨z, t⟩⟩))) := by
  go_enter Tryd.func48, Tryd.ntmps48
  go_wp2_with (go_at_call 51; refine (boxes2 a b c d x y z t _ _ ?_).mono ?_; exact block_last (by simp); rintro e w1 ⟨rfl, hb1⟩; obtain ⟨hc1, hf1⟩ := bcell hb1; have hz1 := hb1.size; (try simp at hz1); have hy0 : w.heap.size < w1.heap.size := (by omega); have hy1 : w.heap.size + 1 < w1.heap.size := (by omega))
  all_goals go_ret
  all_goals exact ⟨ret_bool (by first | (simp [bmeets, bmeetsR, *]; done) | (simp [bmeets, bmeetsR, *]; omega)), (by repeat (first | with_reducible exact Below.refl _ _ | with_reducible assumption | with_reducible refine al ?_ _ | with_reducible refine Below.drew ?_ | with_reducible refine Below.setCell ?_ (by first | (simp; done) | (simp; omega)) _ | with_reducible refine tr ?_ (by with_reducible assumption)))⟩

set_option maxHeartbeats 400000 in
theorem inside_any (a b c d x y z t : Int) (w : World) :
    Calls Tryd.prog 32 #[bxV a b c d, bxV x y z t] w (Ret w (.bool (binside ⟨⟨a, b⟩, ⟨c, d⟩⟩ ⟨⟨x, y⟩, ⟨z, t⟩⟩))) := by
  go_enter Tryd.func32, Tryd.ntmps32
  go_wp2_with (first | (go_at_call 51; refine (boxes1 a b c d _ _ ?_).mono ?_; exact block_last (by simp); rintro e w1 ⟨rfl, hb1⟩; obtain ⟨hc1, hf1⟩ := bcell hb1; have hz1 := hb1.size; (try simp at hz1); have hy0 : w.heap.size < w1.heap.size := (by omega); have hy1 : w.heap.size + 1 < w1.heap.size := (by omega)) | (go_at_call 52; refine (has_any _ _ _ _ _ _ _).mono ?_; rintro e w1 ⟨rfl, hb1⟩; obtain ⟨hc1, hf1⟩ := bcell hb1; have hz1 := hb1.size; (try simp at hz1); have hy0 : w.heap.size < w1.heap.size := (by omega); have hy1 : w.heap.size + 1 < w1.heap.size := (by omega)))
  all_goals go_ret
  all_goals exact ⟨ret_bool (by first | (simp [binside, *]; done) | (simp [binside, *]; omega)), (by repeat (first | with_reducible exact Below.refl _ _ | with_reducible assumption | with_reducible refine al ?_ _ | with_reducible refine Below.drew ?_ | with_reducible refine Below.setCell ?_ (by first | (simp; done) | (simp; omega)) _ | with_reducible refine tr ?_ (by with_reducible assumption)))⟩
end Go.Proofs.YtknidfiokmghjaaDoor
