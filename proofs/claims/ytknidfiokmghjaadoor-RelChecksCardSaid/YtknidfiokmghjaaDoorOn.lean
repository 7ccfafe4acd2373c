/-
  Contracts of package segm: On.
-/
import Derived.Test.YtknidfiokmghjaaDoorSegm
import Derived.Test.YtknidfiokmghjaaDoorLex
import Derived.Test.YtknidfiokmghjaaDoorPlain1
set_option linter.unusedSimpArgs false
set_option linter.unusedVariables false
namespace Go.Proofs.YtknidfiokmghjaaDoor
open Go.RowKit Pg

set_option maxHeartbeats 1000000 in
theorem on_any (ax ay bx by_ x y : Int) (w : World) :
    Calls Tryd.prog 71 #[ptV ax ay, ptV bx by_, ptV x y] w (Ret w (.bool (onS ⟨ax, ay⟩ ⟨bx, by_⟩ ⟨x, y⟩))) := by
    go_enter Tryd.func71, Tryd.ntmps71
    go_wp2_with fail
    refine wp_region_below [0, 1, 2, 3, 4, 5, 6, 7, 8, 9, 10, 11, 12, 13, 14, 16, 15, 17, 18, 19] (by kernel_rfl) (by kernel_rfl) (fun _ _ d _ _ h => by cases d <;> exact h) ?_
    simp only [List.map_cons, List.map_nil, List.getD_cons_zero, List.getD_cons_succ, bare, gslot, List.getElem?_cons_zero, List.getElem?_cons_succ, Option.bind_some]
    repeat' ((try simp only [Act.put, List.setIfInBounds_toArray, List.set_cons_zero, List.set_cons_succ]); first | (refine lexL_quiet (v := ?_) wantB_none rfl ?_ ?_; rotate_left; focus (intro wq hq; obtain ⟨hcq, hfq⟩ := bcell hq; go_simp; try with_reducible rfl)) | (refine lexL_loud wantB_none rfl (fun K hK => ?_); go_simp; ((first | (go_at_call 73; refine (retB (smay3 ax ay bx by_ x y _ _ ?_)).mono ?_; exact block_last (by simp); rintro e w1 ⟨b, HB, rfl, hb1⟩; obtain ⟨hc1, hf1⟩ := bcell hb1; have hz1 := hb1.size; (try simp at hz1); cases b) | (go_at_call 75; refine (orient_any _ _ _ _ _ _ _).mono ?_; rintro e w1 ⟨rfl, hb1⟩; obtain ⟨hc1, hf1⟩ := bcell hb1; have hz1 := hb1.size; (try simp at hz1); have hy0 : w.heap.size < w1.heap.size := (by omega); have hy1 : w.heap.size + 1 < w1.heap.size := (by omega); have hy2 : w.heap.size + 1 + 1 < w1.heap.size := (by omega); cases hz : (orient ⟨ax, ay⟩ ⟨bx, by_⟩ ⟨x, y⟩ == 0)) | (go_at_call 77; refine (span_any _ _ _ _ _).mono ?_; rintro e w1 ⟨rfl, hb1⟩; obtain ⟨hc1, hf1⟩ := bcell hb1; have hz1 := hb1.size; (try simp at hz1); have hy0 : w.heap.size < w1.heap.size := (by omega); have hy1 : w.heap.size + 1 < w1.heap.size := (by omega); have hy2 : w.heap.size + 1 + 1 < w1.heap.size := (by omega)) | (go_at_call 52; refine (has_any _ _ _ _ _ _ _).mono ?_; rintro e w1 ⟨rfl, hb1⟩; obtain ⟨hc1, hf1⟩ := bcell hb1; have hz1 := hb1.size; (try simp at hz1); have hy0 : w.heap.size < w1.heap.size := (by omega); have hy1 : w.heap.size + 1 < w1.heap.size := (by omega); have hy2 : w.heap.size + 1 + 1 < w1.heap.size := (by omega)) | skip) <;> (refine hK.out _ _ (by repeat (first | with_reducible exact Below.refl _ _ | with_reducible assumption | with_reducible refine al ?_ _ | with_reducible refine Below.drew ?_ | with_reducible refine Below.setCell ?_ (by first | (simp; done) | (simp; omega)) _ | with_reducible refine tr ?_ (by with_reducible assumption))) ?_; clear hK K))) | (refine lexL_on ?_ ?_; focus (simp only [List.getElem?_toArray, List.getElem?_cons_succ, List.getElem?_cons_zero, Bool.not_true, Bool.not_false]; done)) | (refine lexL_off ?_ ?_ ?_; (focus (simp only [List.getElem?_toArray, List.getElem?_cons_succ, List.getElem?_cons_zero, Bool.not_true, Bool.not_false]; done)); (focus (exact (by repeat (first | with_reducible exact Below.refl _ _ | with_reducible assumption | with_reducible refine al ?_ _ | with_reducible refine Below.drew ?_ | with_reducible refine Below.setCell ?_ (by first | (simp; done) | (simp; omega)) _ | with_reducible refine tr ?_ (by with_reducible assumption)))))) | (refine lexL_splitS (X := ?_) ?_ ?_ (fun hg => ?_) (fun hg => ?_); rotate_left; (focus (simp only [List.getElem?_toArray, List.getElem?_cons_succ, List.getElem?_cons_zero]; with_reducible rfl)); (focus (exact (by repeat (first | with_reducible exact Below.refl _ _ | with_reducible assumption | with_reducible refine al ?_ _ | with_reducible refine Below.drew ?_ | with_reducible refine Below.setCell ?_ (by first | (simp; done) | (simp; omega)) _ | with_reducible refine tr ?_ (by with_reducible assumption))))); all_goals (try simp only [Bool.not_true, Bool.not_false] at hg)))
    (all_goals try simp only [Act.put, List.setIfInBounds_toArray, List.set_cons_zero, List.set_cons_succ]); all_goals (refine lexL_nil ?_)
    all_goals go_wp2
    all_goals go_ret
    all_goals exact ⟨ret_bool (by have hb := HB.out; rw [onS_eq, hb]; simp [*, span]), (by repeat (first | with_reducible exact Below.refl _ _ | with_reducible assumption | with_reducible refine al ?_ _ | with_reducible refine Below.drew ?_ | with_reducible refine Below.setCell ?_ (by first | (simp; done) | (simp; omega)) _ | with_reducible refine tr ?_ (by with_reducible assumption)))⟩
end Go.Proofs.YtknidfiokmghjaaDoor
