/-
  Contracts of package segm: On.
  Contracts of package segm: Proper, Meet.
  Contracts of package segm: Meet, MeetsBox.
-/
import Derived.Test.YtildgbhliaonnaaGreatQSegm
import Derived.Test.YtildgbhliaonnaaGreatQLex
import Derived.Test.YtildgbhliaonnaaGreatQPlainSplit
import Derived.RegionTactic
set_option linter.unusedVariables false
set_option linter.unusedSimpArgs false
set_option maxHeartbeats 1000000
namespace Go.Proofs.YtildgbhliaonnaaGreat
open Go.RowKit Pg
theorem on_any (ax ay bx by_ x y : Int) (w : World) :
 Calls Tryz.prog 148 #[ptV ax ay,ptV bx by_,ptV x y] w (Ret w (.bool (onS ⟨ax,ay⟩ ⟨bx,by_⟩ ⟨x,y⟩))) := by
 go_enter Tryz.func148,Tryz.ntmps148
 go_wp2_with fail;refine wp_region_below [0,1,2,3,4,5,6,7,8,9,10,11,12,13,14,16,15,17,18,19] (by kernel_rfl) (by kernel_rfl) (fun _ _ d _ _ h => by cases d <;> exact h) ?_
 simp only [List.map_cons,List.map_nil,ldz,lds,bare,gslot,lcz,lcs,Option.bind_some]
 repeat' ((try simp only [Act.put,lsi,lsz,lss]);first | (refine lexL_quiet (v := ?_) wantB_none rfl ?_ ?_;rotate_left;focus (intro wq hq;obtain ⟨hcq,hfq⟩ := bcell hq;go_simp;try with_reducible rfl)) | (refine lexL_loud wantB_none rfl (fun K hK => ?_);go_simp;((first | (go_at_call 114;refine (retB (smay3 ax ay bx by_ x y _ _ ?_)).mono ?_;exact block_last (by simp);rintro e w1 ⟨b,HB,rfl,hb1⟩;obtain ⟨hc1,hf1⟩ := bcell hb1;have hz1 := hb1.size;(try simp at hz1);cases b) | (go_at_call 112;refine (orient_any _ _ _ _ _ _ _).mono ?_;rintro e w1 ⟨rfl,hb1⟩;obtain ⟨hc1,hf1⟩ := bcell hb1;have hz1 := hb1.size;(try simp at hz1);have hy0 : w.heap.size < w1.heap.size := (by omega);have hy1 : w.heap.size + 1 < w1.heap.size := (by omega);have hy2 : w.heap.size + 1 + 1 < w1.heap.size := (by omega);cases hz : (orient ⟨ax,ay⟩ ⟨bx,by_⟩ ⟨x,y⟩ == 0)) | (go_at_call 182;refine (span_any _ _ _ _ _).mono ?_;rintro e w1 ⟨rfl,hb1⟩;obtain ⟨hc1,hf1⟩ := bcell hb1;have hz1 := hb1.size;(try simp at hz1);have hy0 : w.heap.size < w1.heap.size := (by omega);have hy1 : w.heap.size + 1 < w1.heap.size := (by omega);have hy2 : w.heap.size + 1 + 1 < w1.heap.size := (by omega)) | (go_at_call 170;refine (has_any _ _ _ _ _ _ _).mono ?_;rintro e w1 ⟨rfl,hb1⟩;obtain ⟨hc1,hf1⟩ := bcell hb1;have hz1 := hb1.size;(try simp at hz1);have hy0 : w.heap.size < w1.heap.size := (by omega);have hy1 : w.heap.size + 1 < w1.heap.size := (by omega);have hy2 : w.heap.size + 1 + 1 < w1.heap.size := (by omega)) | skip) <;> (refine hK.out _ _ bel ?_;clear hK K))) | (refine lexL_on ?_ ?_;focus (simp only [lta,lcs,lcz,Bool.not_true,Bool.not_false];done)) | (refine lexL_off ?_ ?_ ?_;(focus (simp only [lta,lcs,lcz,Bool.not_true,Bool.not_false];done));(focus (exact bel))) | (refine lexL_splitS (X := ?_) ?_ ?_ (fun hg => ?_) (fun hg => ?_);rotate_left;(focus (simp only [lta,lcs,lcz];with_reducible rfl));(focus (exact bel));all_goals (try simp only [Bool.not_true,Bool.not_false] at hg)))
 (all_goals try simp only [Act.put,lsi,lsz,lss]);all_goals (refine lexL_nil ?_)
 all_goals go_wp2
 all_goals go_ret
 all_goals exact ⟨ret_bool (by have hb := HB.out;rw [onS_eq,hb];simp [*,span]),bel⟩
theorem orient_bd (a b c : Pt) : -1 ≤ orient a b c ∧ orient a b c ≤ 1 := by
 unfold orient sgn
 split
 · omega
 · split <;> omega
theorem mul_one_bd {p q : Int} (h1 : -1 ≤ p ∧ p ≤ 1) (h2 : -1 ≤ q ∧ q ≤ 1) : -1 ≤ p * q ∧ p * q ≤ 1 := by
 have := mul_bd (m := 1) (n := 1) h1.1 h1.2 h2.1 h2.2
 omega
theorem wrap_mul_one {p q : Int} (h1 : -1 ≤ p ∧ p ≤ 1) (h2 : -1 ≤ q ∧ q ≤ 1) : IntKind.i64.wrap (p * q) = p * q := by
 have h := mul_one_bd h1 h2;exact IntWalk.i64_in _ (by omega)
theorem proper_eq (a b c d : Pt) : properR a b c d = ((okPt a && okPt b && okPt c && okPt d) && decide (orient a b c * orient a b d < 0) && decide (orient c d a * orient c d b < 0)) := by
 by_cases h : (okPt a && okPt b && okPt c && okPt d) = true
 · rw [properR,h];simp
 · have h0 : (okPt a && okPt b && okPt c && okPt d) = false := by simpa using h
   rw [properR, h0]
   have : orient a b c * orient a b d = 0 := by
    by_cases h1 : (okPt a && okPt b && okPt c) = true
    · have h2 : (okPt a && okPt b && okPt d) = false := by simp_all
      have : orient a b d = 0 := by simp [orient,cross,h2,sgn]
      rw [this];simp
    · have h1 : (okPt a && okPt b && okPt c) = false := by simpa using h1
      have : orient a b c = 0 := by simp [orient,cross,h1,sgn]
      rw [this];simp
   rw [this];simp
theorem proper_any (ax ay bx by_ cx cy dx dy : Int) (w : World) :
 Calls Tryz.prog 189 #[ptV ax ay,ptV bx by_,ptV cx cy,ptV dx dy] w (Ret w (.bool (properR ⟨ax,ay⟩ ⟨bx,by_⟩ ⟨cx,cy⟩ ⟨dx,dy⟩))) := by
 have hw1 := wrap_mul_one (orient_bd ⟨ax,ay⟩ ⟨bx,by_⟩ ⟨cx,cy⟩) (orient_bd ⟨ax,ay⟩ ⟨bx,by_⟩ ⟨dx,dy⟩);have hw2 := wrap_mul_one (orient_bd ⟨cx,cy⟩ ⟨dx,dy⟩ ⟨ax,ay⟩) (orient_bd ⟨cx,cy⟩ ⟨dx,dy⟩ ⟨bx,by_⟩)
 go_enter Tryz.func189,Tryz.ntmps189
 go_wp2_with fail;refine wp_region_below [0,1,2,3,4,5,6,7,8,9,11,12,13,10,14,15,16,17,18,19,20,21,23,24,25,22,26,27,28,29,30] (by kernel_rfl) (by kernel_rfl) (fun _ _ d _ _ h => by cases d <;> exact h) ?_
 simp only [List.map_cons,List.map_nil,ldz,lds,bare,gslot,lcz,lcs,Option.bind_some]
 repeat' ((try simp only [Act.put,lsi,lsz,lss]);first | (refine lexL_quiet (v := ?_) wantB_none rfl ?_ ?_;rotate_left;focus (intro wq hq;obtain ⟨hcq,hfq⟩ := bcell hq;go_simp;try with_reducible rfl)) | (refine lexL_loud wantB_none rfl (fun K hK => ?_);go_simp;((first | (go_at_call 114;refine (retB (smay4 ax ay bx by_ cx cy dx dy _ _ ?_)).mono ?_;exact block_last (by simp);rintro e w1 ⟨b,HB,rfl,hb1⟩;obtain ⟨hc1,hf1⟩ := bcell hb1;have hz1 := hb1.size;(try simp at hz1);cases b) | (go_at_call 112;refine (orient_any _ _ _ _ _ _ _).mono ?_;rintro e w1 ⟨rfl,hb1⟩;obtain ⟨hc1,hf1⟩ := bcell hb1;have hz1 := hb1.size;(try simp at hz1);have hy0 : w.heap.size < w1.heap.size := (by omega);have hy1 : w.heap.size + 1 < w1.heap.size := (by omega);have hy2 : w.heap.size + 1 + 1 < w1.heap.size := (by omega);have hy3 : w.heap.size + 1 + 1 + 1 < w1.heap.size := (by omega)) | skip) <;> (refine hK.out _ _ bel ?_;clear hK K))) | (refine lexL_on ?_ ?_;focus (simp only [lta,lcs,lcz,Bool.not_true,Bool.not_false];done)) | (refine lexL_off ?_ ?_ ?_;(focus (simp only [lta,lcs,lcz,Bool.not_true,Bool.not_false];done));(focus (exact bel))) | (refine lexL_splitS (X := ?_) ?_ ?_ (fun hg => ?_) (fun hg => ?_);rotate_left;(focus (simp only [lta,lcs,lcz];with_reducible rfl));(focus (exact bel));all_goals (try simp only [Bool.not_true,Bool.not_false] at hg)))
 (all_goals try simp only [Act.put,lsi,lsz,lss]);all_goals (refine lexL_nil ?_)
 all_goals go_wp2
 all_goals go_ret
 all_goals exact ⟨ret_bool (by have hb := HB.out;rw [proper_eq,hb];simp [*]),bel⟩
theorem meet_any (ax ay bx by_ cx cy dx dy : Int) (w : World) :
 Calls Tryz.prog 155 #[ptV ax ay,ptV bx by_,ptV cx cy,ptV dx dy] w (Ret w (.bool (meetS ⟨ax,ay⟩ ⟨bx,by_⟩ ⟨cx,cy⟩ ⟨dx,dy⟩))) := by
 go_enter Tryz.func155,Tryz.ntmps155
 go_wp2_with (first | (go_at_call 114;refine (smay4 ax ay bx by_ cx cy dx dy _ _ ?_).mono ?_;exact block_last (by simp);rintro e w1 ⟨rfl,hb1⟩;obtain ⟨hc1,hf1⟩ := bcell hb1;have hz1 := hb1.size;(try simp at hz1);have hy0 : w.heap.size < w1.heap.size := (by omega);have hy1 : w.heap.size + 1 < w1.heap.size := (by omega);have hy2 : w.heap.size + 1 + 1 < w1.heap.size := (by omega);have hy3 : w.heap.size + 1 + 1 + 1 < w1.heap.size := (by omega)) | (go_at_call 189;refine (proper_any _ _ _ _ _ _ _ _ _).mono ?_;rintro e w1 ⟨rfl,hb1⟩;obtain ⟨hc1,hf1⟩ := bcell hb1;have hz1 := hb1.size;(try simp at hz1);have hy0 : w.heap.size < w1.heap.size := (by omega);have hy1 : w.heap.size + 1 < w1.heap.size := (by omega);have hy2 : w.heap.size + 1 + 1 < w1.heap.size := (by omega);have hy3 : w.heap.size + 1 + 1 + 1 < w1.heap.size := (by omega)) | (go_at_call 148;refine (on_any _ _ _ _ _ _ _).mono ?_;rintro e w1 ⟨rfl,hb1⟩;obtain ⟨hc1,hf1⟩ := bcell hb1;have hz1 := hb1.size;(try simp at hz1);have hy0 : w.heap.size < w1.heap.size := (by omega);have hy1 : w.heap.size + 1 < w1.heap.size := (by omega);have hy2 : w.heap.size + 1 + 1 < w1.heap.size := (by omega);have hy3 : w.heap.size + 1 + 1 + 1 < w1.heap.size := (by omega)))
 all_goals go_ret
 all_goals exact ⟨ret_bool (by simp [meetS, *]),bel⟩
end Go.Proofs.YtildgbhliaonnaaGreat
