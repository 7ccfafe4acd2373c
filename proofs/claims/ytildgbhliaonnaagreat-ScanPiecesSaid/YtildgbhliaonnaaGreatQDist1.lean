/-
  Contract of plane.Dist.
-/
import Derived.Test.YtildgbhliaonnaaGreatQWide
import Derived.Test.YtildgbhliaonnaaGreatQPlainSplit
set_option linter.unusedVariables false
set_option linter.unusedSimpArgs false
set_option maxHeartbeats 2000000
set_option maxRecDepth 20000
namespace Go.Proofs.YtildgbhliaonnaaGreat
open Go.RowKit Pg
def bdN (b : Bx) (p : Pt) : Nat := sqN (gapN p.x b.lo.x b.hi.x) (gapN p.y b.lo.y b.hi.y)
def pdV (b : Bx) (p : Pt) : Value := if okBx b && okPt p then dV (bdN b p) else dZ
theorem okPt_range {p : Pt} (h : okPt p = true) : -1073741823 ≤ p.x ∧ p.x ≤ 1073741823 ∧ -1073741823 ≤ p.y ∧ p.y ≤ 1073741823 := by
 simp [okPt,farB] at h
 omega
theorem pDist_any (a b c d x y : Int) (w : World) :
 Calls Tryz.prog 70 #[bxV a b c d,ptV x y] w (Ret w (pdV ⟨⟨a,b⟩,⟨c,d⟩⟩ ⟨x,y⟩)) := by
 cases h1 : okBx ⟨⟨a,b⟩,⟨c,d⟩⟩
 case false =>
  have HF : Hid (pdV ⟨⟨a,b⟩,⟨c,d⟩⟩ ⟨x,y⟩ = dZ) := by unfold Hid pdV;rw [h1];rfl
  have H1 := Lib.hid h1;clear h1
  go_enter Tryz.func70, Tryz.ntmps70
  go_wp2_with (go_at_call 107;refine (boxes1 a b c d _ _ ?_).mono ?_;exact block_last (by simp);rw [H1.out];rintro e w1 ⟨rfl,hb1⟩;obtain ⟨hc1,hf1⟩ := bcell hb1;have hz1 := hb1.size;(try simp at hz1);have hy0 : w.heap.size < w1.heap.size := (by omega);have hy1 : w.heap.size + 1 < w1.heap.size := (by omega);have hy2 : w.heap.size + 1 + 1 < w1.heap.size := (by omega))
  refine post_gen2 (R := fun w2 => Blk w2 (w.heap.size + 1 + 1) 58 #[.int .u64 0,.int .u64 0,.int .u64 0] ∧ Below w.heap.size w w2) ⟨?_,bel⟩ ?_
  · exact three_put (x := .int .u64 0) (y := .int .u64 0) (z := .int .u64 0) blkA
  rintro w2 ⟨HR,hb2⟩;have r0 := HR.cell 0;have r1 := HR.cell 1;have r2 := HR.cell 2;simp only [lta,lcz,lcs] at r0 r1 r2
  rw [HF.out]
  exact bodyPost_ret (v := dZ) (by simp [results,Tryz.results70,go_sem,r0,r1,r2]) rfl ⟨rfl,hb2⟩
 cases h2 : okPt ⟨x,y⟩
 case false =>
  have HF : Hid (pdV ⟨⟨a,b⟩,⟨c,d⟩⟩ ⟨x,y⟩ = dZ) := by unfold Hid pdV;rw [h1,h2];rfl
  have H1 := Lib.hid h1;have H2 := Lib.hid h2;clear h1 h2
  go_enter Tryz.func70, Tryz.ntmps70
  go_wp2_with (first | (go_at_call 107;refine (boxes1 a b c d _ _ ?_).mono ?_;exact block_last (by simp);rw [H1.out];rintro e w1 ⟨rfl,hb1⟩;obtain ⟨hc1,hf1⟩ := bcell hb1;have hz1 := hb1.size;(try simp at hz1);have hy0 : w.heap.size < w1.heap.size := (by omega);have hy1 : w.heap.size + 1 < w1.heap.size := (by omega);have hy2 : w.heap.size + 1 + 1 < w1.heap.size := (by omega)) | (go_at_call 40;refine (may1 x y _ _ ?_).mono ?_;exact block_last (by simp);rw [H2.out];rintro e w1 ⟨rfl,hb1⟩;obtain ⟨hc1,hf1⟩ := bcell hb1;have hz1 := hb1.size;(try simp at hz1);have hy0 : w.heap.size < w1.heap.size := (by omega);have hy1 : w.heap.size + 1 < w1.heap.size := (by omega);have hy2 : w.heap.size + 1 + 1 < w1.heap.size := (by omega)))
  refine post_gen2 (R := fun w2 => Blk w2 (w.heap.size + 1 + 1) 58 #[.int .u64 0,.int .u64 0,.int .u64 0] ∧ Below w.heap.size w w2) ⟨?_,bel⟩ ?_
  · exact three_put (x := .int .u64 0) (y := .int .u64 0) (z := .int .u64 0) blkA
  rintro w2 ⟨HR,hb2⟩;have r0 := HR.cell 0;have r1 := HR.cell 1;have r2 := HR.cell 2;simp only [lta,lcz,lcs] at r0 r1 r2
  rw [HF.out]
  exact bodyPost_ret (v := dZ) (by simp [results,Tryz.results70,go_sem,r0,r1,r2]) rfl ⟨rfl,hb2⟩
 have HF : Hid (pdV ⟨⟨a,b⟩,⟨c,d⟩⟩ ⟨x,y⟩ = dV (sqN (gapN x a c) (gapN y b d))) := by unfold Hid pdV;rw [h1,h2];rfl
 obtain ⟨p1,p2,p3,p4⟩ := okPt_range h2;obtain ⟨hlo,hhi⟩ := ((Pg.okBx_iff _).1 h1).1;obtain ⟨q1,q2,q3,q4⟩ := okPt_range hlo;obtain ⟨t1,t2,t3,t4⟩ := okPt_range hhi;have G1 := Lib.hid (fun w => gap_any x a c p1 p2 q1 q2 t1 t2 w)
 have G2 := Lib.hid (fun w => gap_any y b d p3 p4 q3 q4 t3 t4 w)
 obtain ⟨u1,u2⟩ := gapN_range x a c p1 p2 q1 q2 t1 t2;obtain ⟨u3,u4⟩ := gapN_range y b d p3 p4 q3 q4 t3 t4;obtain ⟨gx,hgx⟩ : ∃ g,gapN x a c = g := ⟨_,rfl⟩;obtain ⟨gy,hgy⟩ : ∃ g,gapN y b d = g := ⟨_,rfl⟩;rw [hgx] at HF G1 u1 u2;rw [hgy] at HF G2 u3 u4;have GS := Lib.hid (fun w => squares_any gx gy (by omega) (by omega) (by omega) (by omega) w)
 obtain ⟨n,hn⟩ : ∃ n,sqN gx gy = n := ⟨_,rfl⟩;rw [hn] at HF GS;have H1 := Lib.hid h1;have H2 := Lib.hid h2;clear h1 h2 p1 p2 p3 p4 hlo hhi q1 q2 q3 q4 t1 t2 t3 t4 u1 u2 u3 u4 hgx hgy hn
 go_enter Tryz.func70,Tryz.ntmps70
 go_wp2_with (first | (go_at_call 107;refine (boxes1 a b c d _ _ ?_).mono ?_;exact block_last (by simp);rw [H1.out];rintro e w1 ⟨rfl,hb1⟩;obtain ⟨hc1,hf1⟩ := bcell hb1;have hz1 := hb1.size;(try simp at hz1);have hy0 : w.heap.size < w1.heap.size := (by omega);have hy1 : w.heap.size + 1 < w1.heap.size := (by omega);have hy2 : w.heap.size + 1 + 1 < w1.heap.size := (by omega);have hO1 : Blk w1 w.heap.size 46 #[.int .i64 a,.int .i64 b,.int .i64 c,.int .i64 d] := (Blk.tr (((((Blk.new rfl rfl : Blk (w.alloc (.cells #[.int .i64 a,.int .i64 b,.int .i64 c,.int .i64 d] 46)) w.heap.size 46 #[.int .i64 a,.int .i64 b,.int .i64 c,.int .i64 d]).alloc _).alloc _).alloc _)) hb1)) | (go_at_call 40;refine (may1 x y _ _ ?_).mono ?_;exact block_last (by simp);rw [H2.out];rintro e w1 ⟨rfl,hb1⟩;obtain ⟨hc1,hf1⟩ := bcell hb1;have hz1 := hb1.size;(try simp at hz1);have hy0 : w.heap.size < w1.heap.size := (by omega);have hy1 : w.heap.size + 1 < w1.heap.size := (by omega);have hy2 : w.heap.size + 1 + 1 < w1.heap.size := (by omega)))
 refine wp_gen2 (fun w2 => Below w.heap.size w w2 ∧ Blk w2 w.heap.size 46 #[.int .i64 a,.int .i64 b,.int .i64 c,.int .i64 d] ∧ Blk w2 (w.heap.size + 1) 24 #[.int .i64 x,.int .i64 y] ∧ Blk w2 (w.heap.size + 1 + 1) 58 #[.int .u64 0,.int .u64 0,.int .u64 0]) ⟨bel,blkA,blkA,blkA⟩ ?_
 clear hb1 hc1 hf1 hz1 hy0 hy1 hy2;rintro w2 ⟨hb,hO,hP,hZ⟩;have cO := hO.cell;have cP := hP.cell;have cZ := hZ.cell;have fZ := hZ.frozen;have lO := hO.lt;have lP := hP.lt;have lZ := hZ.lt;refine wp_region_belowB (w.heap.size + 1 + 1) [0,1,2,3,4,5,6,7,9,10,11,12,13,14,15,16,8,17,18,19] (by kernel_rfl) (by kernel_rfl) (fun _ _ d _ _ h => by cases d <;> exact h) ?_
 simp only [List.map_cons,List.map_nil,ldz,lds,bare,gslot,lcz,lcs,Option.bind_some]
 repeat' ((try simp only [Act.put,lsi,lsz,lss]);first | (refine lexL_quiet (v := ?_) wantB_none rfl ?_ ?_;rotate_left;focus (intro wq hq;obtain ⟨hcq,hfq⟩ := bcellB hq;go_simp;try with_reducible rfl)) | (refine lexL_loud wantB_none rfl (fun K hK => ?_);go_simp;((first | (go_at_call 109;(with_reducible refine (G1.out _).mono ?_);rintro e w1 ⟨rfl,hb1⟩;obtain ⟨hc1,hf1⟩ := bcell hb1;have hz1 := hb1.size;(try simp at hz1);have hbB : Below (w.heap.size + 1 + 1) w2 w1 := (Below.trans (by repeat (first | with_reducible exact Below.refl _ _ | with_reducible assumption | with_reducible refine Below.drew ?_)) (hb1.mono (by (try simp);omega)));have hy2 : w.heap.size + 1 + 1 < w1.heap.size := (by omega);have hZ1 : Blk w1 (w.heap.size + 1 + 1) 58 #[.int .u64 0,.int .u64 0,.int .u64 0] := blkA;have hbz : Below w.heap.size w w1 := (Below.trans hb (hbB.mono (by omega)));have z1 := hZ1.cell;have fz1 := hZ1.frozen) | (go_at_call 109;(with_reducible refine (G2.out _).mono ?_);rintro e w1 ⟨rfl,hb1⟩;obtain ⟨hc1,hf1⟩ := bcell hb1;have hz1 := hb1.size;(try simp at hz1);have hbB : Below (w.heap.size + 1 + 1) w2 w1 := (Below.trans (by repeat (first | with_reducible exact Below.refl _ _ | with_reducible assumption | with_reducible refine Below.drew ?_)) (hb1.mono (by (try simp);omega)));have hy2 : w.heap.size + 1 + 1 < w1.heap.size := (by omega);have hZ1 : Blk w1 (w.heap.size + 1 + 1) 58 #[.int .u64 0,.int .u64 0,.int .u64 0] := blkA;have hbz : Below w.heap.size w w1 := (Below.trans hb (hbB.mono (by omega)));have z1 := hZ1.cell;have fz1 := hZ1.frozen) | (go_at_call 108;refine (GS.out _).mono ?_;rintro e w1 ⟨rfl,hb1⟩;obtain ⟨hc1,hf1⟩ := bcell hb1;have hz1 := hb1.size;(try simp at hz1);have hbB : Below (w.heap.size + 1 + 1) w2 w1 := (Below.trans (by repeat (first | with_reducible exact Below.refl _ _ | with_reducible assumption | with_reducible refine Below.drew ?_)) (hb1.mono (by (try simp);omega)));have hy2 : w.heap.size + 1 + 1 < w1.heap.size := (by omega);have hZ1 : Blk w1 (w.heap.size + 1 + 1) 58 #[.int .u64 0,.int .u64 0,.int .u64 0] := blkA;have hbz : Below w.heap.size w w1 := (Below.trans hb (hbB.mono (by omega)));have z1 := hZ1.cell;have fz1 := hZ1.frozen) | skip) <;> (refine hK.out _ _ (by first | with_reducible exact swapB1 | with_reducible exact Below.drew swapB1 | exact bel) ?_;clear hK K))))
 (all_goals try simp only [Act.put,lsi,lsz,lss]);all_goals (refine lexL_nil ?_)
 go_wp2;refine post_gen2 (R := fun w2 => Blk w2 (w.heap.size + 1 + 1) 58 #[.int .u64 ((n / 18446744073709551616 : Nat) : Int),.int .u64 ((n % 18446744073709551616 : Nat) : Int),.int .u64 1] ∧ Below w.heap.size w w2) ⟨?_,bel⟩ ?_
 · exact three_put (x := .int .u64 0) (y := .int .u64 0) (z := .int .u64 0) blkA
 rintro w2 ⟨HR,hb2⟩;have r0 := HR.cell 0;have r1 := HR.cell 1;have r2 := HR.cell 2;simp only [lta,lcz,lcs] at r0 r1 r2
 rw [HF.out]
 exact bodyPost_ret (v := dV n) (by simp [results,Tryz.results70,go_sem,r0,r1,r2]) rfl ⟨rfl,hb2⟩
end Go.Proofs.YtildgbhliaonnaaGreat
