/-
  Contracts of the references of chapters 5 and 6: RingBox, Bounds.
  Contract of rel.Bounds at an object that may not be.
  Contracts of the references of chapters 5 and 6: RingBox, Bounds.
  Contracts of the references of chapter 6: Touch, Rings.
-/
import Derived.Test.YtcbjmcnebmhgpaaGreatKRef6
import Derived.Test.YtcbjmcnebmhgpaaGreatKRef3
import Derived.Test.YtcbjmcnebmhgpaaGreatKRing
import Derived.Test.YtcbjmcnebmhgpaaGreatKRel1
import Derived.Test.YtcbjmcnebmhgpaaGreatKLex
import Derived.StillTailTactics
import Derived.Outline
import Derived.Test.YtcbjmcnebmhgpaaGreatKRel8
import Derived.Test.YtcbjmcnebmhgpaaGreatKWide
import Derived.Test.YtcbjmcnebmhgpaaGreatKPlainSplit
import Derived.Test.YtcbjmcnebmhgpaaGreatKPlane
set_option linter.unusedVariables false
set_option linter.unusedSimpArgs false
set_option maxHeartbeats 2000000
set_option maxRecDepth 20000
namespace Go.Proofs.YtcbjmcnebmhgpaaGreat
open Go.RowKit Pg
theorem rcheckRing_ok (B n c : Nat) (A : Option Addr) (l : List Pt) (w : World) (hl : PtsAt w B A n l) (hB : B ≤ w.heap.size) (hn : n ≤ 1000000) (hm : ckRing l = 0) :
 Calls Tryz.prog 88 #[.slice A n c] w (Ret2 w 0) := by
 have h := rcheckRing_any B n c A l w hl hB hn;rw [← ckRing_eq,hm] at h;exact h
theorem four_at {w : World} {x y z u : Value} {t : TypeId} : ∀ (j : Nat) (v : Value),[x,y,z,u][j]? = some v → (w.alloc (.cells #[x,y,z,u] t)).drew.cell? ((⟨w.heap.size,0,none⟩ : Addr).add j) = some v := by
 intro j v hj
 match j,hj with
 | 0,hj => simp at hj;subst hj;simp [Addr.add]
 | 1,hj => simp at hj;subst hj;simp [Addr.add]
 | 2,hj => simp at hj;subst hj;simp [Addr.add]
 | 3,hj => simp at hj;subst hj;simp [Addr.add]
theorem four_one {x y z u : Int} : ∀ v ∈ [Value.int .i64 x,.int .i64 y,.int .i64 z,.int .i64 u],v.oneCell' = true := by
 intro v hv;simp only [List.mem_cons,List.not_mem_nil,or_false] at hv
 rcases hv with rfl | rfl | rfl | rfl <;> rfl
theorem post_gen {P : Program} {f : Func} {Q : Ending → World → Prop} {x : Exit} {a : Act} {w : World} (R : World → Prop) (h : R w) (k : ∀ w2,R w2 → bodyPost P f Q x a w2) : bodyPost P f Q x a w := k w h
theorem rRingBox_ok (B n c : Nat) (A : Option Addr) (l : List Pt) (w : World) (hl : PtsAt w B A n l) (hB : B ≤ w.heap.size) (hck : ckRing l = 0) :
 Calls Tryz.prog 81 #[.slice A n c] w (Ret w (.tuple #[bxV (ringBx l).lo.x (ringBx l).lo.y (ringBx l).hi.x (ringBx l).hi.y,.int .i64 0,.int .i64 0])) := by
 have hn : n ≤ 64 := by have := ck_len hck;rw [hl.1] at this;omega
 have HC := Lib.hid hck;clear hck;obtain ⟨i0,hi,iz0,iz1,iz2⟩ := info_parts Tryz.infoBox
 go_enter Tryz.func81,Tryz.ntmps81
 go_wp2_with (go_at_call 88;refine (rcheckRing_ok B n c A l _ (hl.tr bel hB) (Nat.le_trans hB (Below.size (B := w.heap.size) (w := w) bel)) (by omega) HC.out).mono ?_;rintro e w1 ⟨id1,rfl,hb1⟩;obtain ⟨hc1,hf1⟩ := bcell hb1;have hz1 := hb1.size;(try simp at hz1);have hy0 : w.heap.size < w1.heap.size := (by omega))
 have hP0 : Blk w1 w.heap.size 73 #[.int .i64 0,.int .i64 0,.int .i64 0,.int .i64 0] := blkA;have hb0 : Below w.heap.size w w1 := bel
 go_loopw [7,8] (fun s i wr => ∃ k : Nat,k ≤ n ∧ i = .int .i64 k ∧ wr.ownsRow (w.heap.size + 1) 73 4 s k (bcells ((l.take k).map pbox)) ∧ Blk wr w.heap.size 73 #[.int .i64 0,.int .i64 0,.int .i64 0,.int .i64 0] ∧ Below w.heap.size w wr) (fun _ i _ => n - (intOf i).toNat)
 case atStart => exact ⟨0,Nat.zero_le _,rfl,World.ownsRow_nil _ _ _ _,hP0,hb0⟩
 case round =>
  obtain ⟨k,hk,rfl,hown,hP,hb⟩ := hrel
  by_cases hlt : k < n
  · obtain ⟨b, off, rfl, hab, c0, c1⟩ := (hl.below (hb.mono hB)).at_ hlt
    have hPl := hP.lt;have hbs := hb.size;have hbw : b < wr.heap.size := by omega
    have hk0 : (k : Int) < (n : Int) := by omega
    clear hb0 hP0;have hkl : k < l.length := by rw [hl.1];exact hlt
    go_wp2_with fail;have hbw9 : b < w.heap.size + 1 := by omega
    have hb5 : Below (w.heap.size + 1) wr (wr.alloc (.cells #[.int .i64 (pt l k).x,.int .i64 (pt l k).y,.int .i64 (pt l k).x,.int .i64 (pt l k).y] 73)) := Below.mono (B := wr.heap.size) bel (by omega)
    go_wp2_with fail;refine wp_region_belowB (w.heap.size + 1) [0,1,2,3,4,5,6,7,8,9,10,11,12] (by kernel_rfl) (by kernel_rfl) (fun _ _ d _ _ h => by cases d <;> exact h) ?_
    simp only [List.map_cons, List.map_nil, ldz, lds, bare, gslot, lcz, lcs, Option.bind_some]
    repeat' ((try simp only [Act.put,lsi,lsz,lss]);first | (refine lexL_quiet (v := ?_) wantB_none rfl ?_ ?_;rotate_left;focus (intro wq hq;obtain ⟨hcq,hfq⟩ := bcellB hq;go_simp;try with_reducible rfl)) | (refine lexL_loud wantB_none rfl (fun K hK => ?_);(refine wp_append_own _ _ _ 71 rfl (w.heap.size + 1) 73 i0 (.agg #[.int .i64 0,.int .i64 0,.int .i64 0,.int .i64 0]) 4 32 Tryz.underlying71 hi iz0 iz1 iz2 rfl (by decide) _ _ _ rfl (owns_drew (hown.alloc _)) ⟨wr.heap.size,0,none⟩ 1 1 [.int .i64 (pt l k).x,.int .i64 (pt l k).y,.int .i64 (pt l k).x,.int .i64 (pt l k).y] rfl rfl ?_ ?_ ?_ ?_ ?_ ?_);(focus (exact four_at));(focus (exact four_one));(focus (unfold maxLen;omega));(focus omega);(focus (simp;omega));intro v' w2 hown' hgrow _;have hlt' := hown.lt;have hb2 : Below w.heap.size w w2 := (Below.grown (w := (wr.alloc _).drew) bel hgrow (by simp;omega) (fun j e => by have := (hlt' j e).1;omega));have hb3 : Below (w.heap.size + 1) ((wr.alloc (.cells #[.int .i64 (pt l k).x,.int .i64 (pt l k).y,.int .i64 (pt l k).x,.int .i64 (pt l k).y] 73)).drew) w2 := (Below.grown (w := (wr.alloc (.cells #[.int .i64 (pt l k).x,.int .i64 (pt l k).y,.int .i64 (pt l k).x,.int .i64 (pt l k).y] 73)).drew) (Below.refl _ _) hgrow (by simp;omega) (fun j e => (hlt' j e).1));have hb4 : Below (w.heap.size + 1) wr w2 := (Below.trans bel hb3);refine hK.out _ _ (by first | with_reducible exact swapB1 | with_reducible exact Below.drew swapB1 | exact bel) ?_;clear hK K) | (refine lexL_loud wantB_none rfl (fun K hK => ?_);go_simp;((first | fail  | skip) <;> (refine hK.out _ _ (by first | with_reducible exact swapB1 | with_reducible exact Below.drew swapB1 | exact bel) ?_;clear hK K))))
    (all_goals try simp only [Act.put,lsi,lsz,lss]);all_goals (refine lexL_nil ?_)
    have hP2 : Blk w2 w.heap.size 73 #[.int .i64 0,.int .i64 0,.int .i64 0,.int .i64 0] := (hP.alloc _).drew.below hb3 (by omega)
    have hown2 : w2.ownsRow (w.heap.size + 1) 73 4 v' (k + 1) (bcells ((l.take (k + 1)).map pbox)) := by
     have : bcells ((l.take (k + 1)).map pbox) = bcells ((l.take k).map pbox) ++ [.int .i64 (pt l k).x,.int .i64 (pt l k).y,.int .i64 (pt l k).x,.int .i64 (pt l k).y] := by
      rw [List.take_add_one, pt_of hkl]
      simp only [Option.toList_some, List.map_append, List.map_cons, List.map_nil, bcells_snoc]
      rfl
     rw [this]
     exact hown'
    clear hown' hgrow hown hP hlt' hb3 c0 c1;go_wp2
    go_roundw
    case rel => exact ⟨k + 1, by omega, by go_num, hown2, hP2, hb2⟩
    case measure => simp [intOf];omega
  · have hkn : k = n := by omega
    subst hkn;obtain ⟨A2,c2,rfl,hbx⟩ := bxs_of_own (l := (l.take k).map pbox) hown (by simp [hl.1])
    rw [List.take_of_length_le (by rw [hl.1];exact Nat.le_refl _)] at hbx
    have hPc := hP.cell;have hPf := hP.frozen;have hPl := hP.lt
    have HW : Calls Tryz.prog 100 #[.slice A2 k c2] wr (Ret wr (.tuple #[bxV (ringBx l).lo.x (ringBx l).lo.y (ringBx l).hi.x (ringBx l).hi.y,.int .i64 0])) := by
     have := runion_any wr.heap.size k c2 A2 (l.map pbox) wr hbx (Nat.le_refl _) (by omega)
     rw [show l.map pbox = l.map (fun p => ⟨p,p⟩) from rfl,ringBx_ok HC.out] at this
     exact this
    clear hb0 hP0 hb1 hc1 hf1 hy0
    go_wp2_with (go_at_call 100;refine HW.mono ?_;rintro e w1 ⟨rfl,hb1⟩;obtain ⟨hc1,hf1⟩ := bcell hb1;have hz1 := hb1.size;(try simp at hz1);have hy0 : w.heap.size < w1.heap.size := (by omega))
    refine post_gen (R := fun w2 => Blk w2 w.heap.size 73 #[.int .i64 (ringBx l).lo.x,.int .i64 (ringBx l).lo.y,.int .i64 (ringBx l).hi.x,.int .i64 (ringBx l).hi.y] ∧ Below w.heap.size w w2) ⟨(((((((hP.tr hb1)).set_ 0 (.int .i64 (ringBx l).lo.x)).set_ 1 (.int .i64 (ringBx l).lo.y)).set_ 2 (.int .i64 (ringBx l).hi.x)).set_ 3 (.int .i64 (ringBx l).hi.y)).alloc _).eq_ (by simp),bel⟩ ?_
    rintro w2 ⟨HR,hb2⟩;have r0 := HR.cell 0;have r1 := HR.cell 1;have r2 := HR.cell 2;have r3 := HR.cell 3
    simp at r0 r1 r2 r3
    exact bodyPost_ret (v := .tuple #[bxV (ringBx l).lo.x (ringBx l).lo.y (ringBx l).hi.x (ringBx l).hi.y,.int .i64 0,.int .i64 0]) (by simp [results,Tryz.results81,go_sem,r0,r1,r2,r3]) rfl ⟨rfl,hb2⟩
theorem box_put {W : World} {g : Nat} {t : TypeId} {x y z u a b c d : Value} (h : Blk W g t #[x,y,z,u]) :
 Blk ((((W.setCell ⟨g,0,none⟩ a).setCell ⟨g,1,none⟩ b).setCell ⟨g,2,none⟩ c).setCell ⟨g,3,none⟩ d) g t #[a,b,c,d] :=
 ((((h.set_ 0 a).set_ 1 b).set_ 2 c).set_ 3 d).eq_ (by simp)
theorem bounds_k {k : Int} {l : List Pt} (ho : ckOb ⟨k,l⟩ = 0) : k = 1 ∨ k = 2 ∨ k = 3 ∨ k = 4 := by
 by_cases k1 : k = 1
 · exact .inl k1
 by_cases k2 : k = 2
 · exact .inr (.inl k2)
 by_cases k3 : k = 3
 · exact .inr (.inr (.inl k3))
 by_cases k4 : k = 4
 · exact .inr (.inr (.inr k4))
 · simp [ckOb,k1,k2,k3,k4] at ho
theorem rBounds_bad (B n c : Nat) (k : Int) (A : Option Addr) (l : List Pt) (w : World) (hl : PtsAt w B A n l) (hB : B ≤ w.heap.size) (hn : n ≤ 1000000) (ho : ckOb ⟨k,l⟩ ≠ 0) :
 Calls Tryz.prog 54 #[obV k A n c] w (Ret w (.tuple #[bxW bzero,.int .i64 (ckOb ⟨k,l⟩)])) := by
 obtain ⟨m,hm⟩ : ∃ m : Nat,ckOb ⟨k,l⟩ = m := ⟨_,rfl⟩
 rw [hm] at ho ⊢
 have hm0 : ((m : Int) != 0) = true := by rw [bne_iff_ne];omega
 have HF : Hid (ckObR ⟨k,l⟩ = m) := by unfold Hid;rw [← ckOb_eq];exact hm
 clear hm ho
 go_enter Tryz.func54,Tryz.ntmps54
 go_wp2_with (go_at_call 67;refine (rcheck_any B n c k A l _ (hl.tr bel hB) (Nat.le_trans hB (Below.size (B := w.heap.size) (w := w) bel)) hn).mono ?_;rw [HF.out];rintro e w1 ⟨rfl,hb1⟩;obtain ⟨hc1,hf1⟩ := bcell hb1;have hz1 := hb1.size;(try simp at hz1);have hy0 : w.heap.size < w1.heap.size := (by omega);have hy1 : w.heap.size + 1 < w1.heap.size := (by omega))
 refine post_gen (R := fun w2 => Blk w2 (w.heap.size + 1) 73 #[.int .i64 0,.int .i64 0,.int .i64 0,.int .i64 0] ∧ Below w.heap.size w w2) ⟨box_put (x := .int .i64 0) (y := .int .i64 0) (z := .int .i64 0) (u := .int .i64 0) blkA,bel⟩ ?_
 rintro w2 ⟨HR,hb2⟩;have r0 := HR.cell 0;have r1 := HR.cell 1;have r2 := HR.cell 2;have r3 := HR.cell 3
 simp at r0 r1 r2 r3
 exact bodyPost_ret (v := .tuple #[bxW bzero,.int .i64 m]) (by simp [results,Tryz.results54,go_sem,r0,r1,r2,r3,bzero]) rfl ⟨rfl,hb2⟩
theorem rBounds_ok (B n c : Nat) (k : Int) (A : Option Addr) (l : List Pt) (w : World) (hl : PtsAt w B A n l) (hB : B ≤ w.heap.size) (hn : n ≤ 1000000) (ho : ckOb ⟨k,l⟩ = 0) :
 Calls Tryz.prog 54 #[obV k A n c] w (Ret w (.tuple #[bxW (boundsS ⟨k,l⟩),.int .i64 0])) := by
 have HF : Hid (ckObR ⟨k,l⟩ = 0) := by unfold Hid;rw [← ckOb_eq];exact ho
 have hlens := ck_lens ho;rw [hl.1] at hlens;obtain ⟨p1,p2,p3,p4⟩ := hlens
 have hn1 : 0 < n := by
  rcases bounds_k ho with h | h | h | h
  · exact p1 (.inl h)
  · exact p1 (.inr h)
  · exact Nat.lt_of_lt_of_le (by decide) (p2 h)
  · have := ck_len (p4 (by rw [h];rfl))
    rw [hl.1] at this
    omega
 obtain ⟨b,off,rfl,hab,c0,c1⟩ := hl.at_ (k := 0) hn1;simp only [Nat.zero_mul,Nat.add_zero] at c0 c1;have hbw : b < w.heap.size := by omega
 have hbw1 : b < w.heap.size + 1 := by omega
 have hbw2 : b < w.heap.size + 1 + 1 := by omega
 rcases bounds_k ho with h | h | h | h
 · subst h
   have HS : Hid (boundsS ⟨1,l⟩ = ⟨pt l 0,pt l 0⟩) := rfl;clear ho p1 p2 p3 p4
   go_enter Tryz.func54, Tryz.ntmps54
   go_wp2_with (go_at_call 67;refine (rcheck_any B n c 1 _ l _ (hl.tr bel hB) (Nat.le_trans hB (Below.size (B := w.heap.size) (w := w) bel)) hn).mono ?_;rw [HF.out];rintro e w1 ⟨rfl,hb1⟩;obtain ⟨hc1,hf1⟩ := bcell hb1;have hz1 := hb1.size;(try simp at hz1);have hy0 : w.heap.size < w1.heap.size := (by omega);have hy1 : w.heap.size + 1 < w1.heap.size := (by omega);have hbx : b < w1.heap.size := (by omega))
   refine post_gen (R := fun w2 => Blk w2 (w.heap.size + 1) 73 #[.int .i64 (pt l 0).x,.int .i64 (pt l 0).y,.int .i64 (pt l 0).x,.int .i64 (pt l 0).y] ∧ Below w.heap.size w w2) ⟨(box_put (x := .int .i64 0) (y := .int .i64 0) (z := .int .i64 0) (u := .int .i64 0) blkA).alloc _,bel⟩ ?_
   rintro w2 ⟨HR,hb2⟩;have r0 := HR.cell 0;have r1 := HR.cell 1;have r2 := HR.cell 2;have r3 := HR.cell 3
   simp at r0 r1 r2 r3
   rw [HS.out]
   exact bodyPost_ret (v := .tuple #[.agg #[.int .i64 (pt l 0).x,.int .i64 (pt l 0).y,.int .i64 (pt l 0).x,.int .i64 (pt l 0).y],.int .i64 0]) (by simp [results,Tryz.results54,go_sem,r0,r1,r2,r3]) rfl ⟨rfl,hb2⟩
 · subst h
   have HS : Hid (boundsS ⟨2,l⟩ = ⟨⟨(pt l 0).x,0⟩,⟨(pt l 0).y,0⟩⟩) := rfl;clear ho p1 p2 p3 p4
   go_enter Tryz.func54, Tryz.ntmps54
   go_wp2_with (go_at_call 67;refine (rcheck_any B n c 2 _ l _ (hl.tr bel hB) (Nat.le_trans hB (Below.size (B := w.heap.size) (w := w) bel)) hn).mono ?_;rw [HF.out];rintro e w1 ⟨rfl,hb1⟩;obtain ⟨hc1,hf1⟩ := bcell hb1;have hz1 := hb1.size;(try simp at hz1);have hy0 : w.heap.size < w1.heap.size := (by omega);have hy1 : w.heap.size + 1 < w1.heap.size := (by omega);have hbx : b < w1.heap.size := (by omega))
   refine post_gen (R := fun w2 => Blk w2 (w.heap.size + 1) 73 #[.int .i64 (pt l 0).x,.int .i64 0,.int .i64 (pt l 0).y,.int .i64 0] ∧ Below w.heap.size w w2) ⟨(box_put (x := .int .i64 0) (y := .int .i64 0) (z := .int .i64 0) (u := .int .i64 0) blkA).alloc _,bel⟩ ?_
   rintro w2 ⟨HR,hb2⟩;have r0 := HR.cell 0;have r1 := HR.cell 1;have r2 := HR.cell 2;have r3 := HR.cell 3
   simp at r0 r1 r2 r3
   rw [HS.out]
   exact bodyPost_ret (v := .tuple #[.agg #[.int .i64 (pt l 0).x,.int .i64 0,.int .i64 (pt l 0).y,.int .i64 0],.int .i64 0]) (by simp [results,Tryz.results54,go_sem,r0,r1,r2,r3]) rfl ⟨rfl,hb2⟩
 · subst h
   have HS : Hid (boundsS ⟨3,l⟩ = ⟨pt l 0,pt l 1⟩) := rfl;have hn2 : 1 < n := p2 rfl;have hn3 : (1 : Int) < n := by omega
   obtain ⟨b',off',he,hab',c2,c3⟩ := hl.at_ (k := 1) hn2;injection he with he
   injection he with he1 he2
   subst he1 he2;simp only [Nat.one_mul] at c2 c3;clear ho p1 p2 p3 p4
   go_enter Tryz.func54, Tryz.ntmps54
   go_wp2_with (go_at_call 67;refine (rcheck_any B n c 3 _ l _ (hl.tr bel hB) (Nat.le_trans hB (Below.size (B := w.heap.size) (w := w) bel)) hn).mono ?_;rw [HF.out];rintro e w1 ⟨rfl,hb1⟩;obtain ⟨hc1,hf1⟩ := bcell hb1;have hz1 := hb1.size;(try simp at hz1);have hy0 : w.heap.size < w1.heap.size := (by omega);have hy1 : w.heap.size + 1 < w1.heap.size := (by omega);have hbx : b < w1.heap.size := (by omega))
   have hbl : off + 1 * 2 = off + 2 := by omega
   refine wp_gen (fun w2 => Below w.heap.size w w2 ∧ Blk w2 w.heap.size 50 #[.int .i64 3,.slice (some ⟨b,off,none⟩) n c] ∧ Blk w2 (w.heap.size + 1) 73 #[.int .i64 0,.int .i64 0,.int .i64 0,.int .i64 0] ∧ Blk w2 w1.heap.size 47 #[.int .i64 (pt l 0).x,.int .i64 (pt l 0).y]) ⟨bel,blkA,blkA,blkA⟩ ?_
   clear hb1 hc1 hf1;rintro w2 ⟨hb,hO,hZ,hP⟩;have o1 := hO.cell 1;have q0 := hP.cell 0;have q1 := hP.cell 1;have z0 := hZ.cell 0;have z1 := hZ.cell 1;have z2 := hZ.cell 2;have z3 := hZ.cell 3;have fZ := hZ.frozen;have lZ := hZ.lt;have lO := hO.lt;have lP := hP.lt
   simp at o1 q0 q1 z0 z1 z2 z3
   obtain ⟨_,_,ho,_,c2,c3⟩ := (hl.below (hb.mono hB)).at_ hn2;injection ho with ho
   injection ho with ho1 ho2
   subst ho1 ho2;simp only [Nat.one_mul] at c2 c3;have hbr : b < w2.heap.size := by have := hb.size;omega
   go_still_tail 6, (by kernel_rfl)
   change wpList _ _ _ _ _ w2.drew
   go_wp2;refine post_gen (R := fun w2 => Blk w2 (w.heap.size + 1) 73 #[.int .i64 (pt l 0).x,.int .i64 (pt l 0).y,.int .i64 (pt l 1).x,.int .i64 (pt l 1).y] ∧ Below w.heap.size w w2) ⟨box_put hZ.drew,bel⟩ ?_
   rintro w2 ⟨HR,hb2⟩;have r0 := HR.cell 0;have r1 := HR.cell 1;have r2 := HR.cell 2;have r3 := HR.cell 3
   simp at r0 r1 r2 r3
   rw [HS.out]
   exact bodyPost_ret (v := .tuple #[.agg #[.int .i64 (pt l 0).x,.int .i64 (pt l 0).y,.int .i64 (pt l 1).x,.int .i64 (pt l 1).y],.int .i64 0]) (by simp [results,Tryz.results54,go_sem,r0,r1,r2,r3]) rfl ⟨rfl,hb2⟩
 · subst h
   have HS : Hid (boundsS ⟨4,l⟩ = ringBx l) := rfl;have hck := Lib.hid (p4 rfl);clear ho p1 p2 p3 p4
   go_enter Tryz.func54, Tryz.ntmps54
   go_wp2_with (first | (go_at_call 67;refine (rcheck_any B n c 4 _ l _ (hl.tr bel hB) (Nat.le_trans hB (Below.size (B := w.heap.size) (w := w) bel)) hn).mono ?_;rw [HF.out];rintro e w1 ⟨rfl,hb1⟩;obtain ⟨hc1,hf1⟩ := bcell hb1;have hz1 := hb1.size;(try simp at hz1);have hy0 : w.heap.size < w1.heap.size := (by omega);have hy1 : w.heap.size + 1 < w1.heap.size := (by omega);have hbx : b < w1.heap.size := (by omega)) | (go_at_call 81;refine (rRingBox_ok B n c _ l _ (hl.tr bel hB) (Nat.le_trans hB (Below.size (B := w.heap.size) (w := w) bel)) hck.out).mono ?_;rintro e wa ⟨rfl,hba⟩;obtain ⟨hca,hfa⟩ := bcell hba;have hza := hba.size;(try simp at hza);have hya0 : w.heap.size < wa.heap.size := (by omega);have hya1 : w.heap.size + 1 < wa.heap.size := (by omega)))
   refine post_gen (R := fun w2 => Blk w2 (w.heap.size + 1) 73 #[.int .i64 (ringBx l).lo.x,.int .i64 (ringBx l).lo.y,.int .i64 (ringBx l).hi.x,.int .i64 (ringBx l).hi.y] ∧ Below w.heap.size w w2) ⟨(box_put (x := .int .i64 0) (y := .int .i64 0) (z := .int .i64 0) (u := .int .i64 0) blkA).alloc _,bel⟩ ?_
   rintro w2 ⟨HR,hb2⟩;have r0 := HR.cell 0;have r1 := HR.cell 1;have r2 := HR.cell 2;have r3 := HR.cell 3
   simp at r0 r1 r2 r3
   rw [HS.out]
   exact bodyPost_ret (v := .tuple #[.agg #[.int .i64 (ringBx l).lo.x,.int .i64 (ringBx l).lo.y,.int .i64 (ringBx l).hi.x,.int .i64 (ringBx l).hi.y],.int .i64 0]) (by simp [results,Tryz.results54,go_sem,r0,r1,r2,r3]) rfl ⟨rfl,hb2⟩
theorem isBox_of {k : Int} {l : List Pt} (ho : ckOb ⟨k,l⟩ = 0) (hk : ¬ k = 4) : isBox ⟨k,l⟩ = true := by
 rcases bounds_k ho with h | h | h | h
 · subst h;rfl
 · subst h;rfl
 · subst h;rfl
 · exact absurd h hk
theorem bounds_of {k : Int} {l : List Pt} (ho : ckOb ⟨k,l⟩ = 0) (hk : ¬ k = 4) : boundsS ⟨k,l⟩ = obBox ⟨k,l⟩ := by
 unfold boundsS
 rw [isBox_of ho hk]
 rfl
theorem ring_of4 {l : List Pt} (ho : ckOb ⟨4,l⟩ = 0) : ckRing l = 0 := (ck_lens ho).2.2.2 rfl
theorem touch_no1 {a b : Ob} (h : ckOb a ≠ 0) : touchS a b = false := by unfold touchS;rw [decide_eq_false h];rfl
theorem touch_no2 {a b : Ob} (h : ckOb b ≠ 0) : touchS a b = false := by unfold touchS;rw [decide_eq_false h,Bool.and_false];rfl
theorem touch_yes {a b : Ob} (h : ckOb a = 0) (h' : ckOb b = 0) : touchS a b = meetsO a b := by unfold touchS;rw [decide_eq_true h,decide_eq_true h'];rfl
theorem touch_44 {l l' : List Pt} (ho : ckOb ⟨4,l⟩ = 0) (hq : ckOb ⟨4,l'⟩ = 0) : touchS ⟨4,l⟩ ⟨4,l'⟩ = ringsR l l' := by
 rw [touch_yes ho hq,← ringsS_eq (ring_of4 ho) (ring_of4 hq)]
 rfl
theorem touch_4b {k : Int} {l l' : List Pt} (ho : ckOb ⟨4,l⟩ = 0) (hq : ckOb ⟨k,l'⟩ = 0) (hk : ¬ k = 4) : touchS ⟨4,l⟩ ⟨k,l'⟩ = ringBoxR l (boundsS ⟨k,l'⟩) := by
 rw [touch_yes ho hq,← cutS_eq (ring_of4 ho) (bounds_okBx hq),bounds_of hq hk]
 unfold meetsO
 rw [isBox_of hq hk]
 rfl
theorem touch_b4 {k : Int} {l l' : List Pt} (ho : ckOb ⟨k,l⟩ = 0) (hq : ckOb ⟨4,l'⟩ = 0) (hk : ¬ k = 4) : touchS ⟨k,l⟩ ⟨4,l'⟩ = ringBoxR l' (boundsS ⟨k,l⟩) := by
 rw [touch_yes ho hq,← cutS_eq (ring_of4 hq) (bounds_okBx ho),bounds_of ho hk]
 unfold meetsO
 rw [isBox_of ho hk]
 rfl
theorem touch_bb {k k' : Int} {l l' : List Pt} (ho : ckOb ⟨k,l⟩ = 0) (hq : ckOb ⟨k',l'⟩ = 0) (hk : ¬ k = 4) (hk' : ¬ k' = 4) : touchS ⟨k,l⟩ ⟨k',l'⟩ = bmeets (boundsS ⟨k,l⟩) (boundsS ⟨k',l'⟩) := by
 rw [touch_yes ho hq,bounds_of ho hk,bounds_of hq hk']
 unfold meetsO
 rw [isBox_of ho hk,isBox_of hq hk']
 rfl
end Go.Proofs.YtcbjmcnebmhgpaaGreat
