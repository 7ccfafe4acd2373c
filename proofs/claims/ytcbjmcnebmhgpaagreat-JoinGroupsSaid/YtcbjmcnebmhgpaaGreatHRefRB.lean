/-
  Contracts of the references of chapters 5 and 6: RingBox, Bounds.
  Contract of rel.Bounds at an object that may not be.
  Contracts of the references of chapters 4 to 6: edge, has, corners, MeetsBox, ringBox, rings.
  Contracts of the references of chapters 4 to 6: corners, MeetsBox, ringBox, rings.
  Contracts of the references of chapter 6: ringBox, rings, Rings.
  Contracts of the references of chapters 5 and 6: RingBox, Bounds.
  Contracts of the references of chapter 6: Touch, Rings.
-/
import Derived.Test.YtcbjmcnebmhgpaaGreatHRef6
import Derived.Test.YtcbjmcnebmhgpaaGreatHRef3
import Derived.Test.YtcbjmcnebmhgpaaGreatHRing
import Derived.Test.YtcbjmcnebmhgpaaGreatHRel1
import Derived.Test.YtcbjmcnebmhgpaaGreatHLex
import Derived.StillTailTactics
import Derived.Outline
import Derived.Test.YtcbjmcnebmhgpaaGreatHRel8
import Derived.Test.YtcbjmcnebmhgpaaGreatHWide
import Derived.Test.YtcbjmcnebmhgpaaGreatHPlainSplit
import Derived.Test.YtcbjmcnebmhgpaaGreatHPlane
set_option linter.unusedVariables false
set_option linter.unusedSimpArgs false
set_option maxHeartbeats 4000000
set_option maxRecDepth 20000
namespace Go.Proofs.YtcbjmcnebmhgpaaGreat
open Go.RowKit Pg
theorem rcheckRing_ok (B n c : Nat) (A : Option Addr) (l : List Pt) (w : World) (hl : PtsAt w B A n l) (hB : B ≤ w.heap.size) (hn : n ≤ 1000000) (hm : ckRing l = 0) :
 Calls Tryz.prog 88 #[.slice A n c] w (Ret2 w 0) := by
 have h := rcheckRing_any B n c A l w hl hB hn;rw [← ckRing_eq,hm] at h;exact h
theorem four_at {w : World} {x y z u : Value} {t : TypeId} : ∀ (j : Nat) (v : Value),[x,y,z,u][j]? = some v → (w.alloc (.cells #[x,y,z,u] t)).drew.cell? ((⟨w.heap.size,0,none⟩ : Addr).add j) = some v := by
 intro j v hj
 match j,hj with
 | 0,hj => simp at hj;subst hj;simp [Addr.add]
 | 1,hj => simp at hj;subst hj;simp [Addr.add]
 | 2,hj => simp at hj;subst hj;simp [Addr.add]
 | 3,hj => simp at hj;subst hj;simp [Addr.add]
theorem four_one {x y z u : Int} : ∀ v ∈ [Value.int .i64 x,.int .i64 y,.int .i64 z,.int .i64 u],v.oneCell' = true := by
 intro v hv;simp only [List.mem_cons,List.not_mem_nil,or_false] at hv
 rcases hv with rfl | rfl | rfl | rfl <;> rfl
theorem post_gen {P : Program} {f : Func} {Q : Ending → World → Prop} {x : Exit} {a : Act} {w : World} (R : World → Prop) (h : R w) (k : ∀ w2,R w2 → bodyPost P f Q x a w2) : bodyPost P f Q x a w := k w h
theorem rRingBox_ok (B n c : Nat) (A : Option Addr) (l : List Pt) (w : World) (hl : PtsAt w B A n l) (hB : B ≤ w.heap.size) (hck : ckRing l = 0) :
 Calls Tryz.prog 81 #[.slice A n c] w (Ret w (.tuple #[bxV (ringBx l).lo.x (ringBx l).lo.y (ringBx l).hi.x (ringBx l).hi.y,.int .i64 0,.int .i64 0])) := by
 have hn : n ≤ 64 := by have := ck_len hck;rw [hl.1] at this;omega
 have HC := Lib.hid hck;clear hck;obtain ⟨i0,hi,iz0,iz1,iz2⟩ := info_parts Tryz.infoBox
 go_enter Tryz.func81,Tryz.ntmps81
 go_wp2_with (go_at_call 88;refine (rcheckRing_ok B n c A l _ (hl.tr bel hB) (Nat.le_trans hB (Below.size (B := w.heap.size) (w := w) bel)) (by omega) HC.out).mono ?_;rintro e w1 ⟨id1,rfl,hb1⟩;obtain ⟨hc1,hf1⟩ := bcell hb1;have hz1 := hb1.size;(try simp at hz1);have hy0 : w.heap.size < w1.heap.size := (by omega))
 have hP0 : Blk w1 w.heap.size 73 #[.int .i64 0,.int .i64 0,.int .i64 0,.int .i64 0] := blkA;have hb0 : Below w.heap.size w w1 := bel
 go_loopw [7,8] (fun s i wr => ∃ k : Nat,k ≤ n ∧ i = .int .i64 k ∧ wr.ownsRow (w.heap.size + 1) 73 4 s k (bcells ((l.take k).map pbox)) ∧ Blk wr w.heap.size 73 #[.int .i64 0,.int .i64 0,.int .i64 0,.int .i64 0] ∧ Below w.heap.size w wr) (fun _ i _ => n - (intOf i).toNat)
 case atStart => exact ⟨0,Nat.zero_le _,rfl,World.ownsRow_nil _ _ _ _,hP0,hb0⟩
 case round =>
  obtain ⟨k,hk,rfl,hown,hP,hb⟩ := hrel
  by_cases hlt : k < n
  · obtain ⟨b, off, rfl, hab, c0, c1⟩ := (hl.below (hb.mono hB)).at_ hlt
    have hPl := hP.lt;have hbs := hb.size;have hbw : b < wr.heap.size := by omega
    have hk0 : (k : Int) < (n : Int) := by omega
    clear hb0 hP0;have hkl : k < l.length := by rw [hl.1];exact hlt
    go_wp2_with fail;have hbw9 : b < w.heap.size + 1 := by omega
    have hb5 : Below (w.heap.size + 1) wr (wr.alloc (.cells #[.int .i64 (pt l k).x,.int .i64 (pt l k).y,.int .i64 (pt l k).x,.int .i64 (pt l k).y] 73)) := Below.mono (B := wr.heap.size) bel (by omega)
    go_wp2_with fail;refine wp_region_belowB (w.heap.size + 1) [0,1,2,3,4,5,6,7,8,9,10,11,12] (by kernel_rfl) (by kernel_rfl) (fun _ _ d _ _ h => by cases d <;> exact h) ?_
    simp only [List.map_cons, List.map_nil, ldz, lds, bare, gslot, lcz, lcs, Option.bind_some]
    repeat' ((try simp only [Act.put,lsi,lsz,lss]);first | (refine lexL_quiet (v := ?_) wantB_none rfl ?_ ?_;rotate_left;focus (intro wq hq;obtain ⟨hcq,hfq⟩ := bcellB hq;go_simp;try with_reducible rfl)) | (refine lexL_loud wantB_none rfl (fun K hK => ?_);(refine wp_append_own _ _ _ 71 rfl (w.heap.size + 1) 73 i0 (.agg #[.int .i64 0,.int .i64 0,.int .i64 0,.int .i64 0]) 4 32 Tryz.underlying71 hi iz0 iz1 iz2 rfl (by decide) _ _ _ rfl (owns_drew (hown.alloc _)) ⟨wr.heap.size,0,none⟩ 1 1 [.int .i64 (pt l k).x,.int .i64 (pt l k).y,.int .i64 (pt l k).x,.int .i64 (pt l k).y] rfl rfl ?_ ?_ ?_ ?_ ?_ ?_);(focus (exact four_at));(focus (exact four_one));(focus (unfold maxLen;omega));(focus omega);(focus (simp;omega));intro v' w2 hown' hgrow _;have hlt' := hown.lt;have hb2 : Below w.heap.size w w2 := (Below.grown (w := (wr.alloc _).drew) bel hgrow (by simp;omega) (fun j e => by have := (hlt' j e).1;omega));have hb3 : Below (w.heap.size + 1) ((wr.alloc (.cells #[.int .i64 (pt l k).x,.int .i64 (pt l k).y,.int .i64 (pt l k).x,.int .i64 (pt l k).y] 73)).drew) w2 := (Below.grown (w := (wr.alloc (.cells #[.int .i64 (pt l k).x,.int .i64 (pt l k).y,.int .i64 (pt l k).x,.int .i64 (pt l k).y] 73)).drew) (Below.refl _ _) hgrow (by simp;omega) (fun j e => (hlt' j e).1));have hb4 : Below (w.heap.size + 1) wr w2 := (Below.trans bel hb3);refine hK.out _ _ (by first | with_reducible exact swapB1 | with_reducible exact Below.drew swapB1 | exact bel) ?_;clear hK K) | (refine lexL_loud wantB_none rfl (fun K hK => ?_);go_simp;((first | fail  | skip) <;> (refine hK.out _ _ (by first | with_reducible exact swapB1 | with_reducible exact Below.drew swapB1 | exact bel) ?_;clear hK K))))
    (all_goals try simp only [Act.put,lsi,lsz,lss]);all_goals (refine lexL_nil ?_)
    have hP2 : Blk w2 w.heap.size 73 #[.int .i64 0,.int .i64 0,.int .i64 0,.int .i64 0] := (hP.alloc _).drew.below hb3 (by omega)
    have hown2 : w2.ownsRow (w.heap.size + 1) 73 4 v' (k + 1) (bcells ((l.take (k + 1)).map pbox)) := by
     have : bcells ((l.take (k + 1)).map pbox) = bcells ((l.take k).map pbox) ++ [.int .i64 (pt l k).x,.int .i64 (pt l k).y,.int .i64 (pt l k).x,.int .i64 (pt l k).y] := by
      rw [List.take_add_one, pt_of hkl]
      simp only [Option.toList_some, List.map_append, List.map_cons, List.map_nil, bcells_snoc]
      rfl
     rw [this]
     exact hown'
    clear hown' hgrow hown hP hlt' hb3 c0 c1;go_wp2
    go_roundw
    case rel => exact ⟨k + 1, by omega, by go_num, hown2, hP2, hb2⟩
    case measure => simp [intOf];omega
  · have hkn : k = n := by omega
    subst hkn;obtain ⟨A2,c2,rfl,hbx⟩ := bxs_of_own (l := (l.take k).map pbox) hown (by simp [hl.1])
    rw [List.take_of_length_le (by rw [hl.1];exact Nat.le_refl _)] at hbx
    have hPc := hP.cell;have hPf := hP.frozen;have hPl := hP.lt
    have HW : Calls Tryz.prog 100 #[.slice A2 k c2] wr (Ret wr (.tuple #[bxV (ringBx l).lo.x (ringBx l).lo.y (ringBx l).hi.x (ringBx l).hi.y,.int .i64 0])) := by
     have := runion_any wr.heap.size k c2 A2 (l.map pbox) wr hbx (Nat.le_refl _) (by omega)
     rw [show l.map pbox = l.map (fun p => ⟨p,p⟩) from rfl,ringBx_ok HC.out] at this
     exact this
    clear hb0 hP0 hb1 hc1 hf1 hy0
    go_wp2_with (go_at_call 100;refine HW.mono ?_;rintro e w1 ⟨rfl,hb1⟩;obtain ⟨hc1,hf1⟩ := bcell hb1;have hz1 := hb1.size;(try simp at hz1);have hy0 : w.heap.size < w1.heap.size := (by omega))
    refine post_gen (R := fun w2 => Blk w2 w.heap.size 73 #[.int .i64 (ringBx l).lo.x,.int .i64 (ringBx l).lo.y,.int .i64 (ringBx l).hi.x,.int .i64 (ringBx l).hi.y] ∧ Below w.heap.size w w2) ⟨(((((((hP.tr hb1)).set_ 0 (.int .i64 (ringBx l).lo.x)).set_ 1 (.int .i64 (ringBx l).lo.y)).set_ 2 (.int .i64 (ringBx l).hi.x)).set_ 3 (.int .i64 (ringBx l).hi.y)).alloc _).eq_ (by simp),bel⟩ ?_
    rintro w2 ⟨HR,hb2⟩;have r0 := HR.cell 0;have r1 := HR.cell 1;have r2 := HR.cell 2;have r3 := HR.cell 3
    simp at r0 r1 r2 r3
    exact bodyPost_ret (v := .tuple #[bxV (ringBx l).lo.x (ringBx l).lo.y (ringBx l).hi.x (ringBx l).hi.y,.int .i64 0,.int .i64 0]) (by simp [results,Tryz.results81,go_sem,r0,r1,r2,r3]) rfl ⟨rfl,hb2⟩
theorem box_put {W : World} {g : Nat} {t : TypeId} {x y z u a b c d : Value} (h : Blk W g t #[x,y,z,u]) :
 Blk ((((W.setCell ⟨g,0,none⟩ a).setCell ⟨g,1,none⟩ b).setCell ⟨g,2,none⟩ c).setCell ⟨g,3,none⟩ d) g t #[a,b,c,d] :=
 ((((h.set_ 0 a).set_ 1 b).set_ 2 c).set_ 3 d).eq_ (by simp)
theorem bounds_k {k : Int} {l : List Pt} (ho : ckOb ⟨k,l⟩ = 0) : k = 1 ∨ k = 2 ∨ k = 3 ∨ k = 4 := by
 by_cases k1 : k = 1
 · exact .inl k1
 by_cases k2 : k = 2
 · exact .inr (.inl k2)
 by_cases k3 : k = 3
 · exact .inr (.inr (.inl k3))
 by_cases k4 : k = 4
 · exact .inr (.inr (.inr k4))
 · simp [ckOb,k1,k2,k3,k4] at ho
theorem rBounds_bad (B n c : Nat) (k : Int) (A : Option Addr) (l : List Pt) (w : World) (hl : PtsAt w B A n l) (hB : B ≤ w.heap.size) (hn : n ≤ 1000000) (ho : ckOb ⟨k,l⟩ ≠ 0) :
 Calls Tryz.prog 54 #[obV k A n c] w (Ret w (.tuple #[bxW bzero,.int .i64 (ckOb ⟨k,l⟩)])) := by
 obtain ⟨m,hm⟩ : ∃ m : Nat,ckOb ⟨k,l⟩ = m := ⟨_,rfl⟩
 rw [hm] at ho ⊢
 have hm0 : ((m : Int) != 0) = true := by rw [bne_iff_ne];omega
 have HF : Hid (ckObR ⟨k,l⟩ = m) := by unfold Hid;rw [← ckOb_eq];exact hm
 clear hm ho
 go_enter Tryz.func54,Tryz.ntmps54
 go_wp2_with (go_at_call 67;refine (rcheck_any B n c k A l _ (hl.tr bel hB) (Nat.le_trans hB (Below.size (B := w.heap.size) (w := w) bel)) hn).mono ?_;rw [HF.out];rintro e w1 ⟨rfl,hb1⟩;obtain ⟨hc1,hf1⟩ := bcell hb1;have hz1 := hb1.size;(try simp at hz1);have hy0 : w.heap.size < w1.heap.size := (by omega);have hy1 : w.heap.size + 1 < w1.heap.size := (by omega))
 refine post_gen (R := fun w2 => Blk w2 (w.heap.size + 1) 73 #[.int .i64 0,.int .i64 0,.int .i64 0,.int .i64 0] ∧ Below w.heap.size w w2) ⟨box_put (x := .int .i64 0) (y := .int .i64 0) (z := .int .i64 0) (u := .int .i64 0) blkA,bel⟩ ?_
 rintro w2 ⟨HR,hb2⟩;have r0 := HR.cell 0;have r1 := HR.cell 1;have r2 := HR.cell 2;have r3 := HR.cell 3
 simp at r0 r1 r2 r3
 exact bodyPost_ret (v := .tuple #[bxW bzero,.int .i64 m]) (by simp [results,Tryz.results54,go_sem,r0,r1,r2,r3,bzero]) rfl ⟨rfl,hb2⟩
theorem rBounds_ok (B n c : Nat) (k : Int) (A : Option Addr) (l : List Pt) (w : World) (hl : PtsAt w B A n l) (hB : B ≤ w.heap.size) (hn : n ≤ 1000000) (ho : ckOb ⟨k,l⟩ = 0) :
 Calls Tryz.prog 54 #[obV k A n c] w (Ret w (.tuple #[bxW (boundsS ⟨k,l⟩),.int .i64 0])) := by
 have HF : Hid (ckObR ⟨k,l⟩ = 0) := by unfold Hid;rw [← ckOb_eq];exact ho
 have hlens := ck_lens ho;rw [hl.1] at hlens;obtain ⟨p1,p2,p3,p4⟩ := hlens
 have hn1 : 0 < n := by
  rcases bounds_k ho with h | h | h | h
  · exact p1 (.inl h)
  · exact p1 (.inr h)
  · exact Nat.lt_of_lt_of_le (by decide) (p2 h)
  · have := ck_len (p4 (by rw [h];rfl))
    rw [hl.1] at this
    omega
 obtain ⟨b,off,rfl,hab,c0,c1⟩ := hl.at_ (k := 0) hn1;simp only [Nat.zero_mul,Nat.add_zero] at c0 c1;have hbw : b < w.heap.size := by omega
 have hbw1 : b < w.heap.size + 1 := by omega
 have hbw2 : b < w.heap.size + 1 + 1 := by omega
 rcases bounds_k ho with h | h | h | h
 · subst h
   have HS : Hid (boundsS ⟨1,l⟩ = ⟨pt l 0,pt l 0⟩) := rfl;clear ho p1 p2 p3 p4
   go_enter Tryz.func54, Tryz.ntmps54
   go_wp2_with (go_at_call 67;refine (rcheck_any B n c 1 _ l _ (hl.tr bel hB) (Nat.le_trans hB (Below.size (B := w.heap.size) (w := w) bel)) hn).mono ?_;rw [HF.out];rintro e w1 ⟨rfl,hb1⟩;obtain ⟨hc1,hf1⟩ := bcell hb1;have hz1 := hb1.size;(try simp at hz1);have hy0 : w.heap.size < w1.heap.size := (by omega);have hy1 : w.heap.size + 1 < w1.heap.size := (by omega);have hbx : b < w1.heap.size := (by omega))
   refine post_gen (R := fun w2 => Blk w2 (w.heap.size + 1) 73 #[.int .i64 (pt l 0).x,.int .i64 (pt l 0).y,.int .i64 (pt l 0).x,.int .i64 (pt l 0).y] ∧ Below w.heap.size w w2) ⟨(box_put (x := .int .i64 0) (y := .int .i64 0) (z := .int .i64 0) (u := .int .i64 0) blkA).alloc _,bel⟩ ?_
   rintro w2 ⟨HR,hb2⟩;have r0 := HR.cell 0;have r1 := HR.cell 1;have r2 := HR.cell 2;have r3 := HR.cell 3
   simp at r0 r1 r2 r3
   rw [HS.out]
   exact bodyPost_ret (v := .tuple #[.agg #[.int .i64 (pt l 0).x,.int .i64 (pt l 0).y,.int .i64 (pt l 0).x,.int .i64 (pt l 0).y],.int .i64 0]) (by simp [results,Tryz.results54,go_sem,r0,r1,r2,r3]) rfl ⟨rfl,hb2⟩
 · subst h
   have HS : Hid (boundsS ⟨2,l⟩ = ⟨⟨(pt l 0).x,0⟩,⟨(pt l 0).y,0⟩⟩) := rfl;clear ho p1 p2 p3 p4
   go_enter Tryz.func54, Tryz.ntmps54
   go_wp2_with (go_at_call 67;refine (rcheck_any B n c 2 _ l _ (hl.tr bel hB) (Nat.le_trans hB (Below.size (B := w.heap.size) (w := w) bel)) hn).mono ?_;rw [HF.out];rintro e w1 ⟨rfl,hb1⟩;obtain ⟨hc1,hf1⟩ := bcell hb1;have hz1 := hb1.size;(try simp at hz1);have hy0 : w.heap.size < w1.heap.size := (by omega);have hy1 : w.heap.size + 1 < w1.heap.size := (by omega);have hbx : b < w1.heap.size := (by omega))
   refine post_gen (R := fun w2 => Blk w2 (w.heap.size + 1) 73 #[.int .i64 (pt l 0).x,.int .i64 0,.int .i64 (pt l 0).y,.int .i64 0] ∧ Below w.heap.size w w2) ⟨(box_put (x := .int .i64 0) (y := .int .i64 0) (z := .int .i64 0) (u := .int .i64 0) blkA).alloc _,bel⟩ ?_
   rintro w2 ⟨HR,hb2⟩;have r0 := HR.cell 0;have r1 := HR.cell 1;have r2 := HR.cell 2;have r3 := HR.cell 3
   simp at r0 r1 r2 r3
   rw [HS.out]
   exact bodyPost_ret (v := .tuple #[.agg #[.int .i64 (pt l 0).x,.int .i64 0,.int .i64 (pt l 0).y,.int .i64 0],.int .i64 0]) (by simp [results,Tryz.results54,go_sem,r0,r1,r2,r3]) rfl ⟨rfl,hb2⟩
 · subst h
   have HS : Hid (boundsS ⟨3,l⟩ = ⟨pt l 0,pt l 1⟩) := rfl;have hn2 : 1 < n := p2 rfl;have hn3 : (1 : Int) < n := by omega
   obtain ⟨b',off',he,hab',c2,c3⟩ := hl.at_ (k := 1) hn2;injection he with he
   injection he with he1 he2
   subst he1 he2;simp only [Nat.one_mul] at c2 c3;clear ho p1 p2 p3 p4
   go_enter Tryz.func54, Tryz.ntmps54
   go_wp2_with (go_at_call 67;refine (rcheck_any B n c 3 _ l _ (hl.tr bel hB) (Nat.le_trans hB (Below.size (B := w.heap.size) (w := w) bel)) hn).mono ?_;rw [HF.out];rintro e w1 ⟨rfl,hb1⟩;obtain ⟨hc1,hf1⟩ := bcell hb1;have hz1 := hb1.size;(try simp at hz1);have hy0 : w.heap.size < w1.heap.size := (by omega);have hy1 : w.heap.size + 1 < w1.heap.size := (by omega);have hbx : b < w1.heap.size := (by omega))
   have hbl : off + 1 * 2 = off + 2 := by omega
   refine wp_gen (fun w2 => Below w.heap.size w w2 ∧ Blk w2 w.heap.size 50 #[.int .i64 3,.slice (some ⟨b,off,none⟩) n c] ∧ Blk w2 (w.heap.size + 1) 73 #[.int .i64 0,.int .i64 0,.int .i64 0,.int .i64 0] ∧ Blk w2 w1.heap.size 47 #[.int .i64 (pt l 0).x,.int .i64 (pt l 0).y]) ⟨bel,blkA,blkA,blkA⟩ ?_
   clear hb1 hc1 hf1;rintro w2 ⟨hb,hO,hZ,hP⟩;have o1 := hO.cell 1;have q0 := hP.cell 0;have q1 := hP.cell 1;have z0 := hZ.cell 0;have z1 := hZ.cell 1;have z2 := hZ.cell 2;have z3 := hZ.cell 3;have fZ := hZ.frozen;have lZ := hZ.lt;have lO := hO.lt;have lP := hP.lt
   simp at o1 q0 q1 z0 z1 z2 z3
   obtain ⟨_,_,ho,_,c2,c3⟩ := (hl.below (hb.mono hB)).at_ hn2;injection ho with ho
   injection ho with ho1 ho2
   subst ho1 ho2;simp only [Nat.one_mul] at c2 c3;have hbr : b < w2.heap.size := by have := hb.size;omega
   go_still_tail 6, (by kernel_rfl)
   change wpList _ _ _ _ _ w2.drew
   go_wp2;refine post_gen (R := fun w2 => Blk w2 (w.heap.size + 1) 73 #[.int .i64 (pt l 0).x,.int .i64 (pt l 0).y,.int .i64 (pt l 1).x,.int .i64 (pt l 1).y] ∧ Below w.heap.size w w2) ⟨box_put hZ.drew,bel⟩ ?_
   rintro w2 ⟨HR,hb2⟩;have r0 := HR.cell 0;have r1 := HR.cell 1;have r2 := HR.cell 2;have r3 := HR.cell 3
   simp at r0 r1 r2 r3
   rw [HS.out]
   exact bodyPost_ret (v := .tuple #[.agg #[.int .i64 (pt l 0).x,.int .i64 (pt l 0).y,.int .i64 (pt l 1).x,.int .i64 (pt l 1).y],.int .i64 0]) (by simp [results,Tryz.results54,go_sem,r0,r1,r2,r3]) rfl ⟨rfl,hb2⟩
 · subst h
   have HS : Hid (boundsS ⟨4,l⟩ = ringBx l) := rfl;have hck := Lib.hid (p4 rfl);clear ho p1 p2 p3 p4
   go_enter Tryz.func54, Tryz.ntmps54
   go_wp2_with (first | (go_at_call 67;refine (rcheck_any B n c 4 _ l _ (hl.tr bel hB) (Nat.le_trans hB (Below.size (B := w.heap.size) (w := w) bel)) hn).mono ?_;rw [HF.out];rintro e w1 ⟨rfl,hb1⟩;obtain ⟨hc1,hf1⟩ := bcell hb1;have hz1 := hb1.size;(try simp at hz1);have hy0 : w.heap.size < w1.heap.size := (by omega);have hy1 : w.heap.size + 1 < w1.heap.size := (by omega);have hbx : b < w1.heap.size := (by omega)) | (go_at_call 81;refine (rRingBox_ok B n c _ l _ (hl.tr bel hB) (Nat.le_trans hB (Below.size (B := w.heap.size) (w := w) bel)) hck.out).mono ?_;rintro e wa ⟨rfl,hba⟩;obtain ⟨hca,hfa⟩ := bcell hba;have hza := hba.size;(try simp at hza);have hya0 : w.heap.size < wa.heap.size := (by omega);have hya1 : w.heap.size + 1 < wa.heap.size := (by omega)))
   refine post_gen (R := fun w2 => Blk w2 (w.heap.size + 1) 73 #[.int .i64 (ringBx l).lo.x,.int .i64 (ringBx l).lo.y,.int .i64 (ringBx l).hi.x,.int .i64 (ringBx l).hi.y] ∧ Below w.heap.size w w2) ⟨(box_put (x := .int .i64 0) (y := .int .i64 0) (z := .int .i64 0) (u := .int .i64 0) blkA).alloc _,bel⟩ ?_
   rintro w2 ⟨HR,hb2⟩;have r0 := HR.cell 0;have r1 := HR.cell 1;have r2 := HR.cell 2;have r3 := HR.cell 3
   simp at r0 r1 r2 r3
   rw [HS.out]
   exact bodyPost_ret (v := .tuple #[.agg #[.int .i64 (ringBx l).lo.x,.int .i64 (ringBx l).lo.y,.int .i64 (ringBx l).hi.x,.int .i64 (ringBx l).hi.y],.int .i64 0]) (by simp [results,Tryz.results54,go_sem,r0,r1,r2,r3]) rfl ⟨rfl,hb2⟩
theorem redge_any (B n c : Nat) (px py : Int) (A : Option Addr) (l : List Pt) (w : World) (hl : PtsAt w B A n l) (hB : B ≤ w.heap.size) (hn : n ≤ 1000000) :
 Calls Tryz.prog 101 #[.slice A n c,ptV px py] w (Ret w (.bool (edgeB l ⟨px,py⟩))) := by
 go_enter Tryz.func101,Tryz.ntmps101
 go_wp2
 go_loopw [5] (fun i wr => ∃ k : Nat,k ≤ n ∧ i = .int .i64 k ∧ Hid (∀ j,j < k → onS (pt l j) (nx l j) ⟨px,py⟩ = false) ∧ Blk wr w.heap.size 47 #[.int .i64 px,.int .i64 py] ∧ Below w.heap.size w wr) (fun i _ => n - (intOf i).toNat)
 case atStart => exact ⟨0,Nat.zero_le _,rfl,fun j hj => by omega,Blk.new rfl rfl,bel⟩
 case round =>
  obtain ⟨k,hk,rfl,hno,hP,hb⟩ := hrel
  by_cases hlt : k < n
  · obtain ⟨b, off, rfl, hab, c0, c1⟩ := (hl.below (hb.mono hB)).at_ hlt
    obtain ⟨c2,c3⟩ := nx_of (hl.below (hb.mono hB)) hlt;have hPl := hP.lt;have hPc := hP.cell;have hbs := hb.size;have hbw : b < wr.heap.size := by omega
    have hk0 : (k : Int) < (n : Int) := by omega
    have hk3 : (0 : Int) ≤ (k : Int) + 1 := by omega
    obtain ⟨m,hm,hwr,htm,hml⟩ := step_of hlt hn;rw [hm] at c2 c3;clear hm;have hn0 : ¬ n = 0 := by omega
    have hml0 : (m : Int) < (n : Int) := by omega
    go_wp2_with fail;refine wp_region_belowI (by kernel_rfl) (by kernel_rfl) (fun _ _ d _ _ h => by cases d <;> exact h) ?_
    simp only [List.map_cons, List.map_nil, ldz, lds, bare, gslot, lcz, lcs, Option.bind_some]
    repeat' ((try simp only [Act.put,lsi,lsz,lss]);first | (refine lexL_quiet (v := ?_) wantB_none rfl ?_ ?_;rotate_left;focus (intro wq hq;obtain ⟨hcq,hfq⟩ := bcell hq;go_simp;try with_reducible rfl)) | (refine lexL_loud wantB_none rfl (fun K hK => ?_);go_simp;((first | (go_at_call 104;refine (ron_any _ _ _ _ _ _ _).mono ?_;rintro e w1 ⟨rfl,hb1⟩;obtain ⟨hc1,hf1⟩ := bcell hb1;have hz1 := hb1.size;(try simp at hz1)) | skip) <;> (refine hK.out _ _ bel ?_;clear hK K))))
    (all_goals try simp only [Act.put,lsi,lsz,lss]);all_goals (refine lexL_nil ?_)
    go_wp2
    · go_ret
      exact ⟨ret_bool (any_range_true _ (fun j => onS (pt l j) (nx l j) ⟨px,py⟩) k (by rw [hl.1];exact hlt) (by assumption)).symm,bel⟩
    · have hf : onS ⟨(pt l k).x, (pt l k).y⟩ ⟨(nx l k).x, (nx l k).y⟩ ⟨px, py⟩ = false := by first | assumption | (simpa using (by assumption : ¬ onS ⟨(pt l k).x, (pt l k).y⟩ ⟨(nx l k).x, (nx l k).y⟩ ⟨px, py⟩ = true))
      have HF := Lib.hid hf;clear hf
      go_roundw
      case rel => exact ⟨k + 1, by omega, by go_num, fun j hj => by
       by_cases e : j = k
       · subst e;exact HF.out
       · exact hno.out j (by omega), blkA, bel⟩
      case measure => simp [intOf];omega
  · have HF : Hid (edgeB l ⟨px,py⟩ = false) := any_range_false _ _ fun j hj => hno.out j (by rw [hl.1] at hj;omega)
    go_wp2;go_ret;exact ⟨ret_bool HF.out.symm,hb⟩
theorem rxor3 {A B C : Prop} [Decidable A] [Decidable B] [Decidable C] {p : Bool} (h : A ∧ B ∧ C) : Value.bool (!p) = Value.bool (xor p (decide A && decide B && decide C)) := by
 rw [decide_eq_true h.1,decide_eq_true h.2.1,decide_eq_true h.2.2];simp
theorem rxor0 {A B C : Prop} [Decidable A] [Decidable B] [Decidable C] {p : Bool} (h : ¬ (A ∧ B ∧ C)) : Value.bool p = Value.bool (xor p (decide A && decide B && decide C)) := by
 have : (decide A && decide B && decide C) = false := by
  cases hd : (decide A && decide B && decide C)
  · rfl
  · simp at hd;exact absurd ⟨hd.1.1,hd.1.2,hd.2⟩ h
 rw [this];simp
theorem rhas2_any (B n c : Nat) (px py : Int) (A : Option Addr) (l : List Pt) (w : World) (hl : PtsAt w B A n l) (hB : B ≤ w.heap.size) (hn : n ≤ 1000000) :
 Calls Tryz.prog 82 #[.slice A n c,ptV px py] w (Ret w (.bool (rhasR l ⟨px,py⟩))) := by
 cases he : edgeB l ⟨px,py⟩
 case true =>
  have HG : Hid (rhasR l ⟨px,py⟩ = true) := by unfold Hid rhasR;rw [he];rfl
  have HEB := Lib.hid he;clear he
  go_enter Tryz.func82, Tryz.ntmps82
  go_wp2_with (go_at_call 101;refine (redge_any B n c _ _ A l _ (hl.tr bel hB) (Nat.le_trans hB (Below.size (B := w.heap.size) (w := w) bel)) hn).mono ?_;rw [HEB.out];rintro e w1 ⟨rfl,hb1⟩;obtain ⟨hc1,hf1⟩ := bcell hb1;have hz1 := hb1.size;(try simp at hz1);have hy0 : w.heap.size < w1.heap.size := (by omega))
  go_ret;exact ⟨ret_bool HG.out.symm,bel⟩
 case false =>
  have HG : Hid (rhasR l ⟨px,py⟩ = parity l ⟨px,py⟩ l.length) := by unfold Hid rhasR;rw [he];rfl
  have HEB := Lib.hid he;clear he
  go_enter Tryz.func82, Tryz.ntmps82
  go_wp2_with (go_at_call 101;refine (redge_any B n c _ _ A l _ (hl.tr bel hB) (Nat.le_trans hB (Below.size (B := w.heap.size) (w := w) bel)) hn).mono ?_;rw [HEB.out];rintro e w1 ⟨rfl,hb1⟩;obtain ⟨hc1,hf1⟩ := bcell hb1;have hz1 := hb1.size;(try simp at hz1);have hy0 : w.heap.size < w1.heap.size := (by omega))
  have hP0 : Blk w1 w.heap.size 47 #[.int .i64 px,.int .i64 py] := blkA;have hb0 : Below w.heap.size w w1 := bel
  go_loopw [5, 6, 7, 8] (fun s i _ _ wr => ∃ k : Nat, k ≤ n ∧ i = .int .i64 k ∧ s = .bool (parity l ⟨px, py⟩ k) ∧ Blk wr w.heap.size 47 #[.int .i64 px, .int .i64 py] ∧ Below w.heap.size w wr) (fun _ i _ _ _ => n - (intOf i).toNat)
  case atStart => exact ⟨0, Nat.zero_le _, rfl, rfl, hP0, hb0⟩
  case round =>
   obtain ⟨k,hk,rfl,rfl,hP,hb⟩ := hrel
   by_cases hlt : k < n
   · obtain ⟨b, off, rfl, hab, c0, c1⟩ := (hl.below (hb.mono hB)).at_ hlt
     obtain ⟨c2,c3⟩ := nx_of (hl.below (hb.mono hB)) hlt;have hPl := hP.lt;have hPc := hP.cell;have hbs := hb.size;have hbw : b < wr.heap.size := by omega
     have hbw1 : b < wr.heap.size + 1 := by omega
     have hk0 : (k : Int) < (n : Int) := by omega
     have hk3 : (0 : Int) ≤ (k : Int) + 1 := by omega
     obtain ⟨m,hm,hwr,htm,hml⟩ := step_of hlt hn;rw [hm] at c2 c3;clear hm hb0 hP0 hb1 hc1 hf1 hz1;have hn0 : ¬ n = 0 := by omega
     have hml0 : (m : Int) < (n : Int) := by omega
     have HX : Hid (parity l ⟨px,py⟩ (k + 1) = xor (parity l ⟨px,py⟩ k) (crossesB ⟨(pt l k).x,(pt l k).y⟩ ⟨(nx l k).x,(nx l k).y⟩ ⟨px,py⟩)) := rfl
     by_cases hsw : (nx l k).y < (pt l k).y
     all_goals
      go_wp2_with (go_at_call 102;refine (rcross_any _ _ _ _ _ _ _).mono ?_;rintro e w1 ⟨rfl,hb1⟩;obtain ⟨hc1,hf1⟩ := bcell hb1;have hz1 := hb1.size;(try simp at hz1);have hyr : wr.heap.size < w1.heap.size := (by omega);have hyr1 : wr.heap.size + 1 < w1.heap.size := (by omega);have hyr0 : w.heap.size < w1.heap.size := (by omega))
      all_goals
       go_roundw
       case rel => exact ⟨k + 1,by omega,by go_num,by rw [HX.out,crossesB];(first | rw [if_pos (by simpa using hsw)] | rw [if_neg (by simp only [Int.not_lt];simpa using hsw)]);(first | exact rxor3 ⟨by (try dsimp only);omega,by (try dsimp only);omega,by (try dsimp only);omega⟩ | exact rxor0 (by (try dsimp only);omega)),blkA,bel⟩
       case measure => simp [intOf];omega
   · have HL : Hid (k = n) := by unfold Hid;omega
     have HR : Hid (rhasR l ⟨px,py⟩ = parity l ⟨px,py⟩ k) := by unfold Hid;rw [HG.out,HL.out,hl.1]
     go_wp2;go_ret;exact ⟨ret_bool HR.out.symm,hb⟩
def crn (r : Bx) : List Pt := [r.lo,⟨r.hi.x,r.lo.y⟩,r.hi,⟨r.lo.x,r.hi.y⟩]
theorem mboxR_crn (a b : Pt) (r : Bx) : mboxR a b r = ((okPt a && okPt b && okBx r) && ((bhas r a || bhas r b) || (List.range 4).any fun i => meetS a b (pt (crn r) i) (nx (crn r) i))) := by
 have e : (List.range 4).any (fun i => meetS a b (pt (crn r) i) (nx (crn r) i)) = (meetS a b r.lo ⟨r.hi.x,r.lo.y⟩ || (meetS a b ⟨r.hi.x,r.lo.y⟩ r.hi || (meetS a b r.hi ⟨r.lo.x,r.hi.y⟩ || (meetS a b ⟨r.lo.x,r.hi.y⟩ r.lo || false)))) := by
  rw [show List.range 4 = [0, 1, 2, 3] by decide]
  simp only [List.any_cons, List.any_nil]
  simp [crn, pt, nx]
 rw [e,mboxR]
 cases okPt a <;> cases okPt b <;> cases okBx r <;> simp [Bool.or_assoc]
theorem pts_crn {w : World} {g : Nat} {r : Bx} {t : TypeId} (h : Blk w g t #[.int .i64 r.lo.x,.int .i64 r.lo.y,.int .i64 r.hi.x,.int .i64 r.lo.y,.int .i64 r.hi.x,.int .i64 r.hi.y,.int .i64 r.lo.x,.int .i64 r.hi.y]) : PtsAt w w.heap.size (some ⟨g,0,none⟩) 4 (crn r) :=
 ⟨rfl,fun _ => ⟨g,0,rfl,h.lt,fun k s hs => by
  match k, hs with
  | 0, hs =>
    simp [crn] at hs
    subst hs;exact ⟨by rw [h.cell];rfl,by rw [h.cell];rfl⟩
  | 1, hs =>
    simp [crn] at hs
    subst hs;exact ⟨by rw [h.cell];rfl,by rw [h.cell];rfl⟩
  | 2, hs =>
    simp [crn] at hs
    subst hs;exact ⟨by rw [h.cell];rfl,by rw [h.cell];rfl⟩
  | 3, hs =>
    simp [crn] at hs
    subst hs
    exact ⟨by rw [h.cell];rfl,by rw [h.cell];rfl⟩⟩⟩
theorem rcorners_any (r : Bx) (w : World) :
 Calls Tryz.prog 106 #[bxV r.lo.x r.lo.y r.hi.x r.hi.y] w fun e w' => ∃ g,e = .returned (.slice (some ⟨g,0,none⟩) 4 4) ∧ Blk w' g 47 #[.int .i64 r.lo.x,.int .i64 r.lo.y,.int .i64 r.hi.x,.int .i64 r.lo.y,.int .i64 r.hi.x,.int .i64 r.hi.y,.int .i64 r.lo.x,.int .i64 r.hi.y] ∧ Below w.heap.size w w' := by
 go_enter Tryz.func106,Tryz.ntmps106
 go_wp2;go_ret;exact ⟨_,rfl,blkA,bel⟩
theorem any4_f {f : Nat → Bool} (h : ∀ j,j < 4 → f j = false) : (List.range 4).any f = false := any_range_false 4 f h
theorem rmeetsBox_any (ax ay bx by_ : Int) (r : Bx) (w : World) :
 Calls Tryz.prog 84 #[ptV ax ay,ptV bx by_,bxV r.lo.x r.lo.y r.hi.x r.hi.y] w (Ret w (.bool (mboxR ⟨ax,ay⟩ ⟨bx,by_⟩ r))) := by
 have HF := Lib.hid (mboxR_crn ⟨ax,ay⟩ ⟨bx,by_⟩ r)
 cases h1 : okPt ⟨ax,ay⟩
 · have HG : Hid (mboxR ⟨ax,ay⟩ ⟨bx,by_⟩ r = false) := by unfold Hid;rw [HF.out,h1];rfl
   have H1 := Lib.hid h1;clear h1
   go_enter Tryz.func84, Tryz.ntmps84
   go_wp2_with (go_at_call 87;refine (rpoint_any _ _ _).mono ?_;rw [H1.out];rintro e w1 ⟨rfl,hb1⟩;obtain ⟨hc1,hf1⟩ := bcell hb1;have hz1 := hb1.size;(try simp at hz1);have hy0 : w.heap.size < w1.heap.size := (by omega);have hy1 : w.heap.size + 1 < w1.heap.size := (by omega);have hy2 : w.heap.size + 1 + 1 < w1.heap.size := (by omega))
   go_ret;exact ⟨ret_bool HG.out.symm,bel⟩
 cases h2 : okPt ⟨bx,by_⟩
 · have HG : Hid (mboxR ⟨ax,ay⟩ ⟨bx,by_⟩ r = false) := by unfold Hid;rw [HF.out,h1,h2];rfl
   have H1 := Lib.hid h1;have H2 := Lib.hid h2;clear h1 h2
   go_enter Tryz.func84, Tryz.ntmps84
   go_wp2_with (go_at_call 87;refine (rpoint_any _ _ _).mono ?_;(first | rw [H1.out] | rw [H2.out]);rintro e w1 ⟨rfl,hb1⟩;obtain ⟨hc1,hf1⟩ := bcell hb1;have hz1 := hb1.size;(try simp at hz1);have hy0 : w.heap.size < w1.heap.size := (by omega);have hy1 : w.heap.size + 1 < w1.heap.size := (by omega);have hy2 : w.heap.size + 1 + 1 < w1.heap.size := (by omega))
   go_ret;exact ⟨ret_bool HG.out.symm,bel⟩
 obtain ⟨m,hm⟩ : ∃ m : Nat,ckBox ⟨⟨r.lo.x,r.lo.y⟩,⟨r.hi.x,r.hi.y⟩⟩ = m := ⟨_,rfl⟩;have HM := Lib.hid hm
 by_cases hz : m = 0
 case neg =>
  have hz1 : ((m : Int) != 0) = true := by rw [bne_iff_ne];omega
  have HG : Hid (mboxR ⟨ax,ay⟩ ⟨bx,by_⟩ r = false) := by
   have : okBx r = false := by rw [← Bool.not_eq_true,ck_of_ok];intro h;exact hz (hm.symm.trans h)
   unfold Hid;rw [HF.out,h1,h2,this];rfl
  have H1 := Lib.hid h1;have H2 := Lib.hid h2;clear h1 h2 hm hz
  go_enter Tryz.func84, Tryz.ntmps84
  go_wp2_with (first | (go_at_call 87;refine (rpoint_any _ _ _).mono ?_;(first | rw [H1.out] | rw [H2.out]);rintro e w1 ⟨rfl,hb1⟩;obtain ⟨hc1,hf1⟩ := bcell hb1;have hz1 := hb1.size;(try simp at hz1);have hy0 : w.heap.size < w1.heap.size := (by omega);have hy1 : w.heap.size + 1 < w1.heap.size := (by omega);have hy2 : w.heap.size + 1 + 1 < w1.heap.size := (by omega)) | (go_at_call 85;refine (rcheckBox_any _ _ _ _ _).mono ?_;rw [HM.out];rintro e w1 ⟨rfl,hb1⟩;obtain ⟨hc1,hf1⟩ := bcell hb1;have hz1 := hb1.size;(try simp at hz1);have hy0 : w.heap.size < w1.heap.size := (by omega);have hy1 : w.heap.size + 1 < w1.heap.size := (by omega);have hy2 : w.heap.size + 1 + 1 < w1.heap.size := (by omega)))
  go_ret;exact ⟨ret_bool HG.out.symm,bel⟩
 subst hz;have hok : okBx r = true := ck_of_ok.2 hm;have HG : Hid (mboxR ⟨ax,ay⟩ ⟨bx,by_⟩ r = ((bhas ⟨⟨r.lo.x,r.lo.y⟩,⟨r.hi.x,r.hi.y⟩⟩ ⟨ax,ay⟩ || bhas ⟨⟨r.lo.x,r.lo.y⟩,⟨r.hi.x,r.hi.y⟩⟩ ⟨bx,by_⟩) || (List.range 4).any fun i => meetS ⟨ax,ay⟩ ⟨bx,by_⟩ (pt (crn r) i) (nx (crn r) i))) := by unfold Hid;rw [HF.out,h1,h2,hok];rfl
 have H1 := Lib.hid h1;have H2 := Lib.hid h2;clear h1 h2 hm hok HF
 cases b1 : bhas ⟨⟨r.lo.x,r.lo.y⟩,⟨r.hi.x,r.hi.y⟩⟩ ⟨ax,ay⟩
 case true =>
  have B1 := Lib.hid b1;clear b1
  go_enter Tryz.func84, Tryz.ntmps84
  go_wp2_with (first | (go_at_call 87;refine (rpoint_any _ _ _).mono ?_;(first | rw [H1.out] | rw [H2.out]);rintro e w1 ⟨rfl,hb1⟩;obtain ⟨hc1,hf1⟩ := bcell hb1;have hz1 := hb1.size;(try simp at hz1);have hy0 : w.heap.size < w1.heap.size := (by omega);have hy1 : w.heap.size + 1 < w1.heap.size := (by omega);have hy2 : w.heap.size + 1 + 1 < w1.heap.size := (by omega)) | (go_at_call 85;refine (rcheckBox_any _ _ _ _ _).mono ?_;rw [HM.out];rintro e w1 ⟨rfl,hb1⟩;obtain ⟨hc1,hf1⟩ := bcell hb1;have hz1 := hb1.size;(try simp at hz1);have hy0 : w.heap.size < w1.heap.size := (by omega);have hy1 : w.heap.size + 1 < w1.heap.size := (by omega);have hy2 : w.heap.size + 1 + 1 < w1.heap.size := (by omega)) | (go_at_call 105;refine (rboxHas_any _ _ _ _ _ _ _).mono ?_;rw [B1.out];rintro e w1 ⟨rfl,hb1⟩;obtain ⟨hc1,hf1⟩ := bcell hb1;have hz1 := hb1.size;(try simp at hz1);have hy0 : w.heap.size < w1.heap.size := (by omega);have hy1 : w.heap.size + 1 < w1.heap.size := (by omega);have hy2 : w.heap.size + 1 + 1 < w1.heap.size := (by omega)))
  go_ret;exact ⟨ret_bool (by rw [HG.out,B1.out];rfl),bel⟩
 cases b2 : bhas ⟨⟨r.lo.x,r.lo.y⟩,⟨r.hi.x,r.hi.y⟩⟩ ⟨bx,by_⟩
 case true =>
  have B1 := Lib.hid b1;have B2 := Lib.hid b2;clear b1 b2
  go_enter Tryz.func84, Tryz.ntmps84
  go_wp2_with (first | (go_at_call 87;refine (rpoint_any _ _ _).mono ?_;(first | rw [H1.out] | rw [H2.out]);rintro e w1 ⟨rfl,hb1⟩;obtain ⟨hc1,hf1⟩ := bcell hb1;have hz1 := hb1.size;(try simp at hz1);have hy0 : w.heap.size < w1.heap.size := (by omega);have hy1 : w.heap.size + 1 < w1.heap.size := (by omega);have hy2 : w.heap.size + 1 + 1 < w1.heap.size := (by omega)) | (go_at_call 85;refine (rcheckBox_any _ _ _ _ _).mono ?_;rw [HM.out];rintro e w1 ⟨rfl,hb1⟩;obtain ⟨hc1,hf1⟩ := bcell hb1;have hz1 := hb1.size;(try simp at hz1);have hy0 : w.heap.size < w1.heap.size := (by omega);have hy1 : w.heap.size + 1 < w1.heap.size := (by omega);have hy2 : w.heap.size + 1 + 1 < w1.heap.size := (by omega)) | (go_at_call 105;refine (rboxHas_any _ _ _ _ _ _ _).mono ?_;(first | rw [B1.out] | rw [B2.out]);rintro e w1 ⟨rfl,hb1⟩;obtain ⟨hc1,hf1⟩ := bcell hb1;have hz1 := hb1.size;(try simp at hz1);have hy0 : w.heap.size < w1.heap.size := (by omega);have hy1 : w.heap.size + 1 < w1.heap.size := (by omega);have hy2 : w.heap.size + 1 + 1 < w1.heap.size := (by omega)))
  go_ret;exact ⟨ret_bool (by rw [HG.out,B1.out,B2.out];rfl),bel⟩
 have HG2 : Hid (mboxR ⟨ax,ay⟩ ⟨bx,by_⟩ r = (List.range 4).any fun i => meetS ⟨ax,ay⟩ ⟨bx,by_⟩ (pt (crn r) i) (nx (crn r) i)) := by unfold Hid;rw [HG.out,b1,b2];rfl
 have B1 := Lib.hid b1;have B2 := Lib.hid b2;clear b1 b2 HG
 go_enter Tryz.func84,Tryz.ntmps84
 go_wp2_with (first | (go_at_call 87;refine (rpoint_any _ _ _).mono ?_;(first | rw [H1.out] | rw [H2.out]);rintro e w1 ⟨rfl,hb1⟩;obtain ⟨hc1,hf1⟩ := bcell hb1;have hz1 := hb1.size;(try simp at hz1);have hy0 : w.heap.size < w1.heap.size := (by omega);have hy1 : w.heap.size + 1 < w1.heap.size := (by omega);have hy2 : w.heap.size + 1 + 1 < w1.heap.size := (by omega)) | (go_at_call 85;refine (rcheckBox_any _ _ _ _ _).mono ?_;rw [HM.out];rintro e w1 ⟨rfl,hb1⟩;obtain ⟨hc1,hf1⟩ := bcell hb1;have hz1 := hb1.size;(try simp at hz1);have hy0 : w.heap.size < w1.heap.size := (by omega);have hy1 : w.heap.size + 1 < w1.heap.size := (by omega);have hy2 : w.heap.size + 1 + 1 < w1.heap.size := (by omega)) | (go_at_call 105;refine (rboxHas_any _ _ _ _ _ _ _).mono ?_;(first | rw [B1.out] | rw [B2.out]);rintro e w1 ⟨rfl,hb1⟩;obtain ⟨hc1,hf1⟩ := bcell hb1;have hz1 := hb1.size;(try simp at hz1);have hy0 : w.heap.size < w1.heap.size := (by omega);have hy1 : w.heap.size + 1 < w1.heap.size := (by omega);have hy2 : w.heap.size + 1 + 1 < w1.heap.size := (by omega)) | (go_at_call 106;refine (rcorners_any r _).mono ?_;rintro e wc ⟨g,rfl,hC,hbc⟩;obtain ⟨hcc,hfc⟩ := bcell hbc;have hzc := hbc.size;(try simp at hzc)))
 have hA0 : Blk wc w.heap.size 47 #[.int .i64 ax,.int .i64 ay] := blkA;have hB0 : Blk wc (w.heap.size + 1) 47 #[.int .i64 bx,.int .i64 by_] := blkA;have hb0 : Below w.heap.size w wc := bel;have hPC := pts_crn hC;obtain ⟨L,hL⟩ : ∃ L,crn r = L := ⟨_,rfl⟩;rw [hL] at hPC HG2;have HC := Lib.hid hPC;clear hL hPC;have HBw := Lib.hid hb0;clear hC hbc hcc hfc hzc hb1 hc1 hf1 hz1 hy0 hy1 hy2
 go_loopw [8] (fun i wr => ∃ k : Nat,k ≤ 4 ∧ i = .int .i64 k ∧ Hid (∀ j,j < k → meetS ⟨ax,ay⟩ ⟨bx,by_⟩ (pt L j) (nx L j) = false) ∧ Blk wr w.heap.size 47 #[.int .i64 ax,.int .i64 ay] ∧ Blk wr (w.heap.size + 1) 47 #[.int .i64 bx,.int .i64 by_] ∧ Below wc.heap.size wc wr) (fun i _ => 4 - (intOf i).toNat)
 case atStart => exact ⟨0,by omega,rfl,fun j hj => by omega,hA0,hB0,Below.refl _ _⟩
 case round =>
  obtain ⟨k,hk,rfl,hno,hA,hB,hb⟩ := hrel;have hbw0 : Below w.heap.size w wr := HBw.out.trans (hb.mono HBw.out.size)
  by_cases hlt : k < 4
  · have HL := HC.out.below hb
    obtain ⟨b,off,ho,hab,c0,c1⟩ := HL.at_ hlt;injection ho with ho
    injection ho with ho1 ho2
    subst ho1 ho2;obtain ⟨c2,c3⟩ := nx_of HL hlt;have hbs := hb.size;have cA := hA.cell;have cB := hB.cell;have lA := hA.lt;have lB := hB.lt;have hgw : g < wr.heap.size := by omega
    have hk0 : (k : Int) < 4 := by omega
    have hk3 : (0 : Int) ≤ (k : Int) + 1 := by omega
    obtain ⟨m,hm,hwr,htm,hml⟩ := step_of hlt (by omega)
    rw [hm] at c2 c3;have htm' : ((k : Int) + 1).tmod 4 = (m : Int) := htm;clear hm htm HL hA0 hB0 hb0;have hml0 : (m : Int) < 4 := by omega
    simp only [Nat.zero_add] at c0 c1 c2 c3;go_wp2_with fail;refine wp_region_belowI (by kernel_rfl) (by kernel_rfl) (fun _ _ d _ _ h => by cases d <;> exact h) ?_
    simp only [List.map_cons, List.map_nil, ldz, lds, bare, gslot, lcz, lcs, Option.bind_some]
    repeat' ((try simp only [Act.put,lsi,lsz,lss]);first | (refine lexL_quiet (v := ?_) wantB_none rfl ?_ ?_;rotate_left;focus (intro wq hq;obtain ⟨hcq,hfq⟩ := bcell hq;go_simp;try with_reducible rfl)) | (refine lexL_loud wantB_none rfl (fun K hK => ?_);go_simp;((first | (go_at_call 83;refine (rmeet_any _ _ _ _ _ _ _ _ _).mono ?_;rintro e w1 ⟨rfl,hb1⟩;obtain ⟨hc1,hf1⟩ := bcell hb1;have hz1 := hb1.size;(try simp at hz1)) | skip) <;> (refine hK.out _ _ bel ?_;clear hK K))))
    (all_goals try simp only [Act.put,lsi,lsz,lss]);all_goals (refine lexL_nil ?_)
    go_wp2
    · go_ret
      exact ⟨ret_bool (by rw [HG2.out,any_range_true 4 (fun j => meetS ⟨ax,ay⟩ ⟨bx,by_⟩ (pt L j) (nx L j)) k hlt (by assumption)]),bel⟩
    · have hf : meetS ⟨ax, ay⟩ ⟨bx, by_⟩ ⟨(pt L k).x, (pt L k).y⟩ ⟨(nx L k).x, (nx L k).y⟩ = false := by first | assumption | (simpa using (by assumption : ¬ meetS ⟨ax, ay⟩ ⟨bx, by_⟩ ⟨(pt L k).x, (pt L k).y⟩ ⟨(nx L k).x, (nx L k).y⟩ = true))
      have HN := Lib.hid hf;clear hf
      go_roundw
      case rel => exact ⟨k + 1, by omega, by go_num, fun j hj => by
       by_cases e : j = k
       · subst e;exact HN.out
       · exact hno.out j (by omega), blkA, blkA, Below.trans hb (Below.mono bel hbs)⟩
      case measure => simp [intOf];omega
  · have HR : Hid (mboxR ⟨ax,ay⟩ ⟨bx,by_⟩ r = false) := by unfold Hid;rw [HG2.out];exact any4_f fun j hj => hno.out j (by omega)
    clear hA0 hB0 hb0;have hk4 : ¬ (k : Int) < 4 := by omega
    go_wp2;go_ret;exact ⟨ret_bool HR.out.symm,bel⟩
theorem rbox_t {l : List Pt} {b : Bx} {k : Nat} (hk : k < l.length) (h : mboxR (pt l k) (nx l k) b = true) : ringBoxR l b = true := by
 unfold ringBoxR
 rw [any_range_true _ (fun i => mboxR (pt l i) (nx l i) b) k hk h,Bool.or_true]
theorem rringBox_any (B n c : Nat) (r : Bx) (A : Option Addr) (l : List Pt) (w : World) (hl : PtsAt w B A n l) (hB : B ≤ w.heap.size) (hn : n ≤ 1000000) :
 Calls Tryz.prog 56 #[.slice A n c,bxV r.lo.x r.lo.y r.hi.x r.hi.y] w (Ret w (.bool (ringBoxR l r))) := by
 cases h0 : rhasR l ⟨r.lo.x,r.lo.y⟩
 case true =>
  have HG : Hid (ringBoxR l r = true) := by
   have h1 : rhasR l r.lo = true := h0;unfold Hid ringBoxR
   rw [h1, Bool.true_or]
  have H0 := Lib.hid h0;clear h0
  go_enter Tryz.func56, Tryz.ntmps56
  go_wp2_with (go_at_call 82;refine (rhas2_any B n c _ _ A l _ (hl.tr bel hB) (Nat.le_trans hB (Below.size (B := w.heap.size) (w := w) bel)) hn).mono ?_;rw [H0.out];rintro e w1 ⟨rfl,hb1⟩;obtain ⟨hc1,hf1⟩ := bcell hb1;have hz1 := hb1.size;(try simp at hz1);have hy0 : w.heap.size < w1.heap.size := (by omega))
  go_ret;exact ⟨ret_bool HG.out.symm,bel⟩
 case false =>
  have H0 := Lib.hid h0;clear h0
  go_enter Tryz.func56, Tryz.ntmps56
  go_wp2_with (go_at_call 82;refine (rhas2_any B n c _ _ A l _ (hl.tr bel hB) (Nat.le_trans hB (Below.size (B := w.heap.size) (w := w) bel)) hn).mono ?_;rw [H0.out];rintro e wc ⟨rfl,hbc⟩;obtain ⟨hcc,hfc⟩ := bcell hbc;have hzc := hbc.size;(try simp at hzc);have hyc : w.heap.size < wc.heap.size := (by omega))
  have hP0 : Blk wc w.heap.size 73 #[.int .i64 r.lo.x,.int .i64 r.lo.y,.int .i64 r.hi.x,.int .i64 r.hi.y] := blkA;have hb0 : Below w.heap.size w wc := bel
  go_loopw [5] (fun i wr => ∃ k : Nat, k ≤ n ∧ i = .int .i64 k ∧ Hid (∀ j, j < k → mboxR (pt l j) (nx l j) r = false) ∧ Blk wr w.heap.size 73 #[.int .i64 r.lo.x, .int .i64 r.lo.y, .int .i64 r.hi.x, .int .i64 r.hi.y] ∧ Below w.heap.size w wr) (fun i _ => n - (intOf i).toNat)
  case atStart => exact ⟨0, Nat.zero_le _, rfl, fun j hj => by omega, hP0, hb0⟩
  case round =>
   obtain ⟨k,hk,rfl,hno,hP,hb⟩ := hrel;clear hP0 hb0 hbc hcc hfc hzc hyc
   by_cases hlt : k < n
   · obtain ⟨b, off, rfl, hab, c0, c1⟩ := (hl.below (hb.mono hB)).at_ hlt
     obtain ⟨c2,c3⟩ := nx_of (hl.below (hb.mono hB)) hlt;have hPl := hP.lt;have hPc := hP.cell;have hbs := hb.size;have hbw : b < wr.heap.size := by omega
     have hk0 : (k : Int) < (n : Int) := by omega
     have hk3 : (0 : Int) ≤ (k : Int) + 1 := by omega
     obtain ⟨m,hm,hwr,htm,hml⟩ := step_of hlt hn;rw [hm] at c2 c3;clear hm;have hn0 : ¬ n = 0 := by omega
     have hml0 : (m : Int) < (n : Int) := by omega
     go_wp2_with fail;refine wp_region_belowI (by kernel_rfl) (by kernel_rfl) (fun _ _ d _ _ h => by cases d <;> exact h) ?_
     simp only [List.map_cons, List.map_nil, ldz, lds, bare, gslot, lcz, lcs, Option.bind_some]
     repeat' ((try simp only [Act.put,lsi,lsz,lss]);first | (refine lexL_quiet (v := ?_) wantB_none rfl ?_ ?_;rotate_left;focus (intro wq hq;obtain ⟨hcq,hfq⟩ := bcell hq;go_simp;try with_reducible rfl)) | (refine lexL_loud wantB_none rfl (fun K hK => ?_);go_simp;((first | (go_at_call 84;refine (rmeetsBox_any _ _ _ _ r _).mono ?_;rintro e w1 ⟨rfl,hb1⟩;obtain ⟨hc1,hf1⟩ := bcell hb1;have hz1 := hb1.size;(try simp at hz1)) | skip) <;> (refine hK.out _ _ bel ?_;clear hK K))))
     (all_goals try simp only [Act.put,lsi,lsz,lss]);all_goals (refine lexL_nil ?_)
     go_wp2
     · go_ret
       exact ⟨ret_bool (rbox_t (by rw [hl.1];exact hlt) (by assumption)).symm,bel⟩
     · have hf : mboxR ⟨(pt l k).x, (pt l k).y⟩ ⟨(nx l k).x, (nx l k).y⟩ r = false := by first | assumption | (simpa using (by assumption : ¬ mboxR ⟨(pt l k).x, (pt l k).y⟩ ⟨(nx l k).x, (nx l k).y⟩ r = true))
       have HF := Lib.hid hf;clear hf
       go_roundw
       case rel => exact ⟨k + 1, by omega, by go_num, fun j hj => by
        by_cases e : j = k
        · subst e;exact HF.out
        · exact hno.out j (by omega), blkA, bel⟩
       case measure => simp [intOf];omega
   · have HF : Hid (ringBoxR l r = false) := by
      have h1 : rhasR l r.lo = false := H0.out;unfold Hid ringBoxR
      rw [h1,any_range_false _ _ fun j hj => hno.out j (by rw [hl.1] at hj;omega)]
      rfl
     go_wp2;go_ret;exact ⟨ret_bool HF.out.symm,hb⟩
theorem crossAny2_t {a b : List Pt} {i k : Nat} (hi : i < a.length) (hk : k < b.length) (h : meetS (pt a i) (nx a i) (pt b k) (nx b k) = true) : crossAny a b = true :=
 any_range_true _ _ i hi (any_range_true _ _ k hk h)
theorem crossAny2_f {a b : List Pt} (h : ∀ i,i < a.length → ∀ k,k < b.length → meetS (pt a i) (nx a i) (pt b k) (nx b k) = false) : crossAny a b = false :=
 any_range_false _ _ fun i hi => any_range_false _ _ fun k hk => h i hi k hk
theorem rrings_any (B n c n' c' : Nat) (A A' : Option Addr) (l l' : List Pt) (w : World) (hl : PtsAt w B A n l) (hl' : PtsAt w B A' n' l') (hB : B ≤ w.heap.size) (hn : n ≤ 1000000) (hn' : n' ≤ 1000000) (h1 : 1 ≤ n) (h1' : 1 ≤ n') :
 Calls Tryz.prog 55 #[.slice A n c,.slice A' n' c'] w (Ret w (.bool (ringsR l l'))) := by
 obtain ⟨b,off,rfl,hab,c0,c1⟩ := hl.at_ (k := 0) (by omega)
 obtain ⟨b',off',rfl,hab',d0,d1⟩ := hl'.at_ (k := 0) (by omega)
 simp only [Nat.zero_mul,Nat.add_zero] at c0 c1 d0 d1;have hbw : b < w.heap.size := by omega
 have hbw' : b' < w.heap.size := by omega
 have hn1 : 0 < n := by omega
 have hn1' : 0 < n' := by omega
 cases e1 : rhasR l ⟨(pt l' 0).x,(pt l' 0).y⟩
 case true =>
  have HG : Hid (ringsR l l' = true) := by
   have h1 : rhasR l (pt l' 0) = true := e1;unfold Hid ringsR
   rw [h1, Bool.true_or, Bool.true_or]
  have E1 := Lib.hid e1;clear e1
  go_enter Tryz.func55, Tryz.ntmps55
  go_wp2_with (go_at_call 82;refine (rhas2_any B n c _ _ _ l _ (hl.tr bel hB) (Nat.le_trans hB (Below.size (B := w.heap.size) (w := w) bel)) hn).mono ?_;rw [E1.out];rintro e w1 ⟨rfl,hb1⟩;obtain ⟨hc1,hf1⟩ := bcell hb1;have hz1 := hb1.size;(try simp at hz1))
  go_ret;exact ⟨ret_bool HG.out.symm,bel⟩
 cases e2 : rhasR l' ⟨(pt l 0).x,(pt l 0).y⟩
 case true =>
  have HG : Hid (ringsR l l' = true) := by
   have h1 : rhasR l' (pt l 0) = true := e2;unfold Hid ringsR
   rw [h1, Bool.or_true, Bool.true_or]
  have E1 := Lib.hid e1;have E2 := Lib.hid e2;clear e1 e2
  go_enter Tryz.func55, Tryz.ntmps55
  go_wp2_with (first | (go_at_call 82;have _hz := hza;refine (rhas2_any B n' c' _ _ _ l' _ (hl'.tr bel hB) (Nat.le_trans hB (Below.size (B := w.heap.size) (w := w) bel)) hn').mono ?_;rw [E2.out];rintro e w1 ⟨rfl,hb1⟩;obtain ⟨hc1,hf1⟩ := bcell hb1;have hz1 := hb1.size;(try simp at hz1)) | (go_at_call 82;refine (rhas2_any B n c _ _ _ l _ (hl.tr bel hB) (Nat.le_trans hB (Below.size (B := w.heap.size) (w := w) bel)) hn).mono ?_;rw [E1.out];rintro e wa ⟨rfl,hba⟩;obtain ⟨hca,hfa⟩ := bcell hba;have hza := hba.size;(try simp at hza);have hbx : b < wa.heap.size := (by omega)))
  go_ret;exact ⟨ret_bool HG.out.symm,bel⟩
 have HF : Hid (ringsR l l' = crossAny l l') := by
  have h1 : rhasR l (pt l' 0) = false := e1;have h2 : rhasR l' (pt l 0) = false := e2;unfold Hid ringsR
  rw [h1, h2]
  rfl
 have E1 := Lib.hid e1;have E2 := Lib.hid e2;clear e1 e2
 go_enter Tryz.func55,Tryz.ntmps55
 go_wp2_with (first | (go_at_call 82;have _hz := hza;refine (rhas2_any B n' c' _ _ _ l' _ (hl'.tr bel hB) (Nat.le_trans hB (Below.size (B := w.heap.size) (w := w) bel)) hn').mono ?_;rw [E2.out];rintro e wc ⟨rfl,hbc⟩;obtain ⟨hcc,hfc⟩ := bcell hbc;have hzc := hbc.size;(try simp at hzc)) | (go_at_call 82;refine (rhas2_any B n c _ _ _ l _ (hl.tr bel hB) (Nat.le_trans hB (Below.size (B := w.heap.size) (w := w) bel)) hn).mono ?_;rw [E1.out];rintro e wa ⟨rfl,hba⟩;obtain ⟨hca,hfa⟩ := bcell hba;have hza := hba.size;(try simp at hza);have hbx : b < wa.heap.size := (by omega)))
 have hb0 : Below w.heap.size w wc := bel;clear c0 c1 d0 d1 hba hca hfa hza hbx hbc hcc hfc hzc
 go_loopw [5,6] (fun i _ wr => ∃ k : Nat,k ≤ n ∧ i = .int .i64 k ∧ Hid (∀ j,j < k → ∀ p,p < n' → meetS (pt l j) (nx l j) (pt l' p) (nx l' p) = false) ∧ Below w.heap.size w wr) (fun i _ _ => n - (intOf i).toNat)
 case atStart => exact ⟨0,Nat.zero_le _,rfl,fun j hj => by omega,hb0⟩
 case round =>
  obtain ⟨k,hk,rfl,hno,hb⟩ := hrel;clear hb0
  by_cases hlt : k < n
  · obtain ⟨wo, hwo⟩ : ∃ wo : World, wo = wr := ⟨_, rfl⟩
    subst hwo;go_wp2
    go_loopw [6] (fun i wr => ∃ q : Nat, q ≤ n' ∧ i = .int .i64 q ∧ Hid (∀ p, p < q → meetS (pt l k) (nx l k) (pt l' p) (nx l' p) = false) ∧ Below w.heap.size w wr) (fun i _ => n' - (intOf i).toNat)
    case atStart => exact ⟨0, Nat.zero_le _, rfl, fun j hj => by omega, hb⟩
    case round =>
     obtain ⟨q,hq,rfl,hnq,hb3⟩ := hrel
     by_cases hqt : q < n'
     · obtain ⟨_, _, ho, _, c0, c1⟩ := (hl.below (hb3.mono hB)).at_ hlt
       injection ho with ho
       injection ho with ho1 ho2
       subst ho1 ho2;obtain ⟨_,_,ho,_,d0,d1⟩ := (hl'.below (hb3.mono hB)).at_ hqt;injection ho with ho
       injection ho with ho1 ho2
       subst ho1 ho2;obtain ⟨c2,c3⟩ := nx_of (hl.below (hb3.mono hB)) hlt;obtain ⟨d2,d3⟩ := nx_of (hl'.below (hb3.mono hB)) hqt;have hbs3 := hb3.size;have hbw0 : b < wr.heap.size := by omega
       have hbw2 : b' < wr.heap.size := by omega
       have hk0 : (k : Int) < (n : Int) := by omega
       have hq0 : (q : Int) < (n' : Int) := by omega
       have hk3 : (0 : Int) ≤ (k : Int) + 1 := by omega
       have hq3 : (0 : Int) ≤ (q : Int) + 1 := by omega
       obtain ⟨m,hm,hwr,htm,hml⟩ := step_of hlt hn;rw [hm] at c2 c3;clear hm;obtain ⟨m',hm',hwr',htm',hml'⟩ := step_of hqt hn';rw [hm'] at d2 d3;clear hm';have hn0 : ¬ n = 0 := by omega
       have hn0' : ¬ n' = 0 := by omega
       have hml0 : (m : Int) < (n : Int) := by omega
       have hml0' : (m' : Int) < (n' : Int) := by omega
       go_wp2_with fail;refine wp_region_belowI (by kernel_rfl) (by kernel_rfl) (fun _ _ d _ _ h => by cases d <;> exact h) ?_
       simp only [List.map_cons, List.map_nil, ldz, lds, bare, gslot, lcz, lcs, Option.bind_some]
       repeat' ((try simp only [Act.put,lsi,lsz,lss]);first | (refine lexL_quiet (v := ?_) wantB_none rfl ?_ ?_;rotate_left;focus (intro wq hq;obtain ⟨hcq,hfq⟩ := bcell hq;go_simp;try with_reducible rfl)) | (refine lexL_loud wantB_none rfl (fun K hK => ?_);go_simp;((first | (go_at_call 83;refine (rmeet_any _ _ _ _ _ _ _ _ _).mono ?_;rintro e w1 ⟨rfl,hb1⟩;obtain ⟨hc1,hf1⟩ := bcell hb1;have hz1 := hb1.size;(try simp at hz1)) | skip) <;> (refine hK.out _ _ bel ?_;clear hK K))))
       (all_goals try simp only [Act.put,lsi,lsz,lss]);all_goals (refine lexL_nil ?_)
       go_wp2
       · go_ret
         exact ⟨ret_bool (by rw [HF.out,crossAny2_t (i := k) (k := q) (by rw [hl.1];exact hlt) (by rw [hl'.1];exact hqt) (by assumption)]),bel⟩
       · have hf : meetS ⟨(pt l k).x, (pt l k).y⟩ ⟨(nx l k).x, (nx l k).y⟩ ⟨(pt l' q).x, (pt l' q).y⟩ ⟨(nx l' q).x, (nx l' q).y⟩ = false := by first | assumption | (simpa using (by assumption : ¬ meetS ⟨(pt l k).x, (pt l k).y⟩ ⟨(nx l k).x, (nx l k).y⟩ ⟨(pt l' q).x, (pt l' q).y⟩ ⟨(nx l' q).x, (nx l' q).y⟩ = true))
         have HN := Lib.hid hf;clear hf
         go_roundw
         case rel => exact ⟨q + 1, by omega, by go_num, fun j hj => by
          by_cases e : j = q
          · subst e;exact HN.out
          · exact hnq.out j (by omega), bel⟩
         case measure => simp [intOf];omega
     · go_wp2
       go_roundw
       case rel => exact ⟨k + 1, by omega, by go_num, fun j hj p hp => by
        by_cases e : j = k
        · subst e;exact hnq.out p (by omega)
        · exact hno.out j (by omega) p hp, bel⟩
       case measure => simp [intOf];omega
  · have HR : Hid (ringsR l l' = false) := by
     unfold Hid
     rw [HF.out]
     exact crossAny2_f fun i hi p hp => hno.out i (by rw [hl.1] at hi;omega) p (by rw [← hl'.1];exact hp)
    go_wp2;go_ret;exact ⟨ret_bool HR.out.symm,bel⟩
theorem isBox_of {k : Int} {l : List Pt} (ho : ckOb ⟨k,l⟩ = 0) (hk : ¬ k = 4) : isBox ⟨k,l⟩ = true := by
 rcases bounds_k ho with h | h | h | h
 · subst h;rfl
 · subst h;rfl
 · subst h;rfl
 · exact absurd h hk
theorem bounds_of {k : Int} {l : List Pt} (ho : ckOb ⟨k,l⟩ = 0) (hk : ¬ k = 4) : boundsS ⟨k,l⟩ = obBox ⟨k,l⟩ := by
 unfold boundsS
 rw [isBox_of ho hk]
 rfl
theorem ring_of4 {l : List Pt} (ho : ckOb ⟨4,l⟩ = 0) : ckRing l = 0 := (ck_lens ho).2.2.2 rfl
theorem touch_no1 {a b : Ob} (h : ckOb a ≠ 0) : touchS a b = false := by unfold touchS;rw [decide_eq_false h];rfl
theorem touch_no2 {a b : Ob} (h : ckOb b ≠ 0) : touchS a b = false := by unfold touchS;rw [decide_eq_false h,Bool.and_false];rfl
theorem touch_yes {a b : Ob} (h : ckOb a = 0) (h' : ckOb b = 0) : touchS a b = meetsO a b := by unfold touchS;rw [decide_eq_true h,decide_eq_true h'];rfl
theorem touch_44 {l l' : List Pt} (ho : ckOb ⟨4,l⟩ = 0) (hq : ckOb ⟨4,l'⟩ = 0) : touchS ⟨4,l⟩ ⟨4,l'⟩ = ringsR l l' := by
 rw [touch_yes ho hq,← ringsS_eq (ring_of4 ho) (ring_of4 hq)]
 rfl
theorem touch_4b {k : Int} {l l' : List Pt} (ho : ckOb ⟨4,l⟩ = 0) (hq : ckOb ⟨k,l'⟩ = 0) (hk : ¬ k = 4) : touchS ⟨4,l⟩ ⟨k,l'⟩ = ringBoxR l (boundsS ⟨k,l'⟩) := by
 rw [touch_yes ho hq,← cutS_eq (ring_of4 ho) (bounds_okBx hq),bounds_of hq hk]
 unfold meetsO
 rw [isBox_of hq hk]
 rfl
theorem touch_b4 {k : Int} {l l' : List Pt} (ho : ckOb ⟨k,l⟩ = 0) (hq : ckOb ⟨4,l'⟩ = 0) (hk : ¬ k = 4) : touchS ⟨k,l⟩ ⟨4,l'⟩ = ringBoxR l' (boundsS ⟨k,l⟩) := by
 rw [touch_yes ho hq,← cutS_eq (ring_of4 hq) (bounds_okBx ho),bounds_of ho hk]
 unfold meetsO
 rw [isBox_of ho hk]
 rfl
theorem touch_bb {k k' : Int} {l l' : List Pt} (ho : ckOb ⟨k,l⟩ = 0) (hq : ckOb ⟨k',l'⟩ = 0) (hk : ¬ k = 4) (hk' : ¬ k' = 4) : touchS ⟨k,l⟩ ⟨k',l'⟩ = bmeets (boundsS ⟨k,l⟩) (boundsS ⟨k',l'⟩) := by
 rw [touch_yes ho hq,bounds_of ho hk,bounds_of hq hk']
 unfold meetsO
 rw [isBox_of ho hk,isBox_of hq hk']
 rfl
theorem rTouch_any (B n c n' c' : Nat) (k k' : Int) (A A' : Option Addr) (l l' : List Pt) (w : World) (hl : PtsAt w B A n l) (hl' : PtsAt w B A' n' l') (hB : B ≤ w.heap.size) (hn : n ≤ 1000000) (hn' : n' ≤ 1000000) :
 Calls Tryz.prog 28 #[obV k A n c,obV k' A' n' c'] w (Ret w (.bool (touchS ⟨k,l⟩ ⟨k',l'⟩))) := by
 by_cases ho : ckOb ⟨k,l⟩ = 0
 case neg =>
  have HF : Hid (touchS ⟨k,l⟩ ⟨k',l'⟩ = false) := touch_no1 ho;obtain ⟨m,hm⟩ : ∃ m : Nat,ckOb ⟨k,l⟩ = m := ⟨_,rfl⟩;have hm0 : ((m : Int) != 0) = true := by rw [bne_iff_ne];omega
  have HA := Lib.hid (fun w (h : PtsAt w B A n l) (hB : B ≤ w.heap.size) => rBounds_bad B n c k A l w h hB hn ho)
  rw [hm] at HA
  obtain ⟨Y,m',HB⟩ : ∃ (Y : Bx) (m' : Nat),Hid (∀ w,PtsAt w B A' n' l' → B ≤ w.heap.size → Calls Tryz.prog 54 #[obV k' A' n' c'] w (Ret w (.tuple #[bxW Y,.int .i64 m']))) := by
   by_cases hq : ckOb ⟨k', l'⟩ = 0
   · exact ⟨_, 0, fun w h hB => rBounds_ok B n' c' k' A' l' w h hB hn' hq⟩
   · exact ⟨_, _, fun w h hB => rBounds_bad B n' c' k' A' l' w h hB hn' hq⟩
  clear ho hm
  go_enter Tryz.func28, Tryz.ntmps28
  go_wp2_with (first | (go_at_call 54;have _hz := hza;refine (HB.out _ (hl'.tr bel hB) (Nat.le_trans hB (Below.size (B := w.heap.size) (w := w) bel))).mono ?_;rintro e w1 ⟨rfl,hb1⟩;obtain ⟨hc1,hf1⟩ := bcell hb1;have hz1 := hb1.size;(try simp at hz1)) | (go_at_call 54;refine (HA.out _ (hl.tr bel hB) (Nat.le_trans hB (Below.size (B := w.heap.size) (w := w) bel))).mono ?_;rintro e wa ⟨rfl,hba⟩;obtain ⟨hca,hfa⟩ := bcell hba;have hza := hba.size;(try simp at hza);have hy0 : w.heap.size < wa.heap.size := (by omega);have hy1 : w.heap.size + 1 < wa.heap.size := (by omega)))
  go_ret;exact ⟨ret_bool HF.out.symm,bel⟩
 have HA := Lib.hid (fun w (h : PtsAt w B A n l) (hB : B ≤ w.heap.size) => rBounds_ok B n c k A l w h hB hn ho)
 by_cases hq : ckOb ⟨k',l'⟩ = 0
 case neg =>
  have HF : Hid (touchS ⟨k,l⟩ ⟨k',l'⟩ = false) := touch_no2 hq;obtain ⟨m,hm⟩ : ∃ m : Nat,ckOb ⟨k',l'⟩ = m := ⟨_,rfl⟩;have hm0 : ((m : Int) != 0) = true := by rw [bne_iff_ne];omega
  have HB := Lib.hid (fun w (h : PtsAt w B A' n' l') (hB : B ≤ w.heap.size) => rBounds_bad B n' c' k' A' l' w h hB hn' hq)
  rw [hm] at HB;obtain ⟨X,hX⟩ : ∃ X,boundsS ⟨k,l⟩ = X := ⟨_,rfl⟩;rw [hX] at HA;clear ho hq hm hX
  go_enter Tryz.func28, Tryz.ntmps28
  go_wp2_with (first | (go_at_call 54;have _hz := hza;refine (HB.out _ (hl'.tr bel hB) (Nat.le_trans hB (Below.size (B := w.heap.size) (w := w) bel))).mono ?_;rintro e w1 ⟨rfl,hb1⟩;obtain ⟨hc1,hf1⟩ := bcell hb1;have hz1 := hb1.size;(try simp at hz1)) | (go_at_call 54;refine (HA.out _ (hl.tr bel hB) (Nat.le_trans hB (Below.size (B := w.heap.size) (w := w) bel))).mono ?_;rintro e wa ⟨rfl,hba⟩;obtain ⟨hca,hfa⟩ := bcell hba;have hza := hba.size;(try simp at hza);have hy0 : w.heap.size < wa.heap.size := (by omega);have hy1 : w.heap.size + 1 < wa.heap.size := (by omega)))
  go_ret;exact ⟨ret_bool HF.out.symm,bel⟩
 have HB := Lib.hid (fun w (h : PtsAt w B A' n' l') (hB : B ≤ w.heap.size) => rBounds_ok B n' c' k' A' l' w h hB hn' hq)
 by_cases hk : k = 4
 · subst hk
   by_cases hk' : k' = 4
   · subst hk'
     have HF : Hid (touchS ⟨4,l⟩ ⟨4,l'⟩ = ringsR l l') := touch_44 ho hq;have g1 : 1 ≤ n := by have := ck_len (ring_of4 ho);rw [hl.1] at this;omega
     have g2 : 1 ≤ n' := by have := ck_len (ring_of4 hq);rw [hl'.1] at this;omega
     have HR := Lib.hid (fun w (h : PtsAt w B A n l) (h' : PtsAt w B A' n' l') (hB : B ≤ w.heap.size) => rrings_any B n c n' c' A A' l l' w h h' hB hn hn' g1 g2)
     obtain ⟨X,hX⟩ : ∃ X,boundsS ⟨4,l⟩ = X := ⟨_,rfl⟩;rw [hX] at HA;obtain ⟨Y,hY⟩ : ∃ X,boundsS ⟨4,l'⟩ = X := ⟨_,rfl⟩;rw [hY] at HB;clear ho hq hX hY
     go_enter Tryz.func28, Tryz.ntmps28
     go_wp2_with (first | (go_at_call 54;have _hz := hza;refine (HB.out _ (hl'.tr bel hB) (Nat.le_trans hB (Below.size (B := w.heap.size) (w := w) bel))).mono ?_;rintro e w1 ⟨rfl,hb1⟩;obtain ⟨hc1,hf1⟩ := bcell hb1;have hz1 := hb1.size;(try simp at hz1);have hy0 : w.heap.size < w1.heap.size := (by omega);have hy1 : w.heap.size + 1 < w1.heap.size := (by omega);have hya : wa.heap.size < w1.heap.size := (by omega)) | (go_at_call 54;refine (HA.out _ (hl.tr bel hB) (Nat.le_trans hB (Below.size (B := w.heap.size) (w := w) bel))).mono ?_;rintro e wa ⟨rfl,hba⟩;obtain ⟨hca,hfa⟩ := bcell hba;have hza := hba.size;(try simp at hza);have hy0 : w.heap.size < wa.heap.size := (by omega);have hy1 : w.heap.size + 1 < wa.heap.size := (by omega)) | (go_at_call 55;refine (HR.out _ (hl.tr bel hB) (hl'.tr bel hB) (Nat.le_trans hB (Below.size (B := w.heap.size) (w := w) bel))).mono ?_;rintro e w2 ⟨rfl,hb2⟩))
     go_ret;exact ⟨ret_bool HF.out.symm,bel⟩
   · have HF : Hid (touchS ⟨4, l⟩ ⟨k', l'⟩ = ringBoxR l (boundsS ⟨k', l'⟩)) := touch_4b ho hq hk'
     obtain ⟨X,hX⟩ : ∃ X,boundsS ⟨4,l⟩ = X := ⟨_,rfl⟩;rw [hX] at HA;obtain ⟨Y,hY⟩ : ∃ X,boundsS ⟨k',l'⟩ = X := ⟨_,rfl⟩;rw [hY] at HB HF;have HR := Lib.hid (fun w (h : PtsAt w B A n l) (hB : B ≤ w.heap.size) => rringBox_any B n c Y A l w h hB hn)
     clear ho hq hX hY
     go_enter Tryz.func28, Tryz.ntmps28
     go_wp2_with (first | (go_at_call 54;have _hz := hza;refine (HB.out _ (hl'.tr bel hB) (Nat.le_trans hB (Below.size (B := w.heap.size) (w := w) bel))).mono ?_;rintro e w1 ⟨rfl,hb1⟩;obtain ⟨hc1,hf1⟩ := bcell hb1;have hz1 := hb1.size;(try simp at hz1);have hy0 : w.heap.size < w1.heap.size := (by omega);have hy1 : w.heap.size + 1 < w1.heap.size := (by omega);have hya : wa.heap.size < w1.heap.size := (by omega)) | (go_at_call 54;refine (HA.out _ (hl.tr bel hB) (Nat.le_trans hB (Below.size (B := w.heap.size) (w := w) bel))).mono ?_;rintro e wa ⟨rfl,hba⟩;obtain ⟨hca,hfa⟩ := bcell hba;have hza := hba.size;(try simp at hza);have hy0 : w.heap.size < wa.heap.size := (by omega);have hy1 : w.heap.size + 1 < wa.heap.size := (by omega)) | (go_at_call 56;refine (HR.out _ (hl.tr bel hB) (Nat.le_trans hB (Below.size (B := w.heap.size) (w := w) bel))).mono ?_;rintro e w2 ⟨rfl,hb2⟩))
     go_ret;exact ⟨ret_bool HF.out.symm,bel⟩
 · by_cases hk' : k' = 4
   · subst hk'
     have HF : Hid (touchS ⟨k,l⟩ ⟨4,l'⟩ = ringBoxR l' (boundsS ⟨k,l⟩)) := touch_b4 ho hq hk;obtain ⟨X,hX⟩ : ∃ X,boundsS ⟨k,l⟩ = X := ⟨_,rfl⟩;rw [hX] at HA HF;obtain ⟨Y,hY⟩ : ∃ X,boundsS ⟨4,l'⟩ = X := ⟨_,rfl⟩;rw [hY] at HB;have HR := Lib.hid (fun w (h : PtsAt w B A' n' l') (hB : B ≤ w.heap.size) => rringBox_any B n' c' X A' l' w h hB hn')
     clear ho hq hX hY
     go_enter Tryz.func28, Tryz.ntmps28
     go_wp2_with (first | (go_at_call 54;have _hz := hza;refine (HB.out _ (hl'.tr bel hB) (Nat.le_trans hB (Below.size (B := w.heap.size) (w := w) bel))).mono ?_;rintro e w1 ⟨rfl,hb1⟩;obtain ⟨hc1,hf1⟩ := bcell hb1;have hz1 := hb1.size;(try simp at hz1);have hy0 : w.heap.size < w1.heap.size := (by omega);have hy1 : w.heap.size + 1 < w1.heap.size := (by omega);have hya : wa.heap.size < w1.heap.size := (by omega)) | (go_at_call 54;refine (HA.out _ (hl.tr bel hB) (Nat.le_trans hB (Below.size (B := w.heap.size) (w := w) bel))).mono ?_;rintro e wa ⟨rfl,hba⟩;obtain ⟨hca,hfa⟩ := bcell hba;have hza := hba.size;(try simp at hza);have hy0 : w.heap.size < wa.heap.size := (by omega);have hy1 : w.heap.size + 1 < wa.heap.size := (by omega)) | (go_at_call 56;refine (HR.out _ (hl'.tr bel hB) (Nat.le_trans hB (Below.size (B := w.heap.size) (w := w) bel))).mono ?_;rintro e w2 ⟨rfl,hb2⟩))
     go_ret;exact ⟨ret_bool HF.out.symm,bel⟩
   · have HF : Hid (touchS ⟨k, l⟩ ⟨k', l'⟩ = bmeets (boundsS ⟨k, l⟩) (boundsS ⟨k', l'⟩)) := touch_bb ho hq hk hk'
     obtain ⟨X,hX⟩ : ∃ X,boundsS ⟨k,l⟩ = X := ⟨_,rfl⟩;rw [hX] at HA HF;obtain ⟨Y,hY⟩ : ∃ X,boundsS ⟨k',l'⟩ = X := ⟨_,rfl⟩;rw [hY] at HB HF;have HR := Lib.hid (fun w => rboxMeets_any X.lo.x X.lo.y X.hi.x X.hi.y Y.lo.x Y.lo.y Y.hi.x Y.hi.y w)
     clear ho hq hX hY
     go_enter Tryz.func28, Tryz.ntmps28
     go_wp2_with (first | (go_at_call 54;have _hz := hza;refine (HB.out _ (hl'.tr bel hB) (Nat.le_trans hB (Below.size (B := w.heap.size) (w := w) bel))).mono ?_;rintro e w1 ⟨rfl,hb1⟩;obtain ⟨hc1,hf1⟩ := bcell hb1;have hz1 := hb1.size;(try simp at hz1);have hy0 : w.heap.size < w1.heap.size := (by omega);have hy1 : w.heap.size + 1 < w1.heap.size := (by omega);have hya : wa.heap.size < w1.heap.size := (by omega)) | (go_at_call 54;refine (HA.out _ (hl.tr bel hB) (Nat.le_trans hB (Below.size (B := w.heap.size) (w := w) bel))).mono ?_;rintro e wa ⟨rfl,hba⟩;obtain ⟨hca,hfa⟩ := bcell hba;have hza := hba.size;(try simp at hza);have hy0 : w.heap.size < wa.heap.size := (by omega);have hy1 : w.heap.size + 1 < wa.heap.size := (by omega)) | (go_at_call 57;refine (HR.out _).mono ?_;rintro e w2 ⟨rfl,hb2⟩))
     go_ret;exact ⟨ret_bool HF.out.symm,bel⟩
end Go.Proofs.YtcbjmcnebmhgpaaGreat
