/-Contracts of the references of chapters 5 and 6-/
import Derived.Test.YteodamnfgcnmmaaGreatDoorRRef6
import Derived.Test.YteodamnfgcnmmaaGreatDoorRErrIs
import Derived.Test.YteodamnfgcnmmaaGreatDoorRWide
set_option linter.unusedVariables false
set_option linter.unusedSimpArgs false
set_option maxHeartbeats 2000000
set_option maxRecDepth 20000
namespace Go.Proofs.YteodamnfgcnmmaaGreatDoor
open Go.RowKit Pg
theorem qn6 (B n c:Nat) (A:Option Addr) (l:List Pt) (w:World) (hl:qax w B A n l) (hB:B<=w.heap.size) (hn:n<=1000000) (hm:qbl l=0):
 C9 38 #[.slice A n c] w (Ret2 w 0):=by
 have h:=qhn B n c A l w hl hB hn;rw [<-qme,hm] at h;exact h
theorem q5i {w:World} {x y z u:Value} {t:TypeId}:∀(j:Nat) (v:Value),[x,y,z,u][j]? =some v->(w.alloc (.cells #[x,y,z,u] t)).drew.cell? ((⟨w.heap.size,0,none⟩:Addr).add j)=some v:=by
 intro j v hj
 match j,hj with
 | 0,hj=>simp at hj;subst hj;simp [Addr.add]
 | 1,hj=>simp at hj;subst hj;simp [Addr.add]
 | 2,hj=>simp at hj;subst hj;simp [Addr.add]
 | 3,hj=>simp at hj;subst hj;simp [Addr.add]
theorem q25 {x y z u:Int}:∀v∈ [Value.int .i64 x,.int .i64 y,.int .i64 z,.int .i64 u],v.oneCell' =true:=by
 intro v hv;simp only [List.mem_cons,List.not_mem_nil,or_false] at hv
 rcases hv with rfl|rfl|rfl|rfl<;>rfl
theorem qhe {P:Program} {f:Func} {Q:Ending->World->Prop} {x:Exit} {a:Act} {w:World} (R:World->Prop) (h:R w) (k:∀w2,R w2->bodyPost P f Q x a w2):bodyPost P f Q x a w:=k w h
theorem qk8 (B n c:Nat) (A:Option Addr) (l:List Pt) (w:World) (hl:qax w B A n l) (hB:B<=w.heap.size) (hck:qbl l=0):
 C9 107 #[.slice A n c] w (Ret w (.tuple #[bxV (qa9 l).lo.x (qa9 l).lo.y (qa9 l).hi.x (qa9 l).hi.y,.int .i64 0,.int .i64 0])):=by
 have hn:n<=64:=by have:=qno hck;rw [hl.1] at this;omega
 have HC:=hdQ hck;clear hck;obtain⟨i0,hi,iz0,iz1,iz2⟩:=info_parts Tryz.infoBox
 go_enter Tryz.func107,Tryz.ntmps107
 go_wp2_with (go_at_call 38;refine(qn6 B n c A l _ (hl.tr bel hB) (bsz w hB) oQ HC.out).mono ?_;rintro e w1 ⟨id1,rfl,hb1⟩;obtain⟨hc1,hf1,hz1⟩:=bc3 hb1;(try simp at hz1);have hy0:=ol1 w w1)
 have hP0:Blk w1 w.heap.size 46 #[.int .i64 0,.int .i64 0,.int .i64 0,.int .i64 0]:=blkA;have hb0:Below w.heap.size w w1:=bel
 go_loopw [7,8] (fun s i wr=>∃k:Nat,k<=n/\i=.int .i64 k/\wr.ownsRow (w.heap.size+1) 46 4 s k (qd2 ((l.take k).map pbox))/\Blk wr w.heap.size 46 #[.int .i64 0,.int .i64 0,.int .i64 0,.int .i64 0]/\Below w.heap.size w wr) (fun _ i _=>n-(intOf i).toNat)
 case atStart=>exact ⟨0,zly _,rfl,World.ownsRow_nil _ _ _ _,hP0,hb0⟩
 case round=>
  obtain⟨k,hk,rfl,hown,hP,hb⟩:=hrel
  by_cases hlt:k<n
  · obtain⟨b,off,rfl,hab,c0,c1⟩:=(hl.below (hb.mono hB)).at_ hlt
    have hPl:=hP.lt;have hbs:=hb.size;have hbw:b<wr.heap.size:=oQ
    have hk0:(k:Int)<(n:Int):=oQ
    clear hb0 hP0;have hkl:k<l.length:=by rw [hl.1];exact hlt
    go_wp2_with fail;have hbw9:b<w.heap.size+1:=oQ
    have hb5:Below (w.heap.size+1) wr (wr.alloc (.cells #[.int .i64 (pt l k).x,.int .i64 (pt l k).y,.int .i64 (pt l k).x,.int .i64 (pt l k).y] 46)):=Below.mono (B:=wr.heap.size) bel oQ
    go_wp2_with fail;refine qa3 (w.heap.size+1) [0,1,2,3,4,5,6,7,8,9,10,11,12] kr kr pq ?_
    simp only [zdy,zey,ldz,lds,bare,qal,lcz,lcs,zay]
    repeat' ((try simp only [Act.put,lsi,lsz,lss]);first|(refine lqy ?_)|(refine qab qaa rfl (fun K hK=> ?_);(refine wp_append_own _ _ _ 244 rfl (w.heap.size+1) 46 i0 (.agg #[.int .i64 0,.int .i64 0,.int .i64 0,.int .i64 0]) 4 32 Tryz.underlying244 hi iz0 iz1 iz2 rfl dE _ _ _ rfl (qf3 (hown.alloc _)) ⟨wr.heap.size,0,none⟩ 1 1 [.int .i64 (pt l k).x,.int .i64 (pt l k).y,.int .i64 (pt l k).x,.int .i64 (pt l k).y] rfl rfl ?_ ?_ ?_ ?_ ?_ ?_);(focus(exact q5i));(focus(exact q25));(focus(unfold maxLen;omega));(focus omega);(focus(simp;omega));intro v' w2 hown' hgrow _;have hlt' :=hown.lt;have hb2:Below w.heap.size w w2:=(Below.grown (w:=(wr.alloc _).drew) bel hgrow (by simp;omega) (fun j e=>by have:=(hlt' j e).1;omega));have hb3:Below (w.heap.size+1) ((wr.alloc (.cells #[.int .i64 (pt l k).x,.int .i64 (pt l k).y,.int .i64 (pt l k).x,.int .i64 (pt l k).y] 46)).drew) w2:=(Below.grown (w:=(wr.alloc (.cells #[.int .i64 (pt l k).x,.int .i64 (pt l k).y,.int .i64 (pt l k).x,.int .i64 (pt l k).y] 46)).drew) (Below.refl _ _) hgrow (by simp;omega) (fun j e=>(hlt' j e).1));have hb4:Below (w.heap.size+1) wr w2:=(Below.trans bel hb3);refine hK.out _ _ (by first|with_reducible exact qbq|with_reducible exact Below.drew qbq|exact bel) ?_;clear hK K)|(refine qab qaa rfl (fun K hK=> ?_);go_simp;((first|fail  | skip)<;>(refine hK.out _ _ (by first|with_reducible exact qbq|with_reducible exact Below.drew qbq|exact bel) ?_;clear hK K))))
    (all_goals try simp only [Act.put,lsi,lsz,lss]);all_goals(refine qad ?_)
    have hP2:Blk w2 w.heap.size 46 #[.int .i64 0,.int .i64 0,.int .i64 0,.int .i64 0]:=(hP.alloc _).drew.below hb3 oQ
    have hown2:w2.ownsRow (w.heap.size+1) 46 4 v' (k+1) (qd2 ((l.take (k+1)).map pbox)):=by
     have:qd2 ((l.take (k+1)).map pbox)=qd2 ((l.take k).map pbox)++ [.int .i64 (pt l k).x,.int .i64 (pt l k).y,.int .i64 (pt l k).x,.int .i64 (pt l k).y]:=by
      rw [zwy,qn8 hkl]
      simp only [Option.toList_some,zfx,zdy,zey,qh9]
      rfl
     rw [this]
     exact hown'
    clear hown' hgrow hown hP hlt' hb3 c0 c1;go_wp2
    go_roundw
    case rel=>exact ⟨k+1,by omega,by go_num,hown2,hP2,hb2⟩
    case measure=>simp [intOf];omega
  · have hkn:k=n:=oQ
    subst hkn;obtain⟨A2,c2,rfl,hbx⟩:=qjp (l:=(l.take k).map pbox) hown (by simp [hl.1])
    rw [zmy (by rw [hl.1];exact zhy _)] at hbx
    have hPc:=hP.cell;have hPf:=hP.frozen;have hPl:=hP.lt
    have HW:C9 148 #[.slice A2 k c2] wr (Ret wr (.tuple #[bxV (qa9 l).lo.x (qa9 l).lo.y (qa9 l).hi.x (qa9 l).hi.y,.int .i64 0])):=by
     have:=qjc wr.heap.size k c2 A2 (l.map pbox) wr hbx (zhy _) oQ
     rw [show l.map pbox=l.map (fun p=>⟨p,p⟩) from rfl,qyb HC.out] at this
     exact this
    clear hb0 hP0 hb1 hc1 hf1 hy0
    go_wp2_with (go_at_call 148;refine HW.monoR ?_;rintro w1 hb1 hc1 hf1 hz1;(try simp at hz1);have hy0:=ol1 w w1)
    refine qhe (R:=fun w2=>Blk w2 w.heap.size 46 #[.int .i64 (qa9 l).lo.x,.int .i64 (qa9 l).lo.y,.int .i64 (qa9 l).hi.x,.int .i64 (qa9 l).hi.y]/\Below w.heap.size w w2) ⟨(((((((hP.tr hb1)).set_ 0 (.int .i64 (qa9 l).lo.x)).set_ 1 (.int .i64 (qa9 l).lo.y)).set_ 2 (.int .i64 (qa9 l).hi.x)).set_ 3 (.int .i64 (qa9 l).hi.y)).alloc _).eq_ sI,bel⟩ ?_
    rintro w2 ⟨HR,hb2⟩;have r0:=HR.cell 0;have r1:=HR.cell 1;have r2:=HR.cell 2;have r3:=HR.cell 3
    simp at r0 r1 r2 r3
    exact bodyPost_ret (v:=.tuple #[bxV (qa9 l).lo.x (qa9 l).lo.y (qa9 l).hi.x (qa9 l).hi.y,.int .i64 0,.int .i64 0]) (by simp [results,Tryz.results107,go_sem,r0,r1,r2,r3]) rfl ⟨rfl,hb2⟩
theorem qep {W:World} {g:Nat} {t:TypeId} {x y z u a b c d:Value} (h:Blk W g t #[x,y,z,u]):
 Blk ((((W.setCell ⟨g,0,none⟩ a).setCell ⟨g,1,none⟩ b).setCell ⟨g,2,none⟩ c).setCell ⟨g,3,none⟩ d) g t #[a,b,c,d]:=
 ((((h.set_ 0 a).set_ 1 b).set_ 2 c).set_ 3 d).eq_ sI
theorem qo3 {k:Int} {l:List Pt} (ho:ckOb ⟨k,l⟩=0):k=1\/k=2\/k=3\/k=4:=by
 by_cases k1:k=1
 · exact .inl k1
 by_cases k2:k=2
 · exact .inr (.inl k2)
 by_cases k3:k=3
 · exact .inr (.inr (.inl k3))
 by_cases k4:k=4
 · exact .inr (.inr (.inr k4))
 · simp [ckOb,k1,k2,k3,k4] at ho
theorem qh1 (B n c:Nat) (k:Int) (A:Option Addr) (l:List Pt) (w:World) (hl:qax w B A n l) (hB:B<=w.heap.size) (hn:n<=1000000) (ho:ckOb ⟨k,l⟩≠0):
 C9 67 #[obV k A n c] w (Ret w (.tuple #[bxW qdg,.int .i64 (ckOb ⟨k,l⟩)])):=by
 obtain⟨m,hm⟩:∃m:Nat,ckOb ⟨k,l⟩=m:=⟨_,rfl⟩
 rw [hm] at ho ⊢
 have hm0:((m:Int) !=0)=true:=by rw [bne_iff_ne];omega
 have HF:Hid (qeo ⟨k,l⟩=m):=by unfold Hid;rw [<-qtd];exact hm
 clear hm ho
 go_enter Tryz.func67,Tryz.ntmps67
 go_wp2_with (go_at_call 83;refine(qex B n c k A l _ (hl.tr bel hB) (bsz w hB) hn).mono ?_;rw [HF.out];rintro e w1 ⟨rfl,hb1⟩;obtain⟨hc1,hf1,hz1⟩:=bc3 hb1;(try simp at hz1);obtain⟨hy0,hy1⟩:=ol2 w w1)
 refine qhe (R:=fun w2=>Blk w2 (w.heap.size+1) 46 #[.int .i64 0,.int .i64 0,.int .i64 0,.int .i64 0]/\Below w.heap.size w w2) ⟨qep (x:=.int .i64 0) (y:=.int .i64 0) (z:=.int .i64 0) (u:=.int .i64 0) blkA,bel⟩ ?_
 rintro w2 ⟨HR,hb2⟩;have r0:=HR.cell 0;have r1:=HR.cell 1;have r2:=HR.cell 2;have r3:=HR.cell 3
 simp at r0 r1 r2 r3
 exact bodyPost_ret (v:=.tuple #[bxW qdg,.int .i64 m]) (by simp [results,Tryz.results67,go_sem,r0,r1,r2,r3,qdg]) rfl ⟨rfl,hb2⟩
theorem qhb (B n c:Nat) (k:Int) (A:Option Addr) (l:List Pt) (w:World) (hl:qax w B A n l) (hB:B<=w.heap.size) (hn:n<=1000000) (ho:ckOb ⟨k,l⟩=0):
 C9 67 #[obV k A n c] w (Ret w (.tuple #[bxW (qbb ⟨k,l⟩),.int .i64 0])):=by
 have HF:Hid (qeo ⟨k,l⟩=0):=by unfold Hid;rw [<-qtd];exact ho
 have hlens:=qtc ho;rw [hl.1] at hlens;obtain⟨p1,p2,p3,p4⟩:=hlens
 have hn1:0<n:=by
  rcases qo3 ho with h|h|h|h
  · exact p1 (.inl h)
  · exact p1 (.inr h)
  · exact zky dE (p2 h)
  · have:=qno (p4 (by rw [h];rfl))
    rw [hl.1] at this
    omega
 obtain⟨b,off,rfl,hab,c0,c1⟩:=hl.at_ (k:=0) hn1;simp only [Nat.zero_mul,Nat.add_zero] at c0 c1;have hbw:b<w.heap.size:=oQ
 have hbw1:b<w.heap.size+1:=oQ
 have hbw2:b<w.heap.size+1+1:=oQ
 rcases qo3 ho with h|h|h|h
 · subst h
   have HS:Hid (qbb ⟨1,l⟩=⟨pt l 0,pt l 0⟩):=rfl;clear ho p1 p2 p3 p4
   go_enter Tryz.func67,Tryz.ntmps67
   go_wp2_with (go_at_call 83;refine(qex B n c 1 _ l _ (hl.tr bel hB) (bsz w hB) hn).mono ?_;rw [HF.out];rintro e w1 ⟨rfl,hb1⟩;obtain⟨hc1,hf1,hz1⟩:=bc3 hb1;(try simp at hz1);obtain⟨hy0,hy1⟩:=ol2 w w1;have hbx:b<w1.heap.size:=oQ)
   refine qhe (R:=fun w2=>Blk w2 (w.heap.size+1) 46 #[.int .i64 (pt l 0).x,.int .i64 (pt l 0).y,.int .i64 (pt l 0).x,.int .i64 (pt l 0).y]/\Below w.heap.size w w2) ⟨(qep (x:=.int .i64 0) (y:=.int .i64 0) (z:=.int .i64 0) (u:=.int .i64 0) blkA).alloc _,bel⟩ ?_
   rintro w2 ⟨HR,hb2⟩;have r0:=HR.cell 0;have r1:=HR.cell 1;have r2:=HR.cell 2;have r3:=HR.cell 3
   simp at r0 r1 r2 r3
   rw [HS.out]
   exact bodyPost_ret (v:=.tuple #[.agg #[.int .i64 (pt l 0).x,.int .i64 (pt l 0).y,.int .i64 (pt l 0).x,.int .i64 (pt l 0).y],.int .i64 0]) (by simp [results,Tryz.results67,go_sem,r0,r1,r2,r3]) rfl ⟨rfl,hb2⟩
 · subst h
   have HS:Hid (qbb ⟨2,l⟩=⟨⟨(pt l 0).x,0⟩,⟨(pt l 0).y,0⟩⟩):=rfl;clear ho p1 p2 p3 p4
   go_enter Tryz.func67,Tryz.ntmps67
   go_wp2_with (go_at_call 83;refine(qex B n c 2 _ l _ (hl.tr bel hB) (bsz w hB) hn).mono ?_;rw [HF.out];rintro e w1 ⟨rfl,hb1⟩;obtain⟨hc1,hf1,hz1⟩:=bc3 hb1;(try simp at hz1);obtain⟨hy0,hy1⟩:=ol2 w w1;have hbx:b<w1.heap.size:=oQ)
   refine qhe (R:=fun w2=>Blk w2 (w.heap.size+1) 46 #[.int .i64 (pt l 0).x,.int .i64 0,.int .i64 (pt l 0).y,.int .i64 0]/\Below w.heap.size w w2) ⟨(qep (x:=.int .i64 0) (y:=.int .i64 0) (z:=.int .i64 0) (u:=.int .i64 0) blkA).alloc _,bel⟩ ?_
   rintro w2 ⟨HR,hb2⟩;have r0:=HR.cell 0;have r1:=HR.cell 1;have r2:=HR.cell 2;have r3:=HR.cell 3
   simp at r0 r1 r2 r3
   rw [HS.out]
   exact bodyPost_ret (v:=.tuple #[.agg #[.int .i64 (pt l 0).x,.int .i64 0,.int .i64 (pt l 0).y,.int .i64 0],.int .i64 0]) (by simp [results,Tryz.results67,go_sem,r0,r1,r2,r3]) rfl ⟨rfl,hb2⟩
 · subst h
   have HS:Hid (qbb ⟨3,l⟩=⟨pt l 0,pt l 1⟩):=rfl;have hn2:1<n:=p2 rfl;have hn3:(1:Int)<n:=oQ
   obtain⟨b',off',he,hab',c2,c3⟩:=hl.at_ (k:=1) hn2;injection he with he
   injection he with he1 he2
   subst he1 he2;simp only [Nat.one_mul] at c2 c3;clear ho p1 p2 p3 p4
   go_enter Tryz.func67,Tryz.ntmps67
   go_wp2_with (go_at_call 83;refine(qex B n c 3 _ l _ (hl.tr bel hB) (bsz w hB) hn).mono ?_;rw [HF.out];rintro e w1 ⟨rfl,hb1⟩;obtain⟨hc1,hf1,hz1⟩:=bc3 hb1;(try simp at hz1);obtain⟨hy0,hy1⟩:=ol2 w w1;have hbx:b<w1.heap.size:=oQ)
   have hbl:off+1*2=off+2:=oQ
   refine qpe (fun w2=>Below w.heap.size w w2/\Blk w2 w.heap.size 62 #[.int .i64 3,.slice (some ⟨b,off,none⟩) n c]/\Blk w2 (w.heap.size+1) 46 #[.int .i64 0,.int .i64 0,.int .i64 0,.int .i64 0]/\Blk w2 w1.heap.size 24 #[.int .i64 (pt l 0).x,.int .i64 (pt l 0).y]) ⟨bel,blkA,blkA,blkA⟩ ?_
   clear hb1 hc1 hf1;rintro w2 ⟨hb,hO,hZ,hP⟩;have o1:=hO.cell 1;have q0:=hP.cell 0;have q1:=hP.cell 1;have z0:=hZ.cell 0;have z1:=hZ.cell 1;have z2:=hZ.cell 2;have z3:=hZ.cell 3;have fZ:=hZ.frozen;have lZ:=hZ.lt;have lO:=hO.lt;have lP:=hP.lt
   simp at o1 q0 q1 z0 z1 z2 z3
   obtain⟨_,_,ho,_,c2,c3⟩:=(hl.below (hb.mono hB)).at_ hn2;injection ho with ho
   injection ho with ho1 ho2
   subst ho1 ho2;simp only [Nat.one_mul] at c2 c3;have hbr:b<w2.heap.size:=by have:=hb.size;omega
   go_still_tail 6,kr
   change wpList _ _ _ _ _ w2.drew
   go_wp2;refine qhe (R:=fun w2=>Blk w2 (w.heap.size+1) 46 #[.int .i64 (pt l 0).x,.int .i64 (pt l 0).y,.int .i64 (pt l 1).x,.int .i64 (pt l 1).y]/\Below w.heap.size w w2) ⟨qep hZ.drew,bel⟩ ?_
   rintro w2 ⟨HR,hb2⟩;have r0:=HR.cell 0;have r1:=HR.cell 1;have r2:=HR.cell 2;have r3:=HR.cell 3
   simp at r0 r1 r2 r3
   rw [HS.out]
   exact bodyPost_ret (v:=.tuple #[.agg #[.int .i64 (pt l 0).x,.int .i64 (pt l 0).y,.int .i64 (pt l 1).x,.int .i64 (pt l 1).y],.int .i64 0]) (by simp [results,Tryz.results67,go_sem,r0,r1,r2,r3]) rfl ⟨rfl,hb2⟩
 · subst h
   have HS:Hid (qbb ⟨4,l⟩=qa9 l):=rfl;have hck:=hdQ (p4 rfl);clear ho p1 p2 p3 p4
   go_enter Tryz.func67,Tryz.ntmps67
   go_wp2_with (first|(go_at_call 83;refine(qex B n c 4 _ l _ (hl.tr bel hB) (bsz w hB) hn).mono ?_;rw [HF.out];rintro e w1 ⟨rfl,hb1⟩;obtain⟨hc1,hf1,hz1⟩:=bc3 hb1;(try simp at hz1);obtain⟨hy0,hy1⟩:=ol2 w w1;have hbx:b<w1.heap.size:=oQ)|(go_at_call 107;refine(qk8 B n c _ l _ (hl.tr bel hB) (bsz w hB) hck.out).monoR ?_;rintro wa hba hca hfa hza;(try simp at hza);obtain⟨hya0,hya1⟩:=ol2 w wa))
   refine qhe (R:=fun w2=>Blk w2 (w.heap.size+1) 46 #[.int .i64 (qa9 l).lo.x,.int .i64 (qa9 l).lo.y,.int .i64 (qa9 l).hi.x,.int .i64 (qa9 l).hi.y]/\Below w.heap.size w w2) ⟨(qep (x:=.int .i64 0) (y:=.int .i64 0) (z:=.int .i64 0) (u:=.int .i64 0) blkA).alloc _,bel⟩ ?_
   rintro w2 ⟨HR,hb2⟩;have r0:=HR.cell 0;have r1:=HR.cell 1;have r2:=HR.cell 2;have r3:=HR.cell 3
   simp at r0 r1 r2 r3
   rw [HS.out]
   exact bodyPost_ret (v:=.tuple #[.agg #[.int .i64 (qa9 l).lo.x,.int .i64 (qa9 l).lo.y,.int .i64 (qa9 l).hi.x,.int .i64 (qa9 l).hi.y],.int .i64 0]) (by simp [results,Tryz.results67,go_sem,r0,r1,r2,r3]) rfl ⟨rfl,hb2⟩
theorem Blk.ne {w:World} {g g' :Nat} {t t' :TypeId} {cs cs' :Array Value} (h:Blk w g t cs) (h' :Blk w g' t' cs') (ht:t≠t'):g≠g' :=by
 intro e;subst e;have h2:=(zjx (h.symm.trans h'));injection h2 with h3 h4
 exact ht h4
theorem qp3 (B n c:Nat) (px py:Int) (A:Option Addr) (l:List Pt) (w:World) (hl:qax w B A n l) (hB:B<=w.heap.size) (hn:n<=1000000):
 C9 110 #[.slice A n c,ptV px py] w (Ret w (.bool (qmu l ⟨px,py⟩))):=by
 go_enter Tryz.func110,Tryz.ntmps110
 go_wp2
 go_loopw [5] (fun i wr=>∃k:Nat,k<=n/\i=.int .i64 k/\Hid (∀j,j<k->onS (pt l j) (nx l j) ⟨px,py⟩=false)/\Blk wr w.heap.size 24 #[.int .i64 px,.int .i64 py]/\Below w.heap.size w wr) (fun i _=>n-(intOf i).toNat)
 case atStart=>exact ⟨0,zly _,rfl,fun j hj=>by omega,Blk.new rfl rfl,bel⟩
 case round=>
  obtain⟨k,hk,rfl,hno,hP,hb⟩:=hrel
  by_cases hlt:k<n
  · obtain⟨b,off,rfl,hab,c0,c1⟩:=(hl.below (hb.mono hB)).at_ hlt
    obtain⟨c2,c3⟩:=qy0 (hl.below (hb.mono hB)) hlt;have hPl:=hP.lt;have hPc:=hP.cell;have hbs:=hb.size;have hbw:b<wr.heap.size:=oQ
    have hk0:(k:Int)<(n:Int):=oQ
    have hk3:(0:Int)<=(k:Int)+1:=oQ
    obtain⟨m,hm,hwr,htm,hml⟩:=qku hlt hn;rw [hm] at c2 c3;clear hm;have hn0:¬ n=0:=oQ
    have hml0:(m:Int)<(n:Int):=oQ
    go_wp2_with fail;refine qac kr kr pq ?_
    simp only [zdy,zey,ldz,lds,bare,qal,lcz,lcs,zay]
    repeat' ((try simp only [Act.put,lsi,lsz,lss]);first|(refine lqx ?_)|(refine qab qaa rfl (fun K hK=> ?_);go_simp;((first|(go_at_call 152;refine(qx9 _ _ _ _ _ _ _).monoR ?_;rintro w1 hb1 hc1 hf1 hz1;(try simp at hz1))|skip)<;>(refine hK.out _ _ bel ?_;clear hK K))))
    (all_goals try simp only [Act.put,lsi,lsz,lss]);all_goals(refine qad ?_)
    go_wp2
    · go_ret
      exact⟨qam (qcl _ (fun j=>onS (pt l j) (nx l j) ⟨px,py⟩) k (by rw [hl.1];exact hlt) (by assumption)).symm,bel⟩
    · have hf:onS ⟨(pt l k).x,(pt l k).y⟩ ⟨(nx l k).x,(nx l k).y⟩ ⟨px,py⟩=false:=by first|assumption|(simpa using (by assumption:¬ onS ⟨(pt l k).x,(pt l k).y⟩ ⟨(nx l k).x,(nx l k).y⟩ ⟨px,py⟩=true))
      have HF:=hdQ hf;clear hf
      go_roundw
      case rel=>exact ⟨k+1,by omega,by go_num,fun j hj=>by
       by_cases e:j=k
       · subst e;exact HF.out
       · exact hno.out j oQ,blkA,bel⟩
      case measure=>simp [intOf];omega
  · have HF:Hid (qmu l ⟨px,py⟩=false):=qcg _ _ fun j hj=>hno.out j (by rw [hl.1] at hj;omega)
    go_wp2;go_ret;exact⟨qam HF.out.symm,hb⟩
theorem q7r {A B C:Prop} [Decidable A] [Decidable B] [Decidable C] {p:Bool} (h:A/\B/\C):Value.bool (!p)=Value.bool (xor p (decide A&&decide B&&decide C)):=by
 rw [decide_eq_true h.1,decide_eq_true h.2.1,decide_eq_true h.2.2];simp
theorem q7s {A B C:Prop} [Decidable A] [Decidable B] [Decidable C] {p:Bool} (h:¬ (A/\B/\C)):Value.bool p=Value.bool (xor p (decide A&&decide B&&decide C)):=by
 have:(decide A&&decide B&&decide C)=false:=by
  cases hd:(decide A&&decide B&&decide C)
  · rfl
  · simp at hd;exact absurd ⟨hd.1.1,hd.1.2,hd.2⟩ h
 rw [this];simp
theorem qyc (B n c:Nat) (px py:Int) (A:Option Addr) (l:List Pt) (w:World) (hl:qax w B A n l) (hB:B<=w.heap.size) (hn:n<=1000000):
 C9 69 #[.slice A n c,ptV px py] w (Ret w (.bool (qih l ⟨px,py⟩))):=by
 cases he:qmu l ⟨px,py⟩
 case true=>
  have HG:Hid (qih l ⟨px,py⟩=true):=by unfold Hid qih;rw [he];rfl
  have HEB:=hdQ he;clear he
  go_enter Tryz.func69,Tryz.ntmps69
  go_wp2_with (go_at_call 110;refine(qp3 B n c _ _ A l _ (hl.tr bel hB) (bsz w hB) hn).mono ?_;rw [HEB.out];rintro e w1 ⟨rfl,hb1⟩;obtain⟨hc1,hf1,hz1⟩:=bc3 hb1;(try simp at hz1);have hy0:=ol1 w w1)
  go_ret;exact⟨qam HG.out.symm,bel⟩
 case false=>
  have HG:Hid (qih l ⟨px,py⟩=qcd l ⟨px,py⟩ l.length):=by unfold Hid qih;rw [he];rfl
  have HEB:=hdQ he;clear he
  go_enter Tryz.func69,Tryz.ntmps69
  go_wp2_with (go_at_call 110;refine(qp3 B n c _ _ A l _ (hl.tr bel hB) (bsz w hB) hn).mono ?_;rw [HEB.out];rintro e w1 ⟨rfl,hb1⟩;obtain⟨hc1,hf1,hz1⟩:=bc3 hb1;(try simp at hz1);have hy0:=ol1 w w1)
  have hP0:Blk w1 w.heap.size 24 #[.int .i64 px,.int .i64 py]:=blkA;have hb0:Below w.heap.size w w1:=bel
  go_loopw [5,6,7,8] (fun s i _ _ wr=>∃k:Nat,k<=n/\i=.int .i64 k/\s=.bool (qcd l ⟨px,py⟩ k)/\Blk wr w.heap.size 24 #[.int .i64 px,.int .i64 py]/\Below w.heap.size w wr) (fun _ i _ _ _=>n-(intOf i).toNat)
  case atStart=>exact ⟨0,zly _,rfl,rfl,hP0,hb0⟩
  case round=>
   obtain⟨k,hk,rfl,rfl,hP,hb⟩:=hrel
   by_cases hlt:k<n
   · obtain⟨b,off,rfl,hab,c0,c1⟩:=(hl.below (hb.mono hB)).at_ hlt
     obtain⟨c2,c3⟩:=qy0 (hl.below (hb.mono hB)) hlt;have hPl:=hP.lt;have hPc:=hP.cell;have hbs:=hb.size;have hbw:b<wr.heap.size:=oQ
     have hbw1:b<wr.heap.size+1:=oQ
     have hk0:(k:Int)<(n:Int):=oQ
     have hk3:(0:Int)<=(k:Int)+1:=oQ
     obtain⟨m,hm,hwr,htm,hml⟩:=qku hlt hn;rw [hm] at c2 c3;clear hm hb0 hP0 hb1 hc1 hf1 hz1;have hn0:¬ n=0:=oQ
     have hml0:(m:Int)<(n:Int):=oQ
     have HX:Hid (qcd l ⟨px,py⟩ (k+1)=xor (qcd l ⟨px,py⟩ k) (qbk ⟨(pt l k).x,(pt l k).y⟩ ⟨(nx l k).x,(nx l k).y⟩ ⟨px,py⟩)):=rfl
     by_cases hsw:(nx l k).y<(pt l k).y
     all_goals
      go_wp2_with (go_at_call 111;refine(qck _ _ _ _ _ _ _).monoR ?_;rintro w1 hb1 hc1 hf1 hz1;(try simp at hz1);have hyr:wr.heap.size<w1.heap.size:=oQ;have hyr1:wr.heap.size+1<w1.heap.size:=oQ;have hyr0:w.heap.size<w1.heap.size:=oQ)
      all_goals
       go_roundw
       case rel=>exact ⟨k+1,by omega,by go_num,by rw [HX.out,qbk];(first|rw [if_pos (by simpa using hsw)]|rw [if_neg (by simp only [Int.not_lt];simpa using hsw)]);(first|exact q7r ⟨by(try dsimp only);omega,by(try dsimp only);omega,by(try dsimp only);omega⟩|exact q7s (by(try dsimp only);omega)),blkA,bel⟩
       case measure=>simp [intOf];omega
   · have HL:Hid (k=n):=by unfold Hid;omega
     have HR:Hid (qih l ⟨px,py⟩=qcd l ⟨px,py⟩ k):=by unfold Hid;rw [HG.out,HL.out,hl.1]
     go_wp2;go_ret;exact⟨qam HR.out.symm,hb⟩
theorem quw {k:Int} {l:List Pt} (ho:ckOb ⟨k,l⟩=0) (hk:¬ k=4):qdi ⟨k,l⟩=true:=by
 rcases qo3 ho with h|h|h|h
 · subst h;rfl
 · subst h;rfl
 · subst h;rfl
 · exact absurd h hk
theorem q0n {k:Int} {l:List Pt} (ho:ckOb ⟨k,l⟩=0) (hk:¬ k=4):qbb ⟨k,l⟩=qco ⟨k,l⟩:=by
 unfold qbb
 rw [quw ho hk]
 rfl
theorem q1p {l:List Pt} (ho:ckOb ⟨4,l⟩=0):qbl l=0:=(qtc ho).2.2.2 rfl
end Go.Proofs.YteodamnfgcnmmaaGreatDoor
