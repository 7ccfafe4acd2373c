/-Contracts of the references of chapters 5 and 6-/
import Derived.Test.YtjopdlmbgidigaaGreatARef6
import Derived.Test.YtjopdlmbgidigaaGreatARel8
import Derived.Test.YtjopdlmbgidigaaGreatAWide
set_option linter.unusedVariables false
set_option linter.unusedSimpArgs false
set_option maxHeartbeats 2000000
set_option maxRecDepth 20000
namespace Go.Proofs.YtjopdlmbgidigaaGreat
open Go.RowKit Pg
theorem qpb (B n c:Nat) (A:Option Addr) (l:List Pt) (w:World) (hl:qao w B A n l) (hB:B<=w.heap.size) (hn:n<=1000000) (hm:qbg l=0):
 C9 69 #[.slice A n c] w (Ret2 w 0):=by
 have h:=qh4 B n c A l w hl hB hn;rw [<-qm7,hm] at h;exact h
theorem q5p {w:World} {x y z u:Value} {t:TypeId}:∀(j:Nat) (v:Value),[x,y,z,u][j]? =some v->(w.alloc (.cells #[x,y,z,u] t)).drew.cell? ((⟨w.heap.size,0,none⟩:Addr).add j)=some v:=by
 intro j v hj
 match j,hj with
 | 0,hj=>simp at hj;subst hj;simp [Addr.add]
 | 1,hj=>simp at hj;subst hj;simp [Addr.add]
 | 2,hj=>simp at hj;subst hj;simp [Addr.add]
 | 3,hj=>simp at hj;subst hj;simp [Addr.add]
theorem q3f {x y z u:Int}:∀v∈ [Value.int .i64 x,.int .i64 y,.int .i64 z,.int .i64 u],v.oneCell' =true:=by
 intro v hv;simp only [List.mem_cons,List.not_mem_nil,or_false] at hv
 rcases hv with rfl|rfl|rfl|rfl<;>rfl
theorem qhw {P:Program} {f:Func} {Q:Ending->World->Prop} {x:Exit} {a:Act} {w:World} (R:World->Prop) (h:R w) (k:∀w2,R w2->bodyPost P f Q x a w2):bodyPost P f Q x a w:=k w h
theorem ql3 (B n c:Nat) (A:Option Addr) (l:List Pt) (w:World) (hl:qao w B A n l) (hB:B<=w.heap.size) (hck:qbg l=0):
 C9 70 #[.slice A n c] w (Ret w (.tuple #[bxV (qam l).lo.x (qam l).lo.y (qam l).hi.x (qam l).hi.y,.int .i64 0,.int .i64 0])):=by
 have hn:n<=64:=by have:=qib hck;rw [hl.1] at this;omega
 have HC:=hdQ hck;clear hck;obtain⟨i0,hi,iz0,iz1,iz2⟩:=info_parts Tryz.infoBox
 go_enter Tryz.func70,Tryz.ntmps70
 go_wp2_with (go_at_call 69;refine(qpb B n c A l _ (hl.tr bel hB) (bsz w hB) oQ HC.out).mono ?_;rintro e w1 ⟨id1,rfl,hb1⟩;obtain⟨hc1,hf1,hz1⟩:=bc3 hb1;(try simp at hz1);have hy0:=ol1 w w1)
 have hP0:Blk w1 w.heap.size 42 #[.int .i64 0,.int .i64 0,.int .i64 0,.int .i64 0]:=blkA;have hb0:Below w.heap.size w w1:=bel
 go_loopw [7,8] (fun s i wr=>∃k:Nat,k<=n/\i=.int .i64 k/\wr.ownsRow (w.heap.size+1) 42 4 s k (qdg ((l.take k).map pbox))/\Blk wr w.heap.size 42 #[.int .i64 0,.int .i64 0,.int .i64 0,.int .i64 0]/\Below w.heap.size w wr) (fun _ i _=>n-(intOf i).toNat)
 case atStart=>exact ⟨0,zly _,rfl,World.ownsRow_nil _ _ _ _,hP0,hb0⟩
 case round=>
  obtain⟨k,hk,rfl,hown,hP,hb⟩:=hrel
  by_cases hlt:k<n
  · obtain⟨b,off,rfl,hab,c0,c1⟩:=(hl.below (hb.mono hB)).at_ hlt
    have hPl:=hP.lt;have hbs:=hb.size;have hbw:b<wr.heap.size:=oQ
    have hk0:(k:Int)<(n:Int):=oQ
    clear hb0 hP0;have hkl:k<l.length:=by rw [hl.1];exact hlt
    go_wp2_with fail;have hbw9:b<w.heap.size+1:=oQ
    have hb5:Below (w.heap.size+1) wr (wr.alloc (.cells #[.int .i64 (pt l k).x,.int .i64 (pt l k).y,.int .i64 (pt l k).x,.int .i64 (pt l k).y] 42)):=Below.mono (B:=wr.heap.size) bel oQ
    go_wp2_with fail;refine qbv (w.heap.size+1) [0,1,2,3,4,5,6,7,8,9,10,11,12] kr kr pq ?_
    simp only [zdy,zey,ldz,lds,bare,qal,lcz,lcs,zay]
    repeat' ((try simp only [Act.put,lsi,lsz,lss]);first|(refine lqy ?_)|(refine qab qaa rfl (fun K hK=> ?_);(refine wp_append_own _ _ _ 186 rfl (w.heap.size+1) 42 i0 (.agg #[.int .i64 0,.int .i64 0,.int .i64 0,.int .i64 0]) 4 32 Tryz.underlying186 hi iz0 iz1 iz2 rfl dE _ _ _ rfl (qgc (hown.alloc _)) ⟨wr.heap.size,0,none⟩ 1 1 [.int .i64 (pt l k).x,.int .i64 (pt l k).y,.int .i64 (pt l k).x,.int .i64 (pt l k).y] rfl rfl ?_ ?_ ?_ ?_ ?_ ?_);(focus(exact q5p));(focus(exact q3f));(focus(unfold maxLen;omega));(focus omega);(focus(simp;omega));intro v' w2 hown' hgrow _;have hlt' :=hown.lt;have hb2:Below w.heap.size w w2:=(Below.grown (w:=(wr.alloc _).drew) bel hgrow (by simp;omega) (fun j e=>by have:=(hlt' j e).1;omega));have hb3:Below (w.heap.size+1) ((wr.alloc (.cells #[.int .i64 (pt l k).x,.int .i64 (pt l k).y,.int .i64 (pt l k).x,.int .i64 (pt l k).y] 42)).drew) w2:=(Below.grown (w:=(wr.alloc (.cells #[.int .i64 (pt l k).x,.int .i64 (pt l k).y,.int .i64 (pt l k).x,.int .i64 (pt l k).y] 42)).drew) (Below.refl _ _) hgrow (by simp;omega) (fun j e=>(hlt' j e).1));have hb4:Below (w.heap.size+1) wr w2:=(Below.trans bel hb3);refine hK.out _ _ (by first|with_reducible exact qdo|with_reducible exact Below.drew qdo|exact bel) ?_;clear hK K)|(refine qab qaa rfl (fun K hK=> ?_);go_simp;((first|fail  | skip)<;>(refine hK.out _ _ (by first|with_reducible exact qdo|with_reducible exact Below.drew qdo|exact bel) ?_;clear hK K))))
    (all_goals try simp only [Act.put,lsi,lsz,lss]);all_goals(refine qaf ?_)
    have hP2:Blk w2 w.heap.size 42 #[.int .i64 0,.int .i64 0,.int .i64 0,.int .i64 0]:=(hP.alloc _).drew.below hb3 oQ
    have hown2:w2.ownsRow (w.heap.size+1) 42 4 v' (k+1) (qdg ((l.take (k+1)).map pbox)):=by
     have:qdg ((l.take (k+1)).map pbox)=qdg ((l.take k).map pbox)++ [.int .i64 (pt l k).x,.int .i64 (pt l k).y,.int .i64 (pt l k).x,.int .i64 (pt l k).y]:=by
      rw [zwy,qkx hkl]
      simp only [Option.toList_some,zfx,zdy,zey,qg5]
      rfl
     rw [this]
     exact hown'
    clear hown' hgrow hown hP hlt' hb3 c0 c1;go_wp2
    go_roundw
    case rel=>exact ⟨k+1,by omega,by go_num,hown2,hP2,hb2⟩
    case measure=>simp [intOf];omega
  · have hkn:k=n:=oQ
    subst hkn;obtain⟨A2,c2,rfl,hbx⟩:=qh2 (l:=(l.take k).map pbox) hown (by simp [hl.1])
    rw [zmy (by rw [hl.1];exact zhy _)] at hbx
    have hPc:=hP.cell;have hPf:=hP.frozen;have hPl:=hP.lt
    have HW:C9 112 #[.slice A2 k c2] wr (Ret wr (.tuple #[bxV (qam l).lo.x (qam l).lo.y (qam l).hi.x (qam l).hi.y,.int .i64 0])):=by
     have:=qj0 wr.heap.size k c2 A2 (l.map pbox) wr hbx (zhy _) oQ
     rw [show l.map pbox=l.map (fun p=>⟨p,p⟩) from rfl,qqr HC.out] at this
     exact this
    clear hb0 hP0 hb1 hc1 hf1 hy0
    go_wp2_with (go_at_call 112;refine HW.monoR ?_;rintro w1 hb1 hc1 hf1 hz1;(try simp at hz1);have hy0:=ol1 w w1)
    refine qhw (R:=fun w2=>Blk w2 w.heap.size 42 #[.int .i64 (qam l).lo.x,.int .i64 (qam l).lo.y,.int .i64 (qam l).hi.x,.int .i64 (qam l).hi.y]/\Below w.heap.size w w2) ⟨(((((((hP.tr hb1)).set_ 0 (.int .i64 (qam l).lo.x)).set_ 1 (.int .i64 (qam l).lo.y)).set_ 2 (.int .i64 (qam l).hi.x)).set_ 3 (.int .i64 (qam l).hi.y)).alloc _).eq_ sI,bel⟩ ?_
    rintro w2 ⟨HR,hb2⟩;have r0:=HR.cell 0;have r1:=HR.cell 1;have r2:=HR.cell 2;have r3:=HR.cell 3
    simp at r0 r1 r2 r3
    exact bodyPost_ret (v:=.tuple #[bxV (qam l).lo.x (qam l).lo.y (qam l).hi.x (qam l).hi.y,.int .i64 0,.int .i64 0]) (by simp [results,Tryz.results70,go_sem,r0,r1,r2,r3]) rfl ⟨rfl,hb2⟩
theorem qfo {W:World} {g:Nat} {t:TypeId} {x y z u a b c d:Value} (h:Blk W g t #[x,y,z,u]):
 Blk ((((W.setCell ⟨g,0,none⟩ a).setCell ⟨g,1,none⟩ b).setCell ⟨g,2,none⟩ c).setCell ⟨g,3,none⟩ d) g t #[a,b,c,d]:=
 ((((h.set_ 0 a).set_ 1 b).set_ 2 c).set_ 3 d).eq_ sI
theorem qp5 {k:Int} {l:List Pt} (ho:ckOb ⟨k,l⟩=0):k=1\/k=2\/k=3\/k=4:=by
 by_cases k1:k=1
 · exact .inl k1
 by_cases k2:k=2
 · exact .inr (.inl k2)
 by_cases k3:k=3
 · exact .inr (.inr (.inl k3))
 by_cases k4:k=4
 · exact .inr (.inr (.inr k4))
 · simp [ckOb,k1,k2,k3,k4] at ho
theorem ql4 (B n c:Nat) (k:Int) (A:Option Addr) (l:List Pt) (w:World) (hl:qao w B A n l) (hB:B<=w.heap.size) (hn:n<=1000000) (ho:ckOb ⟨k,l⟩≠0):
 C9 37 #[obV k A n c] w (Ret w (.tuple #[bxW qcu,.int .i64 (ckOb ⟨k,l⟩)])):=by
 obtain⟨m,hm⟩:∃m:Nat,ckOb ⟨k,l⟩=m:=⟨_,rfl⟩
 rw [hm] at ho ⊢
 have hm0:((m:Int) !=0)=true:=by rw [bne_iff_ne];omega
 have HF:Hid (qeu ⟨k,l⟩=m):=by unfold Hid;rw [<-qub];exact hm
 clear hm ho
 go_enter Tryz.func37,Tryz.ntmps37
 go_wp2_with (go_at_call 35;refine(qeg B n c k A l _ (hl.tr bel hB) (bsz w hB) hn).mono ?_;rw [HF.out];rintro e w1 ⟨rfl,hb1⟩;obtain⟨hc1,hf1,hz1⟩:=bc3 hb1;(try simp at hz1);obtain⟨hy0,hy1⟩:=ol2 w w1)
 refine qhw (R:=fun w2=>Blk w2 (w.heap.size+1) 42 #[.int .i64 0,.int .i64 0,.int .i64 0,.int .i64 0]/\Below w.heap.size w w2) ⟨qfo (x:=.int .i64 0) (y:=.int .i64 0) (z:=.int .i64 0) (u:=.int .i64 0) blkA,bel⟩ ?_
 rintro w2 ⟨HR,hb2⟩;have r0:=HR.cell 0;have r1:=HR.cell 1;have r2:=HR.cell 2;have r3:=HR.cell 3
 simp at r0 r1 r2 r3
 exact bodyPost_ret (v:=.tuple #[bxW qcu,.int .i64 m]) (by simp [results,Tryz.results37,go_sem,r0,r1,r2,r3,qcu]) rfl ⟨rfl,hb2⟩
theorem qj1 (B n c:Nat) (k:Int) (A:Option Addr) (l:List Pt) (w:World) (hl:qao w B A n l) (hB:B<=w.heap.size) (hn:n<=1000000) (ho:ckOb ⟨k,l⟩=0):
 C9 37 #[obV k A n c] w (Ret w (.tuple #[bxW (qaw ⟨k,l⟩),.int .i64 0])):=by
 have HF:Hid (qeu ⟨k,l⟩=0):=by unfold Hid;rw [<-qub];exact ho
 have hlens:=qkf ho;rw [hl.1] at hlens;obtain⟨p1,p2,p3,p4⟩:=hlens
 have hn1:0<n:=by
  rcases qp5 ho with h|h|h|h
  · exact p1 (.inl h)
  · exact p1 (.inr h)
  · exact zky dE (p2 h)
  · have:=qib (p4 (by rw [h];rfl))
    rw [hl.1] at this
    omega
 obtain⟨b,off,rfl,hab,c0,c1⟩:=hl.at_ (k:=0) hn1;simp only [Nat.zero_mul,Nat.add_zero] at c0 c1;have hbw:b<w.heap.size:=oQ
 have hbw1:b<w.heap.size+1:=oQ
 have hbw2:b<w.heap.size+1+1:=oQ
 rcases qp5 ho with h|h|h|h
 · subst h
   have HS:Hid (qaw ⟨1,l⟩=⟨pt l 0,pt l 0⟩):=rfl;clear ho p1 p2 p3 p4
   go_enter Tryz.func37,Tryz.ntmps37
   go_wp2_with (go_at_call 35;refine(qeg B n c 1 _ l _ (hl.tr bel hB) (bsz w hB) hn).mono ?_;rw [HF.out];rintro e w1 ⟨rfl,hb1⟩;obtain⟨hc1,hf1,hz1⟩:=bc3 hb1;(try simp at hz1);obtain⟨hy0,hy1⟩:=ol2 w w1;have hbx:b<w1.heap.size:=oQ)
   refine qhw (R:=fun w2=>Blk w2 (w.heap.size+1) 42 #[.int .i64 (pt l 0).x,.int .i64 (pt l 0).y,.int .i64 (pt l 0).x,.int .i64 (pt l 0).y]/\Below w.heap.size w w2) ⟨(qfo (x:=.int .i64 0) (y:=.int .i64 0) (z:=.int .i64 0) (u:=.int .i64 0) blkA).alloc _,bel⟩ ?_
   rintro w2 ⟨HR,hb2⟩;have r0:=HR.cell 0;have r1:=HR.cell 1;have r2:=HR.cell 2;have r3:=HR.cell 3
   simp at r0 r1 r2 r3
   rw [HS.out]
   exact bodyPost_ret (v:=.tuple #[.agg #[.int .i64 (pt l 0).x,.int .i64 (pt l 0).y,.int .i64 (pt l 0).x,.int .i64 (pt l 0).y],.int .i64 0]) (by simp [results,Tryz.results37,go_sem,r0,r1,r2,r3]) rfl ⟨rfl,hb2⟩
 · subst h
   have HS:Hid (qaw ⟨2,l⟩=⟨⟨(pt l 0).x,0⟩,⟨(pt l 0).y,0⟩⟩):=rfl;clear ho p1 p2 p3 p4
   go_enter Tryz.func37,Tryz.ntmps37
   go_wp2_with (go_at_call 35;refine(qeg B n c 2 _ l _ (hl.tr bel hB) (bsz w hB) hn).mono ?_;rw [HF.out];rintro e w1 ⟨rfl,hb1⟩;obtain⟨hc1,hf1,hz1⟩:=bc3 hb1;(try simp at hz1);obtain⟨hy0,hy1⟩:=ol2 w w1;have hbx:b<w1.heap.size:=oQ)
   refine qhw (R:=fun w2=>Blk w2 (w.heap.size+1) 42 #[.int .i64 (pt l 0).x,.int .i64 0,.int .i64 (pt l 0).y,.int .i64 0]/\Below w.heap.size w w2) ⟨(qfo (x:=.int .i64 0) (y:=.int .i64 0) (z:=.int .i64 0) (u:=.int .i64 0) blkA).alloc _,bel⟩ ?_
   rintro w2 ⟨HR,hb2⟩;have r0:=HR.cell 0;have r1:=HR.cell 1;have r2:=HR.cell 2;have r3:=HR.cell 3
   simp at r0 r1 r2 r3
   rw [HS.out]
   exact bodyPost_ret (v:=.tuple #[.agg #[.int .i64 (pt l 0).x,.int .i64 0,.int .i64 (pt l 0).y,.int .i64 0],.int .i64 0]) (by simp [results,Tryz.results37,go_sem,r0,r1,r2,r3]) rfl ⟨rfl,hb2⟩
 · subst h
   have HS:Hid (qaw ⟨3,l⟩=⟨pt l 0,pt l 1⟩):=rfl;have hn2:1<n:=p2 rfl;have hn3:(1:Int)<n:=oQ
   obtain⟨b',off',he,hab',c2,c3⟩:=hl.at_ (k:=1) hn2;injection he with he
   injection he with he1 he2
   subst he1 he2;simp only [Nat.one_mul] at c2 c3;clear ho p1 p2 p3 p4
   go_enter Tryz.func37,Tryz.ntmps37
   go_wp2_with (go_at_call 35;refine(qeg B n c 3 _ l _ (hl.tr bel hB) (bsz w hB) hn).mono ?_;rw [HF.out];rintro e w1 ⟨rfl,hb1⟩;obtain⟨hc1,hf1,hz1⟩:=bc3 hb1;(try simp at hz1);obtain⟨hy0,hy1⟩:=ol2 w w1;have hbx:b<w1.heap.size:=oQ)
   have hbl:off+1*2=off+2:=oQ
   refine qqd (fun w2=>Below w.heap.size w w2/\Blk w2 w.heap.size 53 #[.int .i64 3,.slice (some ⟨b,off,none⟩) n c]/\Blk w2 (w.heap.size+1) 42 #[.int .i64 0,.int .i64 0,.int .i64 0,.int .i64 0]/\Blk w2 w1.heap.size 24 #[.int .i64 (pt l 0).x,.int .i64 (pt l 0).y]) ⟨bel,blkA,blkA,blkA⟩ ?_
   clear hb1 hc1 hf1;rintro w2 ⟨hb,hO,hZ,hP⟩;have o1:=hO.cell 1;have q0:=hP.cell 0;have q1:=hP.cell 1;have z0:=hZ.cell 0;have z1:=hZ.cell 1;have z2:=hZ.cell 2;have z3:=hZ.cell 3;have fZ:=hZ.frozen;have lZ:=hZ.lt;have lO:=hO.lt;have lP:=hP.lt
   simp at o1 q0 q1 z0 z1 z2 z3
   obtain⟨_,_,ho,_,c2,c3⟩:=(hl.below (hb.mono hB)).at_ hn2;injection ho with ho
   injection ho with ho1 ho2
   subst ho1 ho2;simp only [Nat.one_mul] at c2 c3;have hbr:b<w2.heap.size:=by have:=hb.size;omega
   go_still_tail 6,kr
   change wpList _ _ _ _ _ w2.drew
   go_wp2;refine qhw (R:=fun w2=>Blk w2 (w.heap.size+1) 42 #[.int .i64 (pt l 0).x,.int .i64 (pt l 0).y,.int .i64 (pt l 1).x,.int .i64 (pt l 1).y]/\Below w.heap.size w w2) ⟨qfo hZ.drew,bel⟩ ?_
   rintro w2 ⟨HR,hb2⟩;have r0:=HR.cell 0;have r1:=HR.cell 1;have r2:=HR.cell 2;have r3:=HR.cell 3
   simp at r0 r1 r2 r3
   rw [HS.out]
   exact bodyPost_ret (v:=.tuple #[.agg #[.int .i64 (pt l 0).x,.int .i64 (pt l 0).y,.int .i64 (pt l 1).x,.int .i64 (pt l 1).y],.int .i64 0]) (by simp [results,Tryz.results37,go_sem,r0,r1,r2,r3]) rfl ⟨rfl,hb2⟩
 · subst h
   have HS:Hid (qaw ⟨4,l⟩=qam l):=rfl;have hck:=hdQ (p4 rfl);clear ho p1 p2 p3 p4
   go_enter Tryz.func37,Tryz.ntmps37
   go_wp2_with (first|(go_at_call 35;refine(qeg B n c 4 _ l _ (hl.tr bel hB) (bsz w hB) hn).mono ?_;rw [HF.out];rintro e w1 ⟨rfl,hb1⟩;obtain⟨hc1,hf1,hz1⟩:=bc3 hb1;(try simp at hz1);obtain⟨hy0,hy1⟩:=ol2 w w1;have hbx:b<w1.heap.size:=oQ)|(go_at_call 70;refine(ql3 B n c _ l _ (hl.tr bel hB) (bsz w hB) hck.out).monoR ?_;rintro wa hba hca hfa hza;(try simp at hza);obtain⟨hya0,hya1⟩:=ol2 w wa))
   refine qhw (R:=fun w2=>Blk w2 (w.heap.size+1) 42 #[.int .i64 (qam l).lo.x,.int .i64 (qam l).lo.y,.int .i64 (qam l).hi.x,.int .i64 (qam l).hi.y]/\Below w.heap.size w w2) ⟨(qfo (x:=.int .i64 0) (y:=.int .i64 0) (z:=.int .i64 0) (u:=.int .i64 0) blkA).alloc _,bel⟩ ?_
   rintro w2 ⟨HR,hb2⟩;have r0:=HR.cell 0;have r1:=HR.cell 1;have r2:=HR.cell 2;have r3:=HR.cell 3
   simp at r0 r1 r2 r3
   rw [HS.out]
   exact bodyPost_ret (v:=.tuple #[.agg #[.int .i64 (qam l).lo.x,.int .i64 (qam l).lo.y,.int .i64 (qam l).hi.x,.int .i64 (qam l).hi.y],.int .i64 0]) (by simp [results,Tryz.results37,go_sem,r0,r1,r2,r3]) rfl ⟨rfl,hb2⟩
theorem Blk.ne {w:World} {g g' :Nat} {t t' :TypeId} {cs cs' :Array Value} (h:Blk w g t cs) (h' :Blk w g' t' cs') (ht:t≠t'):g≠g' :=by
 intro e;subst e;have h2:=(zjx (h.symm.trans h'));injection h2 with h3 h4
 exact ht h4
theorem ErrC.far {w:World} {v:Value} {k r:Nat} {t:TypeId} {cs:Array Value} (h:ErrC w v k) (hr:Blk w r t cs) (ht:124≠t) (i:Nat) (x:Value):ErrC (w.setCell ⟨r,i,none⟩ x) v k:=by
 rcases h with h|h|⟨h0,g,s,id,e,hB⟩
 · exact .inl h
 · exact .inr (.inl h)
 · exact .inr (.inr ⟨h0,g,s,id,e,hB.far (p:=⟨r,i,none⟩) (Blk.ne hB hr ht) x⟩)
theorem ErrW.far {w:World} {v:Value} {k r:Nat} {s:ByteArray} {id:Int} {t:TypeId} {cs:Array Value} (h:ErrW w v k s id) (hr:Blk w r t cs) (ht:124≠t) (i:Nat) (x:Value):ErrW (w.setCell ⟨r,i,none⟩ x) v k s id:=by
 rcases h with h|⟨h0,g,inner,e,hB,hi⟩
 · exact .inl h
 · exact .inr ⟨h0,g,inner,e,hB.far (p:=⟨r,i,none⟩) (Blk.ne hB hr ht) x,hi.far hr ht i x⟩
theorem ErrW.put4 {w:World} {v:Value} {k r:Nat} {s:ByteArray} {id:Int} {t:TypeId} {cs:Array Value} (h:ErrW w v k s id) (hr:Blk w r t cs) (ht:124≠t) (x y z u:Value):
 ErrW ((((w.setCell ⟨r,0,none⟩ x).setCell ⟨r,1,none⟩ y).setCell ⟨r,2,none⟩ z).setCell ⟨r,3,none⟩ u) v k s id:=
 (((h.far hr ht 0 x).far (hr.set_ 0 x) ht 1 y).far ((hr.set_ 0 x).set_ 1 y) ht 2 z).far (((hr.set_ 0 x).set_ 1 y).set_ 2 z) ht 3 u
theorem qx7 (B n c:Nat) (k:Int) (A:Option Addr) (l:List Pt) (w:World) (hl:qao w B A n l) (hB:B<=w.heap.size) (hn:n<=1000000) (ho:ckOb ⟨k,l⟩≠0):
 C9 233 #[obV k A n c] w fun e w' =>∃v,e=.returned (.tuple #[bxW qcu,v])/\ErrW w' v (ckOb ⟨k,l⟩) ⟨#[111,98,106,101,99,116]⟩ k/\Below w.heap.size w w' :=by
 obtain⟨m,hm⟩:∃m:Nat,ckOb ⟨k,l⟩=m:=⟨_,rfl⟩
 rw [hm] at ho ⊢
 have HF:=hdQ hm;clear hm
 go_enter Tryz.func233,Tryz.ntmps233
 go_wp2_with (go_at_call 51;refine(qju B n c k A l _ (hl.tr bel hB) (bsz w hB) hn).mono ?_;rw [HF.out];rintro e wa ⟨va,rfl,hva,hba⟩;obtain⟨t,u,rfl⟩:∃t u,va=.iface t u:=(by rcases hva with ⟨h,_⟩|⟨_,g,i,h,_⟩;exact absurd h ho;exact⟨_,_,h⟩);obtain⟨hca,hfa,hza⟩:=bc3 hba;(try simp at hza);obtain⟨hy0,hy1⟩:=ol2 w wa)
 refine qai (R:=fun w2=>Blk w2 (w.heap.size+1) 42 #[.int .i64 0,.int .i64 0,.int .i64 0,.int .i64 0]/\ErrW w2 (.iface t u) m ⟨#[111,98,106,101,99,116]⟩ k/\Below w.heap.size w w2) ⟨?_,?_,bel⟩ ?_
 · repeat(first|with_reducible exact qfo (x:=.int .i64 0) (y:=.int .i64 0) (z:=.int .i64 0) (u:=.int .i64 0) blkA|(with_reducible refine Blk.new ?_ rfl;focus(simp;done))|with_reducible refine Blk.alloc ?_ _|with_reducible refine Blk.drew ?_)
 · exact hva.put4 (r:=w.heap.size+1) (t:=42) (cs:= #[.int .i64 0,.int .i64 0,.int .i64 0,.int .i64 0]) blkA dE _ _ _ _
 rintro w2 ⟨HR,hE,hb2⟩;obtain⟨r0,r1,r2,r3⟩:=ce4 HR;exact bodyPost_ret (v:=.tuple #[bxW qcu,.iface t u]) (by simp [results,Tryz.results233,go_sem,r0,r1,r2,r3,qcu]) rfl ⟨_,rfl,hE,hb2⟩
theorem qqt (B n c:Nat) (px py:Int) (A:Option Addr) (l:List Pt) (w:World) (hl:qao w B A n l) (hB:B<=w.heap.size) (hn:n<=1000000):
 C9 113 #[.slice A n c,ptV px py] w (Ret w (.bool (qir l ⟨px,py⟩))):=by
 go_enter Tryz.func113,Tryz.ntmps113
 go_wp2
 go_loopw [5] (fun i wr=>∃k:Nat,k<=n/\i=.int .i64 k/\Hid (∀j,j<k->onS (pt l j) (nx l j) ⟨px,py⟩=false)/\Blk wr w.heap.size 24 #[.int .i64 px,.int .i64 py]/\Below w.heap.size w wr) (fun i _=>n-(intOf i).toNat)
 case atStart=>exact ⟨0,zly _,rfl,fun j hj=>by omega,Blk.new rfl rfl,bel⟩
 case round=>
  obtain⟨k,hk,rfl,hno,hP,hb⟩:=hrel
  by_cases hlt:k<n
  · obtain⟨b,off,rfl,hab,c0,c1⟩:=(hl.below (hb.mono hB)).at_ hlt
    obtain⟨c2,c3⟩:=qmf (hl.below (hb.mono hB)) hlt;have hPl:=hP.lt;have hPc:=hP.cell;have hbs:=hb.size;have hbw:b<wr.heap.size:=oQ
    have hk0:(k:Int)<(n:Int):=oQ
    have hk3:(0:Int)<=(k:Int)+1:=oQ
    obtain⟨m,hm,hwr,htm,hml⟩:=qfd hlt hn;rw [hm] at c2 c3;clear hm;have hn0:¬ n=0:=oQ
    have hml0:(m:Int)<(n:Int):=oQ
    go_wp2_with fail;refine qac kr kr pq ?_
    simp only [zdy,zey,ldz,lds,bare,qal,lcz,lcs,zay]
    repeat' ((try simp only [Act.put,lsi,lsz,lss]);first|(refine lqx ?_)|(refine qab qaa rfl (fun K hK=> ?_);go_simp;((first|(go_at_call 116;refine(qy3 _ _ _ _ _ _ _).monoR ?_;rintro w1 hb1 hc1 hf1 hz1;(try simp at hz1))|skip)<;>(refine hK.out _ _ bel ?_;clear hK K))))
    (all_goals try simp only [Act.put,lsi,lsz,lss]);all_goals(refine qaf ?_)
    go_wp2
    · go_ret
      exact⟨qae (qbc _ (fun j=>onS (pt l j) (nx l j) ⟨px,py⟩) k (by rw [hl.1];exact hlt) (by assumption)).symm,bel⟩
    · have hf:onS ⟨(pt l k).x,(pt l k).y⟩ ⟨(nx l k).x,(nx l k).y⟩ ⟨px,py⟩=false:=by first|assumption|(simpa using (by assumption:¬ onS ⟨(pt l k).x,(pt l k).y⟩ ⟨(nx l k).x,(nx l k).y⟩ ⟨px,py⟩=true))
      have HF:=hdQ hf;clear hf
      go_roundw
      case rel=>exact ⟨k+1,by omega,by go_num,fun j hj=>by
       by_cases e:j=k
       · subst e;exact HF.out
       · exact hno.out j oQ,blkA,bel⟩
      case measure=>simp [intOf];omega
  · have HF:Hid (qir l ⟨px,py⟩=false):=qa5 _ _ fun j hj=>hno.out j (by rw [hl.1] at hj;omega)
    go_wp2;go_ret;exact⟨qae HF.out.symm,hb⟩
theorem q7z {A B C:Prop} [Decidable A] [Decidable B] [Decidable C] {p:Bool} (h:A/\B/\C):Value.bool (!p)=Value.bool (xor p (decide A&&decide B&&decide C)):=by
 rw [decide_eq_true h.1,decide_eq_true h.2.1,decide_eq_true h.2.2];simp
theorem q70 {A B C:Prop} [Decidable A] [Decidable B] [Decidable C] {p:Bool} (h:¬ (A/\B/\C)):Value.bool p=Value.bool (xor p (decide A&&decide B&&decide C)):=by
 have:(decide A&&decide B&&decide C)=false:=by
  cases hd:(decide A&&decide B&&decide C)
  · rfl
  · simp at hd;exact absurd ⟨hd.1.1,hd.1.2,hd.2⟩ h
 rw [this];simp
theorem qfe (B n c:Nat) (px py:Int) (A:Option Addr) (l:List Pt) (w:World) (hl:qao w B A n l) (hB:B<=w.heap.size) (hn:n<=1000000):
 C9 73 #[.slice A n c,ptV px py] w (Ret w (.bool (qdp l ⟨px,py⟩))):=by
 cases he:qir l ⟨px,py⟩
 case true=>
  have HG:Hid (qdp l ⟨px,py⟩=true):=by unfold Hid qdp;rw [he];rfl
  have HEB:=hdQ he;clear he
  go_enter Tryz.func73,Tryz.ntmps73
  go_wp2_with (go_at_call 113;refine(qqt B n c _ _ A l _ (hl.tr bel hB) (bsz w hB) hn).mono ?_;rw [HEB.out];rintro e w1 ⟨rfl,hb1⟩;obtain⟨hc1,hf1,hz1⟩:=bc3 hb1;(try simp at hz1);have hy0:=ol1 w w1)
  go_ret;exact⟨qae HG.out.symm,bel⟩
 case false=>
  have HG:Hid (qdp l ⟨px,py⟩=qcj l ⟨px,py⟩ l.length):=by unfold Hid qdp;rw [he];rfl
  have HEB:=hdQ he;clear he
  go_enter Tryz.func73,Tryz.ntmps73
  go_wp2_with (go_at_call 113;refine(qqt B n c _ _ A l _ (hl.tr bel hB) (bsz w hB) hn).mono ?_;rw [HEB.out];rintro e w1 ⟨rfl,hb1⟩;obtain⟨hc1,hf1,hz1⟩:=bc3 hb1;(try simp at hz1);have hy0:=ol1 w w1)
  have hP0:Blk w1 w.heap.size 24 #[.int .i64 px,.int .i64 py]:=blkA;have hb0:Below w.heap.size w w1:=bel
  go_loopw [5,6,7,8] (fun s i _ _ wr=>∃k:Nat,k<=n/\i=.int .i64 k/\s=.bool (qcj l ⟨px,py⟩ k)/\Blk wr w.heap.size 24 #[.int .i64 px,.int .i64 py]/\Below w.heap.size w wr) (fun _ i _ _ _=>n-(intOf i).toNat)
  case atStart=>exact ⟨0,zly _,rfl,rfl,hP0,hb0⟩
  case round=>
   obtain⟨k,hk,rfl,rfl,hP,hb⟩:=hrel
   by_cases hlt:k<n
   · obtain⟨b,off,rfl,hab,c0,c1⟩:=(hl.below (hb.mono hB)).at_ hlt
     obtain⟨c2,c3⟩:=qmf (hl.below (hb.mono hB)) hlt;have hPl:=hP.lt;have hPc:=hP.cell;have hbs:=hb.size;have hbw:b<wr.heap.size:=oQ
     have hbw1:b<wr.heap.size+1:=oQ
     have hk0:(k:Int)<(n:Int):=oQ
     have hk3:(0:Int)<=(k:Int)+1:=oQ
     obtain⟨m,hm,hwr,htm,hml⟩:=qfd hlt hn;rw [hm] at c2 c3;clear hm hb0 hP0 hb1 hc1 hf1 hz1;have hn0:¬ n=0:=oQ
     have hml0:(m:Int)<(n:Int):=oQ
     have HX:Hid (qcj l ⟨px,py⟩ (k+1)=xor (qcj l ⟨px,py⟩ k) (qbp ⟨(pt l k).x,(pt l k).y⟩ ⟨(nx l k).x,(nx l k).y⟩ ⟨px,py⟩)):=rfl
     by_cases hsw:(nx l k).y<(pt l k).y
     all_goals
      go_wp2_with (go_at_call 114;refine(qdx _ _ _ _ _ _ _).monoR ?_;rintro w1 hb1 hc1 hf1 hz1;(try simp at hz1);have hyr:wr.heap.size<w1.heap.size:=oQ;have hyr1:wr.heap.size+1<w1.heap.size:=oQ;have hyr0:w.heap.size<w1.heap.size:=oQ)
      all_goals
       go_roundw
       case rel=>exact ⟨k+1,by omega,by go_num,by rw [HX.out,qbp];(first|rw [if_pos (by simpa using hsw)]|rw [if_neg (by simp only [Int.not_lt];simpa using hsw)]);(first|exact q7z ⟨by(try dsimp only);omega,by(try dsimp only);omega,by(try dsimp only);omega⟩|exact q70 (by(try dsimp only);omega)),blkA,bel⟩
       case measure=>simp [intOf];omega
   · have HL:Hid (k=n):=by unfold Hid;omega
     have HR:Hid (qdp l ⟨px,py⟩=qcj l ⟨px,py⟩ k):=by unfold Hid;rw [HG.out,HL.out,hl.1]
     go_wp2;go_ret;exact⟨qae HR.out.symm,hb⟩
def crn (r:Bx):List Pt:= [r.lo,⟨r.hi.x,r.lo.y⟩,r.hi,⟨r.lo.x,r.hi.y⟩]
theorem qz3 (a b:Pt) (r:Bx):qgz a b r=((okPt a&&okPt b&&okBx r)&&((bhas r a||bhas r b)||(List.range 4).any fun i=>qba a b (pt (crn r) i) (nx (crn r) i))):=by
 have e:(List.range 4).any (fun i=>qba a b (pt (crn r) i) (nx (crn r) i))=(qba a b r.lo ⟨r.hi.x,r.lo.y⟩||(qba a b ⟨r.hi.x,r.lo.y⟩ r.hi||(qba a b r.hi ⟨r.lo.x,r.hi.y⟩||(qba a b ⟨r.lo.x,r.hi.y⟩ r.lo||false)))):=by
  rw [show List.range 4= [0,1,2,3] by decide]
  simp only [List.any_cons,List.any_nil]
  simp [crn,pt,nx]
 rw [e,qgz]
 cases okPt a<;>cases okPt b<;>cases okBx r<;>simp [Bool.or_assoc]
theorem q42 {w:World} {g:Nat} {r:Bx} {t:TypeId} (h:Blk w g t #[.int .i64 r.lo.x,.int .i64 r.lo.y,.int .i64 r.hi.x,.int .i64 r.lo.y,.int .i64 r.hi.x,.int .i64 r.hi.y,.int .i64 r.lo.x,.int .i64 r.hi.y]):qao w w.heap.size (some ⟨g,0,none⟩) 4 (crn r):=
 ⟨rfl,fun _=>⟨g,0,rfl,h.lt,fun k s hs=>by
  match k,hs with
  | 0,hs=>
    simp [crn] at hs
    subst hs;exact⟨by rw [h.cell];rfl,by rw [h.cell];rfl⟩
  | 1,hs=>
    simp [crn] at hs
    subst hs;exact⟨by rw [h.cell];rfl,by rw [h.cell];rfl⟩
  | 2,hs=>
    simp [crn] at hs
    subst hs;exact⟨by rw [h.cell];rfl,by rw [h.cell];rfl⟩
  | 3,hs=>
    simp [crn] at hs
    subst hs
    exact⟨by rw [h.cell];rfl,by rw [h.cell];rfl⟩⟩⟩
theorem qqu (r:Bx) (w:World):
 C9 117 #[bxV r.lo.x r.lo.y r.hi.x r.hi.y] w fun e w' =>∃g,e=.returned (.slice (some ⟨g,0,none⟩) 4 4)/\Blk w' g 24 #[.int .i64 r.lo.x,.int .i64 r.lo.y,.int .i64 r.hi.x,.int .i64 r.lo.y,.int .i64 r.hi.x,.int .i64 r.hi.y,.int .i64 r.lo.x,.int .i64 r.hi.y]/\Below w.heap.size w w' :=by
 go_enter Tryz.func117,Tryz.ntmps117
 go_wp2;go_ret;exact⟨_,rfl,blkA,bel⟩
theorem q7p {f:Nat->Bool} (h:∀j,j<4->f j=false):(List.range 4).any f=false:=qa5 4 f h
theorem qo8 (ax ay bx by_:Int) (r:Bx) (w:World):
 C9 75 #[ptV ax ay,ptV bx by_,bxV r.lo.x r.lo.y r.hi.x r.hi.y] w (Ret w (.bool (qgz ⟨ax,ay⟩ ⟨bx,by_⟩ r))):=by
 have HF:=hdQ (qz3 ⟨ax,ay⟩ ⟨bx,by_⟩ r)
 cases h1:okPt ⟨ax,ay⟩
 · have HG:Hid (qgz ⟨ax,ay⟩ ⟨bx,by_⟩ r=false):=by unfold Hid;rw [HF.out,h1];rfl
   have H1:=hdQ h1;clear h1
   go_enter Tryz.func75,Tryz.ntmps75
   go_wp2_with (go_at_call 6;refine(qap _ _ _).mono ?_;rw [H1.out];rintro e w1 ⟨rfl,hb1⟩;obtain⟨hc1,hf1,hz1⟩:=bc3 hb1;(try simp at hz1);obtain⟨hy0,hy1,hy2⟩:=ol3 w w1)
   go_ret;exact⟨qae HG.out.symm,bel⟩
 cases h2:okPt ⟨bx,by_⟩
 · have HG:Hid (qgz ⟨ax,ay⟩ ⟨bx,by_⟩ r=false):=by unfold Hid;rw [HF.out,h1,h2];rfl
   have H1:=hdQ h1;have H2:=hdQ h2;clear h1 h2
   go_enter Tryz.func75,Tryz.ntmps75
   go_wp2_with (go_at_call 6;refine(qap _ _ _).mono ?_;(first|rw [H1.out]|rw [H2.out]);rintro e w1 ⟨rfl,hb1⟩;obtain⟨hc1,hf1,hz1⟩:=bc3 hb1;(try simp at hz1);obtain⟨hy0,hy1,hy2⟩:=ol3 w w1)
   go_ret;exact⟨qae HG.out.symm,bel⟩
 obtain⟨m,hm⟩:∃m:Nat,qa4 ⟨⟨r.lo.x,r.lo.y⟩,⟨r.hi.x,r.hi.y⟩⟩=m:=⟨_,rfl⟩;have HM:=hdQ hm
 by_cases hz:m=0
 case neg=>
  have hz1:((m:Int) !=0)=true:=by rw [bne_iff_ne];omega
  have HG:Hid (qgz ⟨ax,ay⟩ ⟨bx,by_⟩ r=false):=by
   have:okBx r=false:=by rw [<-Bool.not_eq_true,qep];intro h;exact hz (hm.symm.trans h)
   unfold Hid;rw [HF.out,h1,h2,this];rfl
  have H1:=hdQ h1;have H2:=hdQ h2;clear h1 h2 hm hz
  go_enter Tryz.func75,Tryz.ntmps75
  go_wp2_with (first|(go_at_call 6;refine(qap _ _ _).mono ?_;(first|rw [H1.out]|rw [H2.out]);rintro e w1 ⟨rfl,hb1⟩;obtain⟨hc1,hf1,hz1⟩:=bc3 hb1;(try simp at hz1);obtain⟨hy0,hy1,hy2⟩:=ol3 w w1)|(go_at_call 68;refine(qaz _ _ _ _ _).mono ?_;rw [HM.out];rintro e w1 ⟨rfl,hb1⟩;obtain⟨hc1,hf1,hz1⟩:=bc3 hb1;(try simp at hz1);obtain⟨hy0,hy1,hy2⟩:=ol3 w w1))
  go_ret;exact⟨qae HG.out.symm,bel⟩
 subst hz;have hok:okBx r=true:=qep.2 hm;have HG:Hid (qgz ⟨ax,ay⟩ ⟨bx,by_⟩ r=((bhas ⟨⟨r.lo.x,r.lo.y⟩,⟨r.hi.x,r.hi.y⟩⟩ ⟨ax,ay⟩||bhas ⟨⟨r.lo.x,r.lo.y⟩,⟨r.hi.x,r.hi.y⟩⟩ ⟨bx,by_⟩)||(List.range 4).any fun i=>qba ⟨ax,ay⟩ ⟨bx,by_⟩ (pt (crn r) i) (nx (crn r) i))):=by unfold Hid;rw [HF.out,h1,h2,hok];rfl
 have H1:=hdQ h1;have H2:=hdQ h2;clear h1 h2 hm hok HF
 cases b1:bhas ⟨⟨r.lo.x,r.lo.y⟩,⟨r.hi.x,r.hi.y⟩⟩ ⟨ax,ay⟩
 case true=>
  have B1:=hdQ b1;clear b1
  go_enter Tryz.func75,Tryz.ntmps75
  go_wp2_with (first|(go_at_call 6;refine(qap _ _ _).mono ?_;(first|rw [H1.out]|rw [H2.out]);rintro e w1 ⟨rfl,hb1⟩;obtain⟨hc1,hf1,hz1⟩:=bc3 hb1;(try simp at hz1);obtain⟨hy0,hy1,hy2⟩:=ol3 w w1)|(go_at_call 68;refine(qaz _ _ _ _ _).mono ?_;rw [HM.out];rintro e w1 ⟨rfl,hb1⟩;obtain⟨hc1,hf1,hz1⟩:=bc3 hb1;(try simp at hz1);obtain⟨hy0,hy1,hy2⟩:=ol3 w w1)|(go_at_call 72;refine(qeh _ _ _ _ _ _ _).mono ?_;rw [B1.out];rintro e w1 ⟨rfl,hb1⟩;obtain⟨hc1,hf1,hz1⟩:=bc3 hb1;(try simp at hz1);obtain⟨hy0,hy1,hy2⟩:=ol3 w w1))
  go_ret;exact⟨qae (by rw [HG.out,B1.out];rfl),bel⟩
 cases b2:bhas ⟨⟨r.lo.x,r.lo.y⟩,⟨r.hi.x,r.hi.y⟩⟩ ⟨bx,by_⟩
 case true=>
  have B1:=hdQ b1;have B2:=hdQ b2;clear b1 b2
  go_enter Tryz.func75,Tryz.ntmps75
  go_wp2_with (first|(go_at_call 6;refine(qap _ _ _).mono ?_;(first|rw [H1.out]|rw [H2.out]);rintro e w1 ⟨rfl,hb1⟩;obtain⟨hc1,hf1,hz1⟩:=bc3 hb1;(try simp at hz1);obtain⟨hy0,hy1,hy2⟩:=ol3 w w1)|(go_at_call 68;refine(qaz _ _ _ _ _).mono ?_;rw [HM.out];rintro e w1 ⟨rfl,hb1⟩;obtain⟨hc1,hf1,hz1⟩:=bc3 hb1;(try simp at hz1);obtain⟨hy0,hy1,hy2⟩:=ol3 w w1)|(go_at_call 72;refine(qeh _ _ _ _ _ _ _).mono ?_;(first|rw [B1.out]|rw [B2.out]);rintro e w1 ⟨rfl,hb1⟩;obtain⟨hc1,hf1,hz1⟩:=bc3 hb1;(try simp at hz1);obtain⟨hy0,hy1,hy2⟩:=ol3 w w1))
  go_ret;exact⟨qae (by rw [HG.out,B1.out,B2.out];rfl),bel⟩
 have HG2:Hid (qgz ⟨ax,ay⟩ ⟨bx,by_⟩ r=(List.range 4).any fun i=>qba ⟨ax,ay⟩ ⟨bx,by_⟩ (pt (crn r) i) (nx (crn r) i)):=by unfold Hid;rw [HG.out,b1,b2];rfl
 have B1:=hdQ b1;have B2:=hdQ b2;clear b1 b2 HG
 go_enter Tryz.func75,Tryz.ntmps75
 go_wp2_with (first|(go_at_call 6;refine(qap _ _ _).mono ?_;(first|rw [H1.out]|rw [H2.out]);rintro e w1 ⟨rfl,hb1⟩;obtain⟨hc1,hf1,hz1⟩:=bc3 hb1;(try simp at hz1);obtain⟨hy0,hy1,hy2⟩:=ol3 w w1)|(go_at_call 68;refine(qaz _ _ _ _ _).mono ?_;rw [HM.out];rintro e w1 ⟨rfl,hb1⟩;obtain⟨hc1,hf1,hz1⟩:=bc3 hb1;(try simp at hz1);obtain⟨hy0,hy1,hy2⟩:=ol3 w w1)|(go_at_call 72;refine(qeh _ _ _ _ _ _ _).mono ?_;(first|rw [B1.out]|rw [B2.out]);rintro e w1 ⟨rfl,hb1⟩;obtain⟨hc1,hf1,hz1⟩:=bc3 hb1;(try simp at hz1);obtain⟨hy0,hy1,hy2⟩:=ol3 w w1)|(go_at_call 117;refine(qqu r _).mono ?_;rintro e wc ⟨g,rfl,hC,hbc⟩;obtain⟨hcc,hfc,hzc⟩:=bc3 hbc;(try simp at hzc)))
 have hA0:Blk wc w.heap.size 24 #[.int .i64 ax,.int .i64 ay]:=blkA;have hB0:Blk wc (w.heap.size+1) 24 #[.int .i64 bx,.int .i64 by_]:=blkA;have hb0:Below w.heap.size w wc:=bel;have hPC:=q42 hC;obtain⟨L,hL⟩:∃L,crn r=L:=⟨_,rfl⟩;rw [hL] at hPC HG2;have HC:=hdQ hPC;clear hL hPC;have HBw:=hdQ hb0;clear hC hbc hcc hfc hzc hb1 hc1 hf1 hz1 hy0 hy1 hy2
 go_loopw [8] (fun i wr=>∃k:Nat,k<=4/\i=.int .i64 k/\Hid (∀j,j<k->qba ⟨ax,ay⟩ ⟨bx,by_⟩ (pt L j) (nx L j)=false)/\Blk wr w.heap.size 24 #[.int .i64 ax,.int .i64 ay]/\Blk wr (w.heap.size+1) 24 #[.int .i64 bx,.int .i64 by_]/\Below wc.heap.size wc wr) (fun i _=>4-(intOf i).toNat)
 case atStart=>exact ⟨0,by omega,rfl,fun j hj=>by omega,hA0,hB0,Below.refl _ _⟩
 case round=>
  obtain⟨k,hk,rfl,hno,hA,hB,hb⟩:=hrel;have hbw0:Below w.heap.size w wr:=HBw.out.trans (hb.mono HBw.out.size)
  by_cases hlt:k<4
  · have HL:=HC.out.below hb
    obtain⟨b,off,ho,hab,c0,c1⟩:=HL.at_ hlt;injection ho with ho
    injection ho with ho1 ho2
    subst ho1 ho2;obtain⟨c2,c3⟩:=qmf HL hlt;have hbs:=hb.size;have cA:=hA.cell;have cB:=hB.cell;have lA:=hA.lt;have lB:=hB.lt;have hgw:g<wr.heap.size:=oQ
    have hk0:(k:Int)<4:=oQ
    have hk3:(0:Int)<=(k:Int)+1:=oQ
    obtain⟨m,hm,hwr,htm,hml⟩:=qfd hlt oQ
    rw [hm] at c2 c3;have htm' :((k:Int)+1).tmod 4=(m:Int):=htm;clear hm htm HL hA0 hB0 hb0;have hml0:(m:Int)<4:=oQ
    simp only [Nat.zero_add] at c0 c1 c2 c3;go_wp2_with fail;refine qac kr kr pq ?_
    simp only [zdy,zey,ldz,lds,bare,qal,lcz,lcs,zay]
    repeat' ((try simp only [Act.put,lsi,lsz,lss]);first|(refine lqx ?_)|(refine qab qaa rfl (fun K hK=> ?_);go_simp;((first|(go_at_call 74;refine(qiz _ _ _ _ _ _ _ _ _).monoR ?_;rintro w1 hb1 hc1 hf1 hz1;(try simp at hz1))|skip)<;>(refine hK.out _ _ bel ?_;clear hK K))))
    (all_goals try simp only [Act.put,lsi,lsz,lss]);all_goals(refine qaf ?_)
    go_wp2
    · go_ret
      exact⟨qae (by rw [HG2.out,qbc 4 (fun j=>qba ⟨ax,ay⟩ ⟨bx,by_⟩ (pt L j) (nx L j)) k hlt (by assumption)]),bel⟩
    · have hf:qba ⟨ax,ay⟩ ⟨bx,by_⟩ ⟨(pt L k).x,(pt L k).y⟩ ⟨(nx L k).x,(nx L k).y⟩=false:=by first|assumption|(simpa using (by assumption:¬ qba ⟨ax,ay⟩ ⟨bx,by_⟩ ⟨(pt L k).x,(pt L k).y⟩ ⟨(nx L k).x,(nx L k).y⟩=true))
      have HN:=hdQ hf;clear hf
      go_roundw
      case rel=>exact ⟨k+1,by omega,by go_num,fun j hj=>by
       by_cases e:j=k
       · subst e;exact HN.out
       · exact hno.out j oQ,blkA,blkA,Below.trans hb (Below.mono bel hbs)⟩
      case measure=>simp [intOf];omega
  · have HR:Hid (qgz ⟨ax,ay⟩ ⟨bx,by_⟩ r=false):=by unfold Hid;rw [HG2.out];exact q7p fun j hj=>hno.out j oQ
    clear hA0 hB0 hb0;have hk4:¬ (k:Int)<4:=oQ
    go_wp2;go_ret;exact⟨qae HR.out.symm,bel⟩
theorem q6l {l:List Pt} {b:Bx} {k:Nat} (hk:k<l.length) (h:qgz (pt l k) (nx l k) b=true):qcy l b=true:=by
 unfold qcy
 rw [qbc _ (fun i=>qgz (pt l i) (nx l i) b) k hk h,Bool.or_true]
theorem qkn (B n c:Nat) (r:Bx) (A:Option Addr) (l:List Pt) (w:World) (hl:qao w B A n l) (hB:B<=w.heap.size) (hn:n<=1000000):
 C9 42 #[.slice A n c,bxV r.lo.x r.lo.y r.hi.x r.hi.y] w (Ret w (.bool (qcy l r))):=by
 cases h0:qdp l ⟨r.lo.x,r.lo.y⟩
 case true=>
  have HG:Hid (qcy l r=true):=by
   have h1:qdp l r.lo=true:=h0;unfold Hid qcy
   rw [h1,Bool.true_or]
  have H0:=hdQ h0;clear h0
  go_enter Tryz.func42,Tryz.ntmps42
  go_wp2_with (go_at_call 73;refine(qfe B n c _ _ A l _ (hl.tr bel hB) (bsz w hB) hn).mono ?_;rw [H0.out];rintro e w1 ⟨rfl,hb1⟩;obtain⟨hc1,hf1,hz1⟩:=bc3 hb1;(try simp at hz1);have hy0:=ol1 w w1)
  go_ret;exact⟨qae HG.out.symm,bel⟩
 case false=>
  have H0:=hdQ h0;clear h0
  go_enter Tryz.func42,Tryz.ntmps42
  go_wp2_with (go_at_call 73;refine(qfe B n c _ _ A l _ (hl.tr bel hB) (bsz w hB) hn).mono ?_;rw [H0.out];rintro e wc ⟨rfl,hbc⟩;obtain⟨hcc,hfc,hzc⟩:=bc3 hbc;(try simp at hzc);have hyc:=ol1 w wc)
  have hP0:Blk wc w.heap.size 42 #[.int .i64 r.lo.x,.int .i64 r.lo.y,.int .i64 r.hi.x,.int .i64 r.hi.y]:=blkA;have hb0:Below w.heap.size w wc:=bel
  go_loopw [5] (fun i wr=>∃k:Nat,k<=n/\i=.int .i64 k/\Hid (∀j,j<k->qgz (pt l j) (nx l j) r=false)/\Blk wr w.heap.size 42 #[.int .i64 r.lo.x,.int .i64 r.lo.y,.int .i64 r.hi.x,.int .i64 r.hi.y]/\Below w.heap.size w wr) (fun i _=>n-(intOf i).toNat)
  case atStart=>exact ⟨0,zly _,rfl,fun j hj=>by omega,hP0,hb0⟩
  case round=>
   obtain⟨k,hk,rfl,hno,hP,hb⟩:=hrel;clear hP0 hb0 hbc hcc hfc hzc hyc
   by_cases hlt:k<n
   · obtain⟨b,off,rfl,hab,c0,c1⟩:=(hl.below (hb.mono hB)).at_ hlt
     obtain⟨c2,c3⟩:=qmf (hl.below (hb.mono hB)) hlt;have hPl:=hP.lt;have hPc:=hP.cell;have hbs:=hb.size;have hbw:b<wr.heap.size:=oQ
     have hk0:(k:Int)<(n:Int):=oQ
     have hk3:(0:Int)<=(k:Int)+1:=oQ
     obtain⟨m,hm,hwr,htm,hml⟩:=qfd hlt hn;rw [hm] at c2 c3;clear hm;have hn0:¬ n=0:=oQ
     have hml0:(m:Int)<(n:Int):=oQ
     go_wp2_with fail;refine qac kr kr pq ?_
     simp only [zdy,zey,ldz,lds,bare,qal,lcz,lcs,zay]
     repeat' ((try simp only [Act.put,lsi,lsz,lss]);first|(refine lqx ?_)|(refine qab qaa rfl (fun K hK=> ?_);go_simp;((first|(go_at_call 75;refine(qo8 _ _ _ _ r _).monoR ?_;rintro w1 hb1 hc1 hf1 hz1;(try simp at hz1))|skip)<;>(refine hK.out _ _ bel ?_;clear hK K))))
     (all_goals try simp only [Act.put,lsi,lsz,lss]);all_goals(refine qaf ?_)
     go_wp2
     · go_ret
       exact⟨qae (q6l (by rw [hl.1];exact hlt) (by assumption)).symm,bel⟩
     · have hf:qgz ⟨(pt l k).x,(pt l k).y⟩ ⟨(nx l k).x,(nx l k).y⟩ r=false:=by first|assumption|(simpa using (by assumption:¬ qgz ⟨(pt l k).x,(pt l k).y⟩ ⟨(nx l k).x,(nx l k).y⟩ r=true))
       have HF:=hdQ hf;clear hf
       go_roundw
       case rel=>exact ⟨k+1,by omega,by go_num,fun j hj=>by
        by_cases e:j=k
        · subst e;exact HF.out
        · exact hno.out j oQ,blkA,bel⟩
       case measure=>simp [intOf];omega
   · have HF:Hid (qcy l r=false):=by
      have h1:qdp l r.lo=false:=H0.out;unfold Hid qcy
      rw [h1,qa5 _ _ fun j hj=>hno.out j (by rw [hl.1] at hj;omega)]
      rfl
     go_wp2;go_ret;exact⟨qae HF.out.symm,hb⟩
theorem qt1 {a b:List Pt} {i k:Nat} (hi:i<a.length) (hk:k<b.length) (h:qba (pt a i) (nx a i) (pt b k) (nx b k)=true):qd8 a b=true:=
 qbc _ _ i hi (qbc _ _ k hk h)
theorem qt2 {a b:List Pt} (h:∀i,i<a.length->∀k,k<b.length->qba (pt a i) (nx a i) (pt b k) (nx b k)=false):qd8 a b=false:=
 qa5 _ _ fun i hi=>qa5 _ _ fun k hk=>h i hi k hk
theorem qwo (B n c n' c' :Nat) (A A' :Option Addr) (l l' :List Pt) (w:World) (hl:qao w B A n l) (hl' :qao w B A' n' l') (hB:B<=w.heap.size) (hn:n<=1000000) (hn' :n' <=1000000) (h1:1<=n) (h1' :1<=n'):
 C9 41 #[.slice A n c,.slice A' n' c'] w (Ret w (.bool (qhd l l'))):=by
 obtain⟨b,off,rfl,hab,c0,c1⟩:=hl.at_ (k:=0) oQ
 obtain⟨b',off',rfl,hab',d0,d1⟩:=hl'.at_ (k:=0) oQ
 simp only [Nat.zero_mul,Nat.add_zero] at c0 c1 d0 d1;have hbw:b<w.heap.size:=oQ
 have hbw' :b' <w.heap.size:=oQ
 have hn1:0<n:=oQ
 have hn1' :0<n' :=oQ
 cases e1:qdp l ⟨(pt l' 0).x,(pt l' 0).y⟩
 case true=>
  have HG:Hid (qhd l l' =true):=by
   have h1:qdp l (pt l' 0)=true:=e1;unfold Hid qhd
   rw [h1,Bool.true_or,Bool.true_or]
  have E1:=hdQ e1;clear e1
  go_enter Tryz.func41,Tryz.ntmps41
  go_wp2_with (go_at_call 73;refine(qfe B n c _ _ _ l _ (hl.tr bel hB) (bsz w hB) hn).mono ?_;rw [E1.out];rintro e w1 ⟨rfl,hb1⟩;obtain⟨hc1,hf1,hz1⟩:=bc3 hb1;(try simp at hz1))
  go_ret;exact⟨qae HG.out.symm,bel⟩
 cases e2:qdp l' ⟨(pt l 0).x,(pt l 0).y⟩
 case true=>
  have HG:Hid (qhd l l' =true):=by
   have h1:qdp l' (pt l 0)=true:=e2;unfold Hid qhd
   rw [h1,Bool.or_true,Bool.true_or]
  have E1:=hdQ e1;have E2:=hdQ e2;clear e1 e2
  go_enter Tryz.func41,Tryz.ntmps41
  go_wp2_with (first|(go_at_call 73;have _hz:=hza;refine(qfe B n' c' _ _ _ l' _ (hl'.tr bel hB) (bsz w hB) hn').mono ?_;rw [E2.out];rintro e w1 ⟨rfl,hb1⟩;obtain⟨hc1,hf1,hz1⟩:=bc3 hb1;(try simp at hz1))|(go_at_call 73;refine(qfe B n c _ _ _ l _ (hl.tr bel hB) (bsz w hB) hn).mono ?_;rw [E1.out];rintro e wa ⟨rfl,hba⟩;obtain⟨hca,hfa,hza⟩:=bc3 hba;(try simp at hza);have hbx:b<wa.heap.size:=oQ))
  go_ret;exact⟨qae HG.out.symm,bel⟩
 have HF:Hid (qhd l l' =qd8 l l'):=by
  have h1:qdp l (pt l' 0)=false:=e1;have h2:qdp l' (pt l 0)=false:=e2;unfold Hid qhd
  rw [h1,h2]
  rfl
 have E1:=hdQ e1;have E2:=hdQ e2;clear e1 e2
 go_enter Tryz.func41,Tryz.ntmps41
 go_wp2_with (first|(go_at_call 73;have _hz:=hza;refine(qfe B n' c' _ _ _ l' _ (hl'.tr bel hB) (bsz w hB) hn').mono ?_;rw [E2.out];rintro e wc ⟨rfl,hbc⟩;obtain⟨hcc,hfc,hzc⟩:=bc3 hbc;(try simp at hzc))|(go_at_call 73;refine(qfe B n c _ _ _ l _ (hl.tr bel hB) (bsz w hB) hn).mono ?_;rw [E1.out];rintro e wa ⟨rfl,hba⟩;obtain⟨hca,hfa,hza⟩:=bc3 hba;(try simp at hza);have hbx:b<wa.heap.size:=oQ))
 have hb0:Below w.heap.size w wc:=bel;clear c0 c1 d0 d1 hba hca hfa hza hbx hbc hcc hfc hzc
 go_loopw [5,6] (fun i _ wr=>∃k:Nat,k<=n/\i=.int .i64 k/\Hid (∀j,j<k->∀p,p<n' ->qba (pt l j) (nx l j) (pt l' p) (nx l' p)=false)/\Below w.heap.size w wr) (fun i _ _=>n-(intOf i).toNat)
 case atStart=>exact ⟨0,zly _,rfl,fun j hj=>by omega,hb0⟩
 case round=>
  obtain⟨k,hk,rfl,hno,hb⟩:=hrel;clear hb0
  by_cases hlt:k<n
  · obtain⟨wo,hwo⟩:∃wo:World,wo=wr:=⟨_,rfl⟩
    subst hwo;go_wp2
    go_loopw [6] (fun i wr=>∃q:Nat,q<=n' /\i=.int .i64 q/\Hid (∀p,p<q->qba (pt l k) (nx l k) (pt l' p) (nx l' p)=false)/\Below w.heap.size w wr) (fun i _=>n' - (intOf i).toNat)
    case atStart=>exact ⟨0,zly _,rfl,fun j hj=>by omega,hb⟩
    case round=>
     obtain⟨q,hq,rfl,hnq,hb3⟩:=hrel
     by_cases hqt:q<n'
     · obtain⟨_,_,ho,_,c0,c1⟩:=(hl.below (hb3.mono hB)).at_ hlt
       injection ho with ho
       injection ho with ho1 ho2
       subst ho1 ho2;obtain⟨_,_,ho,_,d0,d1⟩:=(hl'.below (hb3.mono hB)).at_ hqt;injection ho with ho
       injection ho with ho1 ho2
       subst ho1 ho2;obtain⟨c2,c3⟩:=qmf (hl.below (hb3.mono hB)) hlt;obtain⟨d2,d3⟩:=qmf (hl'.below (hb3.mono hB)) hqt;have hbs3:=hb3.size;have hbw0:b<wr.heap.size:=oQ
       have hbw2:b' <wr.heap.size:=oQ
       have hk0:(k:Int)<(n:Int):=oQ
       have hq0:(q:Int)<(n' :Int):=oQ
       have hk3:(0:Int)<=(k:Int)+1:=oQ
       have hq3:(0:Int)<=(q:Int)+1:=oQ
       obtain⟨m,hm,hwr,htm,hml⟩:=qfd hlt hn;rw [hm] at c2 c3;clear hm;obtain⟨m',hm',hwr',htm',hml'⟩:=qfd hqt hn';rw [hm'] at d2 d3;clear hm';have hn0:¬ n=0:=oQ
       have hn0' :¬ n' =0:=oQ
       have hml0:(m:Int)<(n:Int):=oQ
       have hml0' :(m' :Int)<(n' :Int):=oQ
       go_wp2_with fail;refine qac kr kr pq ?_
       simp only [zdy,zey,ldz,lds,bare,qal,lcz,lcs,zay]
       repeat' ((try simp only [Act.put,lsi,lsz,lss]);first|(refine lqx ?_)|(refine qab qaa rfl (fun K hK=> ?_);go_simp;((first|(go_at_call 74;refine(qiz _ _ _ _ _ _ _ _ _).monoR ?_;rintro w1 hb1 hc1 hf1 hz1;(try simp at hz1))|skip)<;>(refine hK.out _ _ bel ?_;clear hK K))))
       (all_goals try simp only [Act.put,lsi,lsz,lss]);all_goals(refine qaf ?_)
       go_wp2
       · go_ret
         exact⟨qae (by rw [HF.out,qt1 (i:=k) (k:=q) (by rw [hl.1];exact hlt) (by rw [hl'.1];exact hqt) (by assumption)]),bel⟩
       · have hf:qba ⟨(pt l k).x,(pt l k).y⟩ ⟨(nx l k).x,(nx l k).y⟩ ⟨(pt l' q).x,(pt l' q).y⟩ ⟨(nx l' q).x,(nx l' q).y⟩=false:=by first|assumption|(simpa using (by assumption:¬ qba ⟨(pt l k).x,(pt l k).y⟩ ⟨(nx l k).x,(nx l k).y⟩ ⟨(pt l' q).x,(pt l' q).y⟩ ⟨(nx l' q).x,(nx l' q).y⟩=true))
         have HN:=hdQ hf;clear hf
         go_roundw
         case rel=>exact ⟨q+1,by omega,by go_num,fun j hj=>by
          by_cases e:j=q
          · subst e;exact HN.out
          · exact hnq.out j oQ,bel⟩
         case measure=>simp [intOf];omega
     · go_wp2
       go_roundw
       case rel=>exact ⟨k+1,by omega,by go_num,fun j hj p hp=>by
        by_cases e:j=k
        · subst e;exact hnq.out p oQ
        · exact hno.out j oQ p hp,bel⟩
       case measure=>simp [intOf];omega
  · have HR:Hid (qhd l l' =false):=by
     unfold Hid
     rw [HF.out]
     exact qt2 fun i hi p hp=>hno.out i (by rw [hl.1] at hi;omega) p (by rw [<-hl'.1];exact hp)
    go_wp2;go_ret;exact⟨qae HR.out.symm,bel⟩
theorem qpt {k:Int} {l:List Pt} (ho:ckOb ⟨k,l⟩=0) (hk:¬ k=4):qcp ⟨k,l⟩=true:=by
 rcases qp5 ho with h|h|h|h
 · subst h;rfl
 · subst h;rfl
 · subst h;rfl
 · exact absurd h hk
theorem qse {k:Int} {l:List Pt} (ho:ckOb ⟨k,l⟩=0) (hk:¬ k=4):qaw ⟨k,l⟩=qbz ⟨k,l⟩:=by
 unfold qaw
 rw [qpt ho hk]
 rfl
theorem qpa {l:List Pt} (ho:ckOb ⟨4,l⟩=0):qbg l=0:=(qkf ho).2.2.2 rfl
end Go.Proofs.YtjopdlmbgidigaaGreat
