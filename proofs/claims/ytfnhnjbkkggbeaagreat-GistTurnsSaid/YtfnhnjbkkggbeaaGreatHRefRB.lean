/-Contracts of the references of chapters 5 and 6-/
import Derived.Test.YtfnhnjbkkggbeaaGreatHRef6
import Derived.Test.YtfnhnjbkkggbeaaGreatHRel8
import Derived.Test.YtfnhnjbkkggbeaaGreatHWide
set_option linter.unusedVariables false
set_option linter.unusedSimpArgs false
set_option maxHeartbeats 2000000
set_option maxRecDepth 20000
namespace Go.Proofs.YtfnhnjbkkggbeaaGreat
open Go.RowKit Pg
theorem qod (B n c:Nat) (A:Option Addr) (l:List Pt) (w:World) (hl:qak w B A n l) (hB:B<=w.heap.size) (hn:n<=1000000) (hm:qbi l=0):
 C9 206 #[.slice A n c] w (Ret2 w 0):=by
 have h:=qhr B n c A l w hl hB hn;rw [<-qmg,hm] at h;exact h
theorem q5r {w:World} {x y z u:Value} {t:TypeId}:∀(j:Nat) (v:Value),[x,y,z,u][j]? =some v->(w.alloc (.cells #[x,y,z,u] t)).drew.cell? ((⟨w.heap.size,0,none⟩:Addr).add j)=some v:=by
 intro j v hj
 match j,hj with
 | 0,hj=>simp at hj;subst hj;simp [Addr.add]
 | 1,hj=>simp at hj;subst hj;simp [Addr.add]
 | 2,hj=>simp at hj;subst hj;simp [Addr.add]
 | 3,hj=>simp at hj;subst hj;simp [Addr.add]
theorem q3f {x y z u:Int}:∀v∈ [Value.int .i64 x,.int .i64 y,.int .i64 z,.int .i64 u],v.oneCell' =true:=by
 intro v hv;simp only [List.mem_cons,List.not_mem_nil,or_false] at hv
 rcases hv with rfl|rfl|rfl|rfl<;>rfl
theorem qhh {P:Program} {f:Func} {Q:Ending->World->Prop} {x:Exit} {a:Act} {w:World} (R:World->Prop) (h:R w) (k:∀w2,R w2->bodyPost P f Q x a w2):bodyPost P f Q x a w:=k w h
theorem qlh (B n c:Nat) (A:Option Addr) (l:List Pt) (w:World) (hl:qak w B A n l) (hB:B<=w.heap.size) (hck:qbi l=0):
 C9 194 #[.slice A n c] w (Ret w (.tuple #[bxV (qal l).lo.x (qal l).lo.y (qal l).hi.x (qal l).hi.y,.int .i64 0,.int .i64 0])):=by
 have hn:n<=64:=by have:=qj9 hck;rw [hl.1] at this;omega
 have HC:=hdQ hck;clear hck;obtain⟨i0,hi,iz0,iz1,iz2⟩:=info_parts Tryz.infoBox
 go_enter Tryz.func194,Tryz.ntmps194
 go_wp2_with (go_at_call 206;refine(qod B n c A l _ (hl.tr bel hB) (bsz w hB) oQ HC.out).mono ?_;rintro e w1 ⟨id1,rfl,hb1⟩;obtain⟨hc1,hf1,hz1⟩:=bc3 hb1;(try simp at hz1);have hy0:=ol1 w w1)
 have hP0:Blk w1 w.heap.size 48 #[.int .i64 0,.int .i64 0,.int .i64 0,.int .i64 0]:=blkA;have hb0:Below w.heap.size w w1:=bel
 go_loopw [7,8] (fun s i wr=>∃k:Nat,k<=n/\i=.int .i64 k/\wr.ownsRow (w.heap.size+1) 48 4 s k (qdc ((l.take k).map pbox))/\Blk wr w.heap.size 48 #[.int .i64 0,.int .i64 0,.int .i64 0,.int .i64 0]/\Below w.heap.size w wr) (fun _ i _=>n-(intOf i).toNat)
 case atStart=>exact ⟨0,zly _,rfl,World.ownsRow_nil _ _ _ _,hP0,hb0⟩
 case round=>
  obtain⟨k,hk,rfl,hown,hP,hb⟩:=hrel
  by_cases hlt:k<n
  · obtain⟨b,off,rfl,hab,c0,c1⟩:=(hl.below (hb.mono hB)).at_ hlt
    have hPl:=hP.lt;have hbs:=hb.size;have hbw:b<wr.heap.size:=oQ
    have hk0:(k:Int)<(n:Int):=oQ
    clear hb0 hP0;have hkl:k<l.length:=by rw [hl.1];exact hlt
    go_wp2_with fail;have hbw9:b<w.heap.size+1:=oQ
    have hb5:Below (w.heap.size+1) wr (wr.alloc (.cells #[.int .i64 (pt l k).x,.int .i64 (pt l k).y,.int .i64 (pt l k).x,.int .i64 (pt l k).y] 48)):=Below.mono (B:=wr.heap.size) bel oQ
    go_wp2_with fail;refine qbt (w.heap.size+1) [0,1,2,3,4,5,6,7,8,9,10,11,12] kr kr pq ?_
    simp only [zdy,zey,ldz,lds,bare,qaj,lcz,lcs,zay]
    repeat' ((try simp only [Act.put,lsi,lsz,lss]);first|(refine lqy ?_)|(refine qab qaa rfl (fun K hK=> ?_);(refine wp_append_own _ _ _ 202 rfl (w.heap.size+1) 48 i0 (.agg #[.int .i64 0,.int .i64 0,.int .i64 0,.int .i64 0]) 4 32 Tryz.underlying202 hi iz0 iz1 iz2 rfl dE _ _ _ rfl (qgv (hown.alloc _)) ⟨wr.heap.size,0,none⟩ 1 1 [.int .i64 (pt l k).x,.int .i64 (pt l k).y,.int .i64 (pt l k).x,.int .i64 (pt l k).y] rfl rfl ?_ ?_ ?_ ?_ ?_ ?_);(focus(exact q5r));(focus(exact q3f));(focus(unfold maxLen;omega));(focus omega);(focus(simp;omega));intro v' w2 hown' hgrow _;have hlt' :=hown.lt;have hb2:Below w.heap.size w w2:=(Below.grown (w:=(wr.alloc _).drew) bel hgrow (by simp;omega) (fun j e=>by have:=(hlt' j e).1;omega));have hb3:Below (w.heap.size+1) ((wr.alloc (.cells #[.int .i64 (pt l k).x,.int .i64 (pt l k).y,.int .i64 (pt l k).x,.int .i64 (pt l k).y] 48)).drew) w2:=(Below.grown (w:=(wr.alloc (.cells #[.int .i64 (pt l k).x,.int .i64 (pt l k).y,.int .i64 (pt l k).x,.int .i64 (pt l k).y] 48)).drew) (Below.refl _ _) hgrow (by simp;omega) (fun j e=>(hlt' j e).1));have hb4:Below (w.heap.size+1) wr w2:=(Below.trans bel hb3);refine hK.out _ _ (by first|with_reducible exact qdm|with_reducible exact Below.drew qdm|exact bel) ?_;clear hK K)|(refine qab qaa rfl (fun K hK=> ?_);go_simp;((first|fail  | skip)<;>(refine hK.out _ _ (by first|with_reducible exact qdm|with_reducible exact Below.drew qdm|exact bel) ?_;clear hK K))))
    (all_goals try simp only [Act.put,lsi,lsz,lss]);all_goals(refine qad ?_)
    have hP2:Blk w2 w.heap.size 48 #[.int .i64 0,.int .i64 0,.int .i64 0,.int .i64 0]:=(hP.alloc _).drew.below hb3 oQ
    have hown2:w2.ownsRow (w.heap.size+1) 48 4 v' (k+1) (qdc ((l.take (k+1)).map pbox)):=by
     have:qdc ((l.take (k+1)).map pbox)=qdc ((l.take k).map pbox)++ [.int .i64 (pt l k).x,.int .i64 (pt l k).y,.int .i64 (pt l k).x,.int .i64 (pt l k).y]:=by
      rw [zwy,qkd hkl]
      simp only [Option.toList_some,zfx,zdy,zey,qgi]
      rfl
     rw [this]
     exact hown'
    clear hown' hgrow hown hP hlt' hb3 c0 c1;go_wp2
    go_roundw
    case rel=>exact ⟨k+1,by omega,by go_num,hown2,hP2,hb2⟩
    case measure=>simp [intOf];omega
  · have hkn:k=n:=oQ
    subst hkn;obtain⟨A2,c2,rfl,hbx⟩:=qhn (l:=(l.take k).map pbox) hown (by simp [hl.1])
    rw [zmy (by rw [hl.1];exact zhy _)] at hbx
    have hPc:=hP.cell;have hPf:=hP.frozen;have hPl:=hP.lt
    have HW:C9 202 #[.slice A2 k c2] wr (Ret wr (.tuple #[bxV (qal l).lo.x (qal l).lo.y (qal l).hi.x (qal l).hi.y,.int .i64 0])):=by
     have:=qjn wr.heap.size k c2 A2 (l.map pbox) wr hbx (zhy _) oQ
     rw [show l.map pbox=l.map (fun p=>⟨p,p⟩) from rfl,qpw HC.out] at this
     exact this
    clear hb0 hP0 hb1 hc1 hf1 hy0
    go_wp2_with (go_at_call 202;refine HW.monoR ?_;rintro w1 hb1 hc1 hf1 hz1;(try simp at hz1);have hy0:=ol1 w w1)
    refine qhh (R:=fun w2=>Blk w2 w.heap.size 48 #[.int .i64 (qal l).lo.x,.int .i64 (qal l).lo.y,.int .i64 (qal l).hi.x,.int .i64 (qal l).hi.y]/\Below w.heap.size w w2) ⟨(((((((hP.tr hb1)).set_ 0 (.int .i64 (qal l).lo.x)).set_ 1 (.int .i64 (qal l).lo.y)).set_ 2 (.int .i64 (qal l).hi.x)).set_ 3 (.int .i64 (qal l).hi.y)).alloc _).eq_ sI,bel⟩ ?_
    rintro w2 ⟨HR,hb2⟩;have r0:=HR.cell 0;have r1:=HR.cell 1;have r2:=HR.cell 2;have r3:=HR.cell 3
    simp at r0 r1 r2 r3
    exact bodyPost_ret (v:=.tuple #[bxV (qal l).lo.x (qal l).lo.y (qal l).hi.x (qal l).hi.y,.int .i64 0,.int .i64 0]) (by simp [results,Tryz.results194,go_sem,r0,r1,r2,r3]) rfl ⟨rfl,hb2⟩
theorem qfc {W:World} {g:Nat} {t:TypeId} {x y z u a b c d:Value} (h:Blk W g t #[x,y,z,u]):
 Blk ((((W.setCell ⟨g,0,none⟩ a).setCell ⟨g,1,none⟩ b).setCell ⟨g,2,none⟩ c).setCell ⟨g,3,none⟩ d) g t #[a,b,c,d]:=
 ((((h.set_ 0 a).set_ 1 b).set_ 2 c).set_ 3 d).eq_ sI
theorem qvb {k:Int} {l:List Pt} (ho:ckOb ⟨k,l⟩=0):k=1\/k=2\/k=3\/k=4:=by
 by_cases k1:k=1
 · exact .inl k1
 by_cases k2:k=2
 · exact .inr (.inl k2)
 by_cases k3:k=3
 · exact .inr (.inr (.inl k3))
 by_cases k4:k=4
 · exact .inr (.inr (.inr k4))
 · simp [ckOb,k1,k2,k3,k4] at ho
theorem qr7 (B n c:Nat) (k:Int) (A:Option Addr) (l:List Pt) (w:World) (hl:qak w B A n l) (hB:B<=w.heap.size) (hn:n<=1000000) (ho:ckOb ⟨k,l⟩≠0):
 C9 185 #[obV k A n c] w (Ret w (.tuple #[bxW qcu,.int .i64 (ckOb ⟨k,l⟩)])):=by
 obtain⟨m,hm⟩:∃m:Nat,ckOb ⟨k,l⟩=m:=⟨_,rfl⟩
 rw [hm] at ho ⊢
 have hm0:((m:Int) !=0)=true:=by rw [bne_iff_ne];omega
 have HF:Hid (qel ⟨k,l⟩=m):=by unfold Hid;rw [<-q0j];exact hm
 clear hm ho
 go_enter Tryz.func185,Tryz.ntmps185
 go_wp2_with (go_at_call 197;refine(qfw B n c k A l _ (hl.tr bel hB) (bsz w hB) hn).mono ?_;rw [HF.out];rintro e w1 ⟨rfl,hb1⟩;obtain⟨hc1,hf1,hz1⟩:=bc3 hb1;(try simp at hz1);obtain⟨hy0,hy1⟩:=ol2 w w1)
 refine qhh (R:=fun w2=>Blk w2 (w.heap.size+1) 48 #[.int .i64 0,.int .i64 0,.int .i64 0,.int .i64 0]/\Below w.heap.size w w2) ⟨qfc (x:=.int .i64 0) (y:=.int .i64 0) (z:=.int .i64 0) (u:=.int .i64 0) blkA,bel⟩ ?_
 rintro w2 ⟨HR,hb2⟩;have r0:=HR.cell 0;have r1:=HR.cell 1;have r2:=HR.cell 2;have r3:=HR.cell 3
 simp at r0 r1 r2 r3
 exact bodyPost_ret (v:=.tuple #[bxW qcu,.int .i64 m]) (by simp [results,Tryz.results185,go_sem,r0,r1,r2,r3,qcu]) rfl ⟨rfl,hb2⟩
theorem qv3 (B n c:Nat) (k:Int) (A:Option Addr) (l:List Pt) (w:World) (hl:qak w B A n l) (hB:B<=w.heap.size) (hn:n<=1000000) (ho:ckOb ⟨k,l⟩=0):
 C9 185 #[obV k A n c] w (Ret w (.tuple #[bxW (qas ⟨k,l⟩),.int .i64 0])):=by
 have HF:Hid (qel ⟨k,l⟩=0):=by unfold Hid;rw [<-q0j];exact ho
 have hlens:=qmf ho;rw [hl.1] at hlens;obtain⟨p1,p2,p3,p4⟩:=hlens
 have hn1:0<n:=by
  rcases qvb ho with h|h|h|h
  · exact p1 (.inl h)
  · exact p1 (.inr h)
  · exact zky dE (p2 h)
  · have:=qj9 (p4 (by rw [h];rfl))
    rw [hl.1] at this
    omega
 obtain⟨b,off,rfl,hab,c0,c1⟩:=hl.at_ (k:=0) hn1;simp only [Nat.zero_mul,Nat.add_zero] at c0 c1;have hbw:b<w.heap.size:=oQ
 have hbw1:b<w.heap.size+1:=oQ
 have hbw2:b<w.heap.size+1+1:=oQ
 rcases qvb ho with h|h|h|h
 · subst h
   have HS:Hid (qas ⟨1,l⟩=⟨pt l 0,pt l 0⟩):=rfl;clear ho p1 p2 p3 p4
   go_enter Tryz.func185,Tryz.ntmps185
   go_wp2_with (go_at_call 197;refine(qfw B n c 1 _ l _ (hl.tr bel hB) (bsz w hB) hn).mono ?_;rw [HF.out];rintro e w1 ⟨rfl,hb1⟩;obtain⟨hc1,hf1,hz1⟩:=bc3 hb1;(try simp at hz1);obtain⟨hy0,hy1⟩:=ol2 w w1;have hbx:b<w1.heap.size:=oQ)
   refine qhh (R:=fun w2=>Blk w2 (w.heap.size+1) 48 #[.int .i64 (pt l 0).x,.int .i64 (pt l 0).y,.int .i64 (pt l 0).x,.int .i64 (pt l 0).y]/\Below w.heap.size w w2) ⟨(qfc (x:=.int .i64 0) (y:=.int .i64 0) (z:=.int .i64 0) (u:=.int .i64 0) blkA).alloc _,bel⟩ ?_
   rintro w2 ⟨HR,hb2⟩;have r0:=HR.cell 0;have r1:=HR.cell 1;have r2:=HR.cell 2;have r3:=HR.cell 3
   simp at r0 r1 r2 r3
   rw [HS.out]
   exact bodyPost_ret (v:=.tuple #[.agg #[.int .i64 (pt l 0).x,.int .i64 (pt l 0).y,.int .i64 (pt l 0).x,.int .i64 (pt l 0).y],.int .i64 0]) (by simp [results,Tryz.results185,go_sem,r0,r1,r2,r3]) rfl ⟨rfl,hb2⟩
 · subst h
   have HS:Hid (qas ⟨2,l⟩=⟨⟨(pt l 0).x,0⟩,⟨(pt l 0).y,0⟩⟩):=rfl;clear ho p1 p2 p3 p4
   go_enter Tryz.func185,Tryz.ntmps185
   go_wp2_with (go_at_call 197;refine(qfw B n c 2 _ l _ (hl.tr bel hB) (bsz w hB) hn).mono ?_;rw [HF.out];rintro e w1 ⟨rfl,hb1⟩;obtain⟨hc1,hf1,hz1⟩:=bc3 hb1;(try simp at hz1);obtain⟨hy0,hy1⟩:=ol2 w w1;have hbx:b<w1.heap.size:=oQ)
   refine qhh (R:=fun w2=>Blk w2 (w.heap.size+1) 48 #[.int .i64 (pt l 0).x,.int .i64 0,.int .i64 (pt l 0).y,.int .i64 0]/\Below w.heap.size w w2) ⟨(qfc (x:=.int .i64 0) (y:=.int .i64 0) (z:=.int .i64 0) (u:=.int .i64 0) blkA).alloc _,bel⟩ ?_
   rintro w2 ⟨HR,hb2⟩;have r0:=HR.cell 0;have r1:=HR.cell 1;have r2:=HR.cell 2;have r3:=HR.cell 3
   simp at r0 r1 r2 r3
   rw [HS.out]
   exact bodyPost_ret (v:=.tuple #[.agg #[.int .i64 (pt l 0).x,.int .i64 0,.int .i64 (pt l 0).y,.int .i64 0],.int .i64 0]) (by simp [results,Tryz.results185,go_sem,r0,r1,r2,r3]) rfl ⟨rfl,hb2⟩
 · subst h
   have HS:Hid (qas ⟨3,l⟩=⟨pt l 0,pt l 1⟩):=rfl;have hn2:1<n:=p2 rfl;have hn3:(1:Int)<n:=oQ
   obtain⟨b',off',he,hab',c2,c3⟩:=hl.at_ (k:=1) hn2;injection he with he
   injection he with he1 he2
   subst he1 he2;simp only [Nat.one_mul] at c2 c3;clear ho p1 p2 p3 p4
   go_enter Tryz.func185,Tryz.ntmps185
   go_wp2_with (go_at_call 197;refine(qfw B n c 3 _ l _ (hl.tr bel hB) (bsz w hB) hn).mono ?_;rw [HF.out];rintro e w1 ⟨rfl,hb1⟩;obtain⟨hc1,hf1,hz1⟩:=bc3 hb1;(try simp at hz1);obtain⟨hy0,hy1⟩:=ol2 w w1;have hbx:b<w1.heap.size:=oQ)
   have hbl:off+1*2=off+2:=oQ
   refine qpd (fun w2=>Below w.heap.size w w2/\Blk w2 w.heap.size 40 #[.int .i64 3,.slice (some ⟨b,off,none⟩) n c]/\Blk w2 (w.heap.size+1) 48 #[.int .i64 0,.int .i64 0,.int .i64 0,.int .i64 0]/\Blk w2 w1.heap.size 46 #[.int .i64 (pt l 0).x,.int .i64 (pt l 0).y]) ⟨bel,blkA,blkA,blkA⟩ ?_
   clear hb1 hc1 hf1;rintro w2 ⟨hb,hO,hZ,hP⟩;have o1:=hO.cell 1;have q0:=hP.cell 0;have q1:=hP.cell 1;have z0:=hZ.cell 0;have z1:=hZ.cell 1;have z2:=hZ.cell 2;have z3:=hZ.cell 3;have fZ:=hZ.frozen;have lZ:=hZ.lt;have lO:=hO.lt;have lP:=hP.lt
   simp at o1 q0 q1 z0 z1 z2 z3
   obtain⟨_,_,ho,_,c2,c3⟩:=(hl.below (hb.mono hB)).at_ hn2;injection ho with ho
   injection ho with ho1 ho2
   subst ho1 ho2;simp only [Nat.one_mul] at c2 c3;have hbr:b<w2.heap.size:=by have:=hb.size;omega
   go_still_tail 6,kr
   change wpList _ _ _ _ _ w2.drew
   go_wp2;refine qhh (R:=fun w2=>Blk w2 (w.heap.size+1) 48 #[.int .i64 (pt l 0).x,.int .i64 (pt l 0).y,.int .i64 (pt l 1).x,.int .i64 (pt l 1).y]/\Below w.heap.size w w2) ⟨qfc hZ.drew,bel⟩ ?_
   rintro w2 ⟨HR,hb2⟩;have r0:=HR.cell 0;have r1:=HR.cell 1;have r2:=HR.cell 2;have r3:=HR.cell 3
   simp at r0 r1 r2 r3
   rw [HS.out]
   exact bodyPost_ret (v:=.tuple #[.agg #[.int .i64 (pt l 0).x,.int .i64 (pt l 0).y,.int .i64 (pt l 1).x,.int .i64 (pt l 1).y],.int .i64 0]) (by simp [results,Tryz.results185,go_sem,r0,r1,r2,r3]) rfl ⟨rfl,hb2⟩
 · subst h
   have HS:Hid (qas ⟨4,l⟩=qal l):=rfl;have hck:=hdQ (p4 rfl);clear ho p1 p2 p3 p4
   go_enter Tryz.func185,Tryz.ntmps185
   go_wp2_with (first|(go_at_call 197;refine(qfw B n c 4 _ l _ (hl.tr bel hB) (bsz w hB) hn).mono ?_;rw [HF.out];rintro e w1 ⟨rfl,hb1⟩;obtain⟨hc1,hf1,hz1⟩:=bc3 hb1;(try simp at hz1);obtain⟨hy0,hy1⟩:=ol2 w w1;have hbx:b<w1.heap.size:=oQ)|(go_at_call 194;refine(qlh B n c _ l _ (hl.tr bel hB) (bsz w hB) hck.out).monoR ?_;rintro wa hba hca hfa hza;(try simp at hza);obtain⟨hya0,hya1⟩:=ol2 w wa))
   refine qhh (R:=fun w2=>Blk w2 (w.heap.size+1) 48 #[.int .i64 (qal l).lo.x,.int .i64 (qal l).lo.y,.int .i64 (qal l).hi.x,.int .i64 (qal l).hi.y]/\Below w.heap.size w w2) ⟨(qfc (x:=.int .i64 0) (y:=.int .i64 0) (z:=.int .i64 0) (u:=.int .i64 0) blkA).alloc _,bel⟩ ?_
   rintro w2 ⟨HR,hb2⟩;have r0:=HR.cell 0;have r1:=HR.cell 1;have r2:=HR.cell 2;have r3:=HR.cell 3
   simp at r0 r1 r2 r3
   rw [HS.out]
   exact bodyPost_ret (v:=.tuple #[.agg #[.int .i64 (qal l).lo.x,.int .i64 (qal l).lo.y,.int .i64 (qal l).hi.x,.int .i64 (qal l).hi.y],.int .i64 0]) (by simp [results,Tryz.results185,go_sem,r0,r1,r2,r3]) rfl ⟨rfl,hb2⟩
theorem Blk.ne {w:World} {g g' :Nat} {t t' :TypeId} {cs cs' :Array Value} (h:Blk w g t cs) (h' :Blk w g' t' cs') (ht:t≠t'):g≠g' :=by
 intro e;subst e;have h2:=(zjx (h.symm.trans h'));injection h2 with h3 h4
 exact ht h4
theorem ErrC.far {w:World} {v:Value} {k r:Nat} {t:TypeId} {cs:Array Value} (h:ErrC w v k) (hr:Blk w r t cs) (ht:124≠t) (i:Nat) (x:Value):ErrC (w.setCell ⟨r,i,none⟩ x) v k:=by
 rcases h with h|h|⟨h0,g,s,id,e,hB⟩
 · exact .inl h
 · exact .inr (.inl h)
 · exact .inr (.inr ⟨h0,g,s,id,e,hB.far (p:=⟨r,i,none⟩) (Blk.ne hB hr ht) x⟩)
theorem ErrW.far {w:World} {v:Value} {k r:Nat} {s:ByteArray} {id:Int} {t:TypeId} {cs:Array Value} (h:ErrW w v k s id) (hr:Blk w r t cs) (ht:124≠t) (i:Nat) (x:Value):ErrW (w.setCell ⟨r,i,none⟩ x) v k s id:=by
 rcases h with h|⟨h0,g,inner,e,hB,hi⟩
 · exact .inl h
 · exact .inr ⟨h0,g,inner,e,hB.far (p:=⟨r,i,none⟩) (Blk.ne hB hr ht) x,hi.far hr ht i x⟩
theorem ErrW.put4 {w:World} {v:Value} {k r:Nat} {s:ByteArray} {id:Int} {t:TypeId} {cs:Array Value} (h:ErrW w v k s id) (hr:Blk w r t cs) (ht:124≠t) (x y z u:Value):
 ErrW ((((w.setCell ⟨r,0,none⟩ x).setCell ⟨r,1,none⟩ y).setCell ⟨r,2,none⟩ z).setCell ⟨r,3,none⟩ u) v k s id:=
 (((h.far hr ht 0 x).far (hr.set_ 0 x) ht 1 y).far ((hr.set_ 0 x).set_ 1 y) ht 2 z).far (((hr.set_ 0 x).set_ 1 y).set_ 2 z) ht 3 u
theorem qxl (B n c:Nat) (k:Int) (A:Option Addr) (l:List Pt) (w:World) (hl:qak w B A n l) (hB:B<=w.heap.size) (hn:n<=1000000) (ho:ckOb ⟨k,l⟩≠0):
 C9 105 #[obV k A n c] w fun e w' =>∃v,e=.returned (.tuple #[bxW qcu,v])/\ErrW w' v (ckOb ⟨k,l⟩) ⟨#[111,98,106,101,99,116]⟩ k/\Below w.heap.size w w' :=by
 obtain⟨m,hm⟩:∃m:Nat,ckOb ⟨k,l⟩=m:=⟨_,rfl⟩
 rw [hm] at ho ⊢
 have HF:=hdQ hm;clear hm
 go_enter Tryz.func105,Tryz.ntmps105
 go_wp2_with (go_at_call 50;refine(qg7 B n c k A l _ (hl.tr bel hB) (bsz w hB) hn).mono ?_;rw [HF.out];rintro e wa ⟨va,rfl,hva,hba⟩;obtain⟨t,u,rfl⟩:∃t u,va=.iface t u:=(by rcases hva with ⟨h,_⟩|⟨_,g,i,h,_⟩;exact absurd h ho;exact⟨_,_,h⟩);obtain⟨hca,hfa,hza⟩:=bc3 hba;(try simp at hza);obtain⟨hy0,hy1⟩:=ol2 w wa)
 refine qai (R:=fun w2=>Blk w2 (w.heap.size+1) 48 #[.int .i64 0,.int .i64 0,.int .i64 0,.int .i64 0]/\ErrW w2 (.iface t u) m ⟨#[111,98,106,101,99,116]⟩ k/\Below w.heap.size w w2) ⟨?_,?_,bel⟩ ?_
 · repeat(first|with_reducible exact qfc (x:=.int .i64 0) (y:=.int .i64 0) (z:=.int .i64 0) (u:=.int .i64 0) blkA|(with_reducible refine Blk.new ?_ rfl;focus(simp;done))|with_reducible refine Blk.alloc ?_ _|with_reducible refine Blk.drew ?_)
 · exact hva.put4 (r:=w.heap.size+1) (t:=48) (cs:= #[.int .i64 0,.int .i64 0,.int .i64 0,.int .i64 0]) blkA dE _ _ _ _
 rintro w2 ⟨HR,hE,hb2⟩;obtain⟨r0,r1,r2,r3⟩:=ce4 HR;exact bodyPost_ret (v:=.tuple #[bxW qcu,.iface t u]) (by simp [results,Tryz.results105,go_sem,r0,r1,r2,r3,qcu]) rfl ⟨_,rfl,hE,hb2⟩
end Go.Proofs.YtfnhnjbkkggbeaaGreat
