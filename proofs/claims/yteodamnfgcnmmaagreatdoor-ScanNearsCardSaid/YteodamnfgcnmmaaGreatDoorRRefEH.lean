/-Contracts of the references: BoxDist, SegDist.-/
import Derived.Test.YteodamnfgcnmmaaGreatDoorRArea
import Derived.Test.YteodamnfgcnmmaaGreatDoorRDist4
import Derived.Test.YteodamnfgcnmmaaGreatDoorRRefRB
set_option linter.unusedVariables false
set_option linter.unusedSimpArgs false
set_option maxHeartbeats 4000000
set_option maxRecDepth 20000
namespace Go.Proofs.YteodamnfgcnmmaaGreatDoor
open Go.RowKit Pg
theorem qha (ax ay bx by_ cx cy:Int) (h:(okPt ⟨ax,ay⟩&&okPt ⟨bx,by_⟩&&okPt ⟨cx,cy⟩)=true) (w:World):
 C9 112 #[ptV ax ay,ptV bx by_,ptV cx cy] w (Ret w (.int .i64 (dotR ⟨ax,ay⟩ ⟨bx,by_⟩ ⟨cx,cy⟩))):=by
 have H:Hid (dotR ⟨ax,ay⟩ ⟨bx,by_⟩ ⟨cx,cy⟩=(bx-ax)*(cx-ax)+(by_-ay)*(cy-ay)):=rfl;obtain⟨⟨a1,a2⟩,⟨a3,a4⟩,⟨a5,a6⟩,⟨a7,a8⟩⟩:=q31 h;have b1:=qf4 (m:=2147483646) (n:=2147483646) a1 a2 a3 a4;have b2:=qf4 (m:=2147483646) (n:=2147483646) a5 a6 a7 a8
 simp only at a1 a2 a3 a4 a5 a6 a7 a8 b1 b2
 obtain⟨b1,b3⟩:=b1;obtain⟨b2,b4⟩:=b2
 go_enter Tryz.func112,Tryz.ntmps112
 go_wp2;go_ret;exact⟨by rw [H.out];rfl,bel⟩
theorem qsb (ax ay px py:Int) (hok:(okPt ⟨ax,ay⟩&&okPt ⟨ax,ay⟩&&okPt ⟨px,py⟩)=true) (w:World):
 C9 70 #[ptV ax ay,ptV ax ay,ptV px py] w (Ret w (fV (segF ⟨ax,ay⟩ ⟨ax,ay⟩ ⟨px,py⟩))):=by
 have HM:=hdQ hok;have h3:=hok;simp only [ziy] at h3;obtain⟨⟨oa,ob⟩,op⟩:=h3;have hokd:(okPt ⟨ax,ay⟩&&okPt ⟨ax,ay⟩&&okPt ⟨px,py⟩)=true:=by simp [oa,op]
 have HS1:Hid (∀w,C9 113 #[ptV ax ay,ptV px py] w (Ret w (fV ⟨sqs (ax-px) (ay-py),1⟩))):=fun w=>qdc ⟨ax,ay⟩ ⟨px,py⟩ oa op w
 have HS2:Hid (∀w,C9 113 #[ptV ax ay,ptV px py] w (Ret w (fV ⟨sqs (ax-px) (ay-py),1⟩))):=fun w=>qdc ⟨ax,ay⟩ ⟨px,py⟩ ob op w
 have HS3:Hid (∀w,C9 113 #[ptV ax ay,ptV ax ay] w (Ret w (fV ⟨sqs (ax-ax) (ay-ay),1⟩))):=fun w=>qdc ⟨ax,ay⟩ ⟨ax,ay⟩ oa ob w
 have HD1:=hdQ (fun w=>qha ax ay ax ay px py hok w)
 have HD2:=hdQ (fun w=>qha ax ay ax ay px py hokd w)
 have HE:segF ⟨ax,ay⟩ ⟨ax,ay⟩ ⟨px,py⟩=if (⟨ax,ay⟩:Pt)=⟨ax,ay⟩\/dotR ⟨ax,ay⟩ ⟨ax,ay⟩ ⟨px,py⟩<=0 then⟨sqs (ax-px) (ay-py),1⟩ else if dotR ⟨ax,ay⟩ ⟨ax,ay⟩ ⟨px,py⟩<=0 then⟨sqs (ax-px) (ay-py),1⟩ else lowF ((qae ⟨ax,ay⟩ ⟨ax,ay⟩ ⟨px,py⟩).natAbs*(qae ⟨ax,ay⟩ ⟨ax,ay⟩ ⟨px,py⟩).natAbs) (sqs (ax-ax) (ay-ay)):=by
  unfold segF;rw [hok];rfl
 have he:(⟨ax,ay⟩:Pt)=⟨ax,ay⟩:=rfl;rw [if_pos (.inl he)] at HE;rw [qay] at HS1
 rw [HE,qay]
 obtain⟨x,y,z,e⟩:=qch ⟨sqs (ax-px) (ay-py),1⟩
 rw [e] at HS1 ⊢
 clear e HE HS2 HS3 HD1 HD2 hokd hok he
 go_enter Tryz.func70,Tryz.ntmps70
 go_wp2_with (first|(go_at_call 9;refine(qai _ _ _).monoR ?_;rintro w1 hb1 hc1 hf1 hz1;(try simp at hz1);obtain⟨hy0,hy1,hy2,hy3⟩:=ol4 w w1)|(go_at_call 113;(with_reducible refine(HS1.out _).monoR ?_);rintro w1 hb1 hc1 hf1 hz1;(try simp at hz1);obtain⟨hy0,hy1,hy2,hy3⟩:=ol4 w w1))
 refine qaf (R:=fun w2=>Blk w2 (w.heap.size+1+1+1) 56 #[.int .u64 x,.int .u64 y,.int .u64 z]/\Below w.heap.size w w2) ⟨?_,bel⟩ ?_
 · repeat(first|with_reducible exact qaj (x:=.int .u64 0) (y:=.int .u64 0) (z:=.int .u64 0) blkA|(with_reducible refine Blk.new ?_ rfl;focus(simp;done))|with_reducible refine Blk.alloc ?_ _|with_reducible refine Blk.drew ?_)
 rintro w2 ⟨HR,hb2⟩;obtain⟨r0,r1,r2⟩:=ce3 HR;exact bodyPost_ret (v:=.agg #[.int .u64 x,.int .u64 y,.int .u64 z]) (by simp [results,Tryz.results70,go_sem,r0,r1,r2]) rfl ⟨rfl,hb2⟩
theorem qsa (ax ay bx by_ px py:Int) (hx:¬ ax=bx) (hok:(okPt ⟨ax,ay⟩&&okPt ⟨bx,by_⟩&&okPt ⟨px,py⟩)=true) (w:World):
 C9 70 #[ptV ax ay,ptV bx by_,ptV px py] w (Ret w (fV (segF ⟨ax,ay⟩ ⟨bx,by_⟩ ⟨px,py⟩))):=by
 have HM:=hdQ hok;have h3:=hok;simp only [ziy] at h3;obtain⟨⟨oa,ob⟩,op⟩:=h3;have hokd:(okPt ⟨bx,by_⟩&&okPt ⟨ax,ay⟩&&okPt ⟨px,py⟩)=true:=by rw [oa,ob,op];rfl
 have HS1:Hid (∀w,C9 113 #[ptV ax ay,ptV px py] w (Ret w (fV ⟨sqs (ax-px) (ay-py),1⟩))):=fun w=>qdc ⟨ax,ay⟩ ⟨px,py⟩ oa op w
 have HS2:Hid (∀w,C9 113 #[ptV bx by_,ptV px py] w (Ret w (fV ⟨sqs (bx-px) (by_-py),1⟩))):=fun w=>qdc ⟨bx,by_⟩ ⟨px,py⟩ ob op w
 have HS3:Hid (∀w,C9 113 #[ptV ax ay,ptV bx by_] w (Ret w (fV ⟨sqs (ax-bx) (ay-by_),1⟩))):=fun w=>qdc ⟨ax,ay⟩ ⟨bx,by_⟩ oa ob w
 have HD1:=hdQ (fun w=>qha ax ay bx by_ px py hok w)
 have HD2:=hdQ (fun w=>qha bx by_ ax ay px py hokd w)
 have HE:segF ⟨ax,ay⟩ ⟨bx,by_⟩ ⟨px,py⟩=if (⟨ax,ay⟩:Pt)=⟨bx,by_⟩\/dotR ⟨ax,ay⟩ ⟨bx,by_⟩ ⟨px,py⟩<=0 then⟨sqs (ax-px) (ay-py),1⟩ else if dotR ⟨bx,by_⟩ ⟨ax,ay⟩ ⟨px,py⟩<=0 then⟨sqs (bx-px) (by_-py),1⟩ else lowF ((qae ⟨ax,ay⟩ ⟨bx,by_⟩ ⟨px,py⟩).natAbs*(qae ⟨ax,ay⟩ ⟨bx,by_⟩ ⟨px,py⟩).natAbs) (sqs (ax-bx) (ay-by_)):=by
  unfold segF;rw [hok];rfl
 have he:¬ (⟨ax,ay⟩:Pt)=⟨bx,by_⟩:=fun e=>hx (congrArg Pt.x e)
 obtain⟨d1,ed1⟩:∃d,dotR ⟨ax,ay⟩ ⟨bx,by_⟩ ⟨px,py⟩=d:=⟨_,rfl⟩;obtain⟨d2,ed2⟩:∃d,dotR ⟨bx,by_⟩ ⟨ax,ay⟩ ⟨px,py⟩=d:=⟨_,rfl⟩;rw [ed1] at HD1 HE;rw [ed2] at HD2 HE
 by_cases hd1:d1<=0
 · rw [if_pos (.inr hd1)] at HE
   rw [qay] at HS1
   rw [HE,qay]
   obtain⟨x,y,z,e⟩:=qch ⟨sqs (ax-px) (ay-py),1⟩
   rw [e] at HS1 ⊢
   clear e HE HS2 HS3 HD2 hokd hok he ed1 ed2
   go_enter Tryz.func70,Tryz.ntmps70
   go_wp2_with (first|(go_at_call 9;refine(qai _ _ _).monoR ?_;rintro w1 hb1 hc1 hf1 hz1;(try simp at hz1);obtain⟨hy0,hy1,hy2,hy3⟩:=ol4 w w1)|(go_at_call 112;(with_reducible refine(HD1.out _).monoR ?_);rintro w1 hb1 hc1 hf1 hz1;(try simp at hz1);obtain⟨hy0,hy1,hy2,hy3⟩:=ol4 w w1)|(go_at_call 113;(with_reducible refine(HS1.out _).monoR ?_);rintro w1 hb1 hc1 hf1 hz1;(try simp at hz1);obtain⟨hy0,hy1,hy2,hy3⟩:=ol4 w w1))
   refine qaf (R:=fun w2=>Blk w2 (w.heap.size+1+1+1) 56 #[.int .u64 x,.int .u64 y,.int .u64 z]/\Below w.heap.size w w2) ⟨?_,bel⟩ ?_
   · repeat(first|with_reducible exact qaj (x:=.int .u64 0) (y:=.int .u64 0) (z:=.int .u64 0) blkA|(with_reducible refine Blk.new ?_ rfl;focus(simp;done))|with_reducible refine Blk.alloc ?_ _|with_reducible refine Blk.drew ?_)
   rintro w2 ⟨HR,hb2⟩;obtain⟨r0,r1,r2⟩:=ce3 HR;exact bodyPost_ret (v:=.agg #[.int .u64 x,.int .u64 y,.int .u64 z]) (by simp [results,Tryz.results70,go_sem,r0,r1,r2]) rfl ⟨rfl,hb2⟩
 by_cases hd2:d2<=0
 · rw [if_neg (fun h=>h.elim he hd1),if_pos hd2] at HE
   rw [qay] at HS2
   rw [HE,qay]
   obtain⟨x,y,z,e⟩:=qch ⟨sqs (bx-px) (by_-py),1⟩
   rw [e] at HS2 ⊢
   clear e HE HS1 HS3 hokd hok he ed1 ed2
   go_enter Tryz.func70,Tryz.ntmps70
   go_wp2_with (first|(go_at_call 9;refine(qai _ _ _).monoR ?_;rintro w1 hb1 hc1 hf1 hz1;(try simp at hz1);obtain⟨hy0,hy1,hy2,hy3⟩:=ol4 w w1)|(go_at_call 112;(with_reducible refine(HD1.out _).monoR ?_);rintro w1 hb1 hc1 hf1 hz1;(try simp at hz1);obtain⟨hy0,hy1,hy2,hy3⟩:=ol4 w w1)|(go_at_call 112;(with_reducible refine(HD2.out _).monoR ?_);rintro w1 hb1 hc1 hf1 hz1;(try simp at hz1);obtain⟨hy0,hy1,hy2,hy3⟩:=ol4 w w1)|(go_at_call 113;(with_reducible refine(HS2.out _).monoR ?_);rintro w1 hb1 hc1 hf1 hz1;(try simp at hz1);obtain⟨hy0,hy1,hy2,hy3⟩:=ol4 w w1))
   refine qaf (R:=fun w2=>Blk w2 (w.heap.size+1+1+1) 56 #[.int .u64 x,.int .u64 y,.int .u64 z]/\Below w.heap.size w w2) ⟨?_,bel⟩ ?_
   · repeat(first|with_reducible exact qaj (x:=.int .u64 0) (y:=.int .u64 0) (z:=.int .u64 0) blkA|(with_reducible refine Blk.new ?_ rfl;focus(simp;done))|with_reducible refine Blk.alloc ?_ _|with_reducible refine Blk.drew ?_)
   rintro w2 ⟨HR,hb2⟩;obtain⟨r0,r1,r2⟩:=ce3 HR;exact bodyPost_ret (v:=.agg #[.int .u64 x,.int .u64 y,.int .u64 z]) (by simp [results,Tryz.results70,go_sem,r0,r1,r2]) rfl ⟨rfl,hb2⟩
 rw [if_neg (fun h=>h.elim he hd1),if_neg hd2] at HE
 have hCb:=qg3 hok
 have HC:Hid (∀w,C9 111 #[ptV ax ay,ptV bx by_,ptV px py] w (Ret w (.int .i64 (qae ⟨ax,ay⟩ ⟨bx,by_⟩ ⟨px,py⟩)))):=fun w=>by
  have h:=qck ax ay bx by_ px py w;unfold qc9 at h;rw [if_pos hok] at h;exact h
 have hDpos:0<sqs (ax-bx) (ay-by_):=qgu (a:=⟨ax,ay⟩) (b:=⟨bx,by_⟩) he
 have hDlt:sqs (ax-bx) (ay-by_)<18446744073709551616:=by
  obtain⟨p1,p2,p3,p4⟩:=qaq oa;obtain⟨q1,q2,q3,q4⟩:=qaq ob
  simp only at p1 p2 p3 p4 q1 q2 q3 q4
  exact qkx oQ oQ oQ oQ
 have HSm0:Hid (∀w,C9 109 #[.int .i64 (ax-bx),.int .i64 (ay-by_)] w (Ret w (uV (sqs (ax-bx) (ay-by_))))):=fun w=>by
  obtain⟨p1,p2,p3,p4⟩:=qaq oa;obtain⟨q1,q2,q3,q4⟩:=qaq ob
  simp only at p1 p2 p3 p4 q1 q2 q3 q4
  exact qj6 _ _ oQ oQ oQ oQ w
 have ex1:IntKind.i64.wrap (ax-bx)=ax-bx:=by
  obtain⟨p1,p2,p3,p4⟩:=qaq oa;obtain⟨q1,q2,q3,q4⟩:=qaq ob
  simp only at p1 p2 p3 p4 q1 q2 q3 q4
  rw [IntKind.wrap_i64];omega
 have ex2:IntKind.i64.wrap (ay-by_)=ay-by_:=by
  obtain⟨p1,p2,p3,p4⟩:=qaq oa;obtain⟨q1,q2,q3,q4⟩:=qaq ob
  simp only at p1 p2 p3 p4 q1 q2 q3 q4
  rw [IntKind.wrap_i64];omega
 have HQ0:=hdQ (fun w=>qfj (qae ⟨ax,ay⟩ ⟨bx,by_⟩ ⟨px,py⟩) oQ hCb.2 w)
 have hN:=qei hCb.1 hCb.2;obtain⟨C,eC⟩:∃c,qae ⟨ax,ay⟩ ⟨bx,by_⟩ ⟨px,py⟩=c:=⟨_,rfl⟩;rw [eC] at HC HQ0 hN HE;obtain⟨N,eN⟩:∃c,C.natAbs*C.natAbs=c:=⟨_,rfl⟩;rw [eN] at HQ0 hN HE;obtain⟨D,eD⟩:∃c,sqs (ax-bx) (ay-by_)=c:=⟨_,rfl⟩;rw [eD] at HSm0 HE hDpos hDlt;have HMk0:=hdQ (fun w=>qhz N D hN hDpos hDlt w)
 have hD1:D/18446744073709551616=0:=Nat.div_eq_of_lt hDlt;have hD2:D%18446744073709551616=D:=zzy hDlt
 have HSm:Hid (∀w,C9 109 #[.int .i64 (ax-bx),.int .i64 (ay-by_)] w (Ret w (.agg #[.int .u64 0,.int .u64 D]))):=fun w=>by
  have h:=HSm0.out w;simp only [uV,hD1,hD2] at h;exact h
 rw [HE,qay]
 rw [qay] at HMk0;obtain⟨x,y,z,e⟩:=qch (lowF N D)
 rw [e] at HMk0 ⊢
 simp only [uV] at HQ0 HMk0;obtain⟨n1,en1⟩:∃c,N/18446744073709551616=c:=⟨_,rfl⟩;obtain⟨n0,en0⟩:∃c,N%18446744073709551616=c:=⟨_,rfl⟩;rw [en1,en0] at HQ0 HMk0;clear e HE HS1 HS2 HS3 HSm0 hokd hok he ed1 ed2 hCb hDpos hDlt hN eC eN eD hD1 hD2 en1 en0
 go_enter Tryz.func70,Tryz.ntmps70
 go_wp2_with (first|(go_at_call 9;refine(qai _ _ _).monoR ?_;rintro w1 hb1 hc1 hf1 hz1;(try simp at hz1);obtain⟨hy0,hy1,hy2,hy3⟩:=ol4 w w1)|(go_at_call 112;(with_reducible refine(HD1.out _).monoR ?_);rintro w1 hb1 hc1 hf1 hz1;(try simp at hz1);obtain⟨hy0,hy1,hy2,hy3⟩:=ol4 w w1)|(go_at_call 112;(with_reducible refine(HD2.out _).monoR ?_);rintro w1 hb1 hc1 hf1 hz1;(try simp at hz1);obtain⟨hy0,hy1,hy2,hy3⟩:=ol4 w w1))
 refine qd5 (fun w2=>Below w.heap.size w w2/\Blk w2 w.heap.size 24 #[.int .i64 ax,.int .i64 ay]/\Blk w2 (w.heap.size+1) 24 #[.int .i64 bx,.int .i64 by_]/\Blk w2 (w.heap.size+1+1) 24 #[.int .i64 px,.int .i64 py]/\Blk w2 (w.heap.size+1+1+1) 56 #[.int .u64 0,.int .u64 0,.int .u64 0]) ⟨bel,blkA,blkA,blkA,blkA⟩ ?_
 clear hb1 hc1 hf1 HD1 HD2;rintro w0 ⟨hb0,hA,hBB,hPP,hR⟩;have hz0:=hb0.size;have cA:=hA.cell;have cB:=hBB.cell;have cP:=hPP.cell;have lR:=hR.lt;have lA:=hA.lt;have lB:=hBB.lt;have lP:=hPP.lt;have cR:=hR.cell;have fR:=hR.frozen;have HFl:∀w,(Instr.field 213 (.agg #[.int .u64 0,.int .u64 D]) 1).run Tryz.prog w=.ok (.int .u64 D) w:=fun w=>by simp [Instr.field,asAgg,go_sem]
 refine qa3 (w.heap.size+1+1+1) [0,1,2,5,6,7,8,9,10,11,12,13,14,3,4,15,16,17,18] kr kr pq ?_
 simp only [zdy,zey,ldz,lds,bare,qal,lcz,lcs,zay]
 repeat' ((try simp only [Act.put,lsi,lsz,lss]);first|(refine lqy ?_)|(refine qab qaa rfl (fun K hK=> ?_);go_simp;((first|(go_at_call 111;(with_reducible refine(HC.out _).monoR ?_);rintro w5 hb5 hc5 hf5 hz5;(try simp at hz5);have hbB:Below (w.heap.size+1+1+1) w0 w5:=(Below.trans (by repeat(first|with_reducible exact Below.refl _ _|with_reducible assumption|with_reducible refine Below.drew ?_)) (hb5.mono (by(try simp);omega)));have lR5:w.heap.size+1+1+1<w5.heap.size:=oQ;have hR5:Blk w5 (w.heap.size+1+1+1) 56 #[.int .u64 0,.int .u64 0,.int .u64 0]:=blkA;have hbz:Below w.heap.size w w5:=(Below.trans hb0 (hbB.mono oQ));have c5:=hR5.cell;have f5:=hR5.frozen)|(go_at_call 114;(with_reducible refine(HQ0.out _).monoR ?_);rintro w5 hb5 hc5 hf5 hz5;(try simp at hz5);have hbB:Below (w.heap.size+1+1+1) w0 w5:=(Below.trans (by repeat(first|with_reducible exact Below.refl _ _|with_reducible assumption|with_reducible refine Below.drew ?_)) (hb5.mono (by(try simp);omega)));have lR5:w.heap.size+1+1+1<w5.heap.size:=oQ;have hR5:Blk w5 (w.heap.size+1+1+1) 56 #[.int .u64 0,.int .u64 0,.int .u64 0]:=blkA;have hbz:Below w.heap.size w w5:=(Below.trans hb0 (hbB.mono oQ));have c5:=hR5.cell;have f5:=hR5.frozen)|(go_at_call 109;(with_reducible refine(HSm.out _).monoR ?_);rintro w5 hb5 hc5 hf5 hz5;(try simp at hz5);have hbB:Below (w.heap.size+1+1+1) w0 w5:=(Below.trans (by repeat(first|with_reducible exact Below.refl _ _|with_reducible assumption|with_reducible refine Below.drew ?_)) (hb5.mono (by(try simp);omega)));have lR5:w.heap.size+1+1+1<w5.heap.size:=oQ;have hR5:Blk w5 (w.heap.size+1+1+1) 56 #[.int .u64 0,.int .u64 0,.int .u64 0]:=blkA;have hbz:Below w.heap.size w w5:=(Below.trans hb0 (hbB.mono oQ));have c5:=hR5.cell;have f5:=hR5.frozen)|(go_at_call 108;(with_reducible refine(HMk0.out _).monoR ?_);rintro w5 hb5 hc5 hf5 hz5;(try simp at hz5);have hbB:Below (w.heap.size+1+1+1) w0 w5:=(Below.trans (by repeat(first|with_reducible exact Below.refl _ _|with_reducible assumption|with_reducible refine Below.drew ?_)) (hb5.mono (by(try simp);omega)));have lR5:w.heap.size+1+1+1<w5.heap.size:=oQ;have hR5:Blk w5 (w.heap.size+1+1+1) 56 #[.int .u64 0,.int .u64 0,.int .u64 0]:=blkA;have hbz:Below w.heap.size w w5:=(Below.trans hb0 (hbB.mono oQ));have c5:=hR5.cell;have f5:=hR5.frozen)|skip)<;>(refine hK.out _ _ (by first|with_reducible exact qbq|with_reducible exact Below.drew qbq|exact bel) ?_;clear hK K))))
 (all_goals try simp only [Act.put,lsi,lsz,lss]);all_goals(refine qad ?_)
 go_wp2_with fail;refine qaf (R:=fun w2=>Blk w2 (w.heap.size+1+1+1) 56 #[.int .u64 x,.int .u64 y,.int .u64 z]/\Below w.heap.size w w2) ⟨?_,bel⟩ ?_
 · repeat(first|with_reducible exact qaj (x:=.int .u64 0) (y:=.int .u64 0) (z:=.int .u64 0) blkA|(with_reducible refine Blk.new ?_ rfl;focus(simp;done))|with_reducible refine Blk.alloc ?_ _|with_reducible refine Blk.drew ?_)
 rintro w2 ⟨HR,hb2⟩;obtain⟨r0,r1,r2⟩:=ce3 HR;exact bodyPost_ret (v:=.agg #[.int .u64 x,.int .u64 y,.int .u64 z]) (by simp [results,Tryz.results70,go_sem,r0,r1,r2]) rfl ⟨rfl,hb2⟩
theorem qpy (ax ay by_ px py:Int) (hx:¬ ay=by_) (hok:(okPt ⟨ax,ay⟩&&okPt ⟨ax,by_⟩&&okPt ⟨px,py⟩)=true) (w:World):
 C9 70 #[ptV ax ay,ptV ax by_,ptV px py] w (Ret w (fV (segF ⟨ax,ay⟩ ⟨ax,by_⟩ ⟨px,py⟩))):=by
 have HM:=hdQ hok;have h3:=hok;simp only [ziy] at h3;obtain⟨⟨oa,ob⟩,op⟩:=h3;have hokd:(okPt ⟨ax,by_⟩&&okPt ⟨ax,ay⟩&&okPt ⟨px,py⟩)=true:=by rw [oa,ob,op];rfl
 have HS1:Hid (∀w,C9 113 #[ptV ax ay,ptV px py] w (Ret w (fV ⟨sqs (ax-px) (ay-py),1⟩))):=fun w=>qdc ⟨ax,ay⟩ ⟨px,py⟩ oa op w
 have HS2:Hid (∀w,C9 113 #[ptV ax by_,ptV px py] w (Ret w (fV ⟨sqs (ax-px) (by_-py),1⟩))):=fun w=>qdc ⟨ax,by_⟩ ⟨px,py⟩ ob op w
 have HS3:Hid (∀w,C9 113 #[ptV ax ay,ptV ax by_] w (Ret w (fV ⟨sqs (ax-ax) (ay-by_),1⟩))):=fun w=>qdc ⟨ax,ay⟩ ⟨ax,by_⟩ oa ob w
 have HD1:=hdQ (fun w=>qha ax ay ax by_ px py hok w)
 have HD2:=hdQ (fun w=>qha ax by_ ax ay px py hokd w)
 have HE:segF ⟨ax,ay⟩ ⟨ax,by_⟩ ⟨px,py⟩=if (⟨ax,ay⟩:Pt)=⟨ax,by_⟩\/dotR ⟨ax,ay⟩ ⟨ax,by_⟩ ⟨px,py⟩<=0 then⟨sqs (ax-px) (ay-py),1⟩ else if dotR ⟨ax,by_⟩ ⟨ax,ay⟩ ⟨px,py⟩<=0 then⟨sqs (ax-px) (by_-py),1⟩ else lowF ((qae ⟨ax,ay⟩ ⟨ax,by_⟩ ⟨px,py⟩).natAbs*(qae ⟨ax,ay⟩ ⟨ax,by_⟩ ⟨px,py⟩).natAbs) (sqs (ax-ax) (ay-by_)):=by
  unfold segF;rw [hok];rfl
 have he:¬ (⟨ax,ay⟩:Pt)=⟨ax,by_⟩:=fun e=>hx (congrArg Pt.y e)
 obtain⟨d1,ed1⟩:∃d,dotR ⟨ax,ay⟩ ⟨ax,by_⟩ ⟨px,py⟩=d:=⟨_,rfl⟩;obtain⟨d2,ed2⟩:∃d,dotR ⟨ax,by_⟩ ⟨ax,ay⟩ ⟨px,py⟩=d:=⟨_,rfl⟩;rw [ed1] at HD1 HE;rw [ed2] at HD2 HE
 by_cases hd1:d1<=0
 · rw [if_pos (.inr hd1)] at HE
   rw [qay] at HS1
   rw [HE,qay]
   obtain⟨x,y,z,e⟩:=qch ⟨sqs (ax-px) (ay-py),1⟩
   rw [e] at HS1 ⊢
   clear e HE HS2 HS3 HD2 hokd hok he ed1 ed2
   go_enter Tryz.func70,Tryz.ntmps70
   go_wp2_with (first|(go_at_call 9;refine(qai _ _ _).monoR ?_;rintro w1 hb1 hc1 hf1 hz1;(try simp at hz1);obtain⟨hy0,hy1,hy2,hy3⟩:=ol4 w w1)|(go_at_call 112;(with_reducible refine(HD1.out _).monoR ?_);rintro w1 hb1 hc1 hf1 hz1;(try simp at hz1);obtain⟨hy0,hy1,hy2,hy3⟩:=ol4 w w1)|(go_at_call 113;(with_reducible refine(HS1.out _).monoR ?_);rintro w1 hb1 hc1 hf1 hz1;(try simp at hz1);obtain⟨hy0,hy1,hy2,hy3⟩:=ol4 w w1))
   refine qaf (R:=fun w2=>Blk w2 (w.heap.size+1+1+1) 56 #[.int .u64 x,.int .u64 y,.int .u64 z]/\Below w.heap.size w w2) ⟨?_,bel⟩ ?_
   · repeat(first|with_reducible exact qaj (x:=.int .u64 0) (y:=.int .u64 0) (z:=.int .u64 0) blkA|(with_reducible refine Blk.new ?_ rfl;focus(simp;done))|with_reducible refine Blk.alloc ?_ _|with_reducible refine Blk.drew ?_)
   rintro w2 ⟨HR,hb2⟩;obtain⟨r0,r1,r2⟩:=ce3 HR;exact bodyPost_ret (v:=.agg #[.int .u64 x,.int .u64 y,.int .u64 z]) (by simp [results,Tryz.results70,go_sem,r0,r1,r2]) rfl ⟨rfl,hb2⟩
 by_cases hd2:d2<=0
 · rw [if_neg (fun h=>h.elim he hd1),if_pos hd2] at HE
   rw [qay] at HS2
   rw [HE,qay]
   obtain⟨x,y,z,e⟩:=qch ⟨sqs (ax-px) (by_-py),1⟩
   rw [e] at HS2 ⊢
   clear e HE HS1 HS3 hokd hok he ed1 ed2
   go_enter Tryz.func70,Tryz.ntmps70
   go_wp2_with (first|(go_at_call 9;refine(qai _ _ _).monoR ?_;rintro w1 hb1 hc1 hf1 hz1;(try simp at hz1);obtain⟨hy0,hy1,hy2,hy3⟩:=ol4 w w1)|(go_at_call 112;(with_reducible refine(HD1.out _).monoR ?_);rintro w1 hb1 hc1 hf1 hz1;(try simp at hz1);obtain⟨hy0,hy1,hy2,hy3⟩:=ol4 w w1)|(go_at_call 112;(with_reducible refine(HD2.out _).monoR ?_);rintro w1 hb1 hc1 hf1 hz1;(try simp at hz1);obtain⟨hy0,hy1,hy2,hy3⟩:=ol4 w w1)|(go_at_call 113;(with_reducible refine(HS2.out _).monoR ?_);rintro w1 hb1 hc1 hf1 hz1;(try simp at hz1);obtain⟨hy0,hy1,hy2,hy3⟩:=ol4 w w1))
   refine qaf (R:=fun w2=>Blk w2 (w.heap.size+1+1+1) 56 #[.int .u64 x,.int .u64 y,.int .u64 z]/\Below w.heap.size w w2) ⟨?_,bel⟩ ?_
   · repeat(first|with_reducible exact qaj (x:=.int .u64 0) (y:=.int .u64 0) (z:=.int .u64 0) blkA|(with_reducible refine Blk.new ?_ rfl;focus(simp;done))|with_reducible refine Blk.alloc ?_ _|with_reducible refine Blk.drew ?_)
   rintro w2 ⟨HR,hb2⟩;obtain⟨r0,r1,r2⟩:=ce3 HR;exact bodyPost_ret (v:=.agg #[.int .u64 x,.int .u64 y,.int .u64 z]) (by simp [results,Tryz.results70,go_sem,r0,r1,r2]) rfl ⟨rfl,hb2⟩
 rw [if_neg (fun h=>h.elim he hd1),if_neg hd2] at HE
 have hCb:=qg3 hok
 have HC:Hid (∀w,C9 111 #[ptV ax ay,ptV ax by_,ptV px py] w (Ret w (.int .i64 (qae ⟨ax,ay⟩ ⟨ax,by_⟩ ⟨px,py⟩)))):=fun w=>by
  have h:=qck ax ay ax by_ px py w;unfold qc9 at h;rw [if_pos hok] at h;exact h
 have hDpos:0<sqs (ax-ax) (ay-by_):=qgu (a:=⟨ax,ay⟩) (b:=⟨ax,by_⟩) he
 have hDlt:sqs (ax-ax) (ay-by_)<18446744073709551616:=by
  obtain⟨p1,p2,p3,p4⟩:=qaq oa;obtain⟨q1,q2,q3,q4⟩:=qaq ob
  simp only at p1 p2 p3 p4 q1 q2 q3 q4
  exact qkx oQ oQ oQ oQ
 have HSm0:Hid (∀w,C9 109 #[.int .i64 (ax-ax),.int .i64 (ay-by_)] w (Ret w (uV (sqs (ax-ax) (ay-by_))))):=fun w=>by
  obtain⟨p1,p2,p3,p4⟩:=qaq oa;obtain⟨q1,q2,q3,q4⟩:=qaq ob
  simp only at p1 p2 p3 p4 q1 q2 q3 q4
  exact qj6 _ _ oQ oQ oQ oQ w
 have ex1:IntKind.i64.wrap 0=0:=by rw [IntKind.wrap_i64];rfl
 have ex2:IntKind.i64.wrap (ay-by_)=ay-by_:=by
  obtain⟨p1,p2,p3,p4⟩:=qaq oa;obtain⟨q1,q2,q3,q4⟩:=qaq ob
  simp only at p1 p2 p3 p4 q1 q2 q3 q4
  rw [IntKind.wrap_i64];omega
 have HQ0:=hdQ (fun w=>qfj (qae ⟨ax,ay⟩ ⟨ax,by_⟩ ⟨px,py⟩) oQ hCb.2 w)
 have hN:=qei hCb.1 hCb.2;obtain⟨C,eC⟩:∃c,qae ⟨ax,ay⟩ ⟨ax,by_⟩ ⟨px,py⟩=c:=⟨_,rfl⟩;rw [eC] at HC HQ0 hN HE;obtain⟨N,eN⟩:∃c,C.natAbs*C.natAbs=c:=⟨_,rfl⟩;rw [eN] at HQ0 hN HE;obtain⟨D,eD⟩:∃c,sqs (ax-ax) (ay-by_)=c:=⟨_,rfl⟩;rw [eD] at HSm0 HE hDpos hDlt;have HMk0:=hdQ (fun w=>qhz N D hN hDpos hDlt w)
 have hD1:D/18446744073709551616=0:=Nat.div_eq_of_lt hDlt;have hD2:D%18446744073709551616=D:=zzy hDlt
 have HSm:Hid (∀w,C9 109 #[.int .i64 0,.int .i64 (ay-by_)] w (Ret w (.agg #[.int .u64 0,.int .u64 D]))):=fun w=>by
  have h:=HSm0.out w;simp only [uV,hD1,hD2,Int.sub_self] at h;exact h
 rw [HE,qay]
 rw [qay] at HMk0;obtain⟨x,y,z,e⟩:=qch (lowF N D)
 rw [e] at HMk0 ⊢
 simp only [uV] at HQ0 HMk0;obtain⟨n1,en1⟩:∃c,N/18446744073709551616=c:=⟨_,rfl⟩;obtain⟨n0,en0⟩:∃c,N%18446744073709551616=c:=⟨_,rfl⟩;rw [en1,en0] at HQ0 HMk0;clear e HE HS1 HS2 HS3 HSm0 hokd hok he ed1 ed2 hCb hDpos hDlt hN eC eN eD hD1 hD2 en1 en0
 go_enter Tryz.func70,Tryz.ntmps70
 go_wp2_with (first|(go_at_call 9;refine(qai _ _ _).monoR ?_;rintro w1 hb1 hc1 hf1 hz1;(try simp at hz1);obtain⟨hy0,hy1,hy2,hy3⟩:=ol4 w w1)|(go_at_call 112;(with_reducible refine(HD1.out _).monoR ?_);rintro w1 hb1 hc1 hf1 hz1;(try simp at hz1);obtain⟨hy0,hy1,hy2,hy3⟩:=ol4 w w1)|(go_at_call 112;(with_reducible refine(HD2.out _).monoR ?_);rintro w1 hb1 hc1 hf1 hz1;(try simp at hz1);obtain⟨hy0,hy1,hy2,hy3⟩:=ol4 w w1))
 refine qd5 (fun w2=>Below w.heap.size w w2/\Blk w2 w.heap.size 24 #[.int .i64 ax,.int .i64 ay]/\Blk w2 (w.heap.size+1) 24 #[.int .i64 ax,.int .i64 by_]/\Blk w2 (w.heap.size+1+1) 24 #[.int .i64 px,.int .i64 py]/\Blk w2 (w.heap.size+1+1+1) 56 #[.int .u64 0,.int .u64 0,.int .u64 0]) ⟨bel,blkA,blkA,blkA,blkA⟩ ?_
 clear hb1 hc1 hf1 HD1 HD2;rintro w0 ⟨hb0,hA,hBB,hPP,hR⟩;have hz0:=hb0.size;have cA:=hA.cell;have cB:=hBB.cell;have cP:=hPP.cell;have lR:=hR.lt;have lA:=hA.lt;have lB:=hBB.lt;have lP:=hPP.lt;have cR:=hR.cell;have fR:=hR.frozen;have HFl:∀w,(Instr.field 213 (.agg #[.int .u64 0,.int .u64 D]) 1).run Tryz.prog w=.ok (.int .u64 D) w:=fun w=>by simp [Instr.field,asAgg,go_sem]
 refine qa3 (w.heap.size+1+1+1) [0,1,2,5,6,7,8,9,10,11,12,13,14,3,4,15,16,17,18] kr kr pq ?_
 simp only [zdy,zey,ldz,lds,bare,qal,lcz,lcs,zay]
 repeat' ((try simp only [Act.put,lsi,lsz,lss]);first|(refine lqy ?_)|(refine qab qaa rfl (fun K hK=> ?_);go_simp;((first|(go_at_call 111;(with_reducible refine(HC.out _).monoR ?_);rintro w5 hb5 hc5 hf5 hz5;(try simp at hz5);have hbB:Below (w.heap.size+1+1+1) w0 w5:=(Below.trans (by repeat(first|with_reducible exact Below.refl _ _|with_reducible assumption|with_reducible refine Below.drew ?_)) (hb5.mono (by(try simp);omega)));have lR5:w.heap.size+1+1+1<w5.heap.size:=oQ;have hR5:Blk w5 (w.heap.size+1+1+1) 56 #[.int .u64 0,.int .u64 0,.int .u64 0]:=blkA;have hbz:Below w.heap.size w w5:=(Below.trans hb0 (hbB.mono oQ));have c5:=hR5.cell;have f5:=hR5.frozen)|(go_at_call 114;(with_reducible refine(HQ0.out _).monoR ?_);rintro w5 hb5 hc5 hf5 hz5;(try simp at hz5);have hbB:Below (w.heap.size+1+1+1) w0 w5:=(Below.trans (by repeat(first|with_reducible exact Below.refl _ _|with_reducible assumption|with_reducible refine Below.drew ?_)) (hb5.mono (by(try simp);omega)));have lR5:w.heap.size+1+1+1<w5.heap.size:=oQ;have hR5:Blk w5 (w.heap.size+1+1+1) 56 #[.int .u64 0,.int .u64 0,.int .u64 0]:=blkA;have hbz:Below w.heap.size w w5:=(Below.trans hb0 (hbB.mono oQ));have c5:=hR5.cell;have f5:=hR5.frozen)|(go_at_call 109;(with_reducible refine(HSm.out _).monoR ?_);rintro w5 hb5 hc5 hf5 hz5;(try simp at hz5);have hbB:Below (w.heap.size+1+1+1) w0 w5:=(Below.trans (by repeat(first|with_reducible exact Below.refl _ _|with_reducible assumption|with_reducible refine Below.drew ?_)) (hb5.mono (by(try simp);omega)));have lR5:w.heap.size+1+1+1<w5.heap.size:=oQ;have hR5:Blk w5 (w.heap.size+1+1+1) 56 #[.int .u64 0,.int .u64 0,.int .u64 0]:=blkA;have hbz:Below w.heap.size w w5:=(Below.trans hb0 (hbB.mono oQ));have c5:=hR5.cell;have f5:=hR5.frozen)|(go_at_call 108;(with_reducible refine(HMk0.out _).monoR ?_);rintro w5 hb5 hc5 hf5 hz5;(try simp at hz5);have hbB:Below (w.heap.size+1+1+1) w0 w5:=(Below.trans (by repeat(first|with_reducible exact Below.refl _ _|with_reducible assumption|with_reducible refine Below.drew ?_)) (hb5.mono (by(try simp);omega)));have lR5:w.heap.size+1+1+1<w5.heap.size:=oQ;have hR5:Blk w5 (w.heap.size+1+1+1) 56 #[.int .u64 0,.int .u64 0,.int .u64 0]:=blkA;have hbz:Below w.heap.size w w5:=(Below.trans hb0 (hbB.mono oQ));have c5:=hR5.cell;have f5:=hR5.frozen)|skip)<;>(refine hK.out _ _ (by first|with_reducible exact qbq|with_reducible exact Below.drew qbq|exact bel) ?_;clear hK K))))
 (all_goals try simp only [Act.put,lsi,lsz,lss]);all_goals(refine qad ?_)
 go_wp2_with fail;refine qaf (R:=fun w2=>Blk w2 (w.heap.size+1+1+1) 56 #[.int .u64 x,.int .u64 y,.int .u64 z]/\Below w.heap.size w w2) ⟨?_,bel⟩ ?_
 · repeat(first|with_reducible exact qaj (x:=.int .u64 0) (y:=.int .u64 0) (z:=.int .u64 0) blkA|(with_reducible refine Blk.new ?_ rfl;focus(simp;done))|with_reducible refine Blk.alloc ?_ _|with_reducible refine Blk.drew ?_)
 rintro w2 ⟨HR,hb2⟩;obtain⟨r0,r1,r2⟩:=ce3 HR;exact bodyPost_ret (v:=.agg #[.int .u64 x,.int .u64 y,.int .u64 z]) (by simp [results,Tryz.results70,go_sem,r0,r1,r2]) rfl ⟨rfl,hb2⟩
theorem qpz (ax ay bx by_ px py:Int) (w:World):
 C9 70 #[ptV ax ay,ptV bx by_,ptV px py] w (Ret w (fV (segF ⟨ax,ay⟩ ⟨bx,by_⟩ ⟨px,py⟩))):=by
 cases oa:okPt ⟨ax,ay⟩
 case false=>
  have HF:Hid (fV (segF ⟨ax,ay⟩ ⟨bx,by_⟩ ⟨px,py⟩)=.agg #[.int .u64 0,.int .u64 0,.int .u64 0]):=by unfold Hid segF;rw [oa,qay];rw [if_neg sI,qcb]
  go_enter Tryz.func70,Tryz.ntmps70
  go_wp2_with (go_at_call 9;refine(qai _ _ _).monoR ?_;rintro w1 hb1 hc1 hf1 hz1;(try simp at hz1);obtain⟨hy0,hy1,hy2,hy3⟩:=ol4 w w1)
  refine qaf (R:=fun w2=>Blk w2 (w.heap.size+1+1+1) 56 #[.int .u64 0,.int .u64 0,.int .u64 0]/\Below w.heap.size w w2) ⟨?_,bel⟩ ?_
  · repeat(first|with_reducible exact qaj (x:=.int .u64 0) (y:=.int .u64 0) (z:=.int .u64 0) blkA|(with_reducible refine Blk.new ?_ rfl;focus(simp;done))|with_reducible refine Blk.alloc ?_ _|with_reducible refine Blk.drew ?_)
  rintro w2 ⟨HR,hb2⟩;obtain⟨r0,r1,r2⟩:=ce3 HR
  rw [HF.out]
  exact bodyPost_ret (v:=.agg #[.int .u64 0,.int .u64 0,.int .u64 0]) (by simp [results,Tryz.results70,go_sem,r0,r1,r2]) rfl ⟨rfl,hb2⟩
 cases ob:okPt ⟨bx,by_⟩
 case false=>
  have HF:Hid (fV (segF ⟨ax,ay⟩ ⟨bx,by_⟩ ⟨px,py⟩)=.agg #[.int .u64 0,.int .u64 0,.int .u64 0]):=by unfold Hid segF;rw [ob,qay];rw [if_neg sI,qcb]
  go_enter Tryz.func70,Tryz.ntmps70
  go_wp2_with (go_at_call 9;refine(qai _ _ _).monoR ?_;rintro w1 hb1 hc1 hf1 hz1;(try simp at hz1);obtain⟨hy0,hy1,hy2,hy3⟩:=ol4 w w1)
  refine qaf (R:=fun w2=>Blk w2 (w.heap.size+1+1+1) 56 #[.int .u64 0,.int .u64 0,.int .u64 0]/\Below w.heap.size w w2) ⟨?_,bel⟩ ?_
  · repeat(first|with_reducible exact qaj (x:=.int .u64 0) (y:=.int .u64 0) (z:=.int .u64 0) blkA|(with_reducible refine Blk.new ?_ rfl;focus(simp;done))|with_reducible refine Blk.alloc ?_ _|with_reducible refine Blk.drew ?_)
  rintro w2 ⟨HR,hb2⟩;obtain⟨r0,r1,r2⟩:=ce3 HR
  rw [HF.out]
  exact bodyPost_ret (v:=.agg #[.int .u64 0,.int .u64 0,.int .u64 0]) (by simp [results,Tryz.results70,go_sem,r0,r1,r2]) rfl ⟨rfl,hb2⟩
 cases op:okPt ⟨px,py⟩
 case false=>
  have HF:Hid (fV (segF ⟨ax,ay⟩ ⟨bx,by_⟩ ⟨px,py⟩)=.agg #[.int .u64 0,.int .u64 0,.int .u64 0]):=by unfold Hid segF;rw [op,qay];rw [if_neg sI,qcb]
  go_enter Tryz.func70,Tryz.ntmps70
  go_wp2_with (go_at_call 9;refine(qai _ _ _).monoR ?_;rintro w1 hb1 hc1 hf1 hz1;(try simp at hz1);obtain⟨hy0,hy1,hy2,hy3⟩:=ol4 w w1)
  refine qaf (R:=fun w2=>Blk w2 (w.heap.size+1+1+1) 56 #[.int .u64 0,.int .u64 0,.int .u64 0]/\Below w.heap.size w w2) ⟨?_,bel⟩ ?_
  · repeat(first|with_reducible exact qaj (x:=.int .u64 0) (y:=.int .u64 0) (z:=.int .u64 0) blkA|(with_reducible refine Blk.new ?_ rfl;focus(simp;done))|with_reducible refine Blk.alloc ?_ _|with_reducible refine Blk.drew ?_)
  rintro w2 ⟨HR,hb2⟩;obtain⟨r0,r1,r2⟩:=ce3 HR
  rw [HF.out]
  exact bodyPost_ret (v:=.agg #[.int .u64 0,.int .u64 0,.int .u64 0]) (by simp [results,Tryz.results70,go_sem,r0,r1,r2]) rfl ⟨rfl,hb2⟩
 have hok:(okPt ⟨ax,ay⟩&&okPt ⟨bx,by_⟩&&okPt ⟨px,py⟩)=true:=by rw [oa,ob,op];rfl
 by_cases hx:ax=bx
 · by_cases hy:ay=by_
   · subst hx hy
     exact qsb ax ay px py hok w
   · subst hx
     exact qpy ax ay by_ px py hy hok w
 · exact qsa ax ay bx by_ px py hx hok w
theorem qcj {r:Bx} (h:qba r=0):okBx r=true:=decide_eq_true h
theorem qye (B n c:Nat) (k:Int) (A:Option Addr) (l:List Pt) (x y:Int) (w:World) (hl:qax w B A n l) (hB:B<=w.heap.size) (hn:n<=1000000) (hk:¬ k=4):
 C9 33 #[obV k A n c,ptV x y] w (Ret w (fV (qbj ⟨k,l⟩ ⟨x,y⟩))):=by
 by_cases ho:ckOb ⟨k,l⟩=0
 case neg=>
  have HF:Hid (fV (qbj ⟨k,l⟩ ⟨x,y⟩)=.agg #[.int .u64 0,.int .u64 0,.int .u64 0]):=by unfold Hid qbj;rw [if_neg (fun h=>ho h.1),qay,qcb]
  obtain⟨m,hm⟩:∃m:Nat,ckOb ⟨k,l⟩=m:=⟨_,rfl⟩;have hm0:((m:Int) !=0)=true:=by rw [bne_iff_ne];omega
  have HA:=hdQ (fun w (h:qax w B A n l) (hB:B<=w.heap.size)=>qh1 B n c k A l w h hB hn ho)
  rw [hm] at HA;clear ho hm
  go_enter Tryz.func33,Tryz.ntmps33
  go_wp2_with (first|(go_at_call 67;refine(HA.out _ (hl.tr bel hB) (bsz w hB)).monoR ?_;rintro wa hba hca hfa hza;(try simp at hza);obtain⟨hya0,hya1,hya2⟩:=ol3 w wa))
  refine qaf (R:=fun w2=>Blk w2 (w.heap.size+1+1) 56 #[.int .u64 0,.int .u64 0,.int .u64 0]/\Below w.heap.size w w2) ⟨?_,bel⟩ ?_
  · repeat(first|with_reducible exact qaj (x:=.int .u64 0) (y:=.int .u64 0) (z:=.int .u64 0) blkA|(with_reducible refine Blk.new ?_ rfl;focus(simp;done))|with_reducible refine Blk.alloc ?_ _|with_reducible refine Blk.drew ?_)
  rintro w2 ⟨HR,hb2⟩;obtain⟨r0,r1,r2⟩:=ce3 HR
  rw [HF.out]
  exact bodyPost_ret (v:=.agg #[.int .u64 0,.int .u64 0,.int .u64 0]) (by simp [results,Tryz.results33,go_sem,r0,r1,r2]) rfl ⟨rfl,hb2⟩
 have HA:=hdQ (fun w (h:qax w B A n l) (hB:B<=w.heap.size)=>qhb B n c k A l w h hB hn ho)
 have hXok:=qb8 ho;have hbx:=q0n ho hk;obtain⟨X,hX⟩:∃X,qbb ⟨k,l⟩=X:=⟨_,rfl⟩;rw [hX] at HA hXok hbx;have HP0:=fun w=>qai x y w
 cases op:okPt ⟨x,y⟩
 case false=>
  rw [op] at HP0;have HP:Hid (∀w,C9 9 #[ptV x y] w (Ret w (.bool false))):=HP0;have HF:Hid (fV (qbj ⟨k,l⟩ ⟨x,y⟩)=.agg #[.int .u64 0,.int .u64 0,.int .u64 0]):=by unfold Hid qbj;rw [if_neg (fun h=>by rw [op] at h;cases h.2),qay,qcb]
  clear ho op hX HP0 hXok hbx
  go_enter Tryz.func33,Tryz.ntmps33
  go_wp2_with (first|(go_at_call 67;refine(HA.out _ (hl.tr bel hB) (bsz w hB)).monoR ?_;rintro wa hba hca hfa hza;(try simp at hza);obtain⟨hya0,hya1,hya2⟩:=ol3 w wa)|(go_at_call 9;refine(HP.out _).monoR ?_;rintro wp hbp hcp hfp hzp;(try simp at hzp);have hyp0:w.heap.size<wp.heap.size:=oQ;have hyp1:w.heap.size+1<wp.heap.size:=oQ;have hyp2:w.heap.size+1+1<wp.heap.size:=oQ;have hypa:wa.heap.size<wp.heap.size:=oQ))
  refine qaf (R:=fun w2=>Blk w2 (w.heap.size+1+1) 56 #[.int .u64 0,.int .u64 0,.int .u64 0]/\Below w.heap.size w w2) ⟨?_,bel⟩ ?_
  · repeat(first|with_reducible exact qaj (x:=.int .u64 0) (y:=.int .u64 0) (z:=.int .u64 0) blkA|(with_reducible refine Blk.new ?_ rfl;focus(simp;done))|with_reducible refine Blk.alloc ?_ _|with_reducible refine Blk.drew ?_)
  rintro w2 ⟨HR,hb2⟩;obtain⟨r0,r1,r2⟩:=ce3 HR
  rw [HF.out]
  exact bodyPost_ret (v:=.agg #[.int .u64 0,.int .u64 0,.int .u64 0]) (by simp [results,Tryz.results33,go_sem,r0,r1,r2]) rfl ⟨rfl,hb2⟩
 rw [op] at HP0;have HP:Hid (∀w,C9 9 #[ptV x y] w (Ret w (.bool true))):=HP0
 have HF0:fV (qbj ⟨k,l⟩ ⟨x,y⟩)=fV (bxF ⟨⟨X.lo.x,X.lo.y⟩,⟨X.hi.x,X.hi.y⟩⟩ ⟨x,y⟩):=by
  rw [ql5 ho op (quw ho hk),<-hbx]
  show _=fV (bxF X ⟨x,y⟩)
  unfold bxF
  rw [hXok,op]
  rfl
 obtain⟨d1,d0,dd,ed⟩:=qch (bxF ⟨⟨X.lo.x,X.lo.y⟩,⟨X.hi.x,X.hi.y⟩⟩ ⟨x,y⟩)
 have HR:Hid (∀w,C9 68 #[bxV X.lo.x X.lo.y X.hi.x X.hi.y,ptV x y] w (Ret w (.agg #[.int .u64 d1,.int .u64 d0,.int .u64 dd]))):=fun w=>by
  have h:=qjv X.lo.x X.lo.y X.hi.x X.hi.y x y w;rw [qay,ed] at h;exact h
 have HF:Hid (fV (qbj ⟨k,l⟩ ⟨x,y⟩)=.agg #[.int .u64 d1,.int .u64 d0,.int .u64 dd]):=by unfold Hid;rw [HF0,qay,ed]
 clear ho op hX HP0 hXok hbx HF0 ed
 go_enter Tryz.func33,Tryz.ntmps33
 go_wp2_with (first|(go_at_call 67;refine(HA.out _ (hl.tr bel hB) (bsz w hB)).monoR ?_;rintro wa hba hca hfa hza;(try simp at hza);obtain⟨hya0,hya1,hya2⟩:=ol3 w wa)|(go_at_call 9;refine(HP.out _).monoR ?_;rintro wp hbp hcp hfp hzp;(try simp at hzp);have hyp0:w.heap.size<wp.heap.size:=oQ;have hyp1:w.heap.size+1<wp.heap.size:=oQ;have hyp2:w.heap.size+1+1<wp.heap.size:=oQ;have hypa:wa.heap.size<wp.heap.size:=oQ)|(go_at_call 68;refine(HR.out _).monoR ?_;rintro w2 hb2 hc2 hf2 hz2;(try simp at hz2);have lR2:w.heap.size+1+1<w2.heap.size:=oQ))
 refine qaf (R:=fun w2=>Blk w2 (w.heap.size+1+1) 56 #[.int .u64 d1,.int .u64 d0,.int .u64 dd]/\Below w.heap.size w w2) ⟨?_,bel⟩ ?_
 · repeat(first|with_reducible exact qaj (x:=.int .u64 0) (y:=.int .u64 0) (z:=.int .u64 0) blkA|(with_reducible refine Blk.new ?_ rfl;focus(simp;done))|with_reducible refine Blk.alloc ?_ _|with_reducible refine Blk.drew ?_)
 rintro w2 ⟨HR,hb2⟩;obtain⟨r0,r1,r2⟩:=ce3 HR
 rw [HF.out]
 exact bodyPost_ret (v:=.agg #[.int .u64 d1,.int .u64 d0,.int .u64 dd]) (by simp [results,Tryz.results33,go_sem,r0,r1,r2]) rfl ⟨rfl,hb2⟩
theorem qvw (B n c:Nat) (A:Option Addr) (l:List Pt) (x y:Int) (w:World) (hl:qax w B A n l) (hB:B<=w.heap.size) (hck:qbl l=0) (hp:okPt ⟨x,y⟩=true):
 C9 33 #[obV 4 A n c,ptV x y] w (Ret w (fV (qbj ⟨4,l⟩ ⟨x,y⟩))):=by
 have hn:n<=64:=by have:=qno hck;rw [hl.1] at this;omega
 have hn3:3<=n:=by have:=(qeg hck).1;rw [hl.1] at this;omega
 have hn6:n<=1000000:=oQ
 have hall:=q0f hck;have HA:=hdQ (fun w (h:qax w B A n l) (hB:B<=w.heap.size)=>qhb B n c 4 A l w h hB hn6 hck)
 obtain⟨X,hX⟩:∃X,qbb ⟨4,l⟩=X:=⟨_,rfl⟩;rw [hX] at HA;clear hX;have HP0:=fun w=>qai x y w
 rw [hp] at HP0;have HP:Hid (∀w,C9 9 #[ptV x y] w (Ret w (.bool true))):=HP0;have HH:=hdQ (fun w (h:qax w B A n l) (hB:B<=w.heap.size)=>qyc B n c x y A l w h hB hn6)
 have hD:=qhi (o:=⟨4,l⟩) (p:=⟨x,y⟩) hck hp rfl;rw [show (⟨4,l⟩:Ob).pts=l from rfl,qk3 hck hp] at hD
 cases hr:qih l ⟨x,y⟩
 case true=>
  rw [hr] at HH;rw [hr,if_pos rfl] at hD;have HF:Hid (fV (qbj ⟨4,l⟩ ⟨x,y⟩)=.agg #[.int .u64 0,.int .u64 0,.int .u64 1]):=by unfold Hid;rw [hD,qov]
  clear hr hD HP0 hall hck hp
  go_enter Tryz.func33,Tryz.ntmps33
  go_wp2_with (first|(go_at_call 67;refine(HA.out _ (hl.tr bel hB) (bsz w hB)).monoR ?_;rintro wa hba hca hfa hza;(try simp at hza);obtain⟨hya0,hya1,hya2⟩:=ol3 w wa)|(go_at_call 9;refine(HP.out _).monoR ?_;rintro wp hbp hcp hfp hzp;(try simp at hzp);have hyp0:w.heap.size<wp.heap.size:=oQ;have hyp1:w.heap.size+1<wp.heap.size:=oQ;have hyp2:w.heap.size+1+1<wp.heap.size:=oQ;have hypa:wa.heap.size<wp.heap.size:=oQ)|(go_at_call 69;refine(HH.out _ (hl.tr bel hB) (bsz w hB)).monoR ?_;rintro wh hbh hch hfh hzh;(try simp at hzh);obtain⟨hyh0,hyh1,hyh2⟩:=ol3 w wh))
  refine qaf (R:=fun w2=>Blk w2 (w.heap.size+1+1) 56 #[.int .u64 0,.int .u64 0,.int .u64 1]/\Below w.heap.size w w2) ⟨?_,bel⟩ ?_
  · repeat(first|with_reducible exact qaj (x:=.int .u64 0) (y:=.int .u64 0) (z:=.int .u64 0) blkA|(with_reducible refine Blk.new ?_ rfl;focus(simp;done))|with_reducible refine Blk.alloc ?_ _|with_reducible refine Blk.drew ?_)
  rintro w2 ⟨HR,hb2⟩;obtain⟨r0,r1,r2⟩:=ce3 HR
  rw [HF.out]
  exact bodyPost_ret (v:=.agg #[.int .u64 0,.int .u64 0,.int .u64 1]) (by simp [results,Tryz.results33,go_sem,r0,r1,r2]) rfl ⟨rfl,hb2⟩
 rw [hr] at HH;rw [hr,if_neg dE] at hD
 have HD:=hdQ hD;have HAll:=hdQ hall;have HPp:=hdQ hp;clear hr hD HP0 hall hck hp
 go_enter Tryz.func33,Tryz.ntmps33
 go_wp2_with (first|(go_at_call 67;refine(HA.out _ (hl.tr bel hB) (bsz w hB)).monoR ?_;rintro wa hba hca hfa hza;(try simp at hza);obtain⟨hya0,hya1,hya2⟩:=ol3 w wa)|(go_at_call 9;refine(HP.out _).monoR ?_;rintro wp hbp hcp hfp hzp;(try simp at hzp);have hyp0:w.heap.size<wp.heap.size:=oQ;have hyp1:w.heap.size+1<wp.heap.size:=oQ;have hyp2:w.heap.size+1+1<wp.heap.size:=oQ;have hypa:wa.heap.size<wp.heap.size:=oQ)|(go_at_call 69;refine(HH.out _ (hl.tr bel hB) (bsz w hB)).monoR ?_;rintro wh hbh hch hfh hzh;(try simp at hzh);obtain⟨hyh0,hyh1,hyh2⟩:=ol3 w wh))
 refine qd5 (fun w2=>Below w.heap.size w w2/\Blk w2 (w.heap.size+1) 24 #[.int .i64 x,.int .i64 y]/\Blk w2 (w.heap.size+1+1) 56 #[.int .u64 0,.int .u64 0,.int .u64 0]) ⟨bel,blkA,blkA⟩ ?_
 clear hba hca hfa hza hya0 hya1 hya2 hbp hcp hfp hzp hyp0 hyp1 hyp2 hypa hbh hch hfh hzh hyh0 hyh1 hyh2 HA HP HH;rintro w0 ⟨hb0,hPt,hR⟩;have HSg:=hdQ (qpv l ⟨x,y⟩);have HS:Hid (∀a b:Pt,∀w,C9 70 #[.agg #[.int .i64 a.x,.int .i64 a.y],.agg #[.int .i64 b.x,.int .i64 b.y],.agg #[.int .i64 x,.int .i64 y]] w (Ret w (fV (segF a b ⟨x,y⟩)))):=fun a b w=>qpz _ _ _ _ _ _ w
 obtain⟨b,off,rfl,hab,c0,c1⟩:=(hl.below (hb0.mono hB)).at_ (k:=0) oQ
 obtain⟨b',off',he,hab',c2,c3⟩:=(hl.below (hb0.mono hB)).at_ (k:=1) oQ
 injection he with he
 injection he with he1 he2
 subst he1 he2;simp only [Nat.zero_mul,Nat.add_zero,Nat.one_mul] at c0 c1 c2 c3;have hbs:=hb0.size;have hbw:b<w0.heap.size:=oQ
 have h0n:0<n:=oQ
 have h1n:1<n:=oQ
 have h1z:(1:Int)<(n:Int):=oQ
 have lP:=hPt.lt;have lR:=hR.lt;have cP:=hPt.cell
 have hnx0:nx l 0=pt l 1:=by
  unfold nx
  rw [hl.1,zzy oQ]
 have HT1:Hid (minF ((qds l ⟨x,y⟩).take 1)=segF (pt l 0) (pt l 1) ⟨x,y⟩):=by
  unfold Hid
  rw [qlp (k:=0) (by rw [HSg.out,hl.1];omega),if_pos (.inl rfl),<-hnx0]
  have:=qzu (l:=qds l ⟨x,y⟩) (k:=0) (by rw [HSg.out,hl.1];omega)
  rw [qn1 (by rw [hl.1];omega)] at this
  exact(zjx this).symm
 obtain⟨d1,d0,dd,ed⟩:=qch (segF (pt l 0) (pt l 1) ⟨x,y⟩)
 have HS0:Hid (∀w,C9 70 #[.agg #[.int .i64 (pt l 0).x,.int .i64 (pt l 0).y],.agg #[.int .i64 (pt l 1).x,.int .i64 (pt l 1).y],.agg #[.int .i64 x,.int .i64 y]] w (Ret w (.agg #[.int .u64 d1,.int .u64 d0,.int .u64 dd]))):=fun w=>by
  have h:=HS.out (pt l 0) (pt l 1) w;rw [qay,ed] at h;exact h
 have HE:Hid (fcs (minF ((qds l ⟨x,y⟩).take 1))= [.int .u64 d1,.int .u64 d0,.int .u64 dd]):=by unfold Hid;rw [HT1.out,ed]
 clear ed hnx0;refine qa8 [0,1,2,3,4,5,6,7] [8] [9] (fun _=> #[.int .u64 0,.int .u64 0,.int .u64 0]) kr kr pq (by intro i hi w;simp only [List.mem_cons,List.not_mem_nil,or_false] at hi;rcases hi with rfl<;>simp only [ldz,lds,tyOf]<;>kernel_rfl) (fun KN hKN=> ?_)
 simp only [zdy,zey,ldz,lds,bare,qal,lcz,lcs,zay]
 repeat((try simp only [Act.put,lsi,lsz,lss]);first|(refine qcf (v:= ?_) rfl ?_ ?_;rotate_left;focus(intro wq hq;obtain⟨hcq,hfq⟩:=qa7 hq;go_simp;try with_reducible rfl))|(refine qcy (v:= ?_) rfl ?_ ?_;rotate_left;focus(intro wq hq K hK;obtain⟨hcq,hfq⟩:=qa7 hq;go_simp;(first|(go_at_call 70;refine(HS0.out _).monoR ?_;rintro w1 hb1 hc1 hf1 hz1;(try simp at hz1)));refine hK.out _ _ ?_ bel;simp only [Act.put,lsi,lsz,lss];try with_reducible rfl)))
 (try simp only [Act.put,lsi,lsz,lss])
 refine qdz (hKN.out _ ?_);clear hKN KN;intro gs wf hwf hgs hds
 simp only [zdy,zey,ldz,lds,bare,qal,lcz,lcs,zay,List.foldl_cons,List.foldl_nil,ptrV]
 obtain⟨hg8,HB8⟩:=hgs 8 dE
 simp only [ldz,lds,tyOf] at HB8;clear hgs hds;generalize gs 8=g8 at*;have cg8:=HB8.cell;have fg8:=HB8.frozen
 repeat((try simp only [Act.put,lsi,lsz,lss]);first|(refine qab qaa rfl (fun K hK=> ?_);go_simp;refine hK.out _ _ bel ?_;clear hK K)|(refine qa5 (v:= ?_) qaa rfl ?_ ?_;rotate_left;focus(intro wq hq;go_simp;try with_reducible rfl)))
 refine qad ?_;refine qb5 (R:=fun w2=>Below w.heap.size w w2/\Blk w2 g8 56 #[.int .u64 d1,.int .u64 d0,.int .u64 dd]/\Blk w2 (w.heap.size+1) 24 #[.int .i64 x,.int .i64 y]/\Blk w2 (w.heap.size+1+1) 56 #[.int .u64 0,.int .u64 0,.int .u64 0]) ⟨bel,(((HB8.set_ 0 _).set_ 1 _).set_ 2 _).eq_ sI,blkA,blkA⟩ ?_
 rintro w2 ⟨hb2,h8,hE0,hE1⟩;clear cg8 fg8 HB8;have cg8:=h8.cell;have fg8:=h8.frozen;have lg8:=h8.lt;obtain⟨hc2,hf2⟩:=qa7 hb2;have hG:Blk w2 g8 56 (fcs (minF ((qds l ⟨x,y⟩).take 1))).toArray:=by rw [HE.out];exact h8
 have gne:Hid (g8≠w.heap.size+1/\g8≠w.heap.size+1+1/\w.heap.size<=g8):=by
  have:=hb0.size;have:=hR.lt;unfold Hid
  omega
 clear hb0 hPt hR cP lP lR hbs hbw c0 c1 c2 c3 HS0 HE HT1 hwf hc2 hf2 h8 cg8 fg8 lg8;go_wp2_with fail
 go_loopw [9] (fun i wr=>∃k:Nat,1<=k/\k<=n/\i=.int .i64 k/\Blk wr g8 56 (fcs (minF ((qds l ⟨x,y⟩).take k))).toArray/\Blk wr (w.heap.size+1) 24 #[.int .i64 x,.int .i64 y]/\Blk wr (w.heap.size+1+1) 56 #[.int .u64 0,.int .u64 0,.int .u64 0]/\Below w.heap.size w wr) (fun i _=>n-(intOf i).toNat)
 case atStart=>exact ⟨1,zhy _,by omega,rfl,hG,hE0,hE1,hb2⟩
 case round=>
  clear hG hE0 hE1 hb2;obtain⟨k,hk1,hk,rfl,hG,hPt,hR,hb⟩:=hrel;obtain⟨o1,o0,od,eo⟩:=qch (minF ((qds l ⟨x,y⟩).take k));have HRE:=hdQ eo;rw [eo] at hG;have lR:=hR.lt;have lP:=hPt.lt;have lG:=hG.lt;have hbs:=hb.size;have gn1:=gne.out.1;have gn2:=gne.out.2.1;have gn3:=gne.out.2.2
  by_cases hlt:k<n
  · obtain⟨b1,off1,he,hab,c0,c1⟩:=(hl.below (hb.mono hB)).at_ hlt
    injection he with he
    injection he with he1 he2
    subst he1 he2;obtain⟨c2,c3⟩:=qy0 (hl.below (hb.mono hB)) hlt;have hbw:b<wr.heap.size:=oQ
    have hk0:(k:Int)<(n:Int):=oQ
    have hkl:k<l.length:=by rw [hl.1];exact hlt
    obtain⟨m,hm,hwr,htm,hml⟩:=qku hlt hn6;rw [hm] at c2 c3;clear hm;have hn0:¬ n=0:=oQ
    have hml0:(m:Int)<(n:Int):=oQ
    have cG:=hG.cell;have cPt:=hPt.cell;have hks:k<(qds l ⟨x,y⟩).length:=by rw [HSg.out];exact hkl
    have hfr:fr (qds l ⟨x,y⟩) k=segF (pt l k) (nx l k) ⟨x,y⟩:=by
     have:=qzu hks;rw [qn1 hkl] at this;exact(zjx this).symm
    have hT:=qlp hks;rw [hfr] at hT
    have hok:∀z∈qds l ⟨x,y⟩,FrOk z:=fun z hz=>by
     obtain⟨i,hi,e⟩:=qgz hz
     rw [<-e]
     exact qn2 (qbx HAll.out hi) (qcw HAll.out hi) HPp.out
    obtain⟨d1,d0,dd,ed⟩:=qch (segF (pt l k) (nx l k) ⟨x,y⟩)
    have HS2:Hid (∀w,C9 70 #[.agg #[.int .i64 (pt l k).x,.int .i64 (pt l k).y],.agg #[.int .i64 (nx l k).x,.int .i64 (nx l k).y],.agg #[.int .i64 x,.int .i64 y]] w (Ret w (.agg #[.int .u64 d1,.int .u64 d0,.int .u64 dd]))):=fun w=>by
     have h:=HS.out (pt l k) (nx l k) w;rw [qay,ed] at h;exact h
    obtain⟨cm,ecm⟩:∃cm,cmpF (segF (pt l k) (nx l k) ⟨x,y⟩) (minF ((qds l ⟨x,y⟩).take k))=cm:=⟨_,rfl⟩
    have hC:Hid (∀w,C9 71 #[.agg #[.int .u64 d1,.int .u64 d0,.int .u64 dd],.agg #[.int .u64 o1,.int .u64 o0,.int .u64 od]] w (Ret w (.int .i64 cm))):=fun w=>by
     have h:=qp7 (segF (pt l k) (nx l k) ⟨x,y⟩) (minF ((qds l ⟨x,y⟩).take k)) (qn2 (qbx HAll.out hkl) (qcw HAll.out hkl) HPp.out) (qsp (fun x hx=>hok x (List.mem_of_mem_take hx))) w
     rw [qay,qay,eo,ed,ecm] at h;exact h
    rw [ecm] at hT;have HED:=hdQ ed;clear eo ed hok hfr ecm;go_wp2_with fail;refine qa8 [0,1,2,3,4,5,6,7,8,9,10,11,12,13] [14] [15] (fun _=> #[.int .u64 0,.int .u64 0,.int .u64 0]) kr kr pq (by intro i hi w;simp only [List.mem_cons,List.not_mem_nil,or_false] at hi;rcases hi with rfl<;>simp only [ldz,lds,tyOf]<;>kernel_rfl) (fun KN hKN=> ?_)
    simp only [zdy,zey,ldz,lds,bare,qal,lcz,lcs,zay]
    repeat((try simp only [Act.put,lsi,lsz,lss]);first|(refine qcf (v:= ?_) rfl ?_ ?_;rotate_left;focus(intro wq hq;obtain⟨hcq,hfq⟩:=qa7 hq;go_simp;try with_reducible rfl))|(refine qcy (v:= ?_) rfl ?_ ?_;rotate_left;focus(intro wq hq K hK;obtain⟨hcq,hfq⟩:=qa7 hq;go_simp;(first|(go_at_call 70;refine(HS2.out _).monoR ?_;rintro w1 hb1 hc1 hf1 hz1;(try simp at hz1)));refine hK.out _ _ ?_ bel;simp only [Act.put,lsi,lsz,lss];try with_reducible rfl)))
    (try simp only [Act.put,lsi,lsz,lss])
    refine qdz (hKN.out _ ?_);clear hKN KN;intro gs wf hwf hgs hds
    simp only [zdy,zey,ldz,lds,bare,qal,lcz,lcs,zay,List.foldl_cons,List.foldl_nil,ptrV]
    obtain⟨hg14,HB14⟩:=hgs 14 dE
    simp only [ldz,lds,tyOf] at HB14;clear hgs hds;generalize gs 14=g14 at*;have cg14:=HB14.cell;have fg14:=HB14.frozen
    repeat((try simp only [Act.put,lsi,lsz,lss]);first|(refine qab qaa rfl (fun K hK=> ?_);go_simp;refine hK.out _ _ bel ?_;clear hK K)|(refine qa5 (v:= ?_) qaa rfl ?_ ?_;rotate_left;focus(intro wq hq;go_simp;try with_reducible rfl)))
    refine qad ?_;refine qb5 (R:=fun w2=>Below w.heap.size w w2/\Blk w2 g14 56 #[.int .u64 d1,.int .u64 d0,.int .u64 dd]/\Blk w2 (w.heap.size+1) 24 #[.int .i64 x,.int .i64 y]/\Blk w2 (w.heap.size+1+1) 56 #[.int .u64 0,.int .u64 0,.int .u64 0]/\Blk w2 g8 56 #[.int .u64 o1,.int .u64 o0,.int .u64 od]) ⟨bel,(((HB14.set_ 0 _).set_ 1 _).set_ 2 _).eq_ sI,blkA,blkA,blkA⟩ ?_
    rintro w2 ⟨hb2,h14,hE0,hE1,hE2⟩;clear cg14 fg14 HB14;have cg14:=h14.cell;have fg14:=h14.frozen;have lg14:=h14.lt;obtain⟨hc2,hf2⟩:=qa7 hb2;have hg14:g14≠g8:=oQ
    clear hwf hc2 hf2 c0 c1 c2 c3 hG hPt hR cG cPt HS2;have cG:=hE2.cell;have fG:=hE2.frozen;have lG:=hE2.lt;have hg8w:g8<w2.heap.size:=oQ
    by_cases hlt0:cm<0
    · rw [if_pos (.inr hlt0)] at hT
      have HN:Hid (∀wx,Blk wx g8 56 #[.int .u64 d1,.int .u64 d0,.int .u64 dd]->Blk wx g8 56 (fcs (minF ((qds l ⟨x,y⟩).take (k+1)))).toArray):=fun wx h=>by rw [hT,HED.out];exact h
      clear hT HED HRE
      go_wp2_with (go_at_call 71;refine(hC.out _).monoR ?_;rintro w5 hb5 hc5 hf5 hz5;(try simp at hz5);have lG5:g8<w5.heap.size:=oQ;have lH5:g14<w5.heap.size:=oQ)
      go_roundw
      case rel=>exact ⟨k+1,by omega,by omega,by go_num,HN.out _ (by repeat(first|with_reducible exact qaj (x:=.int .u64 o1) (y:=.int .u64 o0) (z:=.int .u64 od) blkA|(with_reducible refine Blk.new ?_ rfl;focus(simp;done))|with_reducible refine Blk.alloc ?_ _|with_reducible refine Blk.drew ?_)),blkA,blkA,bel⟩
      case measure=>simp [intOf];omega
    · rw [if_neg (fun h=>h.elim oQ hlt0)] at hT
      have HN:Hid (∀wx,Blk wx g8 56 #[.int .u64 o1,.int .u64 o0,.int .u64 od]->Blk wx g8 56 (fcs (minF ((qds l ⟨x,y⟩).take (k+1)))).toArray):=fun wx h=>by rw [hT,HRE.out];exact h
      clear hT HED HRE
      go_wp2_with (go_at_call 71;refine(hC.out _).monoR ?_;rintro w5 hb5 hc5 hf5 hz5;(try simp at hz5);have lG5:g8<w5.heap.size:=oQ;have lH5:g14<w5.heap.size:=oQ)
      go_roundw
      case rel=>exact ⟨k+1,by omega,by omega,by go_num,HN.out _ blkA,blkA,blkA,bel⟩
      case measure=>simp [intOf];omega
  · have hkn:k=n:=oQ
    subst hkn
    have HF:Hid (fV (qbj ⟨4,l⟩ ⟨x,y⟩)=.agg #[.int .u64 o1,.int .u64 o0,.int .u64 od]):=by
     unfold Hid
     rw [HD.out,qay,<-HRE.out,zmy (by rw [HSg.out,hl.1];exact zhy _)]
    have cG:=hG.cell;have cR:=hR.cell;have fR:=hR.frozen;clear HRE eo HD HSg;go_wp2_with fail;refine qaf (R:=fun w2=>Blk w2 (w.heap.size+1+1) 56 #[.int .u64 o1,.int .u64 o0,.int .u64 od]/\Below w.heap.size w w2) ⟨?_,bel⟩ ?_
    · repeat(first|with_reducible exact qaj (x:=.int .u64 0) (y:=.int .u64 0) (z:=.int .u64 0) blkA|(with_reducible refine Blk.new ?_ rfl;focus(simp;done))|with_reducible refine Blk.alloc ?_ _|with_reducible refine Blk.drew ?_)
    rintro w2 ⟨HR,hb2⟩;obtain⟨r0,r1,r2⟩:=ce3 HR
    rw [HF.out]
    exact bodyPost_ret (v:=.agg #[.int .u64 o1,.int .u64 o0,.int .u64 od]) (by simp [results,Tryz.results33,go_sem,r0,r1,r2]) rfl ⟨rfl,hb2⟩
theorem qyf (B n c:Nat) (k:Int) (A:Option Addr) (l:List Pt) (x y:Int) (w:World) (hl:qax w B A n l) (hB:B<=w.heap.size) (hn:n<=1000000):
 C9 33 #[obV k A n c,ptV x y] w (Ret w (fV (qbj ⟨k,l⟩ ⟨x,y⟩))):=by
 by_cases hk:k=4
 case neg=>exact qye B n c k A l x y w hl hB hn hk
 subst hk
 by_cases ho:ckOb ⟨4,l⟩=0
 case neg=>
  have HF:Hid (fV (qbj ⟨4,l⟩ ⟨x,y⟩)=.agg #[.int .u64 0,.int .u64 0,.int .u64 0]):=by unfold Hid qbj;rw [if_neg (fun h=>ho h.1),qay,qcb]
  obtain⟨m,hm⟩:∃m:Nat,ckOb ⟨4,l⟩=m:=⟨_,rfl⟩;have hm0:((m:Int) !=0)=true:=by rw [bne_iff_ne];omega
  have HA:=hdQ (fun w (h:qax w B A n l) (hB:B<=w.heap.size)=>qh1 B n c 4 A l w h hB hn ho)
  rw [hm] at HA;clear ho hm
  go_enter Tryz.func33,Tryz.ntmps33
  go_wp2_with (first|(go_at_call 67;refine(HA.out _ (hl.tr bel hB) (bsz w hB)).monoR ?_;rintro wa hba hca hfa hza;(try simp at hza);obtain⟨hya0,hya1,hya2⟩:=ol3 w wa))
  refine qaf (R:=fun w2=>Blk w2 (w.heap.size+1+1) 56 #[.int .u64 0,.int .u64 0,.int .u64 0]/\Below w.heap.size w w2) ⟨?_,bel⟩ ?_
  · repeat(first|with_reducible exact qaj (x:=.int .u64 0) (y:=.int .u64 0) (z:=.int .u64 0) blkA|(with_reducible refine Blk.new ?_ rfl;focus(simp;done))|with_reducible refine Blk.alloc ?_ _|with_reducible refine Blk.drew ?_)
  rintro w2 ⟨HR,hb2⟩;obtain⟨r0,r1,r2⟩:=ce3 HR
  rw [HF.out]
  exact bodyPost_ret (v:=.agg #[.int .u64 0,.int .u64 0,.int .u64 0]) (by simp [results,Tryz.results33,go_sem,r0,r1,r2]) rfl ⟨rfl,hb2⟩
 cases op:okPt ⟨x,y⟩
 case true=>exact qvw B n c A l x y w hl hB (q1p ho) op
 have HA:=hdQ (fun w (h:qax w B A n l) (hB:B<=w.heap.size)=>qhb B n c 4 A l w h hB hn ho)
 obtain⟨X,hX⟩:∃X,qbb ⟨4,l⟩=X:=⟨_,rfl⟩;rw [hX] at HA;have HP0:=fun w=>qai x y w
 rw [op] at HP0;have HP:Hid (∀w,C9 9 #[ptV x y] w (Ret w (.bool false))):=HP0;have HF:Hid (fV (qbj ⟨4,l⟩ ⟨x,y⟩)=.agg #[.int .u64 0,.int .u64 0,.int .u64 0]):=by unfold Hid qbj;rw [if_neg (fun h=>by rw [op] at h;cases h.2),qay,qcb]
 clear ho op hX HP0
 go_enter Tryz.func33,Tryz.ntmps33
 go_wp2_with (first|(go_at_call 67;refine(HA.out _ (hl.tr bel hB) (bsz w hB)).monoR ?_;rintro wa hba hca hfa hza;(try simp at hza);obtain⟨hya0,hya1,hya2⟩:=ol3 w wa)|(go_at_call 9;refine(HP.out _).monoR ?_;rintro wp hbp hcp hfp hzp;(try simp at hzp);have hyp0:w.heap.size<wp.heap.size:=oQ;have hyp1:w.heap.size+1<wp.heap.size:=oQ;have hyp2:w.heap.size+1+1<wp.heap.size:=oQ;have hypa:wa.heap.size<wp.heap.size:=oQ))
 refine qaf (R:=fun w2=>Blk w2 (w.heap.size+1+1) 56 #[.int .u64 0,.int .u64 0,.int .u64 0]/\Below w.heap.size w w2) ⟨?_,bel⟩ ?_
 · repeat(first|with_reducible exact qaj (x:=.int .u64 0) (y:=.int .u64 0) (z:=.int .u64 0) blkA|(with_reducible refine Blk.new ?_ rfl;focus(simp;done))|with_reducible refine Blk.alloc ?_ _|with_reducible refine Blk.drew ?_)
 rintro w2 ⟨HR,hb2⟩;obtain⟨r0,r1,r2⟩:=ce3 HR
 rw [HF.out]
 exact bodyPost_ret (v:=.agg #[.int .u64 0,.int .u64 0,.int .u64 0]) (by simp [results,Tryz.results33,go_sem,r0,r1,r2]) rfl ⟨rfl,hb2⟩
end Go.Proofs.YteodamnfgcnmmaaGreatDoor
