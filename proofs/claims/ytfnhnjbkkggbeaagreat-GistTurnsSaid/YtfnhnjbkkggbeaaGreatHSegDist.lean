/-Contract of plane.Square.-/
import Derived.Test.YtfnhnjbkkggbeaaGreatHDist2
import Derived.Test.YtfnhnjbkkggbeaaGreatHRatio
set_option linter.unusedVariables false
set_option linter.unusedSimpArgs false
set_option maxHeartbeats 4000000
set_option maxRecDepth 20000
namespace Go.Proofs.YtfnhnjbkkggbeaaGreat
open Go.RowKit Pg
def psV (a b:Pt):Value:=if okPt a&&okPt b then dV (sqN (a.x-b.x) (a.y-b.y)) else dZ
theorem qsd (ax ay bx by_:Int) (w:World):
 C9 100 #[ptV ax ay,ptV bx by_] w (Ret w (psV ⟨ax,ay⟩ ⟨bx,by_⟩)):=by
 cases h1:okPt ⟨ax,ay⟩&&okPt ⟨bx,by_⟩
 case false=>
  have HF:Hid (psV ⟨ax,ay⟩ ⟨bx,by_⟩=dZ):=by unfold Hid psV;rw [h1];rfl
  have H1:=hdQ h1;clear h1
  go_enter Tryz.func100,Tryz.ntmps100
  go_wp2_with (go_at_call 57;refine(may2 ax ay bx by_ _ _ ?_).mono ?_;exact qan sI;rw [H1.out];rintro e w1 ⟨rfl,hb1⟩;obtain⟨hc1,hf1,hz1⟩:=bc3 hb1;(try simp at hz1);obtain⟨hy0,hy1,hy2⟩:=ol3 w w1)
  refine qai (R:=fun w2=>Blk w2 (w.heap.size+1+1) 71 #[.int .u64 0,.int .u64 0,.int .u64 0]/\Below w.heap.size w w2) ⟨?_,bel⟩ ?_
  · exact qat (x:=.int .u64 0) (y:=.int .u64 0) (z:=.int .u64 0) blkA
  rintro w2 ⟨HR,hb2⟩;obtain⟨r0,r1,r2⟩:=ce3 HR
  rw [HF.out]
  exact bodyPost_ret (v:=dZ) (by simp [results,Tryz.results100,go_sem,r0,r1,r2]) rfl ⟨rfl,hb2⟩
 have HF:Hid (psV ⟨ax,ay⟩ ⟨bx,by_⟩=dV (sqN (ax-bx) (ay-by_))):=by unfold Hid psV;rw [h1];rfl
 have h12:=(ziy _ _).mp h1;obtain⟨p1,p2,p3,p4⟩:=qa9 h12.1;obtain⟨q1,q2,q3,q4⟩:=qa9 h12.2
 simp only at p1 p2 p3 p4 q1 q2 q3 q4
 have e1:IntKind.i64.wrap (ax-bx)=ax-bx:=by rw [IntKind.wrap_i64];omega
 have e2:IntKind.i64.wrap (ay-by_)=ay-by_:=by rw [IntKind.wrap_i64];omega
 have GS:=hdQ (fun w=>qk7 (ax-bx) (ay-by_) oQ oQ oQ oQ w)
 obtain⟨n,hn⟩:∃n,sqN (ax-bx) (ay-by_)=n:=⟨_,rfl⟩;rw [hn] at HF GS;have H1:=hdQ h1;clear h1 h12 p1 p2 p3 p4 q1 q2 q3 q4 hn
 go_enter Tryz.func100,Tryz.ntmps100
 go_wp2_with (first|(go_at_call 57;refine(may2 ax ay bx by_ _ _ ?_).mono ?_;exact qan sI;rw [H1.out];rintro e w1 ⟨rfl,hb1⟩;obtain⟨hc1,hf1,hz1⟩:=bc3 hb1;(try simp at hz1);obtain⟨hy0,hy1,hy2⟩:=ol3 w w1)|(go_at_call 92;refine(GS.out _).monoR ?_;rintro w1 hb1 hc1 hf1 hz1;(try simp at hz1);obtain⟨hy0,hy1,hy2⟩:=ol3 w w1))
 refine qai (R:=fun w2=>Blk w2 (w.heap.size+1+1) 71 #[.int .u64 ((n/18446744073709551616:Nat):Int),.int .u64 ((n%18446744073709551616:Nat):Int),.int .u64 1]/\Below w.heap.size w w2) ⟨?_,bel⟩ ?_
 · exact qat (x:=.int .u64 0) (y:=.int .u64 0) (z:=.int .u64 0) blkA
 rintro w2 ⟨HR,hb2⟩;obtain⟨r0,r1,r2⟩:=ce3 HR
 rw [HF.out]
 exact bodyPost_ret (v:=dV n) (by simp [results,Tryz.results100,go_sem,r0,r1,r2]) rfl ⟨rfl,hb2⟩
theorem q7g {a b c:Pt} (h:(okPt a&&okPt b&&okPt c)=true):
 (-2147483646<=b.x-a.x/\b.x-a.x<=2147483646)/\(-2147483646<=c.x-a.x/\c.x-a.x<=2147483646)/\(-2147483646<=b.y-a.y/\b.y-a.y<=2147483646)/\(-2147483646<=c.y-a.y/\c.y-a.y<=2147483646):=by
 simp only [okPt,farB,ziy,Bool.not_eq_true',Bool.or_eq_false_iff,decide_eq_false_iff_not] at h
 omega
theorem qhd (ax ay bx by_ cx cy:Int) (h:(okPt ⟨ax,ay⟩&&okPt ⟨bx,by_⟩&&okPt ⟨cx,cy⟩)=true) (w:World):
 C9 99 #[ptV ax ay,ptV bx by_,ptV cx cy] w (Ret w (.int .i64 (dotR ⟨ax,ay⟩ ⟨bx,by_⟩ ⟨cx,cy⟩))):=by
 have H:Hid (dotR ⟨ax,ay⟩ ⟨bx,by_⟩ ⟨cx,cy⟩=(bx-ax)*(cx-ax)+(by_-ay)*(cy-ay)):=rfl;obtain⟨⟨a1,a2⟩,⟨a3,a4⟩,⟨a5,a6⟩,⟨a7,a8⟩⟩:=q7g h;have b1:=qgy (m:=2147483646) (n:=2147483646) a1 a2 a3 a4;have b2:=qgy (m:=2147483646) (n:=2147483646) a5 a6 a7 a8
 simp only at a1 a2 a3 a4 a5 a6 a7 a8 b1 b2
 obtain⟨b1,b3⟩:=b1;obtain⟨b2,b4⟩:=b2
 go_enter Tryz.func99,Tryz.ntmps99
 go_wp2;go_ret;exact⟨by rw [H.out];rfl,bel⟩
theorem qmc {a b c:Pt} (h:(okPt a&&okPt b&&okPt c)=true): -9223372036854775808<qae a b c/\qae a b c<9223372036854775808:=by
 obtain⟨⟨a1,a2⟩,⟨a3,a4⟩,⟨a5,a6⟩,⟨a7,a8⟩⟩:=qo2 h;have b1:=qgy (m:=2147483646) (n:=2147483646) a1 a2 a3 a4;have b2:=qgy (m:=2147483646) (n:=2147483646) a5 a6 a7 a8;unfold qae
 omega
theorem qpn {x y:Int} (h1: -2147483646<=x) (h2:x<=2147483646) (h3: -2147483646<=y) (h4:y<=2147483646):sqs x y<18446744073709551616:=by
 have a:x.natAbs<=2147483646:=oQ
 have b:y.natAbs<=2147483646:=oQ
 have c:=Nat.mul_le_mul a a;have d:=Nat.mul_le_mul b b;unfold sqs
 omega
theorem qgx {x:Int} (h1: -9223372036854775808<x) (h2:x<9223372036854775808):x.natAbs*x.natAbs<340282366920938463463374607431768211456:=by
 have a:x.natAbs<=9223372036854775808:=oQ
 have c:=Nat.mul_le_mul a a
 omega
theorem qdg (a b:Pt) (ha:okPt a=true) (hb:okPt b=true) (w:World):C9 100 #[ptV a.x a.y,ptV b.x b.y] w (Ret w (fV ⟨sqs (a.x-b.x) (a.y-b.y),1⟩)):=by
 have h:=qsd a.x a.y b.x b.y w;unfold psV at h;rw [show (⟨a.x,a.y⟩:Pt)=a from rfl,show (⟨b.x,b.y⟩:Pt)=b from rfl,ha,hb] at h
 exact h
theorem qvt (ax ay px py:Int) (hok:(okPt ⟨ax,ay⟩&&okPt ⟨ax,ay⟩&&okPt ⟨px,py⟩)=true) (w:World):
 C9 64 #[ptV ax ay,ptV ax ay,ptV px py] w (Ret w (fV (segF ⟨ax,ay⟩ ⟨ax,ay⟩ ⟨px,py⟩))):=by
 have HM:=hdQ hok;have h3:=hok;simp only [ziy] at h3;obtain⟨⟨oa,ob⟩,op⟩:=h3;have hokd:(okPt ⟨ax,ay⟩&&okPt ⟨ax,ay⟩&&okPt ⟨px,py⟩)=true:=by simp [oa,op]
 have HS1:Hid (∀w,C9 100 #[ptV ax ay,ptV px py] w (Ret w (fV ⟨sqs (ax-px) (ay-py),1⟩))):=fun w=>qdg ⟨ax,ay⟩ ⟨px,py⟩ oa op w
 have HS2:Hid (∀w,C9 100 #[ptV ax ay,ptV px py] w (Ret w (fV ⟨sqs (ax-px) (ay-py),1⟩))):=fun w=>qdg ⟨ax,ay⟩ ⟨px,py⟩ ob op w
 have HS3:Hid (∀w,C9 100 #[ptV ax ay,ptV ax ay] w (Ret w (fV ⟨sqs (ax-ax) (ay-ay),1⟩))):=fun w=>qdg ⟨ax,ay⟩ ⟨ax,ay⟩ oa ob w
 have HD1:=hdQ (fun w=>qhd ax ay ax ay px py hok w)
 have HD2:=hdQ (fun w=>qhd ax ay ax ay px py hokd w)
 have HE:segF ⟨ax,ay⟩ ⟨ax,ay⟩ ⟨px,py⟩=if (⟨ax,ay⟩:Pt)=⟨ax,ay⟩\/dotR ⟨ax,ay⟩ ⟨ax,ay⟩ ⟨px,py⟩<=0 then⟨sqs (ax-px) (ay-py),1⟩ else if dotR ⟨ax,ay⟩ ⟨ax,ay⟩ ⟨px,py⟩<=0 then⟨sqs (ax-px) (ay-py),1⟩ else lowF ((qae ⟨ax,ay⟩ ⟨ax,ay⟩ ⟨px,py⟩).natAbs*(qae ⟨ax,ay⟩ ⟨ax,ay⟩ ⟨px,py⟩).natAbs) (sqs (ax-ax) (ay-ay)):=by
  unfold segF;rw [hok];rfl
 have he:(⟨ax,ay⟩:Pt)=⟨ax,ay⟩:=rfl;rw [if_pos (.inl he)] at HE;rw [qb7] at HS1
 rw [HE,qb7]
 obtain⟨x,y,z,e⟩:=qfa ⟨sqs (ax-px) (ay-py),1⟩
 rw [e] at HS1 ⊢
 clear e HE HS2 HS3 HD1 HD2 hokd oa ob op hok he
 go_enter Tryz.func64,Tryz.ntmps64
 go_wp2_with (first|(go_at_call 98;refine(qn7 ax ay ax ay px py _ _ ?_).mono ?_;exact qan sI;rw [HM.out];rintro e w1 ⟨rfl,hb1⟩;obtain⟨hc1,hf1,hz1⟩:=bc3 hb1;(try simp at hz1);obtain⟨hy0,hy1,hy2,hy3⟩:=ol4 w w1)|(go_at_call 100;(with_reducible refine(HS1.out _).monoR ?_);rintro w1 hb1 hc1 hf1 hz1;(try simp at hz1);obtain⟨hy0,hy1,hy2,hy3⟩:=ol4 w w1))
 refine qai (R:=fun w2=>Blk w2 (w.heap.size+1+1+1) 71 #[.int .u64 x,.int .u64 y,.int .u64 z]/\Below w.heap.size w w2) ⟨?_,bel⟩ ?_
 · repeat(first|with_reducible exact qat (x:=.int .u64 0) (y:=.int .u64 0) (z:=.int .u64 0) blkA|(with_reducible refine Blk.new ?_ rfl;focus(simp;done))|with_reducible refine Blk.alloc ?_ _|with_reducible refine Blk.drew ?_)
 rintro w2 ⟨HR,hb2⟩;obtain⟨r0,r1,r2⟩:=ce3 HR;exact bodyPost_ret (v:=.agg #[.int .u64 x,.int .u64 y,.int .u64 z]) (by simp [results,Tryz.results64,go_sem,r0,r1,r2]) rfl ⟨rfl,hb2⟩
theorem qvs (ax ay bx by_ px py:Int) (hx:¬ ax=bx) (hok:(okPt ⟨ax,ay⟩&&okPt ⟨bx,by_⟩&&okPt ⟨px,py⟩)=true) (w:World):
 C9 64 #[ptV ax ay,ptV bx by_,ptV px py] w (Ret w (fV (segF ⟨ax,ay⟩ ⟨bx,by_⟩ ⟨px,py⟩))):=by
 have HM:=hdQ hok;have h3:=hok;simp only [ziy] at h3;obtain⟨⟨oa,ob⟩,op⟩:=h3;have hokd:(okPt ⟨bx,by_⟩&&okPt ⟨ax,ay⟩&&okPt ⟨px,py⟩)=true:=by rw [oa,ob,op];rfl
 have HS1:Hid (∀w,C9 100 #[ptV ax ay,ptV px py] w (Ret w (fV ⟨sqs (ax-px) (ay-py),1⟩))):=fun w=>qdg ⟨ax,ay⟩ ⟨px,py⟩ oa op w
 have HS2:Hid (∀w,C9 100 #[ptV bx by_,ptV px py] w (Ret w (fV ⟨sqs (bx-px) (by_-py),1⟩))):=fun w=>qdg ⟨bx,by_⟩ ⟨px,py⟩ ob op w
 have HS3:Hid (∀w,C9 100 #[ptV ax ay,ptV bx by_] w (Ret w (fV ⟨sqs (ax-bx) (ay-by_),1⟩))):=fun w=>qdg ⟨ax,ay⟩ ⟨bx,by_⟩ oa ob w
 have HD1:=hdQ (fun w=>qhd ax ay bx by_ px py hok w)
 have HD2:=hdQ (fun w=>qhd bx by_ ax ay px py hokd w)
 have HE:segF ⟨ax,ay⟩ ⟨bx,by_⟩ ⟨px,py⟩=if (⟨ax,ay⟩:Pt)=⟨bx,by_⟩\/dotR ⟨ax,ay⟩ ⟨bx,by_⟩ ⟨px,py⟩<=0 then⟨sqs (ax-px) (ay-py),1⟩ else if dotR ⟨bx,by_⟩ ⟨ax,ay⟩ ⟨px,py⟩<=0 then⟨sqs (bx-px) (by_-py),1⟩ else lowF ((qae ⟨ax,ay⟩ ⟨bx,by_⟩ ⟨px,py⟩).natAbs*(qae ⟨ax,ay⟩ ⟨bx,by_⟩ ⟨px,py⟩).natAbs) (sqs (ax-bx) (ay-by_)):=by
  unfold segF;rw [hok];rfl
 have he:¬ (⟨ax,ay⟩:Pt)=⟨bx,by_⟩:=fun e=>hx (congrArg Pt.x e)
 obtain⟨d1,ed1⟩:∃d,dotR ⟨ax,ay⟩ ⟨bx,by_⟩ ⟨px,py⟩=d:=⟨_,rfl⟩;obtain⟨d2,ed2⟩:∃d,dotR ⟨bx,by_⟩ ⟨ax,ay⟩ ⟨px,py⟩=d:=⟨_,rfl⟩;rw [ed1] at HD1 HE;rw [ed2] at HD2 HE
 by_cases hd1:d1<=0
 · rw [if_pos (.inr hd1)] at HE
   rw [qb7] at HS1
   rw [HE,qb7]
   obtain⟨x,y,z,e⟩:=qfa ⟨sqs (ax-px) (ay-py),1⟩
   rw [e] at HS1 ⊢
   clear e HE HS2 HS3 HD2 hokd oa ob op hok he ed1 ed2
   go_enter Tryz.func64,Tryz.ntmps64
   go_wp2_with (first|(go_at_call 98;refine(qn7 ax ay bx by_ px py _ _ ?_).mono ?_;exact qan sI;rw [HM.out];rintro e w1 ⟨rfl,hb1⟩;obtain⟨hc1,hf1,hz1⟩:=bc3 hb1;(try simp at hz1);obtain⟨hy0,hy1,hy2,hy3⟩:=ol4 w w1)|(go_at_call 99;(with_reducible refine(HD1.out _).monoR ?_);rintro w1 hb1 hc1 hf1 hz1;(try simp at hz1);obtain⟨hy0,hy1,hy2,hy3⟩:=ol4 w w1)|(go_at_call 100;(with_reducible refine(HS1.out _).monoR ?_);rintro w1 hb1 hc1 hf1 hz1;(try simp at hz1);obtain⟨hy0,hy1,hy2,hy3⟩:=ol4 w w1))
   refine qai (R:=fun w2=>Blk w2 (w.heap.size+1+1+1) 71 #[.int .u64 x,.int .u64 y,.int .u64 z]/\Below w.heap.size w w2) ⟨?_,bel⟩ ?_
   · repeat(first|with_reducible exact qat (x:=.int .u64 0) (y:=.int .u64 0) (z:=.int .u64 0) blkA|(with_reducible refine Blk.new ?_ rfl;focus(simp;done))|with_reducible refine Blk.alloc ?_ _|with_reducible refine Blk.drew ?_)
   rintro w2 ⟨HR,hb2⟩;obtain⟨r0,r1,r2⟩:=ce3 HR;exact bodyPost_ret (v:=.agg #[.int .u64 x,.int .u64 y,.int .u64 z]) (by simp [results,Tryz.results64,go_sem,r0,r1,r2]) rfl ⟨rfl,hb2⟩
 by_cases hd2:d2<=0
 · rw [if_neg (fun h=>h.elim he hd1),if_pos hd2] at HE
   rw [qb7] at HS2
   rw [HE,qb7]
   obtain⟨x,y,z,e⟩:=qfa ⟨sqs (bx-px) (by_-py),1⟩
   rw [e] at HS2 ⊢
   clear e HE HS1 HS3 hokd oa ob op hok he ed1 ed2
   go_enter Tryz.func64,Tryz.ntmps64
   go_wp2_with (first|(go_at_call 98;refine(qn7 ax ay bx by_ px py _ _ ?_).mono ?_;exact qan sI;rw [HM.out];rintro e w1 ⟨rfl,hb1⟩;obtain⟨hc1,hf1,hz1⟩:=bc3 hb1;(try simp at hz1);obtain⟨hy0,hy1,hy2,hy3⟩:=ol4 w w1)|(go_at_call 99;(with_reducible refine(HD1.out _).monoR ?_);rintro w1 hb1 hc1 hf1 hz1;(try simp at hz1);obtain⟨hy0,hy1,hy2,hy3⟩:=ol4 w w1)|(go_at_call 99;(with_reducible refine(HD2.out _).monoR ?_);rintro w1 hb1 hc1 hf1 hz1;(try simp at hz1);obtain⟨hy0,hy1,hy2,hy3⟩:=ol4 w w1)|(go_at_call 100;(with_reducible refine(HS2.out _).monoR ?_);rintro w1 hb1 hc1 hf1 hz1;(try simp at hz1);obtain⟨hy0,hy1,hy2,hy3⟩:=ol4 w w1))
   refine qai (R:=fun w2=>Blk w2 (w.heap.size+1+1+1) 71 #[.int .u64 x,.int .u64 y,.int .u64 z]/\Below w.heap.size w w2) ⟨?_,bel⟩ ?_
   · repeat(first|with_reducible exact qat (x:=.int .u64 0) (y:=.int .u64 0) (z:=.int .u64 0) blkA|(with_reducible refine Blk.new ?_ rfl;focus(simp;done))|with_reducible refine Blk.alloc ?_ _|with_reducible refine Blk.drew ?_)
   rintro w2 ⟨HR,hb2⟩;obtain⟨r0,r1,r2⟩:=ce3 HR;exact bodyPost_ret (v:=.agg #[.int .u64 x,.int .u64 y,.int .u64 z]) (by simp [results,Tryz.results64,go_sem,r0,r1,r2]) rfl ⟨rfl,hb2⟩
 rw [if_neg (fun h=>h.elim he hd1),if_neg hd2] at HE
 have hCb:=qmc hok
 have HC:Hid (∀w,C9 102 #[ptV ax ay,ptV bx by_,ptV px py] w (Ret w (.int .i64 (qae ⟨ax,ay⟩ ⟨bx,by_⟩ ⟨px,py⟩)))):=fun w=>by
  have h:=qmb ax ay bx by_ px py w;unfold qdn at h;rw [if_pos hok] at h;exact h
 have hDpos:0<sqs (ax-bx) (ay-by_):=qjl (a:=⟨ax,ay⟩) (b:=⟨bx,by_⟩) he
 have hDlt:sqs (ax-bx) (ay-by_)<18446744073709551616:=by
  obtain⟨p1,p2,p3,p4⟩:=qa9 oa;obtain⟨q1,q2,q3,q4⟩:=qa9 ob
  simp only at p1 p2 p3 p4 q1 q2 q3 q4
  exact qpn oQ oQ oQ oQ
 have HQ0:=hdQ (fun w=>qez (qae ⟨ax,ay⟩ ⟨bx,by_⟩ ⟨px,py⟩) oQ hCb.2 w)
 have hN:=qgx hCb.1 hCb.2;obtain⟨C,eC⟩:∃c,qae ⟨ax,ay⟩ ⟨bx,by_⟩ ⟨px,py⟩=c:=⟨_,rfl⟩;rw [eC] at HC HQ0 hN HE;obtain⟨N,eN⟩:∃c,C.natAbs*C.natAbs=c:=⟨_,rfl⟩;rw [eN] at HQ0 hN HE;obtain⟨D,eD⟩:∃c,sqs (ax-bx) (ay-by_)=c:=⟨_,rfl⟩;rw [eD] at HS3 HE hDpos hDlt;have HMk0:=hdQ (fun w=>qup N D hN hDpos hDlt w)
 have hD1:D/18446744073709551616=0:=Nat.div_eq_of_lt hDlt;have hD2:D%18446744073709551616=D:=zzy hDlt
 have HS4:Hid (∀w,C9 100 #[ptV ax ay,ptV bx by_] w (Ret w (.agg #[.int .u64 0,.int .u64 D,.int .u64 1]))):=fun w=>by
  have h:=HS3.out w;rw [qb7] at h;unfold fcs at h;simp only [hD1,hD2] at h;exact h
 rw [HE,qb7]
 rw [qb7] at HMk0;obtain⟨x,y,z,e⟩:=qfa (lowF N D)
 rw [e] at HMk0 ⊢
 simp only [uV] at HQ0 HMk0;obtain⟨n1,en1⟩:∃c,N/18446744073709551616=c:=⟨_,rfl⟩;obtain⟨n0,en0⟩:∃c,N%18446744073709551616=c:=⟨_,rfl⟩;rw [en1,en0] at HQ0 HMk0;clear e HE HS1 HS2 HS3 hokd oa ob op hok he ed1 ed2 hCb hDpos hDlt hN eC eN eD hD1 hD2 en1 en0
 go_enter Tryz.func64,Tryz.ntmps64
 go_wp2_with (first|(go_at_call 98;refine(qn7 ax ay bx by_ px py _ _ ?_).mono ?_;exact qan sI;rw [HM.out];rintro e w1 ⟨rfl,hb1⟩;obtain⟨hc1,hf1,hz1⟩:=bc3 hb1;(try simp at hz1);obtain⟨hy0,hy1,hy2,hy3⟩:=ol4 w w1)|(go_at_call 99;(with_reducible refine(HD1.out _).monoR ?_);rintro w1 hb1 hc1 hf1 hz1;(try simp at hz1);obtain⟨hy0,hy1,hy2,hy3⟩:=ol4 w w1)|(go_at_call 99;(with_reducible refine(HD2.out _).monoR ?_);rintro w1 hb1 hc1 hf1 hz1;(try simp at hz1);obtain⟨hy0,hy1,hy2,hy3⟩:=ol4 w w1))
 refine qfo (fun w2=>Below w.heap.size w w2/\Blk w2 w.heap.size 46 #[.int .i64 ax,.int .i64 ay]/\Blk w2 (w.heap.size+1) 46 #[.int .i64 bx,.int .i64 by_]/\Blk w2 (w.heap.size+1+1) 46 #[.int .i64 px,.int .i64 py]/\Blk w2 (w.heap.size+1+1+1) 71 #[.int .u64 0,.int .u64 0,.int .u64 0]) ⟨bel,blkA,blkA,blkA,blkA⟩ ?_
 clear hb1 hc1 hf1 HD1 HD2 HM;rintro w0 ⟨hb0,hA,hBB,hPP,hR⟩;have hz0:=hb0.size;have cA:=hA.cell;have cB:=hBB.cell;have cP:=hPP.cell;have lR:=hR.lt;have lA:=hA.lt;have lB:=hBB.lt;have lP:=hPP.lt;have HFl:∀w,(Instr.field 71 (.agg #[.int .u64 0,.int .u64 D,.int .u64 1]) 1).run Tryz.prog w=.ok (.int .u64 D) w:=fun w=>by simp [Instr.field,asAgg,go_sem]
 refine qbf [0,1,2,3,4,5,6,7,8,9,10,11,12] [13] [14,15] (fun _=> #[.int .u64 0,.int .u64 0,.int .u64 0]) kr kr pq (by intro i hi w;simp only [List.mem_cons,List.not_mem_nil,or_false] at hi;rcases hi with rfl<;>simp only [ldz,lds,tyOf]<;>kernel_rfl) (fun KN hKN=> ?_)
 simp only [zdy,zey,ldz,lds,bare,qaj,lcz,lcs,zay]
 repeat((try simp only [Act.put,lsi,lsz,lss]);first|(refine qdj (v:= ?_) rfl ?_ ?_;rotate_left;focus(intro wq hq;obtain⟨hcq,hfq⟩:=qbb hq;go_simp;try with_reducible rfl))|(refine qdz (v:= ?_) rfl ?_ ?_;rotate_left;focus(intro wq hq K hK;obtain⟨hcq,hfq⟩:=qbb hq;go_simp;(first|(go_at_call 102;(with_reducible refine(HC.out _).monoR ?_);rintro w1 hb1 hc1 hf1 hz1;(try simp at hz1))|(go_at_call 97;(with_reducible refine(HQ0.out _).monoR ?_);rintro w1 hb1 hc1 hf1 hz1;(try simp at hz1))|(go_at_call 100;(with_reducible refine(HS4.out _).monoR ?_);rintro w1 hb1 hc1 hf1 hz1;(try simp at hz1))|(go_at_call 101;(with_reducible refine(HMk0.out _).monoR ?_);rintro w1 hb1 hc1 hf1 hz1;(try simp at hz1)));refine hK.out _ _ ?_ bel;simp only [Act.put,lsi,lsz,lss];try with_reducible rfl)))
 (try simp only [Act.put,lsi,lsz,lss])
 refine qes (hKN.out _ ?_);clear hKN KN;intro gs wf hwf hgs hds
 simp only [zdy,zey,ldz,lds,bare,qaj,lcz,lcs,zay,List.foldl_cons,List.foldl_nil,ptrV]
 obtain⟨hg13,HB13⟩:=hgs 13 dE
 simp only [ldz,lds,tyOf] at HB13;clear hgs hds;generalize gs 13=g13 at*;have cg13:=HB13.cell;have fg13:=HB13.frozen
 repeat((try simp only [Act.put,lsi,lsz,lss]);first|(refine qab qaa rfl (fun K hK=> ?_);go_simp;refine hK.out _ _ bel ?_;clear hK K)|(refine qba (v:= ?_) qaa rfl ?_ ?_;rotate_left;focus(intro wq hq;go_simp;try with_reducible rfl)))
 refine qad ?_;refine qb3 (R:=fun w2=>Below w.heap.size w w2/\Blk w2 g13 71 #[.int .u64 x,.int .u64 y,.int .u64 z]/\Blk w2 (w.heap.size+1+1+1) 71 #[.int .u64 0,.int .u64 0,.int .u64 0]) ⟨bel,(((HB13.set_ 0 _).set_ 1 _).set_ 2 _).eq_ sI,blkA⟩ ?_
 rintro w2 ⟨hb2,h13,hE0⟩;clear cg13 fg13 HB13;have cg13:=h13.cell;have fg13:=h13.frozen;have lg13:=h13.lt;obtain⟨hc2,hf2⟩:=qbb hb2;have cR:=hE0.cell;have fR:=hE0.frozen;have lR2:=hE0.lt;go_wp2_with fail;refine qai (R:=fun w2=>Blk w2 (w.heap.size+1+1+1) 71 #[.int .u64 x,.int .u64 y,.int .u64 z]/\Below w.heap.size w w2) ⟨?_,bel⟩ ?_
 · repeat(first|with_reducible exact qat (x:=.int .u64 0) (y:=.int .u64 0) (z:=.int .u64 0) blkA|(with_reducible refine Blk.new ?_ rfl;focus(simp;done))|with_reducible refine Blk.alloc ?_ _|with_reducible refine Blk.drew ?_)
 rintro w2 ⟨HR,hb2⟩;obtain⟨r0,r1,r2⟩:=ce3 HR;exact bodyPost_ret (v:=.agg #[.int .u64 x,.int .u64 y,.int .u64 z]) (by simp [results,Tryz.results64,go_sem,r0,r1,r2]) rfl ⟨rfl,hb2⟩
theorem qrv (ax ay by_ px py:Int) (hx:¬ ay=by_) (hok:(okPt ⟨ax,ay⟩&&okPt ⟨ax,by_⟩&&okPt ⟨px,py⟩)=true) (w:World):
 C9 64 #[ptV ax ay,ptV ax by_,ptV px py] w (Ret w (fV (segF ⟨ax,ay⟩ ⟨ax,by_⟩ ⟨px,py⟩))):=by
 have HM:=hdQ hok;have h3:=hok;simp only [ziy] at h3;obtain⟨⟨oa,ob⟩,op⟩:=h3;have hokd:(okPt ⟨ax,by_⟩&&okPt ⟨ax,ay⟩&&okPt ⟨px,py⟩)=true:=by rw [oa,ob,op];rfl
 have HS1:Hid (∀w,C9 100 #[ptV ax ay,ptV px py] w (Ret w (fV ⟨sqs (ax-px) (ay-py),1⟩))):=fun w=>qdg ⟨ax,ay⟩ ⟨px,py⟩ oa op w
 have HS2:Hid (∀w,C9 100 #[ptV ax by_,ptV px py] w (Ret w (fV ⟨sqs (ax-px) (by_-py),1⟩))):=fun w=>qdg ⟨ax,by_⟩ ⟨px,py⟩ ob op w
 have HS3:Hid (∀w,C9 100 #[ptV ax ay,ptV ax by_] w (Ret w (fV ⟨sqs (ax-ax) (ay-by_),1⟩))):=fun w=>qdg ⟨ax,ay⟩ ⟨ax,by_⟩ oa ob w
 have HD1:=hdQ (fun w=>qhd ax ay ax by_ px py hok w)
 have HD2:=hdQ (fun w=>qhd ax by_ ax ay px py hokd w)
 have HE:segF ⟨ax,ay⟩ ⟨ax,by_⟩ ⟨px,py⟩=if (⟨ax,ay⟩:Pt)=⟨ax,by_⟩\/dotR ⟨ax,ay⟩ ⟨ax,by_⟩ ⟨px,py⟩<=0 then⟨sqs (ax-px) (ay-py),1⟩ else if dotR ⟨ax,by_⟩ ⟨ax,ay⟩ ⟨px,py⟩<=0 then⟨sqs (ax-px) (by_-py),1⟩ else lowF ((qae ⟨ax,ay⟩ ⟨ax,by_⟩ ⟨px,py⟩).natAbs*(qae ⟨ax,ay⟩ ⟨ax,by_⟩ ⟨px,py⟩).natAbs) (sqs (ax-ax) (ay-by_)):=by
  unfold segF;rw [hok];rfl
 have he:¬ (⟨ax,ay⟩:Pt)=⟨ax,by_⟩:=fun e=>hx (congrArg Pt.y e)
 obtain⟨d1,ed1⟩:∃d,dotR ⟨ax,ay⟩ ⟨ax,by_⟩ ⟨px,py⟩=d:=⟨_,rfl⟩;obtain⟨d2,ed2⟩:∃d,dotR ⟨ax,by_⟩ ⟨ax,ay⟩ ⟨px,py⟩=d:=⟨_,rfl⟩;rw [ed1] at HD1 HE;rw [ed2] at HD2 HE
 by_cases hd1:d1<=0
 · rw [if_pos (.inr hd1)] at HE
   rw [qb7] at HS1
   rw [HE,qb7]
   obtain⟨x,y,z,e⟩:=qfa ⟨sqs (ax-px) (ay-py),1⟩
   rw [e] at HS1 ⊢
   clear e HE HS2 HS3 HD2 hokd oa ob op hok he ed1 ed2
   go_enter Tryz.func64,Tryz.ntmps64
   go_wp2_with (first|(go_at_call 98;refine(qn7 ax ay ax by_ px py _ _ ?_).mono ?_;exact qan sI;rw [HM.out];rintro e w1 ⟨rfl,hb1⟩;obtain⟨hc1,hf1,hz1⟩:=bc3 hb1;(try simp at hz1);obtain⟨hy0,hy1,hy2,hy3⟩:=ol4 w w1)|(go_at_call 99;(with_reducible refine(HD1.out _).monoR ?_);rintro w1 hb1 hc1 hf1 hz1;(try simp at hz1);obtain⟨hy0,hy1,hy2,hy3⟩:=ol4 w w1)|(go_at_call 100;(with_reducible refine(HS1.out _).monoR ?_);rintro w1 hb1 hc1 hf1 hz1;(try simp at hz1);obtain⟨hy0,hy1,hy2,hy3⟩:=ol4 w w1))
   refine qai (R:=fun w2=>Blk w2 (w.heap.size+1+1+1) 71 #[.int .u64 x,.int .u64 y,.int .u64 z]/\Below w.heap.size w w2) ⟨?_,bel⟩ ?_
   · repeat(first|with_reducible exact qat (x:=.int .u64 0) (y:=.int .u64 0) (z:=.int .u64 0) blkA|(with_reducible refine Blk.new ?_ rfl;focus(simp;done))|with_reducible refine Blk.alloc ?_ _|with_reducible refine Blk.drew ?_)
   rintro w2 ⟨HR,hb2⟩;obtain⟨r0,r1,r2⟩:=ce3 HR;exact bodyPost_ret (v:=.agg #[.int .u64 x,.int .u64 y,.int .u64 z]) (by simp [results,Tryz.results64,go_sem,r0,r1,r2]) rfl ⟨rfl,hb2⟩
 by_cases hd2:d2<=0
 · rw [if_neg (fun h=>h.elim he hd1),if_pos hd2] at HE
   rw [qb7] at HS2
   rw [HE,qb7]
   obtain⟨x,y,z,e⟩:=qfa ⟨sqs (ax-px) (by_-py),1⟩
   rw [e] at HS2 ⊢
   clear e HE HS1 HS3 hokd oa ob op hok he ed1 ed2
   go_enter Tryz.func64,Tryz.ntmps64
   go_wp2_with (first|(go_at_call 98;refine(qn7 ax ay ax by_ px py _ _ ?_).mono ?_;exact qan sI;rw [HM.out];rintro e w1 ⟨rfl,hb1⟩;obtain⟨hc1,hf1,hz1⟩:=bc3 hb1;(try simp at hz1);obtain⟨hy0,hy1,hy2,hy3⟩:=ol4 w w1)|(go_at_call 99;(with_reducible refine(HD1.out _).monoR ?_);rintro w1 hb1 hc1 hf1 hz1;(try simp at hz1);obtain⟨hy0,hy1,hy2,hy3⟩:=ol4 w w1)|(go_at_call 99;(with_reducible refine(HD2.out _).monoR ?_);rintro w1 hb1 hc1 hf1 hz1;(try simp at hz1);obtain⟨hy0,hy1,hy2,hy3⟩:=ol4 w w1)|(go_at_call 100;(with_reducible refine(HS2.out _).monoR ?_);rintro w1 hb1 hc1 hf1 hz1;(try simp at hz1);obtain⟨hy0,hy1,hy2,hy3⟩:=ol4 w w1))
   refine qai (R:=fun w2=>Blk w2 (w.heap.size+1+1+1) 71 #[.int .u64 x,.int .u64 y,.int .u64 z]/\Below w.heap.size w w2) ⟨?_,bel⟩ ?_
   · repeat(first|with_reducible exact qat (x:=.int .u64 0) (y:=.int .u64 0) (z:=.int .u64 0) blkA|(with_reducible refine Blk.new ?_ rfl;focus(simp;done))|with_reducible refine Blk.alloc ?_ _|with_reducible refine Blk.drew ?_)
   rintro w2 ⟨HR,hb2⟩;obtain⟨r0,r1,r2⟩:=ce3 HR;exact bodyPost_ret (v:=.agg #[.int .u64 x,.int .u64 y,.int .u64 z]) (by simp [results,Tryz.results64,go_sem,r0,r1,r2]) rfl ⟨rfl,hb2⟩
 rw [if_neg (fun h=>h.elim he hd1),if_neg hd2] at HE
 have hCb:=qmc hok
 have HC:Hid (∀w,C9 102 #[ptV ax ay,ptV ax by_,ptV px py] w (Ret w (.int .i64 (qae ⟨ax,ay⟩ ⟨ax,by_⟩ ⟨px,py⟩)))):=fun w=>by
  have h:=qmb ax ay ax by_ px py w;unfold qdn at h;rw [if_pos hok] at h;exact h
 have hDpos:0<sqs (ax-ax) (ay-by_):=qjl (a:=⟨ax,ay⟩) (b:=⟨ax,by_⟩) he
 have hDlt:sqs (ax-ax) (ay-by_)<18446744073709551616:=by
  obtain⟨p1,p2,p3,p4⟩:=qa9 oa;obtain⟨q1,q2,q3,q4⟩:=qa9 ob
  simp only at p1 p2 p3 p4 q1 q2 q3 q4
  exact qpn oQ oQ oQ oQ
 have HQ0:=hdQ (fun w=>qez (qae ⟨ax,ay⟩ ⟨ax,by_⟩ ⟨px,py⟩) oQ hCb.2 w)
 have hN:=qgx hCb.1 hCb.2;obtain⟨C,eC⟩:∃c,qae ⟨ax,ay⟩ ⟨ax,by_⟩ ⟨px,py⟩=c:=⟨_,rfl⟩;rw [eC] at HC HQ0 hN HE;obtain⟨N,eN⟩:∃c,C.natAbs*C.natAbs=c:=⟨_,rfl⟩;rw [eN] at HQ0 hN HE;obtain⟨D,eD⟩:∃c,sqs (ax-ax) (ay-by_)=c:=⟨_,rfl⟩;rw [eD] at HS3 HE hDpos hDlt;have HMk0:=hdQ (fun w=>qup N D hN hDpos hDlt w)
 have hD1:D/18446744073709551616=0:=Nat.div_eq_of_lt hDlt;have hD2:D%18446744073709551616=D:=zzy hDlt
 have HS4:Hid (∀w,C9 100 #[ptV ax ay,ptV ax by_] w (Ret w (.agg #[.int .u64 0,.int .u64 D,.int .u64 1]))):=fun w=>by
  have h:=HS3.out w;rw [qb7] at h;unfold fcs at h;simp only [hD1,hD2] at h;exact h
 rw [HE,qb7]
 rw [qb7] at HMk0;obtain⟨x,y,z,e⟩:=qfa (lowF N D)
 rw [e] at HMk0 ⊢
 simp only [uV] at HQ0 HMk0;obtain⟨n1,en1⟩:∃c,N/18446744073709551616=c:=⟨_,rfl⟩;obtain⟨n0,en0⟩:∃c,N%18446744073709551616=c:=⟨_,rfl⟩;rw [en1,en0] at HQ0 HMk0;clear e HE HS1 HS2 HS3 hokd oa ob op hok he ed1 ed2 hCb hDpos hDlt hN eC eN eD hD1 hD2 en1 en0
 go_enter Tryz.func64,Tryz.ntmps64
 go_wp2_with (first|(go_at_call 98;refine(qn7 ax ay ax by_ px py _ _ ?_).mono ?_;exact qan sI;rw [HM.out];rintro e w1 ⟨rfl,hb1⟩;obtain⟨hc1,hf1,hz1⟩:=bc3 hb1;(try simp at hz1);obtain⟨hy0,hy1,hy2,hy3⟩:=ol4 w w1)|(go_at_call 99;(with_reducible refine(HD1.out _).monoR ?_);rintro w1 hb1 hc1 hf1 hz1;(try simp at hz1);obtain⟨hy0,hy1,hy2,hy3⟩:=ol4 w w1)|(go_at_call 99;(with_reducible refine(HD2.out _).monoR ?_);rintro w1 hb1 hc1 hf1 hz1;(try simp at hz1);obtain⟨hy0,hy1,hy2,hy3⟩:=ol4 w w1))
 refine qfo (fun w2=>Below w.heap.size w w2/\Blk w2 w.heap.size 46 #[.int .i64 ax,.int .i64 ay]/\Blk w2 (w.heap.size+1) 46 #[.int .i64 ax,.int .i64 by_]/\Blk w2 (w.heap.size+1+1) 46 #[.int .i64 px,.int .i64 py]/\Blk w2 (w.heap.size+1+1+1) 71 #[.int .u64 0,.int .u64 0,.int .u64 0]) ⟨bel,blkA,blkA,blkA,blkA⟩ ?_
 clear hb1 hc1 hf1 HD1 HD2 HM;rintro w0 ⟨hb0,hA,hBB,hPP,hR⟩;have hz0:=hb0.size;have cA:=hA.cell;have cB:=hBB.cell;have cP:=hPP.cell;have lR:=hR.lt;have lA:=hA.lt;have lB:=hBB.lt;have lP:=hPP.lt;have HFl:∀w,(Instr.field 71 (.agg #[.int .u64 0,.int .u64 D,.int .u64 1]) 1).run Tryz.prog w=.ok (.int .u64 D) w:=fun w=>by simp [Instr.field,asAgg,go_sem]
 refine qbf [0,1,2,3,4,5,6,7,8,9,10,11,12] [13] [14,15] (fun _=> #[.int .u64 0,.int .u64 0,.int .u64 0]) kr kr pq (by intro i hi w;simp only [List.mem_cons,List.not_mem_nil,or_false] at hi;rcases hi with rfl<;>simp only [ldz,lds,tyOf]<;>kernel_rfl) (fun KN hKN=> ?_)
 simp only [zdy,zey,ldz,lds,bare,qaj,lcz,lcs,zay]
 repeat((try simp only [Act.put,lsi,lsz,lss]);first|(refine qdj (v:= ?_) rfl ?_ ?_;rotate_left;focus(intro wq hq;obtain⟨hcq,hfq⟩:=qbb hq;go_simp;try with_reducible rfl))|(refine qdz (v:= ?_) rfl ?_ ?_;rotate_left;focus(intro wq hq K hK;obtain⟨hcq,hfq⟩:=qbb hq;go_simp;(first|(go_at_call 102;(with_reducible refine(HC.out _).monoR ?_);rintro w1 hb1 hc1 hf1 hz1;(try simp at hz1))|(go_at_call 97;(with_reducible refine(HQ0.out _).monoR ?_);rintro w1 hb1 hc1 hf1 hz1;(try simp at hz1))|(go_at_call 100;(with_reducible refine(HS4.out _).monoR ?_);rintro w1 hb1 hc1 hf1 hz1;(try simp at hz1))|(go_at_call 101;(with_reducible refine(HMk0.out _).monoR ?_);rintro w1 hb1 hc1 hf1 hz1;(try simp at hz1)));refine hK.out _ _ ?_ bel;simp only [Act.put,lsi,lsz,lss];try with_reducible rfl)))
 (try simp only [Act.put,lsi,lsz,lss])
 refine qes (hKN.out _ ?_);clear hKN KN;intro gs wf hwf hgs hds
 simp only [zdy,zey,ldz,lds,bare,qaj,lcz,lcs,zay,List.foldl_cons,List.foldl_nil,ptrV]
 obtain⟨hg13,HB13⟩:=hgs 13 dE
 simp only [ldz,lds,tyOf] at HB13;clear hgs hds;generalize gs 13=g13 at*;have cg13:=HB13.cell;have fg13:=HB13.frozen
 repeat((try simp only [Act.put,lsi,lsz,lss]);first|(refine qab qaa rfl (fun K hK=> ?_);go_simp;refine hK.out _ _ bel ?_;clear hK K)|(refine qba (v:= ?_) qaa rfl ?_ ?_;rotate_left;focus(intro wq hq;go_simp;try with_reducible rfl)))
 refine qad ?_;refine qb3 (R:=fun w2=>Below w.heap.size w w2/\Blk w2 g13 71 #[.int .u64 x,.int .u64 y,.int .u64 z]/\Blk w2 (w.heap.size+1+1+1) 71 #[.int .u64 0,.int .u64 0,.int .u64 0]) ⟨bel,(((HB13.set_ 0 _).set_ 1 _).set_ 2 _).eq_ sI,blkA⟩ ?_
 rintro w2 ⟨hb2,h13,hE0⟩;clear cg13 fg13 HB13;have cg13:=h13.cell;have fg13:=h13.frozen;have lg13:=h13.lt;obtain⟨hc2,hf2⟩:=qbb hb2;have cR:=hE0.cell;have fR:=hE0.frozen;have lR2:=hE0.lt;go_wp2_with fail;refine qai (R:=fun w2=>Blk w2 (w.heap.size+1+1+1) 71 #[.int .u64 x,.int .u64 y,.int .u64 z]/\Below w.heap.size w w2) ⟨?_,bel⟩ ?_
 · repeat(first|with_reducible exact qat (x:=.int .u64 0) (y:=.int .u64 0) (z:=.int .u64 0) blkA|(with_reducible refine Blk.new ?_ rfl;focus(simp;done))|with_reducible refine Blk.alloc ?_ _|with_reducible refine Blk.drew ?_)
 rintro w2 ⟨HR,hb2⟩;obtain⟨r0,r1,r2⟩:=ce3 HR;exact bodyPost_ret (v:=.agg #[.int .u64 x,.int .u64 y,.int .u64 z]) (by simp [results,Tryz.results64,go_sem,r0,r1,r2]) rfl ⟨rfl,hb2⟩
theorem qrw (ax ay bx by_ px py:Int) (w:World):
 C9 64 #[ptV ax ay,ptV bx by_,ptV px py] w (Ret w (fV (segF ⟨ax,ay⟩ ⟨bx,by_⟩ ⟨px,py⟩))):=by
 cases hok:(okPt ⟨ax,ay⟩&&okPt ⟨bx,by_⟩&&okPt ⟨px,py⟩)
 case false=>
  have HF:Hid (fV (segF ⟨ax,ay⟩ ⟨bx,by_⟩ ⟨px,py⟩)=.agg #[.int .u64 0,.int .u64 0,.int .u64 0]):=by unfold Hid segF;rw [hok,qb7];rw [if_neg dE,qfm]
  have H1:=hdQ hok;clear hok
  go_enter Tryz.func64,Tryz.ntmps64
  go_wp2_with (go_at_call 98;refine(qn7 ax ay bx by_ px py _ _ ?_).mono ?_;exact qan sI;rw [H1.out];rintro e w1 ⟨rfl,hb1⟩;obtain⟨hc1,hf1,hz1⟩:=bc3 hb1;(try simp at hz1);obtain⟨hy0,hy1,hy2,hy3⟩:=ol4 w w1)
  refine qai (R:=fun w2=>Blk w2 (w.heap.size+1+1+1) 71 #[.int .u64 0,.int .u64 0,.int .u64 0]/\Below w.heap.size w w2) ⟨?_,bel⟩ ?_
  · repeat(first|with_reducible exact qat (x:=.int .u64 0) (y:=.int .u64 0) (z:=.int .u64 0) blkA|(with_reducible refine Blk.new ?_ rfl;focus(simp;done))|with_reducible refine Blk.alloc ?_ _|with_reducible refine Blk.drew ?_)
  rintro w2 ⟨HR,hb2⟩;obtain⟨r0,r1,r2⟩:=ce3 HR
  rw [HF.out]
  exact bodyPost_ret (v:=.agg #[.int .u64 0,.int .u64 0,.int .u64 0]) (by simp [results,Tryz.results64,go_sem,r0,r1,r2]) rfl ⟨rfl,hb2⟩
 by_cases hx:ax=bx
 · by_cases hy:ay=by_
   · subst hx hy
     exact qvt ax ay px py hok w
   · subst hx
     exact qrv ax ay by_ px py hy hok w
 · exact qvs ax ay bx by_ px py hx hok w
end Go.Proofs.YtfnhnjbkkggbeaaGreat
