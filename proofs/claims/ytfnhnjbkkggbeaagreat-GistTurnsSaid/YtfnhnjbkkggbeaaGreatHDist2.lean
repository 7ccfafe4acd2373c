/-Contract of plane.Dist.-/
import Derived.Test.YtfnhnjbkkggbeaaGreatHWide
import Derived.Test.YtfnhnjbkkggbeaaGreatHRel1
set_option linter.unusedVariables false
set_option linter.unusedSimpArgs false
set_option maxHeartbeats 2000000
set_option maxRecDepth 20000
namespace Go.Proofs.YtfnhnjbkkggbeaaGreat
open Go.RowKit Pg
def bdN (b:Bx) (p:Pt):Nat:=sqN (gapN p.x b.lo.x b.hi.x) (gapN p.y b.lo.y b.hi.y)
def pdV (b:Bx) (p:Pt):Value:=if okBx b&&okPt p then dV (bdN b p) else dZ
theorem qa9 {p:Pt} (h:okPt p=true): -1073741823<=p.x/\p.x<=1073741823/\ -1073741823<=p.y/\p.y<=1073741823:=by
 simp [okPt,farB] at h
 omega
theorem qyt (a b c d x y:Int) (w:World):
 C9 61 #[bxV a b c d,ptV x y] w (Ret w (pdV ⟨⟨a,b⟩,⟨c,d⟩⟩ ⟨x,y⟩)):=by
 cases h1:okBx ⟨⟨a,b⟩,⟨c,d⟩⟩
 case false=>
  have HF:Hid (pdV ⟨⟨a,b⟩,⟨c,d⟩⟩ ⟨x,y⟩=dZ):=by unfold Hid pdV;rw [h1];rfl
  have H1:=hdQ h1;clear h1
  go_enter Tryz.func61,Tryz.ntmps61
  go_wp2_with (go_at_call 91;refine(qra a b c d _ _ ?_).mono ?_;exact qan sI;rw [H1.out];rintro e w1 ⟨rfl,hb1⟩;obtain⟨hc1,hf1,hz1⟩:=bc3 hb1;(try simp at hz1);obtain⟨hy0,hy1,hy2⟩:=ol3 w w1)
  refine qai (R:=fun w2=>Blk w2 (w.heap.size+1+1) 71 #[.int .u64 0,.int .u64 0,.int .u64 0]/\Below w.heap.size w w2) ⟨?_,bel⟩ ?_
  · exact qat (x:=.int .u64 0) (y:=.int .u64 0) (z:=.int .u64 0) blkA
  rintro w2 ⟨HR,hb2⟩;obtain⟨r0,r1,r2⟩:=ce3 HR
  rw [HF.out]
  exact bodyPost_ret (v:=dZ) (by simp [results,Tryz.results61,go_sem,r0,r1,r2]) rfl ⟨rfl,hb2⟩
 cases h2:okPt ⟨x,y⟩
 case false=>
  have HF:Hid (pdV ⟨⟨a,b⟩,⟨c,d⟩⟩ ⟨x,y⟩=dZ):=by unfold Hid pdV;rw [h1,h2];rfl
  have H1:=hdQ h1;have H2:=hdQ h2;clear h1 h2
  go_enter Tryz.func61,Tryz.ntmps61
  go_wp2_with (first|(go_at_call 91;refine(qra a b c d _ _ ?_).mono ?_;exact qan sI;rw [H1.out];rintro e w1 ⟨rfl,hb1⟩;obtain⟨hc1,hf1,hz1⟩:=bc3 hb1;(try simp at hz1);obtain⟨hy0,hy1,hy2⟩:=ol3 w w1)|(go_at_call 57;refine(may1 x y _ _ ?_).mono ?_;exact qan sI;rw [H2.out];rintro e w1 ⟨rfl,hb1⟩;obtain⟨hc1,hf1,hz1⟩:=bc3 hb1;(try simp at hz1);obtain⟨hy0,hy1,hy2⟩:=ol3 w w1))
  refine qai (R:=fun w2=>Blk w2 (w.heap.size+1+1) 71 #[.int .u64 0,.int .u64 0,.int .u64 0]/\Below w.heap.size w w2) ⟨?_,bel⟩ ?_
  · exact qat (x:=.int .u64 0) (y:=.int .u64 0) (z:=.int .u64 0) blkA
  rintro w2 ⟨HR,hb2⟩;obtain⟨r0,r1,r2⟩:=ce3 HR
  rw [HF.out]
  exact bodyPost_ret (v:=dZ) (by simp [results,Tryz.results61,go_sem,r0,r1,r2]) rfl ⟨rfl,hb2⟩
 have HF:Hid (pdV ⟨⟨a,b⟩,⟨c,d⟩⟩ ⟨x,y⟩=dV (sqN (gapN x a c) (gapN y b d))):=by unfold Hid pdV;rw [h1,h2];rfl
 obtain⟨p1,p2,p3,p4⟩:=qa9 h2;obtain⟨hlo,hhi⟩:=((Pg.qbd _).1 h1).1;obtain⟨q1,q2,q3,q4⟩:=qa9 hlo;obtain⟨t1,t2,t3,t4⟩:=qa9 hhi;have G1:=hdQ (fun w=>qzz x a c p1 p2 q1 q2 t1 t2 w)
 have G2:=hdQ (fun w=>qzz y b d p3 p4 q3 q4 t3 t4 w)
 obtain⟨u1,u2⟩:=qnn x a c p1 p2 q1 q2 t1 t2;obtain⟨u3,u4⟩:=qnn y b d p3 p4 q3 q4 t3 t4;obtain⟨gx,hgx⟩:∃g,gapN x a c=g:=⟨_,rfl⟩;obtain⟨gy,hgy⟩:∃g,gapN y b d=g:=⟨_,rfl⟩;rw [hgx] at HF G1 u1 u2;rw [hgy] at HF G2 u3 u4;have GS:=hdQ (fun w=>qk7 gx gy oQ oQ oQ oQ w)
 obtain⟨n,hn⟩:∃n,sqN gx gy=n:=⟨_,rfl⟩;rw [hn] at HF GS;have H1:=hdQ h1;have H2:=hdQ h2;clear h1 h2 p1 p2 p3 p4 hlo hhi q1 q2 q3 q4 t1 t2 t3 t4 u1 u2 u3 u4 hgx hgy hn
 go_enter Tryz.func61,Tryz.ntmps61
 go_wp2_with (first|(go_at_call 91;refine(qra a b c d _ _ ?_).mono ?_;exact qan sI;rw [H1.out];rintro e w1 ⟨rfl,hb1⟩;obtain⟨hc1,hf1,hz1⟩:=bc3 hb1;(try simp at hz1);obtain⟨hy0,hy1,hy2⟩:=ol3 w w1;have hO1:Blk w1 w.heap.size 48 #[.int .i64 a,.int .i64 b,.int .i64 c,.int .i64 d]:=(Blk.tr (((((Blk.new rfl rfl:Blk (w.alloc (.cells #[.int .i64 a,.int .i64 b,.int .i64 c,.int .i64 d] 48)) w.heap.size 48 #[.int .i64 a,.int .i64 b,.int .i64 c,.int .i64 d]).alloc _).alloc _).alloc _)) hb1))|(go_at_call 57;refine(may1 x y _ _ ?_).mono ?_;exact qan sI;rw [H2.out];rintro e w1 ⟨rfl,hb1⟩;obtain⟨hc1,hf1,hz1⟩:=bc3 hb1;(try simp at hz1);obtain⟨hy0,hy1,hy2⟩:=ol3 w w1))
 refine qfo (fun w2=>Below w.heap.size w w2/\Blk w2 w.heap.size 48 #[.int .i64 a,.int .i64 b,.int .i64 c,.int .i64 d]/\Blk w2 (w.heap.size+1) 46 #[.int .i64 x,.int .i64 y]/\Blk w2 (w.heap.size+1+1) 71 #[.int .u64 0,.int .u64 0,.int .u64 0]) ⟨bel,blkA,blkA,blkA⟩ ?_
 clear hb1 hc1 hf1 hz1 hy0 hy1 hy2;rintro w2 ⟨hb,hO,hP,hZ⟩;have cO:=hO.cell;have cP:=hP.cell;have cZ:=hZ.cell;have fZ:=hZ.frozen;have lO:=hO.lt;have lP:=hP.lt;have lZ:=hZ.lt;refine qbt (w.heap.size+1+1) [0,1,2,3,4,5,6,7,9,10,11,12,13,14,15,16,8,17,18,19] kr kr pq ?_
 simp only [zdy,zey,ldz,lds,bare,qaj,lcz,lcs,zay]
 repeat' ((try simp only [Act.put,lsi,lsz,lss]);first|(refine lqy ?_)|(refine qab qaa rfl (fun K hK=> ?_);go_simp;((first|(go_at_call 93;(with_reducible refine(G1.out _).monoR ?_);rintro w1 hb1 hc1 hf1 hz1;(try simp at hz1);have hbB:Below (w.heap.size+1+1) w2 w1:=(Below.trans (by repeat(first|with_reducible exact Below.refl _ _|with_reducible assumption|with_reducible refine Below.drew ?_)) (hb1.mono (by(try simp);omega)));have hy2:w.heap.size+1+1<w1.heap.size:=oQ;have hZ1:Blk w1 (w.heap.size+1+1) 71 #[.int .u64 0,.int .u64 0,.int .u64 0]:=blkA;have hbz:Below w.heap.size w w1:=(Below.trans hb (hbB.mono oQ));have z1:=hZ1.cell;have fz1:=hZ1.frozen)|(go_at_call 93;(with_reducible refine(G2.out _).monoR ?_);rintro w1 hb1 hc1 hf1 hz1;(try simp at hz1);have hbB:Below (w.heap.size+1+1) w2 w1:=(Below.trans (by repeat(first|with_reducible exact Below.refl _ _|with_reducible assumption|with_reducible refine Below.drew ?_)) (hb1.mono (by(try simp);omega)));have hy2:w.heap.size+1+1<w1.heap.size:=oQ;have hZ1:Blk w1 (w.heap.size+1+1) 71 #[.int .u64 0,.int .u64 0,.int .u64 0]:=blkA;have hbz:Below w.heap.size w w1:=(Below.trans hb (hbB.mono oQ));have z1:=hZ1.cell;have fz1:=hZ1.frozen)|(go_at_call 92;refine(GS.out _).monoR ?_;rintro w1 hb1 hc1 hf1 hz1;(try simp at hz1);have hbB:Below (w.heap.size+1+1) w2 w1:=(Below.trans (by repeat(first|with_reducible exact Below.refl _ _|with_reducible assumption|with_reducible refine Below.drew ?_)) (hb1.mono (by(try simp);omega)));have hy2:w.heap.size+1+1<w1.heap.size:=oQ;have hZ1:Blk w1 (w.heap.size+1+1) 71 #[.int .u64 0,.int .u64 0,.int .u64 0]:=blkA;have hbz:Below w.heap.size w w1:=(Below.trans hb (hbB.mono oQ));have z1:=hZ1.cell;have fz1:=hZ1.frozen)|skip)<;>(refine hK.out _ _ (by first|with_reducible exact qdm|with_reducible exact Below.drew qdm|exact bel) ?_;clear hK K))))
 (all_goals try simp only [Act.put,lsi,lsz,lss]);all_goals(refine qad ?_)
 go_wp2;refine qai (R:=fun w2=>Blk w2 (w.heap.size+1+1) 71 #[.int .u64 ((n/18446744073709551616:Nat):Int),.int .u64 ((n%18446744073709551616:Nat):Int),.int .u64 1]/\Below w.heap.size w w2) ⟨?_,bel⟩ ?_
 · exact qat (x:=.int .u64 0) (y:=.int .u64 0) (z:=.int .u64 0) blkA
 rintro w2 ⟨HR,hb2⟩;obtain⟨r0,r1,r2⟩:=ce3 HR
 rw [HF.out]
 exact bodyPost_ret (v:=dV n) (by simp [results,Tryz.results61,go_sem,r0,r1,r2]) rfl ⟨rfl,hb2⟩
def rdV (k:Int) (l:List Pt) (p:Pt):Value:=if ckOb ⟨k,l⟩=0/\okPt p=true then pdV (qb2 ⟨k,l⟩) p else dZ
theorem qr5 (B n c:Nat) (k:Int) (A:Option Addr) (l:List Pt) (x y:Int) (w:World) (hl:qak w B A n l) (hB:B<=w.heap.size) (hn:n<=1000000) (hk:qdk ⟨k,l⟩=true):
 C9 35 #[obV k A n c,ptV x y] w (Ret w (rdV k l ⟨x,y⟩)):=by
 by_cases ho:ckOb ⟨k,l⟩=0
 case neg=>
  have HF:Hid (rdV k l ⟨x,y⟩=dZ):=by unfold Hid rdV;rw [if_neg (fun h=>ho h.1)]
  have HA:=hdQ (fun w (h:qak w B A n l) (hB:B<=w.heap.size)=>qgr B n c k A l w h hB hn ho)
  clear ho hk
  go_enter Tryz.func35,Tryz.ntmps35
  go_wp2_with (go_at_call 59;refine(HA.out _ (hl.tr bel hB) (bsz w hB)).mono ?_;rintro e w1 ⟨t1,u1,rfl,hb1⟩;obtain⟨hc1,hf1,hz1⟩:=bc3 hb1;(try simp at hz1);obtain⟨hy0,hy1,hy2⟩:=ol3 w w1)
  refine qai (R:=fun w2=>Blk w2 (w.heap.size+1+1) 71 #[.int .u64 0,.int .u64 0,.int .u64 0]/\Below w.heap.size w w2) ⟨?_,bel⟩ ?_
  · exact qat (x:=.int .u64 0) (y:=.int .u64 0) (z:=.int .u64 0) blkA
  rintro w2 ⟨HR,hb2⟩;obtain⟨r0,r1,r2⟩:=ce3 HR
  rw [HF.out]
  exact bodyPost_ret (v:=dZ) (by simp [results,Tryz.results35,go_sem,r0,r1,r2]) rfl ⟨rfl,hb2⟩
 have HA:=hdQ (fun w (h:qak w B A n l) (hB:B<=w.heap.size)=>qcz B n c k A l w h hB hn ho)
 have HP0:=fun w=>qay x y w
 cases h2:okPt ⟨x,y⟩
 case false=>
  have HF:Hid (rdV k l ⟨x,y⟩=dZ):=by unfold Hid rdV;rw [if_neg (fun h=>by rw [h2] at h;cases h.2)]
  rw [h2] at HP0;have HP:Hid (∀w,C9 32 #[ptV x y] w (Ret w (.iface 75 (.int .i64 2)))):=HP0;clear ho hk h2 HP0
  go_enter Tryz.func35,Tryz.ntmps35
  go_wp2_with (first|(go_at_call 59;refine(HA.out _ (hl.tr bel hB) (bsz w hB)).monoR ?_;rintro w1 hb1 hc1 hf1 hz1;(try simp at hz1);obtain⟨hy0,hy1,hy2⟩:=ol3 w w1)|(go_at_call 32;refine(HP.out _).monoR ?_;rintro w1 hb1 hc1 hf1 hz1;(try simp at hz1);obtain⟨hy0,hy1,hy2⟩:=ol3 w w1))
  refine qai (R:=fun w2=>Blk w2 (w.heap.size+1+1) 71 #[.int .u64 0,.int .u64 0,.int .u64 0]/\Below w.heap.size w w2) ⟨?_,bel⟩ ?_
  · exact qat (x:=.int .u64 0) (y:=.int .u64 0) (z:=.int .u64 0) blkA
  rintro w2 ⟨HR,hb2⟩;obtain⟨r0,r1,r2⟩:=ce3 HR
  rw [HF.out]
  exact bodyPost_ret (v:=dZ) (by simp [results,Tryz.results35,go_sem,r0,r1,r2]) rfl ⟨rfl,hb2⟩
 have HF:Hid (rdV k l ⟨x,y⟩=pdV (qb2 ⟨k,l⟩) ⟨x,y⟩):=by unfold Hid rdV;rw [if_pos ⟨ho,h2⟩]
 rw [h2] at HP0;have HP:Hid (∀w,C9 32 #[ptV x y] w (Ret w .nilIface)):=HP0;have hlens:=qmf ho;rw [hl.1] at hlens;have HX:=hdQ (fun w (h:qak w B A n l) (hB:B<=w.heap.size)=>qd2 B n c k A l w h hB hlens.1 hlens.2.1)
 rw [hk] at HX;obtain⟨X,hX⟩:∃X,qb2 ⟨k,l⟩=X:=⟨_,rfl⟩;rw [hX] at HX HF
 obtain⟨n0,n1,n2,hn0⟩:∃n0 n1 n2:Int,pdV X ⟨x,y⟩=.agg #[.int .u64 n0,.int .u64 n1,.int .u64 n2]:=by
  unfold pdV
  split
  · exact⟨_,_,_,rfl⟩
  · exact⟨_,_,_,rfl⟩
 have HD:=hdQ (fun w=>qyt X.lo.x X.lo.y X.hi.x X.hi.y x y w)
 have HF2:Hid (rdV k l ⟨x,y⟩=.agg #[.int .u64 n0,.int .u64 n1,.int .u64 n2]):=by unfold Hid;rw [HF.out,hn0]
 have HD2:Hid (∀w,C9 61 #[.agg #[.int .i64 X.lo.x,.int .i64 X.lo.y,.int .i64 X.hi.x,.int .i64 X.hi.y],.agg #[.int .i64 x,.int .i64 y]] w (Ret w (.agg #[.int .u64 n0,.int .u64 n1,.int .u64 n2]))):=fun w=>by
  have h:=HD.out w;rw [show (⟨⟨X.lo.x,X.lo.y⟩,⟨X.hi.x,X.hi.y⟩⟩:Bx)=X from rfl,hn0] at h
  exact h
 clear ho hk h2 HP0 hlens hX hn0 HD HF
 go_enter Tryz.func35,Tryz.ntmps35
 go_wp2_with (first|(go_at_call 59;refine(HA.out _ (hl.tr bel hB) (bsz w hB)).monoR ?_;rintro w1 hb1 hc1 hf1 hz1;(try simp at hz1);obtain⟨hy0,hy1,hy2⟩:=ol3 w w1)|(go_at_call 32;refine(HP.out _).monoR ?_;rintro w1 hb1 hc1 hf1 hz1;(try simp at hz1);obtain⟨hy0,hy1,hy2⟩:=ol3 w w1)|(go_at_call 60;refine(HX.out _ (hl.tr bel hB) (bsz w hB)).monoR ?_;rintro w1 hb1 hc1 hf1 hz1;(try simp at hz1);obtain⟨hy0,hy1,hy2⟩:=ol3 w w1)|(go_at_call 61;refine(HD2.out _).monoR ?_;rintro w1 hb1 hc1 hf1 hz1;(try simp at hz1);obtain⟨hy0,hy1,hy2⟩:=ol3 w w1))
 refine qai (R:=fun w2=>Blk w2 (w.heap.size+1+1) 71 #[.int .u64 n0,.int .u64 n1,.int .u64 n2]/\Below w.heap.size w w2) ⟨?_,bel⟩ ?_
 · exact qat (x:=.int .u64 0) (y:=.int .u64 0) (z:=.int .u64 0) blkA
 rintro w2 ⟨HR,hb2⟩;obtain⟨r0,r1,r2⟩:=ce3 HR
 rw [HF2.out]
 exact bodyPost_ret (v:=.agg #[.int .u64 n0,.int .u64 n1,.int .u64 n2]) (by simp [results,Tryz.results35,go_sem,r0,r1,r2]) rfl ⟨rfl,hb2⟩
end Go.Proofs.YtfnhnjbkkggbeaaGreat
