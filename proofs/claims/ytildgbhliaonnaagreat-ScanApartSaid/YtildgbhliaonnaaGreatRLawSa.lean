/-pergolalaw18: the walk of ScanApart.-/
import Derived.Test.YtildgbhliaonnaaGreatRSidE
set_option linter.unusedVariables false
set_option linter.unusedSimpArgs false
set_option maxHeartbeats 8000000
set_option maxRecDepth 20000
namespace Go.Proofs.YtildgbhliaonnaaGreat
open Go Go.RowKit Pg
theorem scanApart_walk (n c mq cq mt ct:Nat) (A Aq At:Option Addr) (l:List (Int×Ob)) (x y:Int) (q:Qu) (bs:List Bool) (w:World) (hl:qfu w w.heap.size A n l) (hn:n<=9223372036854775807) (hr:qan w w.heap.size Aq mq q.ring) (hmq:mq<=9223372036854775807) (hbs:qnr w w.heap.size At mt bs) (hmt:mt<=9223372036854775807):
 C9 4 #[.slice A n c,ptV x y,quV q.kind q.box Aq mq cq,.slice At mt ct] w (Ret w (.bool true)):=by
 have HSm:=hdQ (fun W (hW:Below w.heap.size w W)=>qpk w.heap.size n c A l W (hl.below hW) hW.size hn)
 have HA:=hdQ qtf;have HL:=hdQ hl;have HBs:=hdQ hbs;have HR:=hdQ hr;have HQK:Hid (∃qq:Qu,qq=q):=⟨q,rfl⟩;obtain⟨q',hq'⟩:=HQK.out;have HQ:=hdQ hq';rw [<-hq'] at HR;clear hl hbs hr HQK;obtain⟨qk,⟨⟨x0,y0⟩,x1,y1⟩,ring⟩:=q
 simp only [ptV,quV]
 clear hq'
 by_cases h150:mt<=150
 case neg=>
  have hm1:(150:Int)<(mt:Int):=oQ
  have hm2:150<mt:=oQ
  go_enter Tryz.func4,Tryz.ntmps4
  go_wp2_with (first|(go_at_call 5;(refine(HSm.out _ bel).mono ?_);rintro e w1 ⟨s,rfl,hs,hb1⟩;have g0:Blk w1 w.heap.size 24 #[.int .i64 x,.int .i64 y]:=blkA;have g1:Blk w1 (w.heap.size+1) 49 #[.int .i64 qk,.int .i64 x0,.int .i64 y0,.int .i64 x1,.int .i64 y1,.slice Aq mq cq]:=blkA;obtain⟨p0,p1⟩:=ce2 g0;have pl:=g0.lt;obtain⟨q0,q1,q2,q3,q4,q5⟩:=ce6 g1;have ql:=g1.lt;have hz1:=hb1.size;(try simp at hz1);have HS1:=hdQ hs;clear hs;cases s)|(go_at_call 7;(with_reducible refine(HA.out _).monoR ?_);rintro wa hba hca hfa hza;(try simp at hza)))
  all_goals
   go_ret;exact⟨rfl,bel⟩
 by_cases h70:mq<=70
 case neg=>
  have hm1:¬ (150:Int)<(mt:Int):=oQ
  have hm2:¬ 150<mt:=oQ
  have hm3:(70:Int)<(mq:Int):=oQ
  have hm4:70<mq:=oQ
  go_enter Tryz.func4,Tryz.ntmps4
  go_wp2_with (first|(go_at_call 5;(refine(HSm.out _ bel).mono ?_);rintro e w1 ⟨s,rfl,hs,hb1⟩;have g0:Blk w1 w.heap.size 24 #[.int .i64 x,.int .i64 y]:=blkA;have g1:Blk w1 (w.heap.size+1) 49 #[.int .i64 qk,.int .i64 x0,.int .i64 y0,.int .i64 x1,.int .i64 y1,.slice Aq mq cq]:=blkA;obtain⟨p0,p1⟩:=ce2 g0;have pl:=g0.lt;obtain⟨q0,q1,q2,q3,q4,q5⟩:=ce6 g1;have ql:=g1.lt;have hz1:=hb1.size;(try simp at hz1);have HS1:=hdQ hs;clear hs;cases s)|(go_at_call 7;(with_reducible refine(HA.out _).monoR ?_);rintro wa hba hca hfa hza;(try simp at hza)))
  all_goals
   go_ret;exact⟨rfl,bel⟩
 have hm1:¬ (150:Int)<(mt:Int):=oQ
 have hm2:¬ 150<mt:=oQ
 have hm3:¬ (70:Int)<(mq:Int):=oQ
 have hm4:¬ 70<mq:=oQ
 go_enter Tryz.func4,Tryz.ntmps4
 go_wp2_with (first|(go_at_call 5;(refine(HSm.out _ bel).mono ?_);rintro e w1 ⟨s,rfl,hs,hb1⟩;have g0:Blk w1 w.heap.size 24 #[.int .i64 x,.int .i64 y]:=blkA;have g1:Blk w1 (w.heap.size+1) 49 #[.int .i64 qk,.int .i64 x0,.int .i64 y0,.int .i64 x1,.int .i64 y1,.slice Aq mq cq]:=blkA;obtain⟨p0,p1⟩:=ce2 g0;have pl:=g0.lt;obtain⟨q0,q1,q2,q3,q4,q5⟩:=ce6 g1;have ql:=g1.lt;have hz1:=hb1.size;(try simp at hz1);have HS1:=hdQ hs;clear hs;cases s)|(go_at_call 7;(with_reducible refine(HA.out _).monoR ?_);rintro wa hba hca hfa hza;(try simp at hza)))
 · go_ret
   exact⟨rfl,bel⟩
 obtain⟨h80,hpts⟩:=HS1.out (by trivial)
 have HMd:=hdQ (fun W (hW:Below w.heap.size w W)=>qnb A n c l W ((HL.out.below hW).more hW.size) oQ (fun p hp=>zcy (hpts p hp) dE))
 have hln:l.length=n:=HL.out.1;have H80:=hdQ (And.intro h80 (And.intro hln (And.intro h150 h70)));clear h80 hpts hln HS1 HSm hm1 hm2 hm3 hm4
 go_wp2_with (go_at_call 8;(refine(HMd.out _ bel).mono ?_);rintro e w2 ⟨tb,mm,rfl,hm2,hb2⟩;have HM2:=hdQ hm2;clear hm2;have gB0:Blk w2 w.heap.size 24 #[.int .i64 x,.int .i64 y]:=blkA;have gB1:Blk w2 (w.heap.size+1) 49 #[.int .i64 qk,.int .i64 x0,.int .i64 y0,.int .i64 x1,.int .i64 y1,.slice Aq mq cq]:=blkA;obtain⟨k0,k1⟩:=ce2 gB0;have kl:=gB0.lt;obtain⟨j0,j1,j2,j3,j4,j5⟩:=ce6 gB1;have jl:=gB1.lt;have hz2:=hb2.size;(try simp at hz2))
 have HGB:=hdQ (And.intro gB0 gB1);have HB02:Hid (Below w.heap.size w w2):=by unfold Hid;clear gB0 gB1;exact bel
 clear gB0 gB1 g0 g1 p0 p1 q0 q1 q2 q3 q4 q5 pl ql hb1 hz1 hb2 hz2 HMd;have hz02:=HB02.out.size;obtain⟨mb,own,imm,Z,t,L,hSd,hf4,_⟩:=HM2.out;have HSd:=hdQ hSd
 have hil:t.items.length<=80:=by
  have h1:=congrArg List.length hSd.ot;have h2:=qql l;have h3:=H80.out;unfold obsT at h1;rw [zyy] at h1
  omega
 have HIL:=hdQ hil;have htb:tb<w2.heap.size:=by obtain⟨_,_,_,_,q⟩:=hSd.g.lay.c0;exact q
 have HRg:Hid (∀W,Below w2.heap.size w2 W->qan W W.heap.size Aq mq ring):=fun W hW=>by
  have h:=HR.out;rw [HQ.out] at h;have hWW:=HB02.out.trans (hW.mono hz02);exact(h.below hWW).more hWW.size
 clear HM2 hSd hf4 hil
 cases hp:okPt ⟨x,y⟩ with
 | false=>
   have HN:=hdQ (fun W=>qsd (some ⟨tb,0,none⟩) x y hp W)
   by_cases hq:ckQu ⟨qk,⟨⟨x0,y0⟩,x1,y1⟩,ring⟩=0
   · have HO:=hdQ (fun W (hW:Below w2.heap.size w2 W)=>qp6 (HSd.out.g.tr hW) (by have:=HIL.out;omega) ⟨qk,⟨⟨x0,y0⟩,x1,y1⟩,ring⟩ hq Aq mq cq (by have:=H80.out;omega) (HRg.out W hW))
     clear hp hq;simp only [quV] at HO
     go_wp2_with (first|(go_at_call 9;(refine(HN.out _).mono ?_);rintro e w3 ⟨v3,rfl,hx3,hb3⟩;obtain⟨te3,ue3,rfl⟩:=ErrX.succ hx3 dE;clear hx3;obtain⟨hc3,hf3,hz3⟩:=bc3 hb3;(try simp at hz3))|(go_at_call 15;(refine(HO.out _ bel).mono ?_);rintro e w4 ⟨cb,Zb,rfl,hC4,hZ4,hb4⟩;have HC4:=hdQ (And.intro hC4 (And.intro hZ4 hb4));clear hC4 hZ4;obtain⟨hc4,hf4,hz4⟩:=bc3 hb4;(try simp at hz4))|(go_at_call 7;(with_reducible refine(HA.out _).monoR ?_);rintro wa hba hca hfa hza;(try simp at hza)))
     go_ret;exact⟨rfl,HB02.out.trans ((show Below w2.heap.size w2 _ from bel).mono hz02)⟩
   · have HO:=hdQ (fun W (hW:Below w2.heap.size w2 W)=>qlp (some ⟨tb,0,none⟩) ⟨qk,⟨⟨x0,y0⟩,x1,y1⟩,ring⟩ hq Aq mq cq (by have:=H80.out;omega) W (HRg.out W hW))
     have HK:=hdQ hq;clear hp hq;simp only [quV] at HO
     go_wp2_with (first|(go_at_call 9;(refine(HN.out _).mono ?_);rintro e w3 ⟨v3,rfl,hx3,hb3⟩;obtain⟨te3,ue3,rfl⟩:=ErrX.succ hx3 dE;clear hx3;obtain⟨hc3,hf3,hz3⟩:=bc3 hb3;(try simp at hz3))|(go_at_call 15;(refine(HO.out _ bel).mono ?_);rintro e w4 ⟨v4,rfl,hx4,hb4⟩;obtain⟨te4,ue4,rfl⟩:=ErrX.succ hx4 HK.out;clear hx4;obtain⟨hc4,hf4,hz4⟩:=bc3 hb4;(try simp at hz4))|(go_at_call 7;(with_reducible refine(HA.out _).monoR ?_);rintro wa hba hca hfa hza;(try simp at hza)))
     go_ret;exact⟨rfl,HB02.out.trans ((show Below w2.heap.size w2 _ from bel).mono hz02)⟩
 | true=>
   have HN:=hdQ (fun W (hW:Below w2.heap.size w2 W)=>qy1 (HSd.out.g.tr hW) (by have:=HIL.out;omega) x y hp)
   by_cases hq:ckQu ⟨qk,⟨⟨x0,y0⟩,x1,y1⟩,ring⟩=0
   case neg=>
    have HO:=hdQ (fun W (hW:Below w2.heap.size w2 W)=>qlp (some ⟨tb,0,none⟩) ⟨qk,⟨⟨x0,y0⟩,x1,y1⟩,ring⟩ hq Aq mq cq (by have:=H80.out;omega) W (HRg.out W hW))
    have HK:=hdQ hq;clear hp hq;simp only [quV] at HO
    go_wp2_with (first|(go_at_call 9;(refine(HN.out _ bel).mono ?_);rintro e w3 ⟨ca,va,rfl,hC3,hca3,hb3,hv3⟩;have HC3:=hdQ (And.intro hC3 (And.intro hca3 (And.intro hb3 hv3)));clear hC3 hca3 hv3;obtain⟨hc3,hf3,hz3⟩:=bc3 hb3;(try simp at hz3))|(go_at_call 15;(refine(HO.out _ bel).mono ?_);rintro e w4 ⟨v4,rfl,hx4,hb4⟩;obtain⟨te4,ue4,rfl⟩:=ErrX.succ hx4 HK.out;clear hx4;obtain⟨hc4,hf4,hz4⟩:=bc3 hb4;(try simp at hz4))|(go_at_call 7;(with_reducible refine(HA.out _).monoR ?_);rintro wa hba hca hfa hza;(try simp at hza)))
    go_ret;exact⟨rfl,HB02.out.trans ((show Below w2.heap.size w2 _ from bel).mono hz02)⟩
   have HO:=hdQ (fun W (hW:Below w2.heap.size w2 W)=>qp6 (HSd.out.g.tr hW) (by have:=HIL.out;omega) ⟨qk,⟨⟨x0,y0⟩,x1,y1⟩,ring⟩ hq Aq mq cq (by have:=H80.out;omega) (HRg.out W hW))
   have HMN:=hdQ (fun W (hW:Below w2.heap.size w2 W)=>(HSd.out.tr hW).near (by have:=HIL.out;omega) x y hp)
   have HMS:=hdQ (fun W (hW:Below w2.heap.size w2 W)=>(HSd.out.tr hW).srch (by have:=HIL.out;omega) ⟨qk,⟨⟨x0,y0⟩,x1,y1⟩,ring⟩ Aq mq cq (by have:=H80.out;omega) (HRg.out W hW))
   obtain⟨S,hS⟩:∃S,qqc t x y=S:=⟨_,rfl⟩;obtain⟨I,hI⟩:∃I,qfw ⟨qk,⟨⟨x0,y0⟩,x1,y1⟩,ring⟩ (obsT t.items)=I:=⟨_,rfl⟩;obtain⟨N,hN⟩:∃N,t.items.length=N:=⟨_,rfl⟩;obtain⟨K,hK⟩:∃K,I.length=K:=⟨_,rfl⟩;have HSl:Hid (S.length=N):=by unfold Hid;rw [<-hS,qqb,hN]
   have HIl:=hdQ hK
   have HNK:Hid (N<=80/\K<=80):=by
    have h1:=HIL.out;refine⟨by omega,?_⟩
    rw [<-hK,<-hI]
    refine zcy (qpg _ _) ?_;unfold obsT
    rw [zyy]
    exact h1
   rw [hS] at HN;rw [hI] at HO;rw [hS,hN] at HMN;rw [hI,hK] at HMS;obtain⟨sv,hBm,hrowm,_⟩:=HSd.out.r.rw;obtain⟨Am,cm,rfl,_,_,_⟩:=qaq hrowm;rw [HSd.out.len,hN] at hBm;have HBm:=hdQ hBm;clear hp hq hS hI hN hK hBm hrowm;simp only [quV] at HO HMS
   go_wp2_with (first|(go_at_call 9;(refine(HN.out _ bel).mono ?_);rintro e w3 ⟨ca,va,rfl,hC3,hca3,hb3,hv3⟩;have HC3:=hdQ (And.intro hC3 (And.intro hca3 (And.intro hb3 hv3)));clear hC3 hca3 hv3;obtain⟨hc3,hf3,hz3⟩:=bc3 hb3;(try simp at hz3))|(go_at_call 15;(refine(HO.out _ bel).mono ?_);rintro e w4 ⟨cb,Zb,rfl,hC4,hZ4,hb4⟩;have HC4:=hdQ (And.intro hC4 (And.intro hZ4 hb4));clear hC4 hZ4;obtain⟨hc4,hf4,hz4⟩:=bc3 hb4;(try simp at hz4);have gb0:=(HGB.out.1.tr hb3).tr hb4;have gb1:=(HGB.out.2.tr hb3).tr hb4;have gbm:=(HBm.out.tr hb3).tr hb4;obtain⟨r0,r1⟩:=ce2 gb0;have rl:=gb0.lt;obtain⟨s0,s1,s2,s3,s4,s5⟩:=ce6 gb1;have sl:=gb1.lt;have m0:=gbm.cell 0;have ml:=gbm.lt;simp only [lAq] at m0;clear gb0 gb1 gbm))
   go_wp2_with fail;refine qac kr kr pq ?_
   simp only [zdy,zey,ldz,lds,bare,qak,lcz,lcs,zay]
   repeat' ((try simp only [Act.put,lsi,lsz,lss]);first|(refine lqx ?_)|(refine qab qaa rfl (fun K hK=> ?_);go_simp;((first|(go_at_call 16;(refine(HMN.out _ bel).mono ?_);rintro e w5 ⟨v16,rfl,ho5,hb5⟩;obtain⟨A16,c16,rfl,_,_,_⟩:=qaq ho5;have HO5:=hdQ ho5;clear ho5;have hb45:Below w4.heap.size w4 w5:=bel;have gb5:=((HGB.out.2.tr hb3).tr hb4).tr hb45;clear s0 s1 s2 s3 s4 s5 sl r0 r1 rl m0 ml hc3 hf3 hc4 hf4;obtain⟨s0,s1,s2,s3,s4,s5⟩:=ce6 gb5;have sl:=gb5.lt;clear gb5;have hz5:=hb45.size)|skip)<;>(refine hK.out _ _ bel ?_;clear hK K))))
   (all_goals try simp only [Act.put,lsi,lsz,lss]);all_goals(refine qad ?_)
   go_wp2_with (go_at_call 17;(refine(HMS.out _ bel).mono ?_);rintro e w6 ⟨v17,rfl,ho6,hb6⟩;obtain⟨A17,c17,rfl,_,_,_⟩:=qaq ho6;have HO6:=hdQ ho6;clear ho6;have hz6:=hb6.size;(try simp at hz6))
   have hb56:Below w5.heap.size w5 w6:=bel;have hb24:Below w2.heap.size w2 w4:=HC3.out.2.2.1.trans (hb4.mono HC3.out.2.2.1.size);have hb26:Below w2.heap.size w2 w6:=(hb24.trans (hb45.mono hb24.size)).trans (hb56.mono (hb24.trans (hb45.mono hb24.size)).size);have hz4:=HC4.out.2.2.size;have hca:ca<w3.heap.size:=by obtain⟨A,c,h1,_⟩:=HC3.out.1.hd;exact h1.lt
   have hcb:cb<w4.heap.size:=by obtain⟨A,c,h1,_⟩:=HC4.out.1.hd;exact h1.lt
   have hcb3:w3.heap.size<=cb:=HC4.out.2.1 cb (.inr rfl);have hz23:=HC3.out.2.2.1.size;have HCC:Hid (w2.heap.size<=ca/\w2.heap.size<=cb):=⟨Nat.le_of_lt HC3.out.2.1,by omega⟩
   have hM0:ApM w6 (fun k=>va.ownBlock=some k) Zb (fun k=>(Value.slice A16 N c16).ownBlock=some k) (fun k=>(Value.slice A17 K c17).ownBlock=some k) ca cb A16 A17 S I 0 0:=by
    refine⟨((HC3.out.1.tr hb4).tr hb45).tr hb56,(HC4.out.1.tr hb45).tr hb56,(qff HO5.out rfl).kept (qai hb56) sI,qff HO6.out rfl,fun k hk q=> ?_,fun k hk q=> ?_⟩
    · subst q
      rcases hk with h|h|h|h
      · have:=HC4.out.2.1 _ (.inl h);omega
      · omega
      · have:=(HO5.out.lt _ h).1;simp at this;omega
      · have:=(HO6.out.lt _ h).1;omega
    · subst q
      rcases hk with h|h|h|h
      · have:=HC3.out.1.lim _ h;omega
      · omega
      · have:=(HO5.out.lt _ h).1;simp at this;omega
      · have:=(HO6.out.lt _ h).1;omega
   have HM0:=hdQ (And.intro hM0 hb26);clear hM0 hb26 hb24 hb56 hb45 hz4 hca hcb hcb3 hz23 HC3 HC4 HO5 HO6 hb6 hz6 hb5 hz5 hb4 hb3 hz3 s0 s1 s2 s3 s4 s5 sl HN HO HMN HMS k0 k1 kl j0 j1 j2 j3 j4 j5 jl HGB HBm;go_wp2_with fail
   go_loopw [18,19,20] (fun vx vy vi wr=>∃(i a b:Nat),vx=.int .i64 a/\vy=.int .i64 b/\vi=.int .i64 i/\i<=mt/\a<=N/\b<=K/\ApM wr (fun k=>va.ownBlock=some k) Zb (fun k=>(Value.slice A16 N c16).ownBlock=some k) (fun k=>(Value.slice A17 K c17).ownBlock=some k) ca cb A16 A17 S I a b/\Below w2.heap.size w2 wr) (fun _ _ vi _=>mt-(Go.RowKit.intOf vi).toNat)
   case atStart=>exact ⟨0,0,0,rfl,rfl,rfl,zly _,zly _,zly _,HM0.out⟩
   case round=>
    clear HM0;obtain⟨i,a,b,rfl,rfl,rfl,hi,ha,hbK,hM,hb⟩:=hrel;have hb0:Below w.heap.size w wr:=HB02.out.trans (hb.mono hz02);have HM:=hdQ hM;have HB:=hdQ hb;have HB0:=hdQ hb0
    by_cases hlt:i<mt
    case neg=>
     obtain rfl:mt=i:=oQ
     have HTa:=hdQ (fun W (hW:Below wr.heap.size wr W)=>qkc (HM.out.tr hW).a)
     have HTb:=hdQ (fun W W' (hW:Below wr.heap.size wr W) (h:TurnF (fun k=>k=ca) W W')=>qkc ((HM.out.tr hW).b.turn h fun k hk q=>HM.out.na k (by rcases hk with h|h<;>simp [h]) q))
     have HTb0:=hdQ (fun W (hW:Below wr.heap.size wr W)=>qkc (HM.out.tr hW).b)
     have HCl:=hdQ (fun W (hW:Below wr.heap.size wr W)=>qw7 (HM.out.tr hW).a)
     clear hM hb hb0
     go_wp2_with (first
      | (go_at_call 14;(have _q:=HTC);(refine(HTb.out _ _ bel HTC.out).monoR ?_);rintro ws hbs hcs hfs hzs;(try simp at hzs))
      | (go_at_call 14;(refine(HTa.out _ bel).monoR ?_);rintro wp hbp hcp hfp hzp;(try simp at hzp))
      | (go_at_call 14;(refine(HTb0.out _ bel).monoR ?_);rintro wq hbq hcq hfq hzq;(try simp at hzq))
      | (go_at_call 19;(refine(HCl.out _ bel).mono ?_);rintro e wc ⟨rfl,_,htc⟩;have HTC:=hdQ htc;clear htc)
      | (go_at_call 7;(refine(HA.out _).monoR ?_);rintro wt hbt hct hft hzt;(try simp at hzt)))
     go_ret;have h1:Below w2.heap.size w2 wq:=HB.out.trans ((hbp.trans (hbq.mono hzp)).mono HB.out.size);have h2:Below w2.heap.size w2 wc:=h1.trans (qcs HTC.out (fun k q=>by rw [q];exact HCC.out.1) h1.size)
     have h3:Below w2.heap.size w2 wt:=h2.trans ((hbs.trans (hbt.mono hzs)).mono h2.size);exact⟨rfl,HB02.out.trans (h3.mono hz02)⟩
    have hltI:(i:Int)<(mt:Int):=oQ
    obtain⟨ab,ao,rfl,hab,hac⟩:=(HBs.out.below hb0).2 oQ
    obtain⟨tv,htv⟩:∃z,bs[i]? =some z:=⟨bs[i]'(by rw [HBs.out.1];exact hlt),zby _⟩
    have tc:=hac i tv htv;have tl:ab<wr.heap.size:=by have:=hb0.size;omega
    clear hM hb hb0 hac htv
    cases tv with
    | true=>
      by_cases hx:a<N
      case pos=>
       have hxI:(a:Int)<(N:Int):=oQ
       obtain⟨z,hz⟩:∃z,S[a]? =some z:=⟨S[a]'(by rw [HSl.out];exact hx),zby _⟩
       have HNx:=hdQ (fun W (hW:Below wr.heap.size wr W)=>qls (HM.out.tr hW).a (by rw [HSl.out];exact zcy HNK.out.1 dE) hz)
       have HRowA:=hdQ (fun W (hW:ApM W _ _ _ _ _ _ _ _ _ _ _ _)=>q5r (hW:ApM W (fun k=>va.ownBlock=some k) Zb (fun k=>(Value.slice A16 N c16).ownBlock=some k) (fun k=>(Value.slice A17 K c17).ownBlock=some k) ca cb A16 A17 S I (a+1) b).n hz)
       simp only [nrA] at HNx;obtain⟨n1,hn1⟩:∃d,z.2.num/18446744073709551616=d:=⟨_,rfl⟩;obtain⟨n0,hn0⟩:∃d,z.2.num%18446744073709551616=d:=⟨_,rfl⟩;obtain⟨nd,hnd⟩:∃d,z.2.den=d:=⟨_,rfl⟩;obtain⟨ni,hni⟩:∃d,z.1=d:=⟨_,rfl⟩;have HNV:=hdQ (And.intro hn1 (And.intro hn0 (And.intro hnd hni)));rw [hn1,hn0,hnd,hni] at HNx;clear hn1 hn0 hnd hni hz
       go_wp2_with (go_at_call 18;(refine(HNx.out _ bel).mono ?_);rintro e w7 ⟨rfl,hC7,ht7⟩;have HM7:=hdQ (And.intro (HM.out.stepA hC7 ht7) ht7);clear hC7 ht7)
       refine qcr (fun w8=>ApM w8 (fun k=>va.ownBlock=some k) Zb (fun k=>(Value.slice A16 N c16).ownBlock=some k) (fun k=>(Value.slice A17 K c17).ownBlock=some k) ca cb A16 A17 S I (a+1) b/\Blk w8 w7.heap.size 60 #[.int .i64 ni,.int .u64 (n1:Int),.int .u64 (n0:Int),.int .u64 (nd:Int)]/\Below w2.heap.size w2 w8) ⟨?_,?_,?_⟩ ?_
       · exact HM7.out.1.tr bel
       · exact blkA
       · refine(HB.out.trans (qcs HM7.out.2 (fun k q=>by rw [q];exact HCC.out.1) HB.out.size)).trans (Below.mono (B:=w7.heap.size) ?_ (zcy HB.out.size HM7.out.2.size))
         exact bel
       obtain⟨G,hG⟩:∃G,w7.heap.size=G:=⟨_,rfl⟩
       rw [hG]
       clear hG;rintro w8 ⟨hM8,hB8,hb8⟩;obtain⟨bb,off,hAA,hbl,a0,a1,a2,a3⟩:=HRowA.out _ hM8;rw [HNV.out.1] at a1;rw [HNV.out.2.1] at a2;rw [HNV.out.2.2.1] at a3;rw [HNV.out.2.2.2] at a0;obtain⟨g0,g1,g2,g3⟩:=ce4 hB8;have gl:=hB8.lt;have H8:=hdQ (And.intro hM8 hb8);clear hM8 hb8 hB8;subst hAA;go_wp2_with fail;refine qac kr kr pq ?_
       simp only [zdy,zey,ldz,lds,bare,qak,lcz,lcs,zay]
       repeat' ((try simp only [Act.put,lsi,lsz,lss]);first|(refine qbn ?_ ?_;focus(simp only [lAq,zgy,zfy];done))|(refine qbe ?_ ?_ ?_;(focus(simp only [lAq,zgy,zfy];done));(focus(exact bel)))|(refine qau (X:= ?_) ?_ ?_ (fun hg=> ?_) (fun hg=> ?_);rotate_left;(focus(simp only [lAq];with_reducible rfl));(focus(exact bel));all_goals(try simp only [zgy,zfy] at hg))|(refine lqx ?_)|(refine qab qaa rfl (fun K hK=> ?_);go_simp;((first |  fail|skip)<;>(refine hK.out _ _ bel ?_;clear hK K))))
       (all_goals try simp only [Act.put,lsi,lsz,lss]);all_goals(refine qad ?_)
       go_wp2_with fail;have hnk:=HNK.out
       go_roundw
       case rel=>exact ⟨i+1,a+1,b,by first|go_num|(rw [IntWalk.wrap64_in _ oQ];go_num),by first|go_num|(rw [IntWalk.wrap64_in _ oQ];go_num),by first|go_num|(rw [IntWalk.wrap64_in _ oQ];go_num),by omega,by omega,by omega,H8.out.1.tr bel,H8.out.2.trans ((show Below w8.heap.size w8 _ from bel).mono H8.out.2.size)⟩
       case measure=>simp [Go.RowKit.intOf];omega
      case neg=>
       obtain rfl:N=a:=oQ
       have HNx:=hdQ (fun W (hW:Below wr.heap.size wr W)=>qub (S:=S) (cb:=ca) (Z:=fun k=>va.ownBlock=some k) (w:=W) (by rw [HSl.out];exact(HM.out.tr hW).a) (by rw [HSl.out];exact zcy HNK.out.1 dE))
       simp only [nr0] at HNx
       go_wp2_with (go_at_call 18;(refine(HNx.out _ bel).mono ?_);rintro e w7 ⟨v7,rfl,hx7,hC7,ht7⟩;obtain⟨te7,ue7,rfl⟩:=ErrX.succ hx7 dE;clear hx7;rw [HSl.out] at hC7;have HM7:=hdQ (And.intro (HM.out.stepA hC7 ht7) ht7);clear hC7 ht7)
       have hnk:=HNK.out;refine qac kr kr pq ?_
       simp only [zdy,zey,ldz,lds,bare,qak,lcz,lcs,zay]
       repeat' ((try simp only [Act.put,lsi,lsz,lss]);first|(refine qbn ?_ ?_;focus(simp only [lAq,zgy,zfy];done))|(refine qbe ?_ ?_ ?_;(focus(simp only [lAq,zgy,zfy];done));(focus(exact bel)))|(refine qau (X:= ?_) ?_ ?_ (fun hg=> ?_) (fun hg=> ?_);rotate_left;(focus(simp only [lAq];with_reducible rfl));(focus(exact bel));all_goals(try simp only [zgy,zfy] at hg))|(refine lqx ?_)|(refine qab qaa rfl (fun K hK=> ?_);go_simp;((first |  fail|skip)<;>(refine hK.out _ _ bel ?_;clear hK K))))
       (all_goals try simp only [Act.put,lsi,lsz,lss]);all_goals(refine qad ?_)
       go_wp2_with fail
       go_roundw
       case rel=>exact ⟨i+1,N,b,by first|go_num|(rw [IntWalk.wrap64_in _ oQ];go_num),by first|go_num|(rw [IntWalk.wrap64_in _ oQ];go_num),by first|go_num|(rw [IntWalk.wrap64_in _ oQ];go_num),by omega,by omega,by omega,HM7.out.1.tr bel,(HB.out.trans (qcs HM7.out.2 (fun k q=>by rw [q];exact HCC.out.1) HB.out.size)).trans ((show Below w7.heap.size w7 _ from bel).mono (zcy HB.out.size HM7.out.2.size))⟩
       case measure=>simp [Go.RowKit.intOf];omega
    | false=>
      by_cases hx:b<K
      case pos=>
       have hxI:(b:Int)<(K:Int):=oQ
       obtain⟨zi,hzi⟩:∃z,I[b]? =some z:=⟨I[b]'(by rw [HIl.out];exact hx),zby _⟩
       have hz:(idNr I)[b]? =some (zi,(⟨0,0⟩:Fr)):=by unfold idNr;rw [zpx,hzi];rfl
       obtain⟨z,hzz⟩:∃z:Nr,(zi,(⟨0,0⟩:Fr))=z:=⟨_,rfl⟩;have HZZ:=hdQ hzz;rw [hzz] at hz;have HNx:=hdQ (fun W (hW:Below wr.heap.size wr W)=>qls (HM.out.tr hW).b (by unfold idNr;rw [zyy,HIl.out];exact zcy HNK.out.2 dE) hz)
       have HRowA:=hdQ (fun W (hW:ApM W _ _ _ _ _ _ _ _ _ _ _ _)=>q61 (hW:ApM W (fun k=>va.ownBlock=some k) Zb (fun k=>(Value.slice A16 N c16).ownBlock=some k) (fun k=>(Value.slice A17 K c17).ownBlock=some k) ca cb A16 A17 S I a (b+1)).i hzi)
       simp only [nrA] at HNx;obtain⟨n1,hn1⟩:∃d,z.2.num/18446744073709551616=d:=⟨_,rfl⟩;obtain⟨n0,hn0⟩:∃d,z.2.num%18446744073709551616=d:=⟨_,rfl⟩;obtain⟨nd,hnd⟩:∃d,z.2.den=d:=⟨_,rfl⟩;obtain⟨ni,hni⟩:∃d,z.1=d:=⟨_,rfl⟩;have HNV:=hdQ (And.intro hn1 (And.intro hn0 (And.intro hnd hni)));rw [hn1,hn0,hnd,hni] at HNx;clear hn1 hn0 hnd hni hz
       go_wp2_with (go_at_call 18;(refine(HNx.out _ bel).mono ?_);rintro e w7 ⟨rfl,hC7,ht7⟩;have HM7:=hdQ (And.intro (HM.out.stepB hC7 ht7) ht7);clear hC7 ht7)
       refine qcr (fun w8=>ApM w8 (fun k=>va.ownBlock=some k) Zb (fun k=>(Value.slice A16 N c16).ownBlock=some k) (fun k=>(Value.slice A17 K c17).ownBlock=some k) ca cb A16 A17 S I a (b+1)/\Blk w8 w7.heap.size 60 #[.int .i64 ni,.int .u64 (n1:Int),.int .u64 (n0:Int),.int .u64 (nd:Int)]/\Below w2.heap.size w2 w8) ⟨?_,?_,?_⟩ ?_
       · exact HM7.out.1.tr bel
       · exact blkA
       · refine(HB.out.trans (qcs HM7.out.2 (fun k q=>by rw [q];exact HCC.out.2) HB.out.size)).trans (Below.mono (B:=w7.heap.size) ?_ (zcy HB.out.size HM7.out.2.size))
         exact bel
       obtain⟨G,hG⟩:∃G,w7.heap.size=G:=⟨_,rfl⟩
       rw [hG]
       clear hG;rintro w8 ⟨hM8,hB8,hb8⟩;obtain⟨bb,off,hAA,hbl,a0⟩:=HRowA.out _ hM8
       have hvz:ni=zi/\n1=0/\n0=0/\nd=0:=by
        obtain⟨h1,h2,h3,h4⟩:=HNV.out;rw [<-HZZ.out] at h1 h2 h3 h4
        simp at h1 h2 h3 h4
        omega
       obtain⟨rfl,rfl,rfl,rfl⟩:=hvz;obtain⟨g0,g1,g2,g3⟩:=ce4 hB8;have gl:=hB8.lt;have H8:=hdQ (And.intro hM8 hb8);clear hM8 hb8 hB8;subst hAA;go_wp2_with fail;refine qac kr kr pq ?_
       simp only [zdy,zey,ldz,lds,bare,qak,lcz,lcs,zay]
       repeat' ((try simp only [Act.put,lsi,lsz,lss]);first|(refine qbn ?_ ?_;focus(simp only [lAq,zgy,zfy];done))|(refine qbe ?_ ?_ ?_;(focus(simp only [lAq,zgy,zfy];done));(focus(exact bel)))|(refine qau (X:= ?_) ?_ ?_ (fun hg=> ?_) (fun hg=> ?_);rotate_left;(focus(simp only [lAq];with_reducible rfl));(focus(exact bel));all_goals(try simp only [zgy,zfy] at hg))|(refine lqx ?_)|(refine qab qaa rfl (fun K hK=> ?_);go_simp;((first |  fail|skip)<;>(refine hK.out _ _ bel ?_;clear hK K))))
       (all_goals try simp only [Act.put,lsi,lsz,lss]);all_goals(refine qad ?_)
       go_wp2_with fail;have hnk:=HNK.out
       go_roundw
       case rel=>exact ⟨i+1,a,b+1,by first|go_num|(rw [IntWalk.wrap64_in _ oQ];go_num),by first|go_num|(rw [IntWalk.wrap64_in _ oQ];go_num),by first|go_num|(rw [IntWalk.wrap64_in _ oQ];go_num),by omega,by omega,by omega,H8.out.1.tr bel,H8.out.2.trans ((show Below w8.heap.size w8 _ from bel).mono H8.out.2.size)⟩
       case measure=>simp [Go.RowKit.intOf];omega
      case neg=>
       obtain rfl:K=b:=oQ
       have HIN:Hid ((idNr I).length=K):=by unfold Hid;unfold idNr;rw [zyy,HIl.out]
       have HNx:=hdQ (fun W (hW:Below wr.heap.size wr W)=>qub (S:=idNr I) (cb:=cb) (Z:=Zb) (w:=W) (by rw [show (idNr I).length=K from HIN.out];exact(HM.out.tr hW).b) (by rw [show (idNr I).length=K from HIN.out];exact zcy HNK.out.2 dE))
       simp only [nr0] at HNx
       go_wp2_with (go_at_call 18;(refine(HNx.out _ bel).mono ?_);rintro e w7 ⟨v7,rfl,hx7,hC7,ht7⟩;obtain⟨te7,ue7,rfl⟩:=ErrX.succ hx7 dE;clear hx7;rw [HIN.out] at hC7;have HM7:=hdQ (And.intro (HM.out.stepB hC7 ht7) ht7);clear hC7 ht7)
       have hnk:=HNK.out;refine qac kr kr pq ?_
       simp only [zdy,zey,ldz,lds,bare,qak,lcz,lcs,zay]
       repeat' ((try simp only [Act.put,lsi,lsz,lss]);first|(refine qbn ?_ ?_;focus(simp only [lAq,zgy,zfy];done))|(refine qbe ?_ ?_ ?_;(focus(simp only [lAq,zgy,zfy];done));(focus(exact bel)))|(refine qau (X:= ?_) ?_ ?_ (fun hg=> ?_) (fun hg=> ?_);rotate_left;(focus(simp only [lAq];with_reducible rfl));(focus(exact bel));all_goals(try simp only [zgy,zfy] at hg))|(refine lqx ?_)|(refine qab qaa rfl (fun K hK=> ?_);go_simp;((first |  fail|skip)<;>(refine hK.out _ _ bel ?_;clear hK K))))
       (all_goals try simp only [Act.put,lsi,lsz,lss]);all_goals(refine qad ?_)
       go_wp2_with fail
       go_roundw
       case rel=>exact ⟨i+1,a,K,by first|go_num|(rw [IntWalk.wrap64_in _ oQ];go_num),by first|go_num|(rw [IntWalk.wrap64_in _ oQ];go_num),by first|go_num|(rw [IntWalk.wrap64_in _ oQ];go_num),by omega,by omega,by omega,HM7.out.1.tr bel,(HB.out.trans (qcs HM7.out.2 (fun k q=>by rw [q];exact HCC.out.2) HB.out.size)).trans ((show Below w7.heap.size w7 _ from bel).mono (zcy HB.out.size HM7.out.2.size))⟩
       case measure=>simp [Go.RowKit.intOf];omega
end Go.Proofs.YtildgbhliaonnaaGreat
