/-pergolalaw17: the walk of GistTurns.-/
import Derived.Test.YtfnhnjbkkggbeaaGreatHTreV
import Derived.Test.YtfnhnjbkkggbeaaGreatHFewA
set_option linter.unusedVariables false
set_option linter.unusedSimpArgs false
set_option maxHeartbeats 4000000
set_option maxRecDepth 20000
namespace Go.Proofs.YtfnhnjbkkggbeaaGreat
open Go Go.RowKit Pg
theorem qnk {F:Nat->Prop} {B:Nat} {L:List Nat} {w W W' :World} (hk:Keep B L w W) (ht:TurnF F W W') (hF:∀k,F k->B<=k/\k ∉ L):Keep B L w W' :=
 ⟨zcy hk.size ht.size,fun k hk' hB=>(ht.block k (zky hk' hk.size) fun q=>by
  have:=hF k q
  rcases hB with hB|hB
  · omega
  · exact this.2 hB).trans (hk.block k hk' hB)⟩
theorem q07 (k:Nat) (h:k<=1000000):IntKind.i64.wrap (k:Int)=(k:Int):=IntWalk.i64_in _ ⟨by omega,by omega⟩
theorem qqn (n c n2 c2 n3 c3 fan:Nat) (A A2 A3:Option Addr) (k:Int) (l:List (Int×Ob)) (q:List Qu) (p:List Pt) (w:World) (hl:qeo w w.heap.size A n l) (hnc:n<=c) (hAc:A=none->c=0) (hq:qf5 w w.heap.size A2 n2 q) (hp:qak w w.heap.size A3 n3 p) (hn:n<=100) (hn2:n2<=9223372036854775807) (h4:4<=fan) (h16:fan<=16):
 C9 3 #[.slice A n c,.int .i64 k,.int .i64 fan,.slice A2 n2 c2,.slice A3 n3 c3] w (Ret w (.bool true)):=by
 have HA:=hdQ qmm;have HIt:=hdQ (fun W (hW:Below w.heap.size w W)=>qqj w.heap.size n c 1000 A l W (hl.below hW) hW.size oQ dE)
 have HFw:=hdQ (fun W (hW:Below w.heap.size w W)=>qqs w.heap.size n2 c2 n3 c3 A2 A3 q W (hq.below hW) hW.size hn2)
 have HL:=hdQ (And.intro hl (And.intro hq (And.intro hp (And.intro hnc hAc))));have d1:decide ((100:Int)<(n:Int))=false:=by rw [decide_eq_false_iff_not];omega
 have d2:decide ((fan:Int)<4)=false:=by rw [decide_eq_false_iff_not];omega
 have d3:decide ((16:Int)<(fan:Int))=false:=by rw [decide_eq_false_iff_not];omega
 have HFan:=hdQ (And.intro h4 h16);obtain⟨fMa,fCa,fDa,fUa,fSa,fPa,hCa⟩:=qu7 3 0 false 0 dE
 obtain⟨fMc,fCc,fDc,fUc,fSc,fPc,hCc⟩:=qu7 1 4 false 0 dE
 have HCa:=hdQ hCa;have HCc:=hdQ hCc;have HNa:=hdQ (fun W=>qls 34 (clV 3 0 false 0) 4 dE dE W)
 have HNb:=hdQ (fun W=>qls 34 (clV 3 0 false 0) fan h4 h16 W)
 have HNc:=hdQ (fun W=>qls 34 (clV 1 4 false 0) 5 dE dE W)
 clear hl hnc hAc hq hp hCa hCc h4 h16
 go_enter Tryz.func3,Tryz.ntmps3
 go_wp2_with (first
  | (go_at_call 5;(refine(HIt.out _ bel).mono ?_);rintro e w1 ⟨t1,rfl,hs1,hb1⟩;have HS1:=hdQ hs1;clear hs1;obtain⟨hc1,hf1,hz1⟩:=bc3 hb1;(try simp at hz1);obtain⟨b4,d4⟩:∃b,decide ((1000:Int)<(t1:Int))=b:=⟨_,rfl⟩;have HD4:=hdQ d4;cases b4)
  | (go_at_call 6;(refine(HFw.out _ bel).mono ?_);rintro e w2 ⟨s2,rfl,hs2,hb2⟩;have HS2:=hdQ hs2;clear hs2;obtain⟨hc2,hf2,hz2⟩:=bc3 hb2;(try simp at hz2);cases s2)
  | (go_at_call 7;(with_reducible refine(HA.out _).monoR ?_);rintro wa hba hca hfa hza;(try simp at hza))
  | (go_at_call 8;(have _q:=HTb);(refine(HNc.out _).mono ?_);rintro e w5 ⟨tc,mbc,rc,ownc,rfl,hLc,hownc,hb5⟩;have HTc:=hdQ (And.intro hLc (show ∀x,ownc x->w4.heap.size<=x from fun x q=>zcy (Below.size (B:=w4.heap.size) (w:=w4) bel) (hownc x q)));have HB45:=hdQ (show Below w4.heap.size w4 w5 from bel);clear hLc hownc;obtain⟨hc5,hf5,hz5⟩:=bc3 hb5;(try simp at hz5))
  | (go_at_call 8;(have _q:=HTa);(refine(HNb.out _).mono ?_);rintro e w4 ⟨tb,mbb,rb,ownb,rfl,hLb,hownb,hb4⟩;have HTb:=hdQ (And.intro hLb (show ∀x,ownb x->w3.heap.size<=x from fun x q=>zcy (Below.size (B:=w3.heap.size) (w:=w3) bel) (hownb x q)));have HB34:=hdQ (show Below w3.heap.size w3 w4 from bel);clear hLb hownb;obtain⟨hc4,hf4,hz4⟩:=bc3 hb4;(try simp at hz4))
  | (go_at_call 8;(fail_if_success have _q:=HTa);(refine(HNa.out _).mono ?_);rintro e w3 ⟨ta,mba,ra,owna,rfl,hLa,howna,hb3⟩;have HTa:=hdQ (And.intro hLa (show ∀x,owna x->w.heap.size<=x from fun x q=>zcy (bsy w) (howna x q)));have HB3:=hdQ (show Below w.heap.size w w3 from bel);clear hLa howna;obtain⟨hc3,hf3,hz3⟩:=bc3 hb3;(try simp at hz3)))
 · go_ret
   exact⟨rfl,bel⟩
 rotate_left
 · go_ret
   exact⟨rfl,bel⟩
 obtain⟨h210,h310,hring⟩:=HS2.out (by trivial)
 obtain⟨hn1000,hpts⟩:=HS1.out (by have:=of_decide_eq_false HD4.out;omega)
 have HRg:=hdQ hring;have HPts:=hdQ (show ∀p∈l,p.2.pts.length<=1000000 from fun p hp=>zcy (hpts p hp) dE)
 have hT5:T3 w.heap.size (fun _=>False) w5 ta tb tc fan [] [] []:=by
  have ha:=TreU.new (C:=clsC 3 0 false 0) HTa.out.1 dE dE
  have hb:=TreU.new (C:=clsC 3 0 false 0) HTb.out.1 HFan.out.1 HFan.out.2;have hc:=TreU.new (C:=clsC 1 4 false 0) HTc.out.1 dE dE
  have s3:=HB3.out.size;have s34:=HB34.out.size;refine⟨owna,ownb,ownc,(ha.tr HB34.out).tr HB45.out,hb.tr HB45.out,hc,fun b q=>⟨?_,fun k=>k⟩,fun b q=>⟨fun k=> ?_,fun k=> ?_⟩,fun b q k=> ?_,fun b q=>q.elim⟩
  · rcases q with q|q|q
    · exact HTa.out.2 b q
    · have:=HTb.out.2 b q;omega
    · have:=HTc.out.2 b q;omega
  · have:=ha.lim q;have:=HTb.out.2 b k;omega
  · have:=ha.lim q;have:=HTc.out.2 b k;omega
  · have:=hb.lim q;have:=HTc.out.2 b k;omega
 have hB05:Below w.heap.size w w5:=HB3.out.trans ((HB34.out.trans (HB45.out.mono HB34.out.size)).mono HB3.out.size);have HB05:=hdQ hB05;have HBd:=hdQ (fun W (hW:Below w5.heap.size w5 W)=>T3.bldA (hT5.tr hW) HCa.out (zcy hB05.size hW.size) w.heap.size n c A l (HL.out.1.below (hB05.trans (hW.mono hB05.size))) (zcy hB05.size hW.size) oQ HPts.out)
 clear hring hpts hT5 hB05 HIt HFw HS1 HS2 HD4 HTa HTb HTc HB3 HB34 HB45 HNa HNb HNc hc1 hf1 hb1 hz1 hc2 hf2 hb2 hz2 hc3 hf3 hb3 hz3 hc4 hf4 hb4 hz4 hc5 hf5 hb5 hz5 d1 d2 d3
 simp only [gP] at*
 go_wp2_with (go_at_call 9;(refine(HBd.out _ bel).mono ?_);rintro e w6 ⟨v6,rfl,hx6,hT6,ht6⟩;have HT6:=hdQ hT6;have HB6:=hdQ (qn4 (HB05.out.trans ((show Below w5.heap.size w5 _ from bel).mono HB05.out.size)) ht6 (zhy _));clear hT6 ht6;rcases qz9 hx6 with ⟨hz,rfl⟩|⟨hz,et,eu,rfl⟩;(all_goals(have HZ6:=hdQ hz));(all_goals(clear hx6 hz)))
 rotate_left
 · have HLn:Hid (∀W,Below w6.heap.size w6 W->C9 10 #[.pointer (some ⟨ta,0,none⟩)] W (Ret W (.int .i64 0))):=fun W hW=>by
    have h:=HT6.out;rw [if_neg HZ6.out] at h;exact h.a.len W hW
   go_wp2_with (first
    | (go_at_call 10;(refine(HLn.out _ bel).monoR ?_);rintro wn hbn hcn hfn hzn;(try simp at hzn))
    | (go_at_call 7;(with_reducible refine(HA.out _).monoR ?_);rintro wa hba hca hfa hza;(try simp at hza)))
   go_ret;exact⟨rfl,HB6.out.trans ((show Below w6.heap.size w6 _ from bel).mono HB6.out.size)⟩
 have hT6:=HT6.out;rw [if_pos HZ6.out] at hT6;obtain⟨hok,hnd,_⟩:=qvc HZ6.out;have HIl:Hid ((bldM l).length=n):=by unfold Hid;rw [q54 HZ6.out];exact HL.out.1.1
 have HOk:=hdQ (And.intro hok hnd);have HT6' :=hdQ hT6;obtain⟨n1,hn1⟩:∃x,n+1=x:=⟨_,rfl⟩;have p1:(n:Int)+1=(n1:Int):=oQ
 have hro:=fun W=>qyh k n1 oQ oQ W
 obtain⟨kn,hkn⟩:∃x,qld k n1=x:=⟨_,rfl⟩;have hkl:kn<=n:=by have:=qpu (k:=k) (show 0<n1 by omega);omega
 rw [hkn] at hro;have HRo:Hid (∀W,C9 11 #[.int .i64 k,.int .i64 ((n:Int)+1)] W (Ret W (.int .i64 (kn:Nat)))):=fun W=>by rw [p1];exact hro W
 obtain⟨L0,hL0,hCs0,hPz0⟩:=q28 HL.out.1 (zhy _) HPts.out
 have hL0l:L0.length=n:=by
  have:=congrArg List.length hL0;unfold obsM at this;rw [zyy] at this
  rw [this]
  exact HL.out.1.1
 have HM:=hdQ (And.intro hL0 (And.intro hCs0 (And.intro hPz0 hL0l)));clear hT6 HT6 HZ6 hok hnd hkn hL0 hCs0 hPz0 hL0l HBd HB05 hro p1
 go_wp2_with (go_at_call 11;(refine(HRo.out _).monoR ?_);rintro w7 hb7 hc7 hf7 hz7;(try simp at hz7))
 have hwk:=q07 kn oQ
 have hwn:=q07 n oQ
 have hkn1:(kn:Int)<=(n:Int):=oQ
 have hnc1:(n:Int)<=(c:Int):=by have:=HL.out.2.2.2.1;omega
 have hkc1:(kn:Int)<=(c:Int):=oQ
 obtain⟨d,hd⟩:∃x,n-kn=x:=⟨_,rfl⟩
 have HP1:Hid ((L0.drop kn).length=d/\((if c=kn then A else Option.map (fun x=>x.add (kn*3)) A)=none->c-kn=0)/\(∀W,Below w.heap.size w W->qbl W (fun b=>b<w.heap.size) (if c=kn then A else Option.map (fun x=>x.add (kn*3)) A) (qa2 (L0.drop kn)))/\∀u∈qa2 (L0.drop kn),u.oneCell' =true):=by
  obtain⟨g1,g2,g3,g4⟩:=HM.out;refine⟨by rw [List.length_drop,g4];exact hd,fun h=> ?_,fun W hW=> ?_,qze fun p hp=>g3 p (List.mem_of_mem_drop hp)⟩
  · split at h
    · omega
    · rw [Option.map_eq_none_iff] at h
      rw [HL.out.2.2.2.2 h]
      omega
  · exact(q2v g2 (by rw [g4];have:=HL.out.2.2.2.1;omega) oQ).kept (qag hW) sI
 have HP2:Hid ((L0.take kn).length=kn/\(∀W,Below w.heap.size w W->qbl W (fun b=>b<w.heap.size) A (qa2 (L0.take kn)))/\∀u∈qa2 (L0.take kn),u.oneCell' =true):=by
  obtain⟨g1,g2,g3,g4⟩:=HM.out;exact⟨by rw [List.length_take,g4];omega,fun W hW=>(q2t g2).kept (qag hW) sI,qze fun p hp=>g3 p (List.mem_of_mem_take hp)⟩
 have HAc:=hdQ HL.out.2.2.2.2;refine qah [1,2,3,5,6,7,0,4,8,9] kr kr pq ?_
 simp only [zdy,zey,ldz,lds,bare,qaj,lcz,lcs,zay]
 repeat' ((try simp only [Act.put,lsi,lsz,lss]);first|(refine lqx ?_)|(refine qab qaa rfl (fun K hK=> ?_);(first|(have _q:=HO8;refine q0y _ _ w7.heap.size d kn c v8 A (fun b=>b<w.heap.size) (L0.drop kn) (L0.take kn) rfl rfl HO8.out rfl HP2.out.1 HAc.out (HP2.out.2.1 _ ?_) HP2.out.2.2 ?_ ?_ ?_;(focus(exact HB6.out.trans ((show Below w6.heap.size w6 _ from bel).mono HB6.out.size)));(focus(exact HZ8.out));(focus omega);intro v9 w9 hown9 hb9;have HO9:=hdQ hown9;have hb79:Below w7.heap.size w7 w9:=hb78.trans hb9;clear hown9 hb9)|(refine q0y _ _ w7.heap.size 0 d (c-kn) (.slice (some ⟨w7.heap.size,0,none⟩) 0 0) (if c=kn then A else Option.map (fun x=>x.add (kn*3)) A) (fun b=>b<w.heap.size) [] (L0.drop kn) rfl rfl (q6v (Blk.new rfl rfl) (zhy _)) rfl HP1.out.1 HP1.out.2.1 (HP1.out.2.2.1 _ ?_) HP1.out.2.2.2 ?_ ?_ ?_;(focus(exact HB6.out.trans ((show Below w6.heap.size w6 _ from bel).mono HB6.out.size)));(focus(simp));(focus omega);intro v8 w8 hown8 hb8;rw [Nat.zero_add,List.nil_append] at hown8;have HO8:=hdQ hown8;have hb78:Below w7.heap.size w7 w8:=Below.trans (show Below w7.heap.size w7 _ from bel) hb8;have HZ8:=hdQ hb78.size;clear hown8 hb8));refine hK.out _ _ bel ?_;clear hK K)|(refine qab qaa rfl (fun K hK=> ?_);go_simp;((first|fail  | skip)<;>(refine hK.out _ _ bel ?_;clear hK K))))
 (all_goals try simp only [Act.put,lsi,lsz,lss]);all_goals(refine qad ?_)
 obtain⟨M,hMe⟩:∃x,L0.drop kn++L0.take kn=x:=⟨_,rfl⟩
 have hMp:(obsM M).Perm l:=by
  rw [<-hMe,<-HM.out.1]
  unfold obsM
  rw [zfx,List.map_drop,List.map_take]
  exact q1t _ _
 have hMl:M.length=n:=by rw [<-hMe,zny,HP1.out.1,HP2.out.1];omega
 have hMz:∀p∈M,PtsZ w (fun b=>b<w.heap.size) p.2.ov p.2.ob.pts:=fun p hp=>by
  rw [<-hMe] at hp
  rcases List.mem_append.1 hp with q|q
  · exact HM.out.2.2.1 p (List.mem_of_mem_drop q)
  · exact HM.out.2.2.1 p (List.mem_of_mem_take q)
 have hdn:d+kn=n:=oQ
 have hO9:=HO9.out;rw [hMe,hdn] at hO9;obtain⟨A9,c9,rfl,_,_,_⟩:=qaq hO9;have HO:=hdQ hO9;have HMM:=hdQ (And.intro hMp (And.intro hMl hMz));obtain⟨R,hR⟩:∃R:Nat->Prop,R=fun b=>(Value.slice A9 n c9).ownBlock=some b:=⟨_,rfl⟩
 have HRr:Hid (∀b,(Value.slice A9 n c9).ownBlock=some b↔R b):=fun b=>by rw [hR]
 have hB69:Below w6.heap.size w6 w9:=hb7.trans (hb79.mono hb7.size);have HB09:=hdQ (HB6.out.trans (hB69.mono HB6.out.size))
 have hT9:T3 w.heap.size R w9 ta tb tc fan (bldM l) [] []:=HT6'.out.row hB69 fun b q=>by
  have:=hO9.lt b ((HRr.out b).2 q);exact⟨zcy hb7.size this.1,this.2⟩
 have HT9:=hdQ hT9;clear hMe hMp hMl hMz hdn hO9 hR hB69 hT9 HO8 HZ8 HO9 HP1 HP2 HM HAc HT6' HB6 HRo hb7 hc7 hf7 hz7 hb78 hb79 hd hwk hwn hkn1 hnc1 hkc1 hkl;generalize (if c=kn then A else Option.map (fun x=>x.add (kn*3)) A)=AX
 go_wp2_with fail
 go_loopw [19] (fun vi wr=>∃i:Nat,i<=n/\vi=.int .i64 i/\T3 w.heap.size R wr ta tb tc fan (bldM l) (bldM ((obsM M).take i)) (bldM ((obsM M).reverse.take i))/\TurnF (fun b=>w.heap.size<=b/\¬ R b) w9 wr/\Below w.heap.size w wr) (fun vi _=>n-(Go.RowKit.intOf vi).toNat)
 case atStart=>exact ⟨0,zly _,rfl,HT9.out,TurnF.refl _ _,HB09.out⟩
 case round=>
  obtain⟨i,hin,rfl,hT,ht,hb⟩:=hrel;clear HT9 HB09;have hws:=hb.size
  by_cases hlt:i<n
  case pos=>
   have hlt0:(i:Int)<(n:Int):=oQ
   obtain⟨nm,hnm⟩:∃x,n-1=x:=⟨_,rfl⟩;obtain⟨j,hj⟩:∃x,nm-i=x:=⟨_,rfl⟩;have s1:(n:Int)-1=(nm:Int):=oQ
   have s2:(nm:Int)-(i:Int)=(j:Int):=oQ
   have e1:=q07 nm oQ
   have e2:=q07 j oQ
   have hj0:(j:Int)<(n:Int):=oQ
   have hjn:j<n:=oQ
   obtain⟨x1,hx1⟩:∃x,M[i]? =some x:=⟨_,zby (by rw [HMM.out.2.1];exact hlt)⟩
   obtain⟨x2,hx2⟩:∃x,M[j]? =some x:=⟨_,zby (by rw [HMM.out.2.1];exact hjn)⟩
   have ho1:(obsM M)[i]? =some (x1.1,x1.2.ob):=by unfold obsM;rw [zpx,hx1];rfl
   have ho2:(obsM M).reverse[i]? =some (x2.1,x2.2.ob):=by
    have hl0:(obsM M).length=n:=by unfold obsM;rw [zyy];exact HMM.out.2.1
    rw [List.getElem?_reverse (by rw [hl0];exact hlt),hl0,hnm,hj]
    unfold obsM
    rw [zpx,hx2]
    rfl
   have hOr:wr.ownsRow 0 42 3 (.slice A9 n c9) M.length (qa2 M):=by
    rw [HMM.out.2.1]
    exact qa5 (qiw HO.out ht fun g e q=>q.2 ((HRr.out g).1 e)) (zly _)
   obtain⟨g,cg,hv,hgl,r0,r1,r2⟩:=qsh hOr hx1;obtain⟨g',cg',hv',hgl',t0,t1,t2⟩:=qsh hOr hx2;injection hv with v1 v2 v3
   subst v1;injection hv' with v1' v2' v3'
   injection v1' with v1'
   injection v1' with v1'
   subst v1';have HF:Hid (∀k,w.heap.size<=k/\¬ R k->w.heap.size<=k/\k ∉ [g]):=fun k q=>⟨q.1,fun h=>q.2 ((HRr.out k).1 (by rw [zhx.1 h];rfl))⟩
   obtain⟨Ap,cp,ep,hpp⟩:=(HMM.out.2.2 x1 (zjy hx1)).pts;obtain⟨Aq,cq,eq,hpq⟩:=(HMM.out.2.2 x2 (zjy hx2)).pts;have hpl:=(HMM.out.2.2 x1 (zjy hx1)).1;have hql:=(HMM.out.2.2 x2 (zjy hx2)).1;rw [ep] at r2;rw [eq] at t2;obtain⟨i1,⟨⟨k1,l1⟩,ov1⟩⟩:=x1;obtain⟨i2,⟨⟨k2,l2⟩,ov2⟩⟩:=x2
   simp only at r0 r1 r2 t0 t1 t2 hpp hpq hpl hql ho1 ho2
   obtain⟨m1,hm1⟩:∃x,l1.length=x:=⟨_,rfl⟩;obtain⟨m2,hm2⟩:∃x,l2.length=x:=⟨_,rfl⟩;rw [hm1] at r2 hpp hpl;rw [hm2] at t2 hpq hql;have tb1:=qtt (C:=clsC 3 0 false 0) HMM.out.1 HOk.out.1 HOk.out.2 ho1;have tc1:=qtt (C:=clsC 1 4 false 0) ((List.reverse_perm _).trans HMM.out.1) (fun p hp=>⟨(HOk.out.1 p hp).1,(HOk.out.1 p hp).2.1,(HOk.out.1 p hp).2.1⟩) HOk.out.2 ho2
   simp only at tb1 tc1
   have HIb:=hdQ (fun W (hW:Below wr.heap.size wr W)=>show C9 12 #[.pointer (some ⟨tb,0,none⟩),.int .i64 i1,.agg #[.int .i64 k1,.slice Ap m1 cp]] W fun e w' =>e=.returned .nilIface/\T3 w.heap.size R w' ta tb tc fan (bldM l) (bldM ((obsM M).take (i+1))) (bldM ((obsM M).reverse.take i))/\TurnF (fun b=>w.heap.size<=b/\¬ R b) W w' from by
    have:=T3.insB (hT.tr hW) HCa.out (zcy hws hW.size) (zcy (qo7 _) (by rw [List.length_take];omega)) i1 w.heap.size m1 cp k1 Ap l1 (hpp.below (hb.trans (hW.mono hws))) (zcy hws hW.size) hpl tb1.1
    rw [tb1.2] at this
    exact this)
   have HIc:=hdQ (fun(W0 W:World) (h3:T3 w.heap.size R W0 ta tb tc fan (bldM l) (bldM ((obsM M).take (i+1))) (bldM ((obsM M).reverse.take i))) (hb0:Below w.heap.size w W0) (hW:Below W0.heap.size W0 W)=>show C9 12 #[.pointer (some ⟨tc,0,none⟩),.int .i64 i2,.agg #[.int .i64 k2,.slice Aq m2 cq]] W fun e w' =>e=.returned .nilIface/\T3 w.heap.size R w' ta tb tc fan (bldM l) (bldM ((obsM M).take (i+1))) (bldM ((obsM M).reverse.take (i+1)))/\TurnF (fun b=>w.heap.size<=b/\¬ R b) W w' from by
    have:=T3.insC (h3.tr hW) HCc.out (zcy hb0.size hW.size) (zcy (qo7 _) (by rw [List.length_take];omega)) i2 w.heap.size m2 cq k2 Aq l2 (hpq.below (hb0.trans (hW.mono hb0.size))) (zcy hb0.size hW.size) hql tc1.1
    rw [tc1.2] at this
    exact this)
   have HTr:=hdQ (And.intro ht hb);clear hT ht hb hx1 hx2 ho1 ho2 hOr v2 v3 v2' v3' hpp hpq hpl hql ep eq hm1 hm2 tb1 tc1 hgl' hnm hj;go_wp2_with fail;refine qec (w.heap.size) [g] [0,1,2,3,4,5,6,7,8,9,10,11,12,13,14,15,16,17,18,19,20,21,22,23,24,25,26,27,28,29,30,31,32,33,34,35] kr kr pq ?_
   simp only [zdy,zey,ldz,lds,bare,qaj,lcz,lcs,zay]
   repeat' ((try simp only [Act.put,lsi,lsz,lss]);first|(refine qbo ?_ ?_;focus(simp only [lAq,zgy,zfy];done))|(refine qa8 ?_ ?_ ?_;(focus(simp only [lAq,zgy,zfy];done));(focus(exact(by repeat(first|with_reducible exact Keep.refl _ _ _|with_reducible assumption|with_reducible refine Keep.drew ?_|with_reducible refine Keep.alloc ?_ _|with_reducible refine Keep.below ?_ (by with_reducible assumption))))))|(refine qax (X:= ?_) ?_ ?_ (fun hg=> ?_) (fun hg=> ?_);rotate_left;(focus(simp only [lAq];with_reducible rfl));(focus(exact(by repeat(first|with_reducible exact Keep.refl _ _ _|with_reducible assumption|with_reducible refine Keep.drew ?_|with_reducible refine Keep.alloc ?_ _|with_reducible refine Keep.below ?_ (by with_reducible assumption)))));all_goals(try simp only [zgy,zfy] at hg))|(refine qba (v:= ?_) qaa rfl ?_ ?_;rotate_left;focus(intro wq hq;obtain⟨hcq,hfq⟩:=q26 hq;go_simp;try with_reducible rfl))|(refine qab qaa rfl (fun K hK=> ?_);go_simp;((first |  (go_at_call 12;(have _q:=HT11);(refine(HIc.out w11 _ HT11.out.1 HT11.out.2.1 bel).mono ?_);rintro e w12 ⟨rfl,hT12,ht12⟩;have hk12:Keep w.heap.size [g] wr w12:=qnk (by repeat(first|with_reducible exact hk11|with_reducible refine Keep.drew ?_|with_reducible refine Keep.alloc ?_ _)) ht12 HF.out;have HT12:=hdQ (And.intro hT12 (And.intro (qn4 (HT11.out.2.1.trans ((show Below w11.heap.size w11 _ from bel).mono HT11.out.2.1.size)) ht12 (zhy _)) ((HT11.out.2.2.below bel).trans ht12 fun x q=> .inl q)));clear hT12 ht12)|(go_at_call 12;(fail_if_success have _q:=HT11);(refine(HIb.out _ bel).mono ?_);rintro e w11 ⟨rfl,hT11,ht11⟩;have hk11:Keep w.heap.size [g] wr w11:=qnk (by repeat(first|with_reducible exact Keep.refl _ _ _|with_reducible refine Keep.drew ?_|with_reducible refine Keep.alloc ?_ _)) ht11 HF.out;have HT11:=hdQ (And.intro hT11 (And.intro (qn4 (HTr.out.2.trans ((show Below wr.heap.size wr _ from bel).mono HTr.out.2.size)) ht11 (zhy _)) ((HTr.out.1.below bel).trans ht11 fun x q=> .inl q)));clear hT11 ht11)|skip)<;>(refine hK.out _ _ (by repeat(first|with_reducible exact Keep.refl _ _ _|with_reducible assumption|with_reducible refine Keep.drew ?_|with_reducible refine Keep.alloc ?_ _|with_reducible refine Keep.below ?_ (by with_reducible assumption))) ?_;clear hK K))))
   (all_goals try simp only [Act.put,lsi,lsz,lss]);all_goals(refine qad ?_)
   go_wp2_with fail
   go_roundw
   case rel=>exact ⟨i+1,by omega,by go_num,HT12.out.1,HT12.out.2.2,HT12.out.2.1⟩
   case measure=>simp [Go.RowKit.intOf];omega
  obtain rfl:n=i:=oQ
  have hl0:(obsM M).length=n:=by unfold obsM;rw [zyy];exact HMM.out.2.1
  rw [zmy (by rw [hl0];exact zhy _),zmy (by rw [List.length_reverse,hl0];exact zhy _),qpg HMM.out.1 HOk.out.2,qpg ((List.reverse_perm _).trans HMM.out.1) HOk.out.2] at hT
  obtain⟨wS,hwS⟩:∃W:World,W=wr:=⟨_,rfl⟩;subst hwS;obtain⟨I,hI⟩:∃I,bldM l=I:=⟨_,rfl⟩;rw [hI] at hT HIl;have hIl:=HIl.out;have hta:=hT.a;have htb:=hT.b;have htc:=hT.c;have HAa:=hdQ (hta.ans HCa.out.c (qex 3 0 false) oQ)
  have HAb:=hdQ (htb.ans HCa.out.c (qex 3 0 false) oQ)
  have HAc:=hdQ (htc.ans HCc.out.c (qex 1 4 false) oQ)
  have HIa:=hdQ (hta.its oQ hIl)
  have HIb:=hdQ (htb.its oQ hIl)
  have HSa:=hdQ (hta.snd HCa.out.c (qex 3 0 false) oQ)
  have HSb:=hdQ (htb.snd HCa.out.c (qex 3 0 false) oQ)
  have HSc:=hdQ (htc.snd HCc.out.c (qex 1 4 false) oQ)
  have HB:=hdQ hb;have hwS:=hb.size
  have hsr:∀(t0:Nat),AnsT wS t0 I->∀W,Below wS.heap.size wS W->∀(Q:Qu) (A' :Option Addr) (m cc:Nat),m<=1000000->qak W W.heap.size A' m Q.ring->C9 13 #[.pointer (some ⟨t0,0,none⟩),quV Q.kind Q.box A' m cc] W fun e w' =>∃A c,e=.returned (.slice A (qhp Q I).length c)/\w'.ownsRow wS.heap.size 3 1 (.slice A (qhp Q I).length c) (qhp Q I).length (idcs (qhp Q I))/\Below W.heap.size W w' :=fun t0 hA W hW Q A' m cc hm hp=>by
   refine(hA.srch W hW Q A' m cc hm hp).mono ?_;rintro e w' ⟨v,rfl,ho,hb⟩;obtain⟨A',c',rfl,_,_,_⟩:=qaq ho;exact⟨A',c',rfl,qa5 ho hW.size,hb⟩
  have hnr:∀(t0:Nat),AnsT wS t0 I->∀(x y:Int) W,Below wS.heap.size wS W->C9 15 #[.pointer (some ⟨t0,0,none⟩),.agg #[.int .i64 x,.int .i64 y],.int .i64 n] W fun e w' =>∃A c,e=.returned (.slice A (qmu ⟨x,y⟩ n I).length c)/\w'.ownsRow wS.heap.size 73 4 (.slice A (qmu ⟨x,y⟩ n I).length c) (qmu ⟨x,y⟩ n I).length (nrVs (qmu ⟨x,y⟩ n I))/\Below W.heap.size W w' :=fun t0 hA x y W hW=>by
   refine(hA.near W hW x y n).mono ?_;rintro e w' ⟨v,rfl,ho,hb⟩;obtain⟨A',c',rfl,_,_,_⟩:=qaq ho;exact⟨A',c',rfl,qa5 ho hW.size,hb⟩
  have HSR:=hdQ hsr;have HNR:=hdQ hnr;have HIl2:=hdQ hIl;clear hT hta htb htc hsr hnr hl0 hI hIl HIl hb ht HO HMM HOk HRr HPts hin hlt
  simp only [gP,quV] at*
  go_wp2_with fail
  go_loopw [20,21] (fun vi _ wr=>∃i:Nat,i<=n2/\vi=.int .i64 i/\Below wS.heap.size wS wr) (fun vi _ _=>n2-(Go.RowKit.intOf vi).toNat)
  case atStart=>exact ⟨0,zly _,rfl,bel⟩
  case round=>
   obtain⟨i,hin,rfl,hb⟩:=hrel;have hbs:=hb.size
   by_cases hlt:i<n2
   case pos=>
    have hlt0:(i:Int)<(n2:Int):=oQ
    obtain⟨b,off,A',m,cc,x,rfl,hab,hx,⟨q0,q1,q2,q3,q4,q5⟩,hr⟩:=(HL.out.2.1.below (HB.out.trans (hb.mono hwS))).at_ hlt;have hbw:b<wr.heap.size:=oQ
    have hm:=HRg.out x (zjy hx);have hm' :m<=1000000:=by have h1:=hr.1;omega
    obtain⟨S,hS⟩:∃S,qhp x I=S:=⟨_,rfl⟩;obtain⟨sl,hsl⟩:∃y,S.length=y:=⟨_,rfl⟩
    have hslen:sl<=1000000:=by
     rw [<-hsl,<-hS]
     have:=qvl x I;have:=HIl2.out
     omega
    have hs:=fun (t0:Nat) (hA:AnsT wS t0 I) (W:World) (hW:Below wr.heap.size wr W)=>HSR.out t0 hA W (hb.trans (hW.mono hbs)) x A' m cc hm' ((hr.below (hW.mono oQ)).more (by have:=hW.size;omega))
    rw [hS,hsl] at hs;obtain⟨xk,⟨⟨x0,x1⟩,x2,x3⟩,ring⟩:=x
    simp only at q0 q1 q2 q3 q4 hs
    have HSx:=hdQ hs;have HIn:=hdQ (fun(A1:Option Addr) (c1:Nat) (W1 W2 W:World) (h1:W1.ownsRow wS.heap.size 3 1 (.slice A1 sl c1) sl (idcs S)) (A2:Option Addr) (c2:Nat) (h2:W2.ownsRow wS.heap.size 3 1 (.slice A2 sl c2) sl (idcs S)) (hW1:Below W1.heap.size W1 W) (hW2:Below W2.heap.size W2 W)=>show C9 14 #[.slice A1 sl c1,.slice A2 sl c2] W (Ret W (.bool true)) from q29 S W (qam h1 (qag hW1) sI) (qam h2 (qag hW2) sI) hslen)
    have HB2:=hdQ hb;clear hx hr hm hm' hS hsl hslen hs hb
    go_wp2_with (first
     | (go_at_call 13;(have _q:=HO7);(refine(HSx.out tc HAc.out _ bel).mono ?_);rintro e w8 ⟨A8,c8,rfl,ho8,hb8⟩;have HO8:=hdQ ho8;clear ho8;obtain⟨hc8,hf8,hz8⟩:=bc3 hb8;(try simp at hz8);have zb8:b<w8.heap.size:=oQ)
     | (go_at_call 13;(have _q:=HO6);(fail_if_success have _q:=HO7);(refine(HSx.out tb HAb.out _ bel).mono ?_);rintro e w7 ⟨A7,c7,rfl,ho7,hb7⟩;have HO7:=hdQ ho7;clear ho7;obtain⟨hc7,hf7,hz7⟩:=bc3 hb7;(try simp at hz7);have zb7:b<w7.heap.size:=oQ)
     | (go_at_call 13;(fail_if_success have _q:=HO6);(refine(HSx.out ta HAa.out _ bel).mono ?_);rintro e w6 ⟨A6,c6,rfl,ho6,hb6⟩;have HO6:=hdQ ho6;clear ho6;obtain⟨hc6,hf6,hz6⟩:=bc3 hb6;(try simp at hz6);have zb6:b<w6.heap.size:=oQ)
     | (go_at_call 14;(have _q:=HO8);(refine(HIn.out _ _ w6 w8 _ HO6.out _ _ HO8.out bel bel).monoR ?_);rintro wv hbv hcv hfv hzv;(try simp at hzv);have zbv:b<wv.heap.size:=oQ)
     | (go_at_call 14;(have _q:=HO7);(fail_if_success have _q:=HO8);(refine(HIn.out _ _ w6 w7 _ HO6.out _ _ HO7.out bel bel).monoR ?_);rintro wu hbu hcu hfu hzu;(try simp at hzu);have zbu:b<wu.heap.size:=oQ))
    go_roundw
    case rel=>exact ⟨i+1,by omega,by go_num,HB2.out.trans ((show Below wr.heap.size wr _ from bel).mono HB2.out.size)⟩
    case measure=>simp [Go.RowKit.intOf];omega
   obtain rfl:n2=i:=oQ
   obtain⟨wT,hwT⟩:∃W:World,W=wr:=⟨_,rfl⟩;subst hwT;have HB2:=hdQ hb;clear hb hin hlt hbs HSR;go_wp2_with fail
   go_loopw [22,23] (fun vi _ wr=>∃i:Nat,i<=n3/\vi=.int .i64 i/\Below wS.heap.size wS wr) (fun vi _ _=>n3-(Go.RowKit.intOf vi).toNat)
   case atStart=>exact ⟨0,zly _,rfl,HB2.out.trans ((show Below wT.heap.size wT _ from bel).mono HB2.out.size)⟩
   case round=>
    obtain⟨i,hin,rfl,hb⟩:=hrel;have hbs:=hb.size
    by_cases hlt:i<n3
    case pos=>
     have hlt0:(i:Int)<(n3:Int):=oQ
     obtain⟨b,off,rfl,hab,q0,q1⟩:=(HL.out.2.2.1.below (HB.out.trans (hb.mono hwS))).at_ hlt;have hbw:b<wr.heap.size:=oQ
     generalize (pt p i).x=px at*;generalize (pt p i).y=py at*;obtain⟨S,hS⟩:∃S,qmu ⟨px,py⟩ n I=S:=⟨_,rfl⟩;obtain⟨sl,hsl⟩:∃y,S.length=y:=⟨_,rfl⟩
     have hslen:sl<=1000000:=by
      rw [<-hsl,<-hS]
      have:=qzb (I:=I) ⟨px,py⟩ n;have:=HIl2.out
      omega
     have hs:=fun (t0:Nat) (hA:AnsT wS t0 I) (W:World) (hW:Below wr.heap.size wr W)=>HNR.out t0 hA px py W (hb.trans (hW.mono hbs))
     rw [hS,hsl] at hs;have HNx:=hdQ hs
     have HSn:=hdQ (fun(A1:Option Addr) (c1:Nat) (W1 W2 W:World) (h1:W1.ownsRow wS.heap.size 73 4 (.slice A1 sl c1) sl (nrVs S)) (A2:Option Addr) (c2:Nat) (h2:W2.ownsRow wS.heap.size 73 4 (.slice A2 sl c2) sl (nrVs S)) (hW1:Below W1.heap.size W1 W) (hW2:Below W2.heap.size W2 W)=>show C9 16 #[.slice A1 sl c1,.slice A2 sl c2] W (Ret W (.bool true)) from by
      have:=qps A1 A2 c1 c2 S _ _ W ((qh8 h1 rfl).kept (qag hW1) sI) ((qh8 h2 rfl).kept (qag hW2) sI) oQ
      rw [hsl] at this
      exact this)
     have HB3:=hdQ hb;clear hS hs hb
     go_wp2_with (first
      | (go_at_call 15;(have _q:=HO7);(refine(HNx.out tc HAc.out _ bel).mono ?_);rintro e w8 ⟨A8,c8,rfl,ho8,hb8⟩;have HO8:=hdQ ho8;clear ho8;obtain⟨hc8,hf8,hz8⟩:=bc3 hb8;(try simp at hz8);have zb8:b<w8.heap.size:=oQ)
      | (go_at_call 15;(have _q:=HO6);(fail_if_success have _q:=HO7);(refine(HNx.out tb HAb.out _ bel).mono ?_);rintro e w7 ⟨A7,c7,rfl,ho7,hb7⟩;have HO7:=hdQ ho7;clear ho7;obtain⟨hc7,hf7,hz7⟩:=bc3 hb7;(try simp at hz7);have zb7:b<w7.heap.size:=oQ)
      | (go_at_call 15;(fail_if_success have _q:=HO6);(refine(HNx.out ta HAa.out _ bel).mono ?_);rintro e w6 ⟨A6,c6,rfl,ho6,hb6⟩;have HO6:=hdQ ho6;clear ho6;obtain⟨hc6,hf6,hz6⟩:=bc3 hb6;(try simp at hz6);have zb6:b<w6.heap.size:=oQ)
      | (go_at_call 16;(have _q:=HO8);(refine(HSn.out _ _ w6 w8 _ HO6.out _ _ HO8.out bel bel).monoR ?_);rintro wv hbv hcv hfv hzv;(try simp at hzv);have zbv:b<wv.heap.size:=oQ)
      | (go_at_call 16;(have _q:=HO7);(fail_if_success have _q:=HO8);(refine(HSn.out _ _ w6 w7 _ HO6.out _ _ HO7.out bel bel).monoR ?_);rintro wu hbu hcu hfu hzu;(try simp at hzu);have zbu:b<wu.heap.size:=oQ))
     go_roundw
     case rel=>exact ⟨i+1,by omega,by go_num,HB3.out.trans ((show Below wr.heap.size wr _ from bel).mono HB3.out.size)⟩
     case measure=>simp [Go.RowKit.intOf];omega
    obtain rfl:n3=i:=oQ
    have HIa2:=hdQ (fun W (hW:Below wr.heap.size wr W)=>HIa.out W (hb.trans (hW.mono hbs)))
    have HIb2:=hdQ (fun W (hW:Below wr.heap.size wr W)=>HIb.out W (hb.trans (hW.mono hbs)))
    have HSa2:=hdQ (fun W (hW:Below wr.heap.size wr W)=>HSa.out W (hb.trans (hW.mono hbs)))
    have HSb2:=hdQ (fun W (hW:Below wr.heap.size wr W)=>HSb.out W (hb.trans (hW.mono hbs)))
    have HSc2:=hdQ (fun W (hW:Below wr.heap.size wr W)=>HSc.out W (hb.trans (hW.mono hbs)))
    have HB3:=hdQ hb;clear hb hin hlt HNR
    go_wp2_with (first
     | (go_at_call 18;(have _q:=HM6);(refine(HIb2.out _ bel).mono ?_);rintro e w7 ⟨A7,c7,L7,rfl,ho7,hl7,hm7,hb7⟩;have HM7:=hdQ (And.intro ho7 hm7);clear ho7 hl7 hm7;obtain⟨hc7,hf7,hz7⟩:=bc3 hb7;(try simp at hz7))
     | (go_at_call 18;(fail_if_success have _q:=HM6);(refine(HIa2.out _ bel).mono ?_);rintro e w6 ⟨A6,c6,L6,rfl,ho6,hl6,hm6,hb6⟩;have HM6:=hdQ (And.intro ho6 (And.intro hl6 hm6));clear ho6 hl6 hm6;obtain⟨hc6,hf6,hz6⟩:=bc3 hb6;(try simp at hz6))
     | (go_at_call 17;(refine(qpt _ _ _ _ _ L6 L7 _ _ _ (HM6.out.2.2.tr bel) (HM7.out.2.tr bel) HM6.out.2.1 (HM6.out.1.trans HM7.out.1.symm) oQ).monoR ?_);rintro ws hbs hcs hfs hzs;(try simp at hzs))
     | (go_at_call 19;(have _q:=hfd);(refine(HSc2.out _ bel).monoR ?_);rintro wf hbf hcf hff hzf;(try simp at hzf))
     | (go_at_call 19;(have _q:=hfc);(fail_if_success have _q:=hfd);(refine(HSb2.out _ bel).monoR ?_);rintro wd hbd hcd hfd hzd;(try simp at hzd))
     | (go_at_call 19;(fail_if_success have _q:=hfc);(refine(HSa2.out _ bel).monoR ?_);rintro wc hbc hcc hfc hzc;(try simp at hzc))
     | (go_at_call 7;(with_reducible refine(HA.out _).monoR ?_);rintro wa hba hca hfa hza;(try simp at hza)))
    go_ret;exact⟨rfl,HB.out.trans ((HB3.out.trans ((show Below wr.heap.size wr _ from bel).mono HB3.out.size)).mono HB.out.size)⟩
theorem qoz (n c n2 c2 n3 c3:Nat) (A A2 A3:Option Addr) (k fan:Int) (l:List (Int×Ob)) (q:List Qu) (w:World) (hl:qeo w w.heap.size A n l) (hq:qf5 w w.heap.size A2 n2 q) (hn:n<=9223372036854775807) (hn2:n2<=9223372036854775807) (h:(decide ((100:Int)<(n:Int))||decide (fan<4)||decide (16<fan))=true):
 C9 3 #[.slice A n c,.int .i64 k,.int .i64 fan,.slice A2 n2 c2,.slice A3 n3 c3] w (Ret w (.bool true)):=by
 have HA:=hdQ qmm;have HIt:=hdQ (fun W (hW:Below w.heap.size w W)=>qqj w.heap.size n c 1000 A l W (hl.below hW) hW.size hn dE)
 have HFw:=hdQ (fun W (hW:Below w.heap.size w W)=>qqs w.heap.size n2 c2 n3 c3 A2 A3 q W (hq.below hW) hW.size hn2)
 clear hl hq;obtain⟨b1,d1⟩:∃b,decide ((100:Int)<(n:Int))=b:=⟨_,rfl⟩;obtain⟨b2,d2⟩:∃b,decide (fan<4)=b:=⟨_,rfl⟩;obtain⟨b3,d3⟩:∃b,decide (16<fan)=b:=⟨_,rfl⟩;rw [d1,d2,d3] at h
 have hs:b1=true\/(b1=false/\b2=true)\/(b1=false/\b2=false/\b3=true):=by
  revert h
  cases b1<;>cases b2<;>cases b3<;>simp
 clear h
 rcases hs with rfl|⟨rfl,rfl⟩|⟨rfl,rfl,rfl⟩
 all_goals(
  go_enter Tryz.func3,Tryz.ntmps3
  go_wp2_with (first
   | (go_at_call 5;(refine(HIt.out _ bel).mono ?_);rintro e w1 ⟨t1,rfl,hs1,hb1⟩;clear hs1;obtain⟨hc1,hf1,hz1⟩:=bc3 hb1;(try simp at hz1);obtain⟨b4,d4⟩:∃b,decide ((1000:Int)<(t1:Int))=b:=⟨_,rfl⟩;cases b4)
   | (go_at_call 6;(refine(HFw.out _ bel).mono ?_);rintro e w2 ⟨s2,rfl,hs2,hb2⟩;clear hs2;obtain⟨hc2,hf2,hz2⟩:=bc3 hb2;(try simp at hz2);cases s2)
   | (go_at_call 7;(with_reducible refine(HA.out _).monoR ?_);rintro wa hba hca hfa hza;(try simp at hza)))
  all_goals(go_ret;exact⟨rfl,bel⟩))
theorem gistTurns_walk (n c n2 c2 n3 c3:Nat) (A A2 A3:Option Addr) (k fan:Int) (l:List (Int×Ob)) (q:List Qu) (p:List Pt) (w:World) (hl:qeo w w.heap.size A n l) (hn:n<=9223372036854775807) (hnc:n<=c) (hAc:A=none->c=0) (hq:qf5 w w.heap.size A2 n2 q) (hp:qak w w.heap.size A3 n3 p) (hn2:n2<=9223372036854775807):
 C9 3 #[.slice A n c,.int .i64 k,.int .i64 fan,.slice A2 n2 c2,.slice A3 n3 c3] w (Ret w (.bool true)):=by
 by_cases h:(decide ((100:Int)<(n:Int))||decide (fan<4)||decide (16<fan))=true
 · exact qoz n c n2 c2 n3 c3 A A2 A3 k fan l q w hl hq hn hn2 h
 · simp only [Bool.or_eq_true,decide_eq_true_eq,not_or] at h
   obtain⟨⟨h1,h2⟩,h3⟩:=h;obtain⟨f,rfl⟩:∃f:Nat,fan=(f:Int):=⟨fan.toNat,by omega⟩
   exact qqn n c n2 c2 n3 c3 f A A2 A3 k l q p w hl hnc hAc hq hp oQ hn2 oQ oQ
end Go.Proofs.YtfnhnjbkkggbeaaGreat
