/-pergolalaw17: the walk of GistGrows.-/
import Derived.Test.YtjopdlmbgidigaaGreatALawGb
import Derived.Test.YtjopdlmbgidigaaGreatAAlkN
import Derived.Test.YtjopdlmbgidigaaGreatARefEH
set_option linter.unusedVariables false
set_option linter.unusedSimpArgs false
set_option maxHeartbeats 8000000
set_option maxRecDepth 20000
namespace Go.Proofs.YtjopdlmbgidigaaGreat
open Go Go.RowKit Pg
theorem qpu {w:World} {base n c:Nat} {A:Option Addr} {l:List Int} (h:w.ownsRow base 3 1 (.slice A n c) n (idcs l)) {k:Nat} {x:Int} (hk:l[k]? =some x):
 ∃b,A=some ⟨b,0,none⟩/\b<w.heap.size/\w.cell? ⟨b,k,none⟩=some (.int .i64 x):=by
 have hkl:=(zsy.1 hk).1;have hn:n=l.length:=by have:=h.1;unfold idcs at this;rw [zyy] at this;omega
 rcases h.2 with ⟨_,h0⟩|⟨b,cap,cur,e,_,hg,_⟩
 · omega
 · injection e with e1 e2 e3
   subst e1 e3;have hc:=h.cellAt k oQ
   refine⟨b,rfl,(zqy.1 hg).1,hc.trans ?_⟩;unfold idcs
   rw [zpx,hk]
   rfl
theorem qvs {b1 b2 n c1 c2:Nat} {A1 A2:Option Addr} (l:List Int) (w:World) (h1:w.ownsRow b1 3 1 (.slice A1 n c1) n (idcs l)) (h2:w.ownsRow b2 3 1 (.slice A2 n c2) n (idcs l)) (hn:n<=1000000):
 C9 17 #[.slice A1 n c1,.slice A2 n c2] w (Ret w (.bool true)):=by
 have hl:l.length=n:=by have:=h1.1;unfold idcs at this;rw [zyy] at this;omega
 have H1:=hdQ h1;have H2:=hdQ h2;clear h1 h2
 go_enter Tryz.func17,Tryz.ntmps17
 go_wp2_with fail
 go_loopw [5] (fun vi wr=>∃k:Nat,k<=n/\vi=.int .i64 k/\Below w.heap.size w wr) (fun vi _=>n-(Go.RowKit.intOf vi).toNat)
 case atStart=>exact ⟨0,by omega,rfl,bel⟩
 case round=>
  obtain⟨k,hk,rfl,hb⟩:=hrel
  by_cases hlt:k<n
  case neg=>
   obtain rfl:n=k:=oQ
   have HB:=hdQ hb;clear hb;go_wp2_with fail;go_ret;exact⟨rfl,HB.out⟩
  have hk0:(k:Int)<(n:Int):=oQ
  obtain⟨x,hx⟩:∃x,l[k]? =some x:=⟨l[k]'oQ,zby _⟩
  obtain⟨b,rfl,hbl,r0⟩:=qpu (qak H1.out (qad hb) sI) hx
  obtain⟨b',rfl,hbl',s0⟩:=qpu (qak H2.out (qad hb) sI) hx
  have HB:=hdQ hb;clear hx hb;go_wp2_with fail;refine qac kr kr pq ?_
  simp only [zdy,zey,ldz,lds,bare,qal,lcz,lcs,zay]
  repeat' ((try simp only [Act.put,lsi,lsz,lss]);first|(refine lqx ?_)|(refine qab qaa rfl (fun K hK=> ?_);go_simp;((first |  fail|skip)<;>(refine hK.out _ _ bel ?_;clear hK K))))
  (all_goals try simp only [Act.put,lsi,lsz,lss]);all_goals(refine qaf ?_)
  go_wp2_with fail
  go_roundw
  case rel=>exact ⟨k+1,by omega,by go_num,HB.out.trans ((show Below wr.heap.size wr _ from bel).mono HB.out.size)⟩
  case measure=>simp [Go.RowKit.intOf];omega
structure GgS (w W:World) (F:Nat->Prop) (tb:Nat) (I:List (Int×Ob)) (ok:Int) (oA:Option Addr) (on oc:Nat) (q:Qu) (qA:Option Addr) (qn qc:Nat) (x y:Int):Prop where
 t:TreS (clsC 1 2 false 0) (.iface 34 (clV 1 2 false 0)) (w.heap.size+3) F W tb 5 I
 o:Blk W w.heap.size 53 #[.int .i64 ok,.slice oA on oc]
 q:Blk W (w.heap.size+1) 45 #[.int .i64 q.kind,.int .i64 q.box.lo.x,.int .i64 q.box.lo.y,.int .i64 q.box.hi.x,.int .i64 q.box.hi.y,.slice qA qn qc]
 p:Blk W (w.heap.size+1+1) 24 #[.int .i64 x,.int .i64 y]
 b:Below w.heap.size w W
section
variable {w W W' :World} {F:Nat->Prop} {tb:Nat} {I J:List (Int×Ob)} {ok:Int} {oA:Option Addr} {on oc:Nat} {q:Qu} {qA:Option Addr} {qn qc:Nat} {x y:Int}
theorem GgS.tr (h:GgS w W F tb I ok oA on oc q qA qn qc x y) (hb:Below W.heap.size W W'):GgS w W' F tb I ok oA on oc q qA qn qc x y:=
 ⟨h.t.tr hb,h.o.tr hb,h.q.tr hb,h.p.tr hb,h.b.trans (hb.mono h.b.size)⟩
theorem GgS.turn (h:GgS w W F tb I ok oA on oc q qA qn qc x y) (ht:TurnF (fun b=>w.heap.size+3<=b/\¬ F b) W W') (hT:TreS (clsC 1 2 false 0) (.iface 34 (clV 1 2 false 0)) (w.heap.size+3) F W' tb 5 J):GgS w W' F tb J ok oA on oc q qA qn qc x y:=
 ⟨hT,ht.blk h.o (fun k=>by have:=k.1;omega),ht.blk h.q (fun k=>by have:=k.1;omega),ht.blk h.p (fun k=>by have:=k.1;omega),q1r h.b ht oQ⟩
end
theorem qro (n c on oc qn qc:Nat) (A oA qA:Option Addr) (l:List (Int×Ob)) (ok:Int) (ol:List Pt) (q:Qu) (x y:Int) (w:World) (hl:qew w w.heap.size A n l) (ho:qao w w.heap.size oA on ol) (hq:qao w w.heap.size qA qn q.ring) (hn:n<=60) (hon:on<=64) (hck:ckOb ⟨ok,ol⟩=0) (hqn:qn<=70):
 C9 4 #[.slice A n c,obV ok oA on oc,quV q.kind q.box qA qn qc,ptV x y] w (Ret w (.bool true)):=by
 have HA:=hdQ qg6;have HIt:=hdQ (fun W (hW:Below w.heap.size w W)=>qji w.heap.size n c 600 A l W (hl.below hW) hW.size oQ dE)
 have HMy:=hdQ (fun W (hW:Below w.heap.size w W)=>show C9 13 #[obV ok oA on oc] W (Ret W (.bool true)) from by
  have:=qrd w.heap.size on oc ok oA ol W (ho.below hW) hW.size;rw [decide_eq_true hon,decide_eq_true hck] at this
  exact this)
 have HL:=hdQ (And.intro hl (And.intro ho (And.intro hq hck)));have d1:decide ((60:Int)<(n:Int))=false:=by rw [decide_eq_false_iff_not];omega
 have d2:decide ((70:Int)<(qn:Int))=false:=by rw [decide_eq_false_iff_not];omega
 clear hl ho hq hck;have HQE:Hid (∀W,qao W W.heap.size qA qn q.ring->True):=fun _ _=>trivial
 obtain⟨qk,⟨⟨q0,q1⟩,q2,q3⟩,ring⟩:=q
 simp only [obV,quV,ptV] at*
 go_enter Tryz.func4,Tryz.ntmps4
 go_wp2_with (first
  | (go_at_call 5;(refine(HIt.out _ bel).mono ?_);rintro e w1 ⟨t1,rfl,hs1,hb1⟩;have HS1:=hdQ hs1;clear hs1;obtain⟨hc1,hf1,hz1⟩:=bc3 hb1;(try simp at hz1);obtain⟨hy10,hy11,hy12⟩:=ol3 w w1;obtain⟨b4,d4⟩:∃b,decide ((600:Int)<(t1:Int))=b:=⟨_,rfl⟩;have HD4:=hdQ d4;cases b4)
  | (go_at_call 13;(refine(HMy.out _ bel).monoR ?_);rintro wm hbm hcm hfm hzm;(try simp at hzm);obtain⟨hym0,hym1,hym2⟩:=ol3 w wm)
  | (go_at_call 7;(with_reducible refine(HA.out _).monoR ?_);rintro wa hba hca hfa hza;(try simp at hza)))
 rotate_left
 · go_ret
   exact⟨rfl,bel⟩
 have hp600:∀p∈l,p.2.pts.length<=1000000:=fun p hp=>zcy (HS1.out (by have:=of_decide_eq_false HD4.out;omega) p hp) dE
 have HN:=hdQ (fun W=>qpl 34 (clV 1 2 false 0) 5 dE dE W)
 have HPts:=hdQ hp600;obtain⟨fM,fC,fD,fU,fS,fP,hCl⟩:=q3q 1 2 false 0 dE
 have HCl:=hdQ hCl;have HLw:=hdQ (qka 1 2 false);clear hp600 HIt HMy HS1 HD4 hCl
 go_wp2_with (go_at_call 8;(refine(HN.out _).mono ?_);rintro e w3 ⟨tb,mb,r,own1,rfl,hL1,hown1,hb3⟩;have HL1:=hdQ (And.intro hL1 hown1);clear hL1 hown1;have HB3:=hdQ (show Below w.heap.size w w3 from bel);have HX0:=hdQ (show Blk w3 w.heap.size 53 #[.int .i64 ok,.slice oA on oc] from blkA);have HX1:=hdQ (show Blk w3 (w.heap.size+1) 45 #[.int .i64 qk,.int .i64 q0,.int .i64 q1,.int .i64 q2,.int .i64 q3,.slice qA qn qc] from blkA);have HX2:=hdQ (show Blk w3 (w.heap.size+1+1) 24 #[.int .i64 x,.int .i64 y] from blkA);obtain⟨hc3,hf3,hz3⟩:=bc3 hb3;(try simp at hz3))
 have hS3:GgS w w3 (fun _=>False) tb [] ok oA on oc ⟨qk,⟨⟨q0,q1⟩,q2,q3⟩,ring⟩ qA qn qc x y:=⟨TreS.new HL1.out.1 dE dE fun b q=>zcy oQ (HL1.out.2 b q),HX0.out,HX1.out,HX2.out,HB3.out⟩
 have HS3:=hdQ hS3;have HBd:=hdQ (fun W (hW:Below w3.heap.size w3 W)=>TreS.bld (hS3.t.tr hW) HCl.out dE (fun _ q=>q.elim) (by have:=hW.size;omega) w.heap.size n c A l (HL.out.1.below (HB3.out.trans (hW.mono HB3.out.size))) (zcy HB3.out.size hW.size) oQ HPts.out)
 have HBe:Hid (bldO (clsC 1 2 false 0) [] l=bldR (clsC 1 2 false 0) [] l):=by unfold Hid bldO;rw [if_pos (show ([]:List (Int×Ob)).length=0 from rfl)]
 rw [HBe.out] at HBd;clear hS3 HBe HL1 HX0 HX1 HX2
 go_wp2_with (first
  | (go_at_call 9;(refine(HBd.out _ bel).mono ?_);rintro e w4 ⟨v,rfl,hx4,hT4,ht4⟩;have HS4:=hdQ ((HS3.out.tr (show Below w3.heap.size w3 _ from bel)).turn ht4 hT4);have hz4:w.heap.size+3<=w4.heap.size:=(by have:=ht4.size;omega);clear hT4 ht4;rcases q0o hx4 with ⟨hz,rfl⟩|⟨hz,et,eu,rfl⟩;(all_goals(have HZ4:=hdQ hz));(all_goals(clear hx4 hz)))
  | (go_at_call 7;(with_reducible refine(HA.out _).monoR ?_);rintro wa hba hca hfa hza;(try simp at hza)))
 rotate_left
 · go_ret
   exact⟨rfl,HS4.out.b.trans ((show Below w4.heap.size w4 _ from bel).mono HS4.out.b.size)⟩
 have hS4:=HS4.out;rw [if_pos HZ4.out] at hS4;have hIl:(bldM l).length=n:=by rw [q1a HZ4.out];exact HL.out.1.1
 obtain⟨I,hI⟩:∃I,bldM l=I:=⟨_,rfl⟩;rw [hI] at hS4 hIl;have HS4' :=hdQ hS4;have HIl:=hdQ hIl;have HGe:=hdQ (hS4.t.get 999999 dE dE)
 have HAn:=hdQ (hS4.t.ans HCl.out.c HLw.out oQ)
 obtain⟨g,hg⟩:∃b,(getK 999999 I).isSome=b:=⟨_,rfl⟩;rw [hg] at HGe;have HG:=hdQ hg;have X0:=hS4.o.cell 0;have X1:=hS4.o.cell 1;have Y0:=hS4.q.cell 0;have Y1:=hS4.q.cell 1;have Y2:=hS4.q.cell 2;have Y3:=hS4.q.cell 3;have Y4:=hS4.q.cell 4;have Y5:=hS4.q.cell 5;have Z0:=hS4.p.cell 0;have Z1:=hS4.p.cell 1;simp only [lAq] at X0 X1 Y0 Y1 Y2 Y3 Y4 Y5 Z0 Z1;have hzw:w.heap.size<w4.heap.size/\w.heap.size+1<w4.heap.size/\w.heap.size+1+1<w4.heap.size:=oQ
 obtain⟨zx,zy,zz⟩:=hzw;clear hI hIl hS4 HS4 HZ4 HBd HN hg HS3 hc1 hf1 hb1 hz1 hcm hfm hbm hzm hc3 hf3 hb3 hz3
 go_wp2_with (first
  | (go_at_call 14;(refine(HGe.out _ bel).mono ?_);rintro e w5 ⟨k5,A5,n5,c5,rfl,hb5⟩;obtain⟨hc5,hf5,hz5⟩:=bc3 hb5;(try simp at hz5);obtain⟨zx5,zy5,zz5⟩:=ol3 w w5;cases g)
  | (go_at_call 7;(with_reducible refine(HA.out _).monoR ?_);rintro wa hba hca hfa hza;(try simp at hza)))
 rotate_left
 · go_ret
   exact⟨rfl,HS4'.out.b.trans ((show Below w4.heap.size w4 _ from bel).mono HS4'.out.b.size)⟩
 have hg:getK 999999 I=none:=by
  have:=HG.out
  cases h:getK 999999 I with
  | none=>rfl
  | some v=>rw [h] at this;cases this
 have hrise:=HS4'.out.t.rise;obtain⟨Q,hQ⟩:∃Q:Qu,Q=⟨qk,⟨⟨q0,q1⟩,q2,q3⟩,ring⟩:=⟨_,rfl⟩;have HPq:Hid (∀W,Below w.heap.size w W->qao W W.heap.size qA qn ring):=fun W hW=>(HL.out.2.2.1.below hW).more hW.size
 have hsr:∀(W0:World) (J:List (Int×Ob)),AnsT W0 tb J->Below w.heap.size w W0->∀W,Below W0.heap.size W0 W->C9 12 #[.pointer (some ⟨tb,0,none⟩),.agg #[.int .i64 qk,.int .i64 q0,.int .i64 q1,.int .i64 q2,.int .i64 q3,.slice qA qn qc]] W fun e w' =>∃A c,e=.returned (.slice A (qdu Q J).length c)/\w'.ownsRow W0.heap.size 3 1 (.slice A (qdu Q J).length c) (qdu Q J).length (idcs (qdu Q J))/\Below W.heap.size W w' :=fun W0 J hA h0 W hW=>by
  refine(hA.srch W hW ⟨qk,⟨⟨q0,q1⟩,q2,q3⟩,ring⟩ qA qn qc oQ (HPq.out W (h0.trans (hW.mono h0.size)))).mono ?_
  rintro e w' ⟨v,rfl,ho,hb⟩;obtain⟨A',c',rfl,_,_,_⟩:=qat ho
  rw [<-hQ] at ho ⊢
  exact⟨A',c',rfl,qa9 ho hW.size,hb⟩
 have hnr:∀(W0:World) (J:List (Int×Ob)),AnsT W0 tb J->∀(k:Nat) W,Below W0.heap.size W0 W->C9 10 #[.pointer (some ⟨tb,0,none⟩),.agg #[.int .i64 x,.int .i64 y],.int .i64 k] W fun e w' =>∃A c,e=.returned (.slice A (qio ⟨x,y⟩ k J).length c)/\w'.ownsRow W0.heap.size 50 4 (.slice A (qio ⟨x,y⟩ k J).length c) (qio ⟨x,y⟩ k J).length (nrVs (qio ⟨x,y⟩ k J))/\Below W.heap.size W w' :=fun W0 J hA k W hW=>by
  refine(hA.near W hW x y k).mono ?_;rintro e w' ⟨v,rfl,ho,hb⟩;obtain⟨A',c',rfl,_,_,_⟩:=qat ho;exact⟨A',c',rfl,qa9 ho hW.size,hb⟩
 have HSR:=hdQ hsr;have HNR:=hdQ hnr;obtain⟨S,hS⟩:∃S,qdu Q I=S:=⟨_,rfl⟩;obtain⟨N,hN⟩:∃N,qio ⟨x,y⟩ (n:Int) I=N:=⟨_,rfl⟩;have hs4:=hsr w4 I HAn.out HS4'.out.b;have hn4:=hnr w4 I HAn.out n;rw [hS] at hs4;rw [hN] at hn4;obtain⟨sl,hsl⟩:∃x,S.length=x:=⟨_,rfl⟩;obtain⟨nl,hnl⟩:∃x,N.length=x:=⟨_,rfl⟩;rw [hsl] at hs4;rw [hnl] at hn4;have HS4S:=hdQ hs4;have HN4N:=hdQ hn4
 have hslen:sl<=60:=by
  rw [<-hsl,<-hS]
  have:=qnx Q I;have:=HIl.out
  omega
 have hnlen:nl<=60:=by
  rw [<-hnl,<-hN]
  have:=qq7 (I:=I) ⟨x,y⟩ (n:Int);have:=HIl.out
  omega
 have HLen:=hdQ (And.intro hslen hnlen);obtain⟨n1,hn1⟩:∃x,n+1=x:=⟨_,rfl⟩;have HPl:=hdQ (And.intro hS (And.intro hN (And.intro hsl (And.intro hnl (And.intro hn1 (And.intro hg hrise))))));clear hsr hnr hs4 hn4 hslen hnlen hS hN hsl hnl hg hrise HAn HG
 go_wp2_with (first
  | (go_at_call 12;(refine(HS4S.out _ bel).mono ?_);rintro e w6 ⟨A6,c6,rfl,ho6,hb6⟩;have HO6:=hdQ ho6;clear ho6;obtain⟨hc6,hf6,hz6⟩:=bc3 hb6;(try simp at hz6);obtain⟨zx6,zy6,zz6⟩:=ol3 w w6)
  | (go_at_call 10;(refine(HN4N.out _ bel).mono ?_);rintro e w7 ⟨A7,c7,rfl,ho7,hb7⟩;have HO7:=hdQ ho7;clear ho7;obtain⟨hc7,hf7,hz7⟩:=bc3 hb7;(try simp at hz7);obtain⟨zx7,zy7,zz7⟩:=ol3 w w7))
 have hB47:Below w4.heap.size w4 w7:=bel;have hO6:=qak HO6.out (qad (show Below w6.heap.size w6 w7 from bel)) sI
 obtain⟨F,hF⟩:∃F:Nat->Prop,F=fun b=>w4.heap.size<=b/\b<w7.heap.size:=⟨_,rfl⟩
 have hS7:GgS w w7 F tb I ok oA on oc ⟨qk,⟨⟨q0,q1⟩,q2,q3⟩,ring⟩ qA qn qc x y:=
  GgS.tr ⟨HS4'.out.t.more fun b q=> .inr (by rw [hF] at q;exact q.1),HS4'.out.o,HS4'.out.q,HS4'.out.p,HS4'.out.b⟩ hB47
 have HS7:=hdQ hS7;have HF7:=hdQ (show ∀b,F b->b<w7.heap.size from fun b q=>by rw [hF] at q;exact q.2)
 have HR7:=hdQ (show w7.ownsRow w4.heap.size 3 1 (.slice A6 sl c6) sl (idcs S)/\w7.ownsRow w4.heap.size 50 4 (.slice A7 nl c7) nl (nrVs N)/\(∀g,(Value.slice A6 sl c6).ownBlock=some g->F g)/\(∀g,(Value.slice A7 nl c7).ownBlock=some g->F g) from ⟨hO6,HO7.out,fun g e=>by rw [hF];exact hO6.lt g e,fun g e=>by rw [hF];exact HO7.out.lt g e⟩)
 have hz47:=hB47.size;obtain⟨J,hJ⟩:∃J,putK 999999 (⟨ok,ol⟩:Ob) I=J:=⟨_,rfl⟩
 have HIn:=hdQ (fun W (hW:Below w7.heap.size w7 W)=>show C9 15 #[.pointer (some ⟨tb,0,none⟩),.int .i64 999999,.agg #[.int .i64 ok,.slice oA on oc]] W fun e w' =>e=.returned .nilIface/\GgS w w' F tb J ok oA on oc ⟨qk,⟨⟨q0,q1⟩,q2,q3⟩,ring⟩ qA qn qc x y/\w'.ownsRow w4.heap.size 3 1 (.slice A6 sl c6) sl (idcs S)/\w'.ownsRow w4.heap.size 50 4 (.slice A7 nl c7) nl (nrVs N)/\W.heap.size<=w'.heap.size from by
  refine(TreS.ins (hS7.t.tr hW) HCl.out (by have:=HIl.out;omega) (fun b q=>zky (HF7.out b q) hW.size) (by have:=hW.size;omega) 999999 w.heap.size on oc ok oA ol (HL.out.2.1.below (hS7.b.trans (hW.mono hS7.b.size))) (zcy hS7.b.size hW.size) oQ).mono ?_
  rintro e w' ⟨v,rfl,hx,hT,ht⟩
  have h0:insO (clsC 1 2 false 0) I 999999 ⟨ok,ol⟩=0:=by
   have hc:=HL.out.2.2.2;unfold insO
   rw [if_neg dE,if_neg oQ,if_neg (by show ¬ ckOb (⟨ok,ol⟩:Ob)≠0;omega),HPl.out.2.2.2.2.2.1]
   rfl
  rw [h0] at hx hT;rw [if_pos rfl,hJ] at hT;obtain rfl:=ErrX.zero hx
  exact⟨rfl,(hS7.tr hW).turn ht hT,qgd (qak HR7.out.1 (qad hW) sI) ht (fun g e q=>q.2 (HR7.out.2.2.1 g e)),qgd (qak HR7.out.2.1 (qad hW) sI) ht (fun g e q=>q.2 (HR7.out.2.2.2 g e)),ht.size⟩)
 have HJ:=hdQ hJ;clear hB47 hO6 hF hS7 hJ HO6 HO7 HS4S HN4N HS4'
 go_wp2_with (go_at_call 15;(refine(HIn.out _ bel).mono ?_);rintro e w8 ⟨rfl,hS8,h68,h78,hz8⟩;have HS8:=hdQ (And.intro hS8 (And.intro h68 h78));clear h68 h78;clear X0 X1 Y0 Y1 Y2 Y3 Y4 Y5 Z0 Z1 hc5 hf5 hb5 hz5 hc6 hf6 hb6 hz6 hc7 hf7 hb7;obtain⟨zx8,zy8,zz8⟩:=ol3 w w8;have X0:=hS8.o.cell 0;have X1:=hS8.o.cell 1;have Y0:=hS8.q.cell 0;have Y1:=hS8.q.cell 1;have Y2:=hS8.q.cell 2;have Y3:=hS8.q.cell 3;have Y4:=hS8.q.cell 4;have Y5:=hS8.q.cell 5;have Z0:=hS8.p.cell 0;have Z1:=hS8.p.cell 1;simp only [lAq] at X0 X1 Y0 Y1 Y2 Y3 Y4 Y5 Z0 Z1)
 have HZ48:=hdQ (show w4.heap.size<=w8.heap.size by omega)
 have HZ78:=hdQ (show w7.heap.size<=w8.heap.size by omega)
 have HZ4:=hdQ hz4;have HFR:=hdQ (And.intro HR7.out.2.2.1 HR7.out.2.2.2);clear hz7 zx zy zz zx5 zy5 zz5 zx6 zy6 zz6 zx7 zy7 zz7
 have hJl:J.length=n1:=by
  rw [<-HJ.out,qpc HPl.out.2.2.2.2.2.1,HIl.out]
  exact HPl.out.2.2.2.2.1
 have hn1' :=HPl.out.2.2.2.2.1;have hA8:=hS8.t.ans HCl.out.c HLw.out oQ
 obtain⟨S1,hS1⟩:∃S,qdu Q J=S:=⟨_,rfl⟩;obtain⟨N1,hN1⟩:∃N,qio ⟨x,y⟩ (n1:Int) J=N:=⟨_,rfl⟩;have hs8:=HSR.out w8 J hA8 hS8.b;have hn8:=HNR.out w8 J hA8 n1;rw [hS1] at hs8;rw [hN1] at hn8;obtain⟨m1,hm1⟩:∃x,S1.length=x:=⟨_,rfl⟩;obtain⟨k1,hk1⟩:∃x,N1.length=x:=⟨_,rfl⟩;rw [hm1] at hs8;rw [hk1] at hn8
 have hm61:m1<=61:=by
  rw [<-hm1,<-hS1]
  have:=qnx Q J
  omega
 have hk61:k1<=61:=by
  rw [<-hk1,<-hN1]
  have:=qq7 (I:=J) ⟨x,y⟩ (n1:Int)
  omega
 have HPF:=hdQ (show S1.filter (fun z=> !decide (z=999999))=S/\decide (999999∈S1)=qa2 ⟨ok,ol⟩ Q/\N1.filter (fun a=> !decide (a.1=999999))=N from by
  obtain⟨hS,hN,_,_,_,hg,hr⟩:=HPl.out
  rw [<-hS1,<-hN1,<-hS,<-hN,<-HJ.out]
  exact⟨qym Q hr hg,q1v Q hr hg,qw2 ⟨x,y⟩ (by have:=HIl.out;omega) (by have:=HIl.out;omega) hr hg⟩)
 have HMt:=hdQ (fun W (hW:Below w8.heap.size w8 W)=>show C9 16 #[.agg #[.int .i64 ok,.slice oA on oc],.agg #[.int .i64 qk,.int .i64 q0,.int .i64 q1,.int .i64 q2,.int .i64 q3,.slice qA qn qc]] W (Ret W (.bool (qa2 ⟨ok,ol⟩ Q))) from by
  have hWW:=HS8.out.1.b.trans (hW.mono HS8.out.1.b.size);have:=qwv w.heap.size on oc qn qc ok qk ⟨⟨q0,q1⟩,q2,q3⟩ oA qA ol ring W (HL.out.2.1.below hWW) (HL.out.2.2.1.below hWW) hWW.size oQ oQ
  rw [<-hQ] at this
  exact this)
 have HS8S:=hdQ hs8;have HN8N:=hdQ hn8;have e1:(n:Int)+1=(n1:Int):=oQ
 have e2:IntKind.i64.wrap (n1:Int)=(n1:Int):=IntWalk.i64_in _ ⟨by omega,by omega⟩
 have HM1:=hdQ (And.intro hm1 hk1);obtain⟨mb0,hmb⟩:∃b,qa2 ⟨ok,ol⟩ Q=b:=⟨_,rfl⟩;rw [hmb] at HMt HPF;clear hJl hn1' hA8 hS1 hN1 hs8 hn8 hm1 hk1 hS8 HIn HS7 HR7 hz47 hmb;obtain⟨i0,hi,iz0,iz1,iz2⟩:=info_parts Tryz.infoIY
 go_wp2_with (go_at_call 12;(refine(HS8S.out _ bel).mono ?_);rintro e w9 ⟨A9,c9,rfl,ho9,hb9⟩;have HO9:=hdQ ho9;clear ho9;obtain⟨hc9,hf9,hz9⟩:=bc3 hb9;(try simp at hz9))
 have X09:=(hc9 _ 0 zx8).trans X0;have X19:=(hc9 _ 1 zx8).trans X1;have Y09:=(hc9 _ 0 zy8).trans Y0;have Y19:=(hc9 _ 1 zy8).trans Y1;have Y29:=(hc9 _ 2 zy8).trans Y2;have Y39:=(hc9 _ 3 zy8).trans Y3;have Y49:=(hc9 _ 4 zy8).trans Y4;have Y59:=(hc9 _ 5 zy8).trans Y5;have Z09:=(hc9 _ 0 zz8).trans Z0;have Z19:=(hc9 _ 1 zz8).trans Z1;have H89:=hdQ (show Below w8.heap.size w8 w9 from bel)
 clear hc9 hf9 X0 X1 Y0 Y1 Y2 Y3 Y4 Y5 Z0 Z1;have hb9' :=hb9;clear hb9;have zx9:w.heap.size<w9.heap.size:=oQ
 have zy9:w.heap.size+1<w9.heap.size:=oQ
 have zz9:w.heap.size+1+1<w9.heap.size:=oQ
 go_loopw [18,15,16] (fun vi vr vm wq=>∃(i rl:Nat) (R:List Int) (Ar:Option Addr) (cr:Nat) (mv:Bool),i<=m1/\vi=.int .i64 i/\vr=.slice Ar rl cr/\vm=.bool mv/\mv=decide (999999∈S1.take i)/\R=(S1.take i).filter (fun z=> !decide (z=999999))/\R.length=rl/\wq.ownsRow w9.heap.size 3 1 (.slice Ar rl cr) rl (idcs R)/\Below w9.heap.size w9 wq) (fun vi _ _ _=>m1-(Go.RowKit.intOf vi).toNat)
 case atStart=>exact ⟨0,0,[],none,0,false,zly _,rfl,rfl,rfl,by simp,by simp,rfl,World.ownsRow_nil _ _ _ _,Below.refl _ _⟩
 case round=>
  obtain⟨i,rl,R,Ar,cr,mv,him,rfl,rfl,rfl,hmv,hR,hrl,hrow,hb⟩:=hrel;obtain⟨hcr,hfr,hzr⟩:=bc3 hb
  by_cases hlt:i<m1
  case pos=>
   have hltI:(i:Int)<(m1:Int):=oQ
   obtain⟨z,hz⟩:∃z,S1[i]? =some z:=⟨S1[i]'(by rw [HM1.out.1];exact hlt),zby _⟩
   obtain⟨b,rfl,hbl,r0⟩:=qpu (qak HO9.out (qad hb) sI) hz
   have hi60:rl<=60:=by
    rw [<-hrl,hR]
    have:=qjk (fun z=> !decide (z=(999999:Int))) S1 i
    omega
   have hft:=qrt (p:=fun z=> !decide (z=(999999:Int))) hz
   have hmt:=q21 (id:=999999) hz;rw [<-hR] at hft;rw [<-hmv] at hmt;have HRow:=hdQ hrow;have HB:=hdQ hb;have HRl:=hdQ hrl
   by_cases hz9' :z=999999
   · subst hz9'
     have HX:=hdQ (show (S1.take (i+1)).filter (fun z=> !decide (z=(999999:Int)))=R from by rw [hft];simp)
     have HX2:=hdQ (show true=decide ((999999:Int)∈S1.take (i+1)) from by rw [hmt];simp)
     clear hft hmt hrow hb hR hmv hz hrl;go_wp2_with fail
     go_roundw
     case rel=>exact ⟨i+1,rl,R,Ar,cr,true,by omega,by go_num,rfl,rfl,HX2.out,HX.out.symm,HRl.out,HRow.out,HB.out⟩
     case measure=>simp [Go.RowKit.intOf];omega
   · have hze:(z==999999)=false:=by rw [beq_eq_false_iff_ne];exact hz9'
     have HX:=hdQ (show (S1.take (i+1)).filter (fun z=> !decide (z=(999999:Int)))=R++ [z] from by rw [hft];simp [hz9'])
     have HX2:=hdQ (show mv=decide ((999999:Int)∈S1.take (i+1)) from by rw [hmt];simp [hz9'])
     clear hft hmt hrow hb hR hmv hz hrl hz9'
     go_wp2_with (at_builtin;go_must (refine wpList_append_own _ rfl _ _ 39 rfl w9.heap.size 3 i0 (.int .i64 0) 1 8 Tryz.underlying39 hi iz0 iz1 iz2 rfl dE _ _ _ rfl (HRow.out.alloc _) ⟨wr.heap.size,0,none⟩ 1 1 [.int .i64 z] rfl rfl qs6 (qhy [z]) ?c3 ?c4 ?c5 ?_))
     case c3=>unfold maxLen;omega
     case c4=>omega
     case c5=>first|omega|(simp;omega)
     intro v10 w10 hown10 hg10 _;obtain⟨A10,c10,rfl,_,_,_⟩:=qat hown10;have hal:Below w9.heap.size w9 (wr.alloc (.cells #[.int .i64 z] 3)):=HB.out.alloc HB.out.size _;have HB10:=hdQ (hal.grown hg10 (by simp;omega) (fun k e=>(HRow.out.lt k e).1))
     have HR10:=hdQ (show w10.ownsRow w9.heap.size 3 1 (.slice A10 (rl+1) c10) (rl+1) (idcs (R++ [z])) from by
      unfold idcs
      rw [zfx]
      exact hown10)
     clear hown10 hg10 hal;go_wp2_with fail
     go_roundw
     case rel=>exact ⟨i+1,rl+1,R++ [z],A10,c10,mv,by omega,by go_num,rfl,rfl,HX2.out,HX.out.symm,by rw [zny,HRl.out];rfl,HR10.out,HB10.out⟩
     case measure=>simp [Go.RowKit.intOf];omega
  obtain rfl:m1=i:=oQ
  rw [zmy (by rw [HM1.out.1];exact zhy _)] at hR hmv
  obtain rfl:R=S:=hR.trans HPF.out.1;obtain rfl:mv=mb0:=hmv.trans HPF.out.2.1;obtain rfl:rl=sl:=hrl.symm.trans HPl.out.2.2.1;have h8r:Below w8.heap.size w8 wr:=H89.out.trans (hb.mono H89.out.size);have HIs:=hdQ (fun W (hW:Below wr.heap.size wr W)=>show C9 17 #[.slice Ar rl cr,.slice A6 rl c6] W (Ret W (.bool true)) from qvs R W (qak hrow (qad hW) sI) (qak HS8.out.2.1 (qad (h8r.trans (hW.mono h8r.size))) sI) (by have:=HLen.out.1;omega))
  have HN8r:=hdQ (fun W (hW:Below wr.heap.size wr W)=>HN8N.out W (h8r.trans (hW.mono h8r.size)))
  have HMr:=hdQ (fun W (hW:Below wr.heap.size wr W)=>HMt.out W (h8r.trans (hW.mono h8r.size)))
  have H8R:=hdQ h8r;clear hmv hR hrl hrow hb h8r hlt him;obtain⟨j0,hj,jz0,jz1,jz2⟩:=info_parts Tryz.infoNrF;have zxr:w.heap.size<wr.heap.size:=oQ
  have zyr:w.heap.size+1<wr.heap.size:=oQ
  have zzr:w.heap.size+1+1<wr.heap.size:=oQ
  go_wp2_with (first
   | (go_at_call 16;(refine(HMr.out _ bel).monoR ?_);rintro wx hbx hcx hfx hzx;(try simp at hzx);have zzx:w.heap.size+1+1<wx.heap.size:=oQ)
   | (go_at_call 17;(refine(HIs.out _ bel).monoR ?_);rintro ws hbs hcs hfs hzs;(try simp at hzs);have zzs:w.heap.size+1+1<ws.heap.size:=oQ)
   | (go_at_call 10;(refine(HN8r.out _ bel).mono ?_);rintro e w11 ⟨A11,c11,rfl,ho11,hb11⟩;have HO11:=hdQ ho11;clear ho11;have H811:=hdQ (H8R.out.trans ((show Below wr.heap.size wr w11 from bel).mono H8R.out.size));obtain⟨hc11,hf11,hz11⟩:=bc3 hb11;(try simp at hz11)))
  have h811:=H811.out;clear hcr hfr hzr X09 X19 Y09 Y19 Y29 Y39 Y49 Y59 Z09 Z19 hcx hfx hbx hzx hcs hfs hbs hzs hc11 hf11 hb11 hb9'
  go_loopw [21,19] (fun vi vr wq=>∃(i rl:Nat) (R:List Nr) (Ar:Option Addr) (cr:Nat),i<=k1/\vi=.int .i64 i/\vr=.slice Ar rl cr/\R=(N1.take i).filter (fun a=> !decide (a.1=999999))/\R.length=rl/\wq.ownsRow w11.heap.size 50 4 (.slice Ar rl cr) rl (nrVs R)/\Below w11.heap.size w11 wq) (fun vi _ _=>k1-(Go.RowKit.intOf vi).toNat)
  case atStart=>exact ⟨0,0, [],none,0,zly _,rfl,rfl,by simp,rfl,World.ownsRow_nil _ _ _ _,Below.refl _ _⟩
  case round=>
   obtain⟨i,ql,R2,Aq,cq,him,rfl,rfl,hR,hrl,hrow,hb⟩:=hrel;have hzr:=hb.size
   by_cases hlt:i<k1
   case pos=>
    have hltI:(i:Int)<(k1:Int):=oQ
    obtain⟨z,hz⟩:∃z,N1[i]? =some z:=⟨N1[i]'(by rw [HM1.out.2];exact hlt),zby _⟩
    obtain⟨b,off,rfl,hbl,r0,r1,r2,r3⟩:=q2y ((qfi HO11.out rfl).kept (qad hb) sI) hz
    have hi60:ql<=60:=by
     rw [<-hrl,hR]
     have:=qjk (fun a:Nr=> !decide (a.1=(999999:Int))) N1 i
     omega
    have hft:=qrt (p:=fun a:Nr=> !decide (a.1=(999999:Int))) hz
    rw [<-hR] at hft;have HRow:=hdQ hrow;have HB:=hdQ hb;have HRl:=hdQ hrl
    by_cases hz9' :z.1=999999
    · have HX:=hdQ (show (N1.take (i+1)).filter (fun a:Nr=> !decide (a.1=(999999:Int)))=R2 from by rw [hft];simp [hz9'])
      rw [hz9'] at r0;clear hft hrow hb hR hz hrl hz9' r1 r2 r3;go_wp2_with fail
      go_roundw
      case rel=>exact ⟨i+1,ql,R2,Aq,cq,by omega,by go_num,rfl,HX.out.symm,HRl.out,HRow.out,HB.out⟩
      case measure=>simp [Go.RowKit.intOf];omega
    · have hze:(z.1==999999)=false:=by rw [beq_eq_false_iff_ne];exact hz9'
      have HX:=hdQ (show (N1.take (i+1)).filter (fun a:Nr=> !decide (a.1=(999999:Int)))=R2++ [z] from by rw [hft];simp [hz9'])
      have hE:nrV z= [.int .i64 z.1,.int .u64 ((z.2.num/18446744073709551616:Nat):Int),.int .u64 ((z.2.num%18446744073709551616:Nat):Int),.int .u64 (z.2.den:Int)]:=rfl;obtain⟨zi,hzi⟩:∃x,z.1=x:=⟨_,rfl⟩;obtain⟨zh,hzh⟩:∃x,z.2.num/18446744073709551616=x:=⟨_,rfl⟩;obtain⟨zl,hzl⟩:∃x,z.2.num%18446744073709551616=x:=⟨_,rfl⟩;obtain⟨zd,hzd⟩:∃x,z.2.den=x:=⟨_,rfl⟩;rw [hzi,hzh,hzl,hzd] at hE;rw [hzi] at r0 hze;rw [hzh] at r1;rw [hzl] at r2;rw [hzd] at r3;have HE:=hdQ hE;clear hft hrow hb hR hz hrl hz9' hE hzi hzh hzl hzd
      go_wp2_with (at_builtin;go_must (refine wpList_append_own _ rfl _ _ 36 rfl w11.heap.size 50 j0 (.agg #[.int .i64 0,.int .u64 0,.int .u64 0,.int .u64 0]) 4 32 Tryz.underlying36 hj jz0 jz1 jz2 rfl dE _ _ _ rfl (HRow.out.alloc _) ⟨wr.heap.size,0,none⟩ 1 1 [.int .i64 zi,.int .u64 (zh:Int),.int .u64 (zl:Int),.int .u64 (zd:Int)] rfl rfl qpx qmw ?c3 ?c4 ?c5 ?_))
      case c3=>unfold maxLen;omega
      case c4=>omega
      case c5=>first|omega|(simp;omega)
      intro v12 w12 hown12 hg12 _;obtain⟨A12,c12,rfl,_,_,_⟩:=qat hown12;have hal:Below w11.heap.size w11 (wr.alloc (.cells #[.int .i64 zi,.int .u64 (zh:Int),.int .u64 (zl:Int),.int .u64 (zd:Int)] 50)):=HB.out.alloc HB.out.size _;have HB12:=hdQ (hal.grown hg12 (by simp;omega) (fun k e=>(HRow.out.lt k e).1))
      have HR12:=hdQ (show w12.ownsRow w11.heap.size 50 4 (.slice A12 (ql+1) c12) (ql+1) (nrVs (R2++ [z])) from by
       rw [qin,show nrVs [z]=nrV z++ [] from rfl,List.append_nil,HE.out]
       exact hown12)
      clear hown12 hg12 hal;go_wp2_with fail
      go_roundw
      case rel=>exact ⟨i+1,ql+1,R2++ [z],A12,c12,by omega,by go_num,rfl,HX.out.symm,by rw [zny,HRl.out];rfl,HR12.out,HB12.out⟩
      case measure=>simp [Go.RowKit.intOf];omega
   obtain rfl:k1=i:=oQ
   rw [zmy (by rw [HM1.out.2];exact zhy _)] at hR
   obtain rfl:R2=N:=hR.trans HPF.out.2.2;obtain rfl:ql=nl:=hrl.symm.trans HPl.out.2.2.2.1;have h8r:Below w8.heap.size w8 wr:=H811.out.trans (hb.mono H811.out.size);have hNl:=HPl.out.2.2.2.1
   have HSn:=hdQ (fun(A1:Option Addr) (c1:Nat) (W1 W2 W:World) (h1:W1.ownsRow w4.heap.size 50 4 (.slice A1 ql c1) ql (nrVs R2)) (A2:Option Addr) (c2:Nat) (h2:W2.ownsRow w4.heap.size 50 4 (.slice A2 ql c2) ql (nrVs R2)) (hW1:Below W1.heap.size W1 W) (hW2:Below W2.heap.size W2 W)=>show C9 11 #[.slice A1 ql c1,.slice A2 ql c2] W (Ret W (.bool true)) from by
    have:=qkl A1 A2 c1 c2 R2 _ _ W ((qfi h1 rfl).kept (qad hW1) sI) ((qfi h2 rfl).kept (qad hW2) sI) (by have:=HLen.out.2;omega)
    rw [hNl] at this
    exact this)
   have hSr:=HS8.out.1.tr h8r;have HRr:=hdQ (And.intro (qa9 hrow (zcy HZ48.out h811.size)) (And.intro (qak HS8.out.2.1 (qad h8r) sI) (qak HS8.out.2.2 (qad h8r) sI)))
   have HSrr:=hdQ hSr
   have HDl:=hdQ (fun W (hW:Below wr.heap.size wr W)=>show C9 18 #[.pointer (some ⟨tb,0,none⟩),.int .i64 999999] W fun e w' =>e=.returned .nilIface/\GgS w w' F tb I ok oA on oc ⟨qk,⟨⟨q0,q1⟩,q2,q3⟩,ring⟩ qA qn qc x y/\w'.ownsRow w4.heap.size 3 1 (.slice A6 rl c6) rl (idcs R)/\w'.ownsRow w4.heap.size 50 4 (.slice A7 ql c7) ql (nrVs R2)/\W.heap.size<=w'.heap.size from by
    have hzW:w8.heap.size<=W.heap.size:=by have:=hW.size;have:=h8r.size;omega
    refine(TreS.del (hSr.t.tr hW) HCl.out (by rw [<-HJ.out,qpc HPl.out.2.2.2.2.2.1,HIl.out];omega) (fun b q=>by have:=HF7.out b q;have:=HZ78.out;omega) (by have:=HZ48.out;have:=HZ4.out;omega) 999999 ⟨by decide,by decide⟩).mono ?_
    rintro e w' ⟨v,rfl,hx,hT,ht⟩
    rw [<-HJ.out,show (getK 999999 (putK 999999 (⟨ok,ol⟩:Ob) I)).isSome=true from by rw [get_put HPl.out.2.2.2.2.2.2,if_pos rfl];rfl,if_pos rfl] at hx
    rw [<-HJ.out,qvz HPl.out.2.2.2.2.2.2 HPl.out.2.2.2.2.2.1] at hT;obtain rfl:=ErrX.zero hx
    exact⟨rfl,(hSr.tr hW).turn ht hT,qgd (qak HRr.out.2.1 (qad hW) sI) ht (fun g e q=>q.2 (HFR.out.1 g e)),qgd (qak HRr.out.2.2 (qad hW) sI) ht (fun g e q=>q.2 (HFR.out.2 g e)),ht.size⟩)
   have HZ4r:=hdQ (zcy HZ48.out h8r.size);clear hR hrl hrow hb h8r hNl hSr hlt him h811 hzr
   go_wp2_with (first
    | (go_at_call 18;(refine(HDl.out _ bel).mono ?_);rintro e w13 ⟨rfl,hS13,h613,h713,hz13⟩;have HZ413:=hdQ (zcy HZ4r.out (zcy (Below.size (B:=wr.heap.size) (w:=wr) bel) hz13));have HS13:=hdQ (And.intro hS13 (And.intro h613 h713));have hA13:=hS13.t.ans HCl.out.c HLw.out (by have:=HIl.out;omega);have hsr13:=HSR.out w13 I hA13 hS13.b;have hnr13:=HNR.out w13 I hA13 n;(rw [HPl.out.1,HPl.out.2.2.1] at hsr13);(rw [HPl.out.2.1,HPl.out.2.2.2.1] at hnr13);have HSr13:=hdQ hsr13;have HNr13:=hdQ hnr13;have zy13:w.heap.size+1<w13.heap.size:=hS13.q.lt;have zz13:w.heap.size+1+1<w13.heap.size:=hS13.p.lt;have Y0:=hS13.q.cell 0;have Y1:=hS13.q.cell 1;have Y2:=hS13.q.cell 2;have Y3:=hS13.q.cell 3;have Y4:=hS13.q.cell 4;have Y5:=hS13.q.cell 5;have Z0:=hS13.p.cell 0;have Z1:=hS13.p.cell 1;simp only [lAq] at Y0 Y1 Y2 Y3 Y4 Y5 Z0 Z1;clear h613 h713 hA13 hsr13 hnr13)
    | (go_at_call 12;(refine(HSr13.out _ bel).mono ?_);rintro e w14 ⟨A14,c14,rfl,ho14,hb14⟩;have HI14:=hdQ (fun W (hW:Below w14.heap.size w14 W)=>show C9 17 #[.slice A14 rl c14,.slice A6 rl c6] W (Ret W (.bool true)) from qvs R W (qak ho14 (qad hW) sI) (qak HS13.out.2.1 (qad ((show Below w13.heap.size w13 w14 from bel).trans (hW.mono (by have:=hb14.size;omega)))) sI) (by have:=HLen.out.1;omega));clear ho14;obtain⟨hc14,hf14,hz14⟩:=bc3 hb14;(try simp at hz14);have zz14:w.heap.size+1+1<w14.heap.size:=oQ)
    | (go_at_call 17;(refine(HI14.out _ bel).monoR ?_);rintro wi hbi hci hfi hzi;(try simp at hzi);have zzi:w.heap.size+1+1<wi.heap.size:=oQ)
    | (go_at_call 10;go_loud ((refine(HNr13.out _ bel).mono ?_);rintro e w15 ⟨A15,c15,rfl,ho15,hb15⟩;have HO15:=hdQ (qa9 ho15 HZ413.out);clear ho15;obtain⟨hc15,hf15,hz15⟩:=bc3 hb15;(try simp at hz15)))
    | (go_at_call 11;(have _q:=HO15);(refine(HSn.out _ _ w15 w13 _ HO15.out _ _ HS13.out.2.2 bel bel).monoR ?_);rintro wu hbu hcu hfu hzu;(try simp at hzu))
    | (go_at_call 11;(refine(HSn.out _ _ wr wr _ HRr.out.1 _ _ HRr.out.2.2 bel bel).monoR ?_);rintro wv hbv hcv hfv hzv;(try simp at hzv))
    | (go_at_call 7;(with_reducible refine(HA.out _).monoR ?_);rintro wa hba hca hfa hza;(try simp at hza)))
   go_ret;exact⟨rfl,HS13.out.1.b.trans ((show Below w13.heap.size w13 _ from bel).mono HS13.out.1.b.size)⟩
theorem qpw (n c on oc qn qc:Nat) (A oA qA:Option Addr) (l:List (Int×Ob)) (ok:Int) (ol:List Pt) (q:Qu) (x y:Int) (w:World) (hl:qew w w.heap.size A n l) (ho:qao w w.heap.size oA on ol) (h:(decide ((60:Int)<(n:Int))||!(decide (on<=64)&&decide (ckOb ⟨ok,ol⟩=0))||decide ((70:Int)<(qn:Int)))=true):
 C9 4 #[.slice A n c,obV ok oA on oc,quV q.kind q.box qA qn qc,ptV x y] w (Ret w (.bool true)):=by
 have HA:=hdQ qg6;obtain⟨b1,d1⟩:∃b,decide ((60:Int)<(n:Int))=b:=⟨_,rfl⟩;obtain⟨b2,d2⟩:∃b,(decide (on<=64)&&decide (ckOb ⟨ok,ol⟩=0))=b:=⟨_,rfl⟩;obtain⟨b3,d3⟩:∃b,decide ((70:Int)<(qn:Int))=b:=⟨_,rfl⟩;rw [d1,d2,d3] at h
 have HMy:=hdQ (fun W (hW:Below w.heap.size w W)=>show C9 13 #[obV ok oA on oc] W (Ret W (.bool b2)) from by
  have:=qrd w.heap.size on oc ok oA ol W (ho.below hW) hW.size;rw [d2] at this
  exact this)
 clear d2 ho;obtain⟨qk,⟨⟨q0,q1⟩,q2,q3⟩,ring⟩:=q
 simp only [obV,quV,ptV] at*
 cases b1 with
 | true=>
   clear h hl HMy
   go_enter Tryz.func4,Tryz.ntmps4
   go_wp2_with (go_at_call 7;(with_reducible refine(HA.out _).monoR ?_);rintro wa hba hca hfa hza;(try simp at hza))
   go_ret;exact⟨rfl,bel⟩
 | false=>
   have hn:n<=60:=by have:=of_decide_eq_false d1;omega
   have HIt:=hdQ (fun W (hW:Below w.heap.size w W)=>qji w.heap.size n c 600 A l W (hl.below hW) hW.size oQ dE)
   clear hl
   have hs:b2=false\/(b2=true/\b3=true):=by
    revert h
    cases b2<;>cases b3<;>simp
   clear h
   rcases hs with rfl|⟨rfl,rfl⟩
   all_goals(
    go_enter Tryz.func4,Tryz.ntmps4
    go_wp2_with (first
     | (go_at_call 5;(refine(HIt.out _ bel).mono ?_);rintro e w1 ⟨t1,rfl,hs1,hb1⟩;clear hs1;obtain⟨hc1,hf1,hz1⟩:=bc3 hb1;(try simp at hz1);obtain⟨hy10,hy11⟩:=ol2 w w1;obtain⟨b4,d4⟩:∃b,decide ((600:Int)<(t1:Int))=b:=⟨_,rfl⟩;cases b4)
     | (go_at_call 13;(refine(HMy.out _ bel).monoR ?_);rintro wm hbm hcm hfm hzm;(try simp at hzm);obtain⟨hym0,hym1,hym2⟩:=ol3 w wm)
     | (go_at_call 7;(with_reducible refine(HA.out _).monoR ?_);rintro wa hba hca hfa hza;(try simp at hza)))
    all_goals(go_ret;exact⟨rfl,bel⟩))
theorem gistGrows_walk (n c on oc qn qc:Nat) (A oA qA:Option Addr) (l:List (Int×Ob)) (ok:Int) (ol:List Pt) (q:Qu) (x y:Int) (w:World) (hl:qew w w.heap.size A n l) (ho:qao w w.heap.size oA on ol) (hq:qao w w.heap.size qA qn q.ring):
 C9 4 #[.slice A n c,obV ok oA on oc,quV q.kind q.box qA qn qc,ptV x y] w (Ret w (.bool true)):=by
 by_cases h:(decide ((60:Int)<(n:Int))||!(decide (on<=64)&&decide (ckOb ⟨ok,ol⟩=0))||decide ((70:Int)<(qn:Int)))=true
 · exact qpw n c on oc qn qc A oA qA l ok ol q x y w hl ho h
 · simp only [Bool.or_eq_true,Bool.not_eq_true',Bool.and_eq_false_imp,decide_eq_true_eq,decide_eq_false_iff_not,not_or,Classical.not_imp,Decidable.not_not] at h
   obtain⟨⟨h1,h2,h3⟩,h4⟩:=h;exact qro n c on oc qn qc A oA qA l ok ol q x y w hl ho hq oQ h2 h3 oQ
end Go.Proofs.YtjopdlmbgidigaaGreat
