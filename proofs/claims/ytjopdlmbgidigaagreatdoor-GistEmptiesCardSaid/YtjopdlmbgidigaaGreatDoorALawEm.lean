/-pergolalaw17: the walk of GistEmpties.-/
import Derived.Test.YtjopdlmbgidigaaGreatDoorALawGb
import Derived.Test.YtjopdlmbgidigaaGreatDoorAPlainEm
set_option linter.unusedVariables false
set_option linter.unusedSimpArgs false
set_option maxHeartbeats 8000000
set_option maxRecDepth 20000
namespace Go.Proofs.YtjopdlmbgidigaaGreatDoor
open Go Go.RowKit Pg
section
variable {C:Cl} {cl:Value} {B:Nat} {F:Nat->Prop} {w:World} {tb fan:Nat} {I:List (Int×Ob)}
theorem TreS.set (h:TreS C cl B F w tb fan I) {g k:Nat} (hg:F g) (v:Value):TreS C cl B F (w.setCell ⟨g,k,none⟩ v) tb fan I:=by
 obtain⟨own,imm,mb,t,hG,hf,ho,hs⟩:=h;exact⟨own,imm,mb,t,{hG with lay:=hG.lay.kept (qcb w ⟨g,k,none⟩ v) fun x e=>by cases e;exact⟨fun q=>(hs g (.inl q)).2 hg,fun q=>(hs g (.inr q)).2 hg⟩},hf,ho,hs⟩
end
theorem qs2 {tb:Nat} {w:World} (h:∀W,Below w.heap.size w W->C9 9 #[gP tb] W (Ret W (.int .i64 0))):C9 18 #[gP tb] w (Ret w (.int .i64 0)):=by
 have HL:=hdQ h;clear h
 simp only [gP] at*
 go_enter Tryz.func18,Tryz.ntmps18
 go_wp2_with (go_at_call 9;(refine(HL.out _ bel).monoR ?_);rintro wn hbn hcn hfn hzn;(try simp at hzn))
 go_ret;exact⟨rfl,bel⟩
theorem qxo (k:Nat) (h:k<=1000000):IntKind.i64.wrap (k:Int)=(k:Int):=IntWalk.i64_in _ ⟨by omega,by omega⟩
theorem q45 {f:Nat->Bool} {n j:Nat} (h:j<n):(ocl f n)[j]? =some (.bool (f j)):=by simp [ocl,h]
theorem q51 {w:World} {g n k:Nat} {t:TypeId} {s:Nat->Bool} (h:Blk w g t (ocl s n).toArray) (hk:k<n):w.cell? ⟨g,k,none⟩=some (.bool (s k)):=by
 rw [h.cell]
 simp only [lta]
 exact q45 hk
theorem qm1 (n fan step:Nat) (hn:n<=150) (h4:4<=fan) (h16:fan<=16) (hs1:1<=step) (hs2:step<=1000) (w:World) (hT:ErrT w):C9 4 #[.int .i64 n,.int .i64 fan,.int .i64 step] w (Ret w (.bool true)):=by
 have HA:=hdQ qgl;have HTw:=hdQ (fun W (hW:Below w.heap.size w W)=>hT.tr hW)
 have d1:decide ((n:Int)<0)=false:=by rw [decide_eq_false_iff_not];omega
 have d2:decide ((150:Int)<(n:Int))=false:=by rw [decide_eq_false_iff_not];omega
 have d3:decide ((fan:Int)<4)=false:=by rw [decide_eq_false_iff_not];omega
 have d4:decide ((16:Int)<(fan:Int))=false:=by rw [decide_eq_false_iff_not];omega
 have d5:decide ((step:Int)<1)=false:=by rw [decide_eq_false_iff_not];omega
 have d6:decide ((1000:Int)<(step:Int))=false:=by rw [decide_eq_false_iff_not];omega
 have HN:=hdQ (fun W=>qoq 34 (clV 3 0 false 0) fan h4 h16 W)
 have HFan:=hdQ (And.intro h4 h16);obtain⟨fM,fC,fD,fU,fS,fP,hCl⟩:=qu7 3 0 false 0 dE
 have HCl:=hdQ hCl;have HLw:=hdQ (qnn 3 0 false);clear hCl hT h4 h16
 go_enter Tryz.func4,Tryz.ntmps4
 go_wp2_with (go_at_call 7;(refine(HN.out _).mono ?_);rintro e w1 ⟨tb,mb,r,own1,rfl,hL1,hown1,hb1⟩;have HT1:=hdQ (show TreS (clsC 3 0 false 0) cl17 w.heap.size (fun _=>False) w1 tb fan [] from TreS.new hL1 HFan.out.1 HFan.out.2 fun b q=>zcy (bsy w) (hown1 b q));clear hL1 hown1;have HB1:=hdQ (show Below w.heap.size w w1 from bel);obtain⟨hc1,hf1,hz1⟩:=bc3 hb1;(try simp at hz1))
 clear hc1 hf1 hb1
 simp only [gP] at*
 go_loopw [9] (fun vi wr=>∃i:Nat,i<=n/\vi=.int .i64 i/\TreS (clsC 3 0 false 0) cl17 w.heap.size (fun _=>False) wr tb fan (qgi i)/\Below w.heap.size w wr) (fun vi _=>n-(Go.RowKit.intOf vi).toNat)
 case atStart=>exact ⟨0,zly _,rfl,HT1.out,HB1.out⟩
 case round=>
  obtain⟨i,hin,rfl,hT,hb⟩:=hrel;have HTr:=hdQ hT;have HB:=hdQ hb;have hws:=hb.size
  by_cases hlt:i<n
  case pos=>
   have hn0:(i:Int)<(n:Int):=oQ
   obtain⟨a37,h37⟩:∃x,37*i=x:=⟨_,rfl⟩;obtain⟨a91,h91⟩:∃x,91*i=x:=⟨_,rfl⟩;have p1:(37:Int)*(i:Int)=(a37:Int):=oQ
   have p2:(91:Int)*(i:Int)=(a91:Int):=oQ
   have w1:=qxo a37 oQ
   have w2:=qxo a91 oQ
   have HSh:=hdQ (fun W=>qvq (i:Int) (a37:Int) (a91:Int) (i:Int) W)
   have hse:qpw (i:Int) (a37:Int) (a91:Int) (i:Int)=shpE i:=by subst h37 h91;rfl
   rw [hse] at HSh
   have HIn:=hdQ (fun(g m:Nat) (W0 W:World) (hp:qan W0 W0.heap.size (some ⟨g,0,none⟩) m (shpE i).pts) (hm:m<=4) (hW0:Below wr.heap.size wr W0) (hW:Below W0.heap.size W0 W)=>show C9 11 #[.pointer (some ⟨tb,0,none⟩),.int .i64 i,obV (shpE i).kind (some ⟨g,0,none⟩) m m] W fun e w' =>e=.returned .nilIface/\TreS (clsC 3 0 false 0) cl17 w.heap.size (fun _=>False) w' tb fan (qgi (i+1))/\Below w.heap.size w w' from by
    have hWW:Below wr.heap.size wr W:=hW0.trans (hW.mono hW0.size);refine(TreS.ins (HTr.out.tr hWW) HCl.out (by rw [qqs];omega) (fun _ q=>q.elim) (zcy HB.out.size hWW.size) (i:Int) W0.heap.size m m (shpE i).kind _ (shpE i).pts (hp.below hW) hW.size oQ).mono ?_
    rintro e w' ⟨v,rfl,hx,hT',ht⟩
    rw [show insO (clsC 3 0 false 0) (qgi i) (i:Int) ⟨(shpE i).kind,(shpE i).pts⟩=0 from qzy oQ] at hx hT'
    rw [if_pos rfl,show putK (i:Int) (⟨(shpE i).kind,(shpE i).pts⟩:Ob) (qgi i)=qgi (i+1) from qwn i] at hT'
    obtain rfl:=ErrX.zero hx
    exact⟨rfl,hT',qeq (HB.out.trans (hWW.mono HB.out.size)) ht (zhy _)⟩)
   clear hT hb h37 h91 hse
   simp only [obV] at*
   go_wp2_with (first
    | (go_at_call 17;(refine(HSh.out _).mono ?_);rintro e w2 ⟨g,m,rfl,hp2,hm2,hb2⟩;have HP2:=hdQ (And.intro hp2 hm2);clear hp2 hm2;obtain⟨hc2,hf2,hz2⟩:=bc3 hb2;(try simp at hz2))
    | (go_at_call 11;(refine(HIn.out _ _ w2 _ HP2.out.1 HP2.out.2 bel bel).mono ?_);rintro e w3 ⟨rfl,hT3,hb3⟩;have HT3:=hdQ (And.intro hT3 hb3);clear hT3 hb3))
   go_roundw
   case rel=>exact ⟨i+1,by omega,by go_num,HT3.out.1,HT3.out.2⟩
   case measure=>simp [Go.RowKit.intOf];omega
  case neg=>
   obtain rfl:n=i:=oQ
   clear hT hlt hin;have HM' :∀w:World,(Instr.makeSlice 46 (.int .i64 (n:Int)) (.int .i64 (n:Int))).run Tryz.prog w=.ok (.slice (some ⟨w.heap.size,0,none⟩) n n) (w.alloc (.cells (ocl (fun _=>false) n).toArray 4)):=qzk n oQ
   go_wp2_with fail;obtain⟨g,hg⟩:∃g,wr.heap.size=g:=⟨_,rfl⟩
   rw [hg]
   obtain⟨F,hF⟩:∃F:Nat->Prop,F=fun b=>b=g:=⟨_,rfl⟩
   have HF:Hid (F g/\∀b,F b->b=g):=by rw [hF];exact⟨rfl,fun _ q=>q⟩
   have hTF:TreS (clsC 3 0 false 0) cl17 w.heap.size F wr tb fan (qgi n):=HTr.out.more fun b q=> .inr (by rw [HF.out.2 b q,hg];exact zhy _)
   refine qdn (fun W=>TreS (clsC 3 0 false 0) cl17 w.heap.size F W tb fan (qgi n)/\Blk W g 4 (ocl (fun _=>false) n).toArray/\Below w.heap.size w W) ⟨hTF.tr ((Below.refl _ _).alloc (zhy _) _),by subst hg;exact blkA,hb.trans ((Below.refl _ _).alloc hws _)⟩ ?_
   clear hTF HM' HTr HB hb;rintro w4 ⟨hT4,hG4,hb4⟩;have hgl4:=hG4.lt;have HG:=hdQ (show w.heap.size<=g by omega)
   go_loopw [12,11] (fun vi va wq=>∃(i a:Nat) (I:List (Int×Ob)) (s:Nat->Bool),i<=n/\vi=.int .i64 i/\va=.int .i64 a/\a<=n/\EmpS I s n/\I.length+i=n/\TreS (clsC 3 0 false 0) cl17 w.heap.size F wq tb fan I/\Blk wq g 4 (ocl s n).toArray/\Below w.heap.size w wq) (fun vi _ _=>n-(Go.RowKit.intOf vi).toNat)
   case atStart=>exact ⟨0,0,qgi n,fun _=>false,zly _,rfl,rfl,zly _,EmpS.start n,by rw [qqs];rfl,hT4,hG4,hb4⟩
   case round=>
    clear hT4 hG4 hb4 hgl4;obtain⟨i,a,I,s,hin,rfl,rfl,han,hE,hIl,hTq,hGq,hbq⟩:=hrel
    by_cases hlt:i<n
    case neg=>
     obtain rfl:n=i:=oQ
     obtain rfl:I= []:=zbx oQ
     have HLn:=hdQ (fun W (hW:Below _ _ W)=>hTq.len W hW)
     have HDe:=hdQ (fun W (hW:Below _ _ W)=>qs2 (tb:=tb) (w:=W) fun W' hW' =>hTq.len W' (hW.trans (hW'.mono hW.size)))
     have HIt:=hdQ (hTq.its (n:=0) dE rfl)
     have HBq:=hdQ hbq;clear hE hTq hGq hbq hIl han
     simp only [gP] at*
     go_wp2_with (first
      | (go_at_call 9;(refine(HLn.out _ bel).monoR ?_);rintro wn hbn hcn hfn hzn;(try simp at hzn))
      | (go_at_call 18;(refine(HDe.out _ bel).monoR ?_);rintro wd hbd hcd hfd hzd;(try simp at hzd))
      | (go_at_call 10;(refine(HIt.out _ bel).mono ?_);rintro e w8 ⟨A8,c8,L8,rfl,_,_,_,hb8⟩;obtain⟨hc8,hf8,hz8⟩:=bc3 hb8;(try simp at hz8))
      | (go_at_call 6;(with_reducible refine(HA.out _).monoR ?_);rintro wa hba hca hfa hza;(try simp at hza)))
     go_ret;exact⟨rfl,HBq.out.trans ((show Below wr.heap.size wr _ from bel).mono HBq.out.size)⟩
    have hI0:0<I.length:=oQ
    obtain⟨f,hfn,hfs⟩:=hE.free hI0;obtain⟨asn,has⟩:∃x,a+step=x:=⟨_,rfl⟩;have e1:(a:Int)+(step:Int)=(asn:Int):=oQ
    have e2:=qxo asn oQ
    obtain⟨a1,ha1⟩:∃x,asn%n=x:=⟨_,rfl⟩
    have e3:(asn:Int).tmod (n:Int)=(a1:Int):=by
     rw [Int.tmod_eq_emod_of_nonneg oQ,<-ha1]
     rfl
    have ha1n:a1<n:=by rw [<-ha1];exact Nat.mod_lt _ oQ
    have hn0:(i:Int)<(n:Int):=oQ
    have hne:((n:Int)==0)=false:=by rw [beq_eq_false_iff_ne];omega
    obtain⟨wS,hwS⟩:∃W:World,W=wr:=⟨_,rfl⟩;subst hwS;have HS:=hdQ (And.intro hE (And.intro hIl (And.intro hTq (And.intro hGq hbq))));have HF2:=hdQ (And.intro hfn hfs);have hgl:=hGq.lt;clear hE hTq hbq has ha1 hfs han;go_wp2_with fail
    go_loopw [11] (fun va wz=>∃a:Nat,va=.int .i64 a/\a<n/\wz=wS) (fun va _=>wayE n f (Go.RowKit.intOf va).toNat)
    case atStart=>exact ⟨a1,rfl,ha1n,rfl⟩
    case round=>
     clear e1 e2 e3 ha1n;obtain⟨a,rfl,han,rfl⟩:=hrel;have k0:=q51 hGq han;have hanI:(a:Int)<(n:Int):=oQ
     cases hsa:s a with
     | true=>
       rw [hsa] at k0;obtain⟨m,hm,s1,s2,s3⟩:=qjl han oQ
       have HM2:=hdQ (And.intro hm (And.intro s3 han));have HSA:=hdQ hsa;clear hGq hm hsa;go_wp2_with fail
       go_roundw
       case rel=>exact ⟨m,rfl,HM2.out.2.1,trivial⟩
       case measure=>
        have:=qxq HF2.out.1 HM2.out.2.2 (fun e=>by
         have h1:=HSA.out;rw [e,HF2.out.2] at h1
         cases h1)
        rw [HM2.out.1] at this
        simpa [Go.RowKit.intOf] using this
     | false=>
       rw [hsa] at k0;obtain⟨hE,hIl,hTq,_,hbq⟩:=HS.out;have kfz:=hGq.frozen;have kgl:=hGq.lt;obtain⟨hE2,hl2⟩:=hE.step han hsa;have hget:(getK (a:Int) I).isSome=true:=by rw [hE.got a han,hsa];rfl
       have hget2:getK (a:Int) (delK (a:Int) I)=none:=by rw [qg8 hE.rise,if_pos rfl]
       obtain⟨J,hJ⟩:∃J,delK (a:Int) I=J:=⟨_,rfl⟩;obtain⟨p,hp⟩:∃p,J.length=p:=⟨_,rfl⟩;obtain⟨n1,hn1⟩:∃x,n-1=x:=⟨_,rfl⟩;rw [hJ] at hE2 hl2 hget2;have e1:(n:Int)-1=(n1:Int):=oQ
       have e2:(n1:Int)-(i:Int)=(p:Int):=oQ
       have e3:=qxo n1 oQ
       have e4:=qxo p oQ
       have hpl:p+(i+1)=n:=oQ
       obtain⟨w0,hw0⟩:∃W,wr.setCell ⟨g,a,none⟩ (.bool true)=W:=⟨_,rfl⟩;have hT0:TreS (clsC 3 0 false 0) cl17 w.heap.size F w0 tb fan I:=by rw [<-hw0];exact hTq.set HF.out.1 _
       have hG0:Blk w0 g 4 (ocl (fun j=>s j||decide (j=a)) n).toArray:=by rw [<-hw0];exact(hGq.set_ a _).eq_ (qsd han)
       have hB0:Below w.heap.size w w0:=by rw [<-hw0];exact hbq.setCell (p:=⟨g,a,none⟩) HG.out _
       have hz0:w0.heap.size=wr.heap.size:=by rw [<-hw0];simp
       have HW0:=hdQ (And.intro hT0 (And.intro hG0 (And.intro hB0 hz0)))
       have HDl:=hdQ (fun W (hW:Below w0.heap.size w0 W)=>show C9 12 #[.pointer (some ⟨tb,0,none⟩),.int .i64 (a:Int)] W fun e w' =>e=.returned .nilIface/\TreS (clsC 3 0 false 0) cl17 w.heap.size F w' tb fan J/\Blk w' g 4 (ocl (fun j=>s j||decide (j=a)) n).toArray/\Below w.heap.size w w' /\W.heap.size<=w'.heap.size from by
        refine(TreS.del (HW0.out.1.tr hW) HCl.out oQ (fun b q=>by rw [HF.out.2 b q];have:=hW.size;omega) (zcy HW0.out.2.2.1.size hW.size) (a:Int) ⟨by omega,by omega⟩).mono ?_
        rintro e w' ⟨v,rfl,hx,hT',ht⟩;rw [hget,if_pos rfl] at hx
        rw [hJ] at hT'
        obtain rfl:=ErrX.zero hx
        exact⟨rfl,hT',ht.blk (HW0.out.2.1.tr hW) fun q=>q.2 HF.out.1,qeq (HW0.out.2.2.1.trans (hW.mono HW0.out.2.2.1.size)) ht (zhy _),ht.size⟩)
       have HJ:=hdQ (And.intro hE2 (And.intro hp (And.intro hpl hget2)));clear hE hIl hTq hbq hE2 hl2 hget hget2 hJ hp hn1 hT0 hG0 hB0 HS HF2 hGq hsa hpl
       go_wp2_with (first
        | (go_at_call 12;(refine(HDl.out _ (Below.refl _ _)).mono ?_);rintro e w5 ⟨rfl,hT5,hG5,hB5,hs5⟩;have hz5:wr.heap.size<=w5.heap.size:=oQ;have HT5:=hdQ (And.intro hT5 (And.intro hG5 hB5));clear hT5 hG5 hB5 hs5))
       have hT5:=HT5.out.1;have hLn:=hT5.len;rw [HJ.out.2.1] at hLn;have HLn:=hdQ hLn;have HSd:=hdQ (hT5.snd HCl.out.c HLw.out (by have:=HJ.out.2.1;have:=HJ.out.2.2.1;omega))
       have hGe:=hT5.get (a:Int) oQ oQ
       rw [show (getK (a:Int) J).isSome=false from by rw [HJ.out.2.2.2];rfl] at hGe
       have HGe:=hdQ hGe
       have HDl2:=hdQ (fun W (hW:Below w5.heap.size w5 W)=>show C9 12 #[.pointer (some ⟨tb,0,none⟩),.int .i64 (a:Int)] W fun e w' =>∃v,e=.returned v/\ErrX w' v 7 ⟨#[100,101,108,101,116,101]⟩ (a:Int)/\TreS (clsC 3 0 false 0) cl17 w.heap.size F w' tb fan J/\Blk w' g 4 (ocl (fun j=>s j||decide (j=a)) n).toArray/\Below w.heap.size w w' /\W.heap.size<=w'.heap.size from by
        refine(TreS.del (HT5.out.1.tr hW) HCl.out (by have:=HJ.out.2.1;have:=HJ.out.2.2.1;omega) (fun b q=>by rw [HF.out.2 b q];have:=hW.size;omega) (zcy HT5.out.2.2.size hW.size) (a:Int) ⟨by omega,by omega⟩).mono ?_
        rintro e w' ⟨v,rfl,hx,hT',ht⟩
        rw [show (getK (a:Int) J).isSome=false from by rw [HJ.out.2.2.2];rfl,if_neg dE] at hx
        rw [qmb HJ.out.2.2.2] at hT'
        exact⟨v,rfl,hx,hT',ht.blk (HT5.out.2.1.tr hW) fun q=>q.2 HF.out.1,qeq (HT5.out.2.2.trans (hW.mono HT5.out.2.2.size)) ht (zhy _),ht.size⟩)
       have HIs7:=hdQ (fun v W (hT:ErrT W) (h:ErrX W v 7 ⟨#[100,101,108,101,116,101]⟩ (a:Int))=>qkq v 7 ⟨#[100,101,108,101,116,101]⟩ (a:Int) W hT h dE)
       clear hT5 hLn hGe HDl
       simp only [gP] at*
       go_wp2_with (first
        | (go_at_call 9;(refine(HLn.out _ bel).monoR ?_);rintro wn hbn hcn hfn hzn;(try simp at hzn))
        | (go_at_call 16;(refine(HSd.out _ bel).monoR ?_);rintro wt hbt hct hft hzt;(try simp at hzt))
        | (go_at_call 15;(refine(HGe.out _ bel).mono ?_);rintro e w6 ⟨k6,A6,n6,c6,rfl,hb6⟩;obtain⟨hc6,hf6,hz6⟩:=bc3 hb6;(try simp at hz6))
        | (go_at_call 12;(refine(HDl2.out _ bel).mono ?_);rintro e w7 ⟨v7,rfl,hx7,hT7,hG7,hB7,hs7⟩;have HX7:=hdQ hx7;have HT7:=hdQ (And.intro hT7 (And.intro hG7 hB7));clear hx7 hT7 hG7 hB7)
        | (go_at_call 14;(refine(HIs7.out _ _ (HTw.out _ (HT7.out.2.2.trans ((show Below w7.heap.size w7 _ from bel).mono HT7.out.2.2.size))) (HX7.out.tr bel)).monoR ?_);rintro wj hbj hcj hfj hzj;(try simp at hzj)))
       go_roundw
       case rel=>exact ⟨i+1,a,J,fun j=>s j||decide (j=a),by omega,by go_num,rfl,by omega,HJ.out.1,by have:=HJ.out.2.1;have:=HJ.out.2.2.1;omega,HT7.out.1.tr bel,HT7.out.2.1.tr bel,HT7.out.2.2.trans ((show Below w7.heap.size w7 _ from bel).mono HT7.out.2.2.size)⟩
       case measure=>simp [Go.RowKit.intOf];omega
theorem ql1 (n fan step:Int) (w:World) (h:(decide (n<0)||decide (150<n)||decide (fan<4)||decide (16<fan)||decide (step<1)||decide (1000<step))=true):C9 4 #[.int .i64 n,.int .i64 fan,.int .i64 step] w (Ret w (.bool true)):=by
 have HA:=hdQ qgl;obtain⟨b1,d1⟩:∃b,decide (n<0)=b:=⟨_,rfl⟩;obtain⟨b2,d2⟩:∃b,decide (150<n)=b:=⟨_,rfl⟩;obtain⟨b3,d3⟩:∃b,decide (fan<4)=b:=⟨_,rfl⟩;obtain⟨b4,d4⟩:∃b,decide (16<fan)=b:=⟨_,rfl⟩;obtain⟨b5,d5⟩:∃b,decide (step<1)=b:=⟨_,rfl⟩;obtain⟨b6,d6⟩:∃b,decide (1000<step)=b:=⟨_,rfl⟩;rw [d1,d2,d3,d4,d5,d6] at h
 have ht:(b1=true)\/(b1=false/\b2=true)\/(b1=false/\b2=false/\b3=true)\/(b1=false/\b2=false/\b3=false/\b4=true)\/(b1=false/\b2=false/\b3=false/\b4=false/\b5=true)\/(b1=false/\b2=false/\b3=false/\b4=false/\b5=false/\b6=true):=by
  revert h
  cases b1<;>cases b2<;>cases b3<;>cases b4<;>cases b5<;>cases b6<;>simp
 clear h
 rcases ht with rfl|⟨rfl,rfl⟩|⟨rfl,rfl,rfl⟩|⟨rfl,rfl,rfl,rfl⟩|⟨rfl,rfl,rfl,rfl,rfl⟩|⟨rfl,rfl,rfl,rfl,rfl,rfl⟩
 all_goals(
  go_enter Tryz.func4,Tryz.ntmps4
  go_wp2_with (go_at_call 6;(with_reducible refine(HA.out _).monoR ?_);rintro wa hba hca hfa hza;(try simp at hza))
  go_ret
  exact⟨rfl,bel⟩)
theorem gistEmpties_walk (n fan step:Int) (w:World) (hT:ErrT w):C9 4 #[.int .i64 n,.int .i64 fan,.int .i64 step] w (Ret w (.bool true)):=by
 by_cases h:(decide (n<0)||decide (150<n)||decide (fan<4)||decide (16<fan)||decide (step<1)||decide (1000<step))=true
 · exact ql1 n fan step w h
 · simp only [Bool.or_eq_true,decide_eq_true_eq,not_or] at h
   obtain⟨⟨⟨⟨⟨h1,h2⟩,h3⟩,h4⟩,h5⟩,h6⟩:=h;obtain⟨n,rfl⟩:∃m:Nat,n=m:=⟨n.toNat,by omega⟩
   obtain⟨fan,rfl⟩:∃m:Nat,fan=m:=⟨fan.toNat,by omega⟩
   obtain⟨step,rfl⟩:∃m:Nat,step=m:=⟨step.toNat,by omega⟩
   exact qm1 n fan step oQ oQ oQ oQ oQ w hT
end Go.Proofs.YtjopdlmbgidigaaGreatDoor
