/-gist: Nearest where the root is a leaf.-/
import Derived.Test.YtfnhnjbkkggbeaaGreatHGisJ
set_option linter.unusedVariables false
set_option linter.unusedSimpArgs false
set_option maxHeartbeats 1000000
set_option maxRecDepth 20000
namespace Pg
open Go Go.RowKit
def heOf (t:Tr) (p:Pt) (e:En):HE:=⟨e.id,qcf (((getK e.id t.items).map It.ob).getD ⟨0,[]⟩) p,true,0⟩
def qfp (t:Tr) (p:Pt):List En->List Pu->Nat->List Pu
 | [],h,_=>h
 | e::r,h,c=>qfp t p r (qit ltPu h (heOf t p e,c+1)) (c+1)
theorem qnf (t:Tr) (p:Pt) (e:En):∀(l:List En) (h:List Pu) (c:Nat),qfp t p (l++ [e]) h c=qit ltPu (qfp t p l h c) (heOf t p e,c+l.length+1)
 | [],h,c=>by simp [qfp]
 | a::r,h,c=>by
   simp only [List.cons_append,qfp,zax]
   rw [qnf t p e r]
   congr 2
   omega
theorem qlv (t:Tr) (p:Pt):∀(l:List En) (h:List Pu) (c:Nat),(qfp t p l h c).length=h.length+l.length
 | [],h,c=>by simp [qfp]
 | a::r,h,c=>by
   simp only [qfp,zax]
   rw [qlv t p r,(qfx h _).length_eq,zax]
   omega
theorem qng (t:Tr) (p:Pt):∀(l:List En) (h:List Pu) (c:Nat),(∀z∈h,z.1.item=true)->∀z∈qfp t p l h c,z.1.item=true
 | [],h,c,hh=>hh
 | a::r,h,c,hh=>qng t p r _ _ (fun z hz=>by
   rcases List.mem_cons.1 ((qfx h _).mem_iff.1 hz) with q|q
   · rw [q];rfl
   · exact hh z q)
def qlk:Nat->List Pu->List Pu
 | 0,_=> []
 | _,[]=> []
 | k+1,x::r=>x::qlk k (popS ltPu (x::r))
theorem qyq (k:Nat):qlk k []= []:=by cases k<;>rfl
def qy7 (x:Pu):List Value:= [.int .i64 x.1.id,.int .u64 ((x.1.d.num/18446744073709551616:Nat):Int),.int .u64 ((x.1.d.num%18446744073709551616:Nat):Int),.int .u64 (x.1.d.den:Int)]
def qlp (l:List Pu):List Value:=l.flatMap qy7
def topE:List Pu->HE×Bool
 | []=>(⟨0,⟨0,0⟩,false,0⟩,false)
 | x::_=>(x.1,true)
end Pg
namespace Go.Proofs.YtfnhnjbkkggbeaaGreat
open Go Go.RowKit Pg
section
variable {w:World} {own imm:Nat->Prop} {tb mb:Nat} {t:Tr} {ct:TypeId} {cv:Value}
theorem HeapAt.grown {w' :World} {F:Nat->Prop} {hb c:Nat} {v:Value} {h:List Pu} {row:Option Nat} (H:HeapAt w F hb v h c) (hg:w.grownBy w' row) (hne:∀g,row=some g->¬ F g):HeapAt w' F hb v h c:=
 ⟨Blk.kept H.blk hg (fun e=>hne _ e H.oB),qam H.row hg (fun g e q=>hne g e (H.oR g q)),H.oB,H.oR,fun g q=>zky (H.lim g q) hg.size,H.ok⟩
theorem qsa {F:Nat->Prop} {hb c:Nat} {v:Value} {h:List Pu} (H:HeapAt w F hb v h c) (hn:h.length<=100000) (d1 d0 dd nd:Nat) (id:Int) (it:Bool) (e1:(topE h).1.d.num/18446744073709551616=d1) (e0:(topE h).1.d.num%18446744073709551616=d0) (ed:(topE h).1.d.den=dd) (en:(topE h).1.node=nd) (ei:(topE h).1.id=id) (et:(topE h).1.item=it):
 C9 37 #[.pointer (some ⟨hb,0,none⟩)] w fun e w' =>e=.returned (.tuple #[.agg #[.int .i64 id,.int .u64 (d1:Int),.int .u64 (d0:Int),.int .u64 (dd:Int),.bool it,.int .i64 (nd:Int)],.bool (topE h).2])/\∃v',HeapAt w' F hb v' (popS ltPu h) c/\TurnF F w w' :=by
 subst e1 e0 ed en ei et
 cases h with
 | nil=>
   refine(qv6 H).mono ?_;rintro e w' ⟨rfl,hb⟩;exact⟨rfl,v,H.tr hb,(TurnF.refl F w).below hb⟩
 | cons x r=>
   refine(qsb H hn).mono ?_;rintro e w' ⟨rfl,v',h1,h2⟩;exact⟨rfl,v',h1,h2⟩
theorem Tryz.infoNrF:(Tryz.prog.info? 73).map (fun i=>(i.zero,i.size,i.bytes))=some (some (.agg #[.int .i64 0,.int .u64 0,.int .u64 0,.int .u64 0]),4,32):=by kernel_rfl
theorem qu0 {w:World} {a b c d:Value} {t:TypeId}:∀(j:Nat) (v:Value),[a,b,c,d][j]? =some v->(w.alloc (.cells #[a,b,c,d] t)).cell? ((⟨w.heap.size,0,none⟩:Addr).add j)=some v:=by
 intro j v hj
 match j,hj with
 | 0,hj=>simp at hj;subst hj;simp [Addr.add]
 | 1,hj=>simp at hj;subst hj;simp [Addr.add]
 | 2,hj=>simp at hj;subst hj;simp [Addr.add]
 | 3,hj=>simp at hj;subst hj;simp [Addr.add]
theorem qqo {a b c d:Int}:∀u∈ [Value.int .i64 a,.int .u64 b,.int .u64 c,.int .u64 d],u.oneCell' =true:=by simp [Value.oneCell']
def lenV:Value->Nat
 | .slice _ n _=>n
 | _=>0
theorem qoh {F:Nat->Prop} {a b:World} {base size m:Nat} {e:TypeId} {v:Value} {xs:List Value} (h:a.ownsRow base e size v m xs) (ht:TurnF F a b) (hF:∀g,v.ownBlock=some g->¬ F g):b.ownsRow base e size v m xs:=by
 refine⟨h.1,?_⟩
 rcases h.2 with q|⟨g,cap,cur,rfl,r1,r2,r3⟩
 · exact .inl q
 · exact .inr ⟨g,cap,cur,rfl,r1,(ht.block g (zqy.1 r2).1 (hF g rfl)).trans r2,r3⟩
theorem qdf {F:Nat->Prop} {a b:World} {B:Nat} (h:TurnF F a b) (hF:∀k,F k->B<=k) (hB:B<=a.heap.size):Below B a b:=
 ⟨h.os,h.tape,h.output,h.size,fun k hk=>h.block k (zky hk hB) fun q=>by have:=hF k q;omega⟩
theorem qqa (h:Lay w own imm tb mb (.iface ct cv) t (fun _=>False) (fun _=>False)) (hr:t.lv t.root=some 0) (hlen:(t.es t.root).length<=1000) (x y:Int) (hp:okPt ⟨x,y⟩=true)
 (he:∀e∈t.es t.root,0<=e.id/\e.id<=1099511627776/\∃it,getK e.id t.items=some it/\FrOk (qcf it.ob ⟨x,y⟩)) (k:Nat) (hk:0<k) (hk2:k<=1000000):
 C9 15 #[gP tb,ptV x y,.int .i64 (k:Int)] w fun e w' =>∃v,e=.returned v/\w'.ownsRow 0 73 4 v (qlk k (qfp t ⟨x,y⟩ (t.es t.root) [] 0)).length (qlp (qlk k (qfp t ⟨x,y⟩ (t.es t.root) [] 0)))/\Below w.heap.size w w' :=by
 obtain⟨t0,t1,t2,t3,tlt⟩:=h.c0;obtain⟨n0,n1,n2,nlt⟩:=h.n0 hr;simp only [decide_true] at n1;have HG:=hdQ (fun W (hW:Below w.heap.size w W)=>qdq (h.tr hW))
 have HCP:Hid (∀W,C9 32 #[ptV x y] W (Ret W .nilIface)):=fun W=>by
  have:=qay x y W;rw [hp] at this;exact this
 have HN:=hdQ (fun W=>ql5 W)
 have HH:=hdQ h;obtain⟨A,c,hs,_,_,_⟩:=qaq (h.row t.root 0 hr (fun q=>q))
 rw [hs] at n2;have hk0:(0:Int)<(k:Int):=oQ
 clear h;obtain⟨R,hR⟩:∃R,qlk k (qfp t ⟨x,y⟩ (t.es t.root) [] 0)=R:=⟨_,rfl⟩
 rw [hR]
 have HR:=hdQ hR;clear hR;obtain⟨n,hn⟩:∃n,(t.es t.root).length=n:=⟨_,rfl⟩;rw [hn] at n2 hs
 simp only [gP] at*
 go_enter Tryz.func15,Tryz.ntmps15
 go_wp2_with (first|(go_at_call 25;(refine(HG.out _ bel).monoR ?_);rintro wp hbp hcp hfp hzp;(try simp at hzp);have hyp0:=ol1 w wp;have tp:tb<wp.heap.size:=oQ;have rp:t.root<wp.heap.size:=oQ;have tp1:tb<w.heap.size+1:=oQ;have rp1:t.root<w.heap.size+1:=oQ)|(go_at_call 32;(refine(HCP.out _).monoR ?_);rintro wq hbq hcq hfq hzq;(try simp at hzq);have hyq0:=ol1 w wq;have tq:tb<wq.heap.size:=oQ;have rq:t.root<wq.heap.size:=oQ)|(go_at_call 33;(refine(HN.out _).mono ?_);rintro e w1 ⟨hb',rfl,hH,hbn,hb1⟩;obtain⟨hc1,hf1,hz1⟩:=bc3 hb1;(try simp at hz1);have tu:tb<w1.heap.size:=oQ;have ru:t.root<w1.heap.size:=oQ))
 refine qn0 (fun w2=>HeapAt w2 (fun g=>g=hb') hb' (.slice none 0 0) [] 0/\Blk w2 w.heap.size 46 #[.int .i64 x,.int .i64 y]/\Below w.heap.size w w2) ⟨hH.tr bel,blkA,bel⟩ ?_
 have hbw:w.heap.size<hb' :=oQ
 clear hH hbn hb1 hc1 hf1 hz1 hcp hfp hbp hzp hyp0 hcq hfq hbq hzq hyq0 tp rp tp1 rp1 tq rq tu ru HN HG HCP;rintro w2 ⟨H2,hB2,hW2⟩;obtain⟨hc2,hf2,hz2⟩:=bc3 hW2;have HH2:=hdQ H2;obtain⟨pb0,pb1⟩:=ce2 hB2;have HPB:=hdQ hB2;have lt2:=hB2.lt;clear H2 hB2;refine wp_loop_rounds 1 ?_
 rw [rounds_succ]
 go_wp2_with fail
 go_loopw [40] (fun vi wr=>∃(i:Nat) (F:Nat->Prop) (v:Value),vi=.int .i64 i/\i<=n/\HeapAt wr F hb' v (qfp t ⟨x,y⟩ ((t.es t.root).take i) [] 0) i/\(∀k,F k->w.heap.size+1<=k)/\Below (w.heap.size+1) w2 wr) (fun vi _=>n-(Go.RowKit.intOf vi).toNat)
 case atStart=>exact ⟨0,_,_,rfl,by omega,HH2.out,fun k q=>by omega,Below.refl _ _⟩
 case round=>
  obtain⟨i,F,v,rfl,hin,hH,hF,hb⟩:=hrel
  by_cases hlt:i<n
  case neg=>
   obtain rfl:n=i:=oQ
   rw [zmy oQ] at hH
   have hl0:(qfp t ⟨x,y⟩ (t.es t.root) [] 0).length<=1000:=by rw [qlv];simp;omega
   have hit0:∀z∈qfp t ⟨x,y⟩ (t.es t.root) [] 0,z.1.item=true:=qng t ⟨x,y⟩ _ [] 0 sI
   obtain⟨H0,hH0⟩:∃l,qfp t ⟨x,y⟩ (t.es t.root) [] 0=l:=⟨_,rfl⟩;rw [hH0] at hH hl0 hit0;have HR0:Hid (qlk k H0=R):=by unfold Hid;rw [<-hH0];exact HR.out
   obtain⟨d1,e1⟩:∃d,(topE H0).1.d.num/18446744073709551616=d:=⟨_,rfl⟩;obtain⟨d0,e0⟩:∃d,(topE H0).1.d.num%18446744073709551616=d:=⟨_,rfl⟩;obtain⟨dd,ed⟩:∃d,(topE H0).1.d.den=d:=⟨_,rfl⟩;obtain⟨nd,en⟩:∃d,(topE H0).1.node=d:=⟨_,rfl⟩;obtain⟨eid,ei⟩:∃d,(topE H0).1.id=d:=⟨_,rfl⟩;obtain⟨eit,et⟩:∃d,(topE H0).1.item=d:=⟨_,rfl⟩;obtain⟨ok,eo⟩:∃d,(topE H0).2=d:=⟨_,rfl⟩;have HPop:=hdQ (fun W (hW:Below wr.heap.size wr W)=>qsa (hH.tr hW) oQ d1 d0 dd nd eid eit e1 e0 ed en ei et)
   rw [eo] at HPop;have HLim:=hdQ hH.lim;have HF:=hdQ hF;have HB:=hdQ hb;have hws:w.heap.size+1<=wr.heap.size:=by have:=hb.size;omega
   have HE1:=hdQ e1;have HE0:=hdQ e0;have HED:=hdQ ed;have HEN:=hdQ en;have HEI:=hdQ ei;have HET:=hdQ et;have HEO:=hdQ eo;have HI0:=hdQ hit0;clear hH hF hb e1 e0 ed en ei et eo hit0 HH HH2 hc2 hf2 t0 t1 t2 t3 n0 n1 n2 pb0 pb1 he
   go_wp2_with (go_at_call 37;(refine(HPop.out _ bel).mono ?_);rintro e w3 ⟨rfl,v3,hH3,hT3⟩;have HH3:=hdQ hH3;have HT3:=hdQ hT3;have hz3:=hT3.size;(try simp at hz3);clear hH3 hT3)
   obtain⟨b12,hb12⟩:∃b,w3.heap.size=b:=⟨_,rfl⟩;have hT3:=HT3.out
   have hbF:Hid (¬ F b12):=fun q=>by
    have:=HLim.out _ q
    omega
   have hb12w:w.heap.size+1<=b12:=oQ
   rw [hb12]
   go_loopw [6,13] (fun v6 v13 wq=>∃(told cur:List Pu) (A6:Option Addr) (c6:Nat) (v:Value) (d1 d0 dd nd:Nat) (eid:Int) (eit:Bool),v6=.slice A6 told.length c6/\v13=.bool (topE cur).2/\wq.ownsRow 0 73 4 (.slice A6 told.length c6) told.length (qlp told)/\(∀g,(Value.slice A6 told.length c6).ownBlock=some g->¬ F g/\g≠b12/\w.heap.size+1<=g)
    /\Blk wq b12 103 #[.int .i64 eid,.int .u64 (d1:Int),.int .u64 (d0:Int),.int .u64 (dd:Int),.bool eit,.int .i64 (nd:Int)]/\((topE cur).1.d.num/18446744073709551616=d1/\(topE cur).1.d.num%18446744073709551616=d0/\(topE cur).1.d.den=dd/\(topE cur).1.id=eid/\(topE cur).1.item=eit)
    /\HeapAt wq F hb' v (popS ltPu cur) n/\Below (w.heap.size+1) w2 wq/\told++qlk (k-told.length) cur=R/\told.length<=k/\(∀z∈cur,z.1.item=true)/\cur.length<=1000) (fun v6 _ _=>k-lenV v6)
   case atStart=>
    refine⟨[],H0,none,0,v3,d1,d0,dd,nd,eid,eit,rfl,by rw [HEO.out],World.ownsRow_nil _ _ _ _,by simp [Value.ownBlock],?_,⟨HE1.out,HE0.out,HED.out,HEI.out,HET.out⟩,?_,?_,HR0.out,by simp,HI0.out,hl0⟩
    · exact Blk.new hb12.symm rfl
    · exact HH3.out.tr (show Below w3.heap.size w3 (w3.alloc _) from bel)
    · have hB3:Below (w.heap.size+1) w2 w3:=HB.out.trans (qdf hT3 HF.out hws)
      exact hB3.trans ((show Below w3.heap.size w3 (w3.alloc _) from bel).mono oQ)
   case round=>
    obtain⟨told,cur,A6,c6,v,d1,d0,dd,nd,eid,eit,rfl,rfl,hrow,hown,hBx,⟨e1,e0,ed,ei,et⟩,hH,hB,hR,htk,hit,hcl⟩:=hrel;obtain⟨b0,b1,b2,b3,b4,b5⟩:=ce6 hBx;have fzb:=hBx.frozen;have blt:=hBx.lt;have HRow:=hdQ hrow;have HOwn:=hdQ hown;have HBx:=hdQ hBx;have HHp:=hdQ hH;have HBl:=hdQ hB;have HBw:Hid (Below w.heap.size w wr):=hW2.trans (hB.mono (Nat.le_succ _));clear HPop HB HT3 hT3 HH3 HE1 HE0 HED HEN HEI HET HEO HI0 hrow hown hBx hB hl0
    cases cur with
    | nil=>
      rw [qyq,List.append_nil] at hR;clear e1 e0 ed ei et hH hit hcl
      simp only [topE]
      go_wp2_with fail;go_ret
      rw [<-hR]
      exact⟨_,rfl,HRow.out,HBw.out⟩
    | cons z r=>
      have hz:eit=true:=by rw [<-et];exact hit z (List.mem_cons_self ..)
      subst hz
      simp only [topE]
      by_cases hkk:told.length=k
      · rw [show k-told.length=0 by omega] at hR
        have hR2:told=R:=by simpa [qlk] using hR
        have hnk:¬ ((told.length:Int)<(k:Int)):=oQ
        clear e1 e0 ed ei et hH hit hcl hR hnk
        rw [hkk] at HRow ⊢
        have HKK:=hdQ hkk;clear hkk;go_wp2_with fail;go_ret
        rw [<-hR2,HKK.out]
        exact⟨_,rfl,HRow.out,HBw.out⟩
      · have hlk:(told.length:Int)<(k:Int):=oQ
        obtain⟨i0,hi,iz0,iz1,iz2⟩:=info_parts Tryz.infoNrF
        have HE:=hdQ (show qy7 z= [.int .i64 eid,.int .u64 (d1:Int),.int .u64 (d0:Int),.int .u64 (dd:Int)] from by
         unfold qy7;simp only [topE] at e1 e0 ed ei
         rw [e1,e0,ed,ei])
        have HRR:=hdQ hR;have HIt:=hdQ hit;have HCl:=hdQ hcl;clear e1 e0 ed ei et hR hit hcl hH
        go_wp2_with (at_builtin;go_must (refine qch _ rfl _ _ 52 rfl 73 i0 (.agg #[.int .i64 0,.int .u64 0,.int .u64 0,.int .u64 0]) 4 32 Tryz.underlying52 hi iz0 iz1 iz2 rfl dE _ _ _ rfl (HRow.out.alloc _) ⟨wr.heap.size,0,none⟩ 1 1 [.int .i64 eid,.int .u64 (d1:Int),.int .u64 (d0:Int),.int .u64 (dd:Int)] rfl rfl qu0 qqo ?c3 ?c4 dE ?_))
        case c3=>unfold maxLen;omega
        case c4=>omega
        intro v7 w7 hown7 hg7 hwh;have hal:Below wr.heap.size wr (wr.alloc (.cells #[.int .i64 eid,.int .u64 (d1:Int),.int .u64 (d0:Int),.int .u64 (dd:Int)] 73)):=(Below.refl _ _).alloc (zhy _) _;obtain⟨A7,c7,rfl,_,_,_⟩:=qaq hown7
        have HO7:=hdQ (show w7.ownsRow 0 73 4 (.slice A7 (told.length+1) c7) (told++ [z]).length (qlp (told++ [z])) from by
         rw [zny]
         unfold qlp
         rw [List.flatMap_append,zvy,List.flatMap_nil,List.append_nil,HE.out]
         exact hown7)
        have HOw7:Hid (∀g,(Value.slice A7 (told.length+1) c7).ownBlock=some g->¬ F g/\g≠b12/\w.heap.size+1<=g):=fun g hg=>by
         rcases hwh with q|q
         · exact HOwn.out g (q ▸ hg)
         · rw [q] at hg
           injection hg with hg
           subst hg;exact⟨fun q=>(by have:=HHp.out.lim _ q;omega),by omega,by omega⟩
        have H7:=(HHp.out.tr hal).grown hg7 (fun g e=>(HOwn.out g e).1)
        have hB7:=Blk.kept (HBx.out.tr hal) hg7 (fun e=>(HOwn.out _ e).2.1 rfl)
        have hW7:Below (w.heap.size+1) w2 w7:=HBl.out.trans ((hal.mono oQ).trans ((Below.refl _ _).grown hg7 (by simp;omega) (fun k e=>(HOwn.out k e).2.2)))
        have hl7:(popS ltPu (z::r)).length<=1000:=by
         have:=(qe6 (lt:=ltPu) (l:=z::r) rfl).length_eq;have:=HCl.out
         simp at this
         omega
        have hit7:Hid (∀q∈popS ltPu (z::r),q.1.item=true):=fun q hq=>HIt.out q (List.mem_cons_of_mem _ ((qe6 (lt:=ltPu) (l:=z::r) rfl).mem_iff.1 hq))
        obtain⟨cur,hcur⟩:∃l,popS ltPu (z::r)=l:=⟨_,rfl⟩
        have HR7:Hid ((told++ [z])++qlk (k-(told++ [z]).length) cur=R):=by
         unfold Hid
         rw [<-HRR.out,<-hcur,show k-told.length=(k-(told++ [z]).length)+1 by simp;omega]
         simp [qlk]
        rw [hcur] at H7 hl7 hit7;clear hcur HBx HHp HBl HOwn HRow HRR HIt HCl HE hown7 hg7 hwh hal b0 b1 b2 b3 b4 b5 fzb;obtain⟨d1',e1⟩:∃d,(topE cur).1.d.num/18446744073709551616=d:=⟨_,rfl⟩;obtain⟨d0',e0⟩:∃d,(topE cur).1.d.num%18446744073709551616=d:=⟨_,rfl⟩;obtain⟨dd',ed⟩:∃d,(topE cur).1.d.den=d:=⟨_,rfl⟩;obtain⟨nd',en⟩:∃d,(topE cur).1.node=d:=⟨_,rfl⟩;obtain⟨eid',ei⟩:∃d,(topE cur).1.id=d:=⟨_,rfl⟩;obtain⟨eit',et⟩:∃d,(topE cur).1.item=d:=⟨_,rfl⟩;obtain⟨ok',eo⟩:∃d,(topE cur).2=d:=⟨_,rfl⟩;have HPop:=hdQ (fun W (hW:Below w7.heap.size w7 W)=>(qsa (H7.tr hW) oQ d1' d0' dd' nd' eid' eit' e1 e0 ed en ei et).mono (R' :=fun e w' =>e=.returned (.tuple #[.agg #[.int .i64 eid',.int .u64 (d1' :Int),.int .u64 (d0' :Int),.int .u64 (dd' :Int),.bool eit',.int .i64 (nd' :Int)],.bool ok'])/\∃v',HeapAt w' F hb' v' (popS ltPu cur) n/\Blk w' b12 103 #[.int .i64 eid,.int .u64 (d1:Int),.int .u64 (d0:Int),.int .u64 (dd:Int),.bool true,.int .i64 (nd:Int)]/\w'.ownsRow 0 73 4 (.slice A7 (told.length+1) c7) (told++ [z]).length (qlp (told++ [z]))/\Below (w.heap.size+1) w2 w') fun e w' ⟨h1,v',h2,h3⟩=>⟨by rw [h1,eo],v',h2,h3.blk (hB7.tr hW) hbF.out,qoh (qam HO7.out (qag hW) sI) h3 (fun g q=>(HOw7.out g q).1),hW7.trans ((hW.mono (by have:=hW7.size;omega)).trans (qdf h3 HF.out (by have:=hW7.size;have:=hW.size;omega)))⟩)
        have HFa:=hdQ (And.intro e1 (And.intro e0 (And.intro ed (And.intro ei et))));have HEO:=hdQ eo;clear e1 e0 ed en ei et eo H7 hB7 hW7
        go_wp2_with (go_at_call 37;(refine(HPop.out _ bel).mono ?_);rintro e w8 ⟨rfl,v8,hH8,hB8,hR8,hW8⟩;obtain⟨g0,g1,g2,g3,g4,g5⟩:=ce6 hB8;have fz8:=hB8.frozen;have HH8:=hdQ hH8;have HB8:=hdQ hB8;have HR8:=hdQ hR8;have HW8:=hdQ hW8;clear hH8 hB8 hR8 hW8)
        have hl:(told++ [z]).length=told.length+1:=sI
        go_roundw
        case rel=>
         refine⟨told++ [z],cur,A7,c7,v8,d1',d0',dd',nd',eid',eit',by rw [hl],congrArg Value.bool HEO.out.symm,?_,?_,qer HB8.out,HFa.out,HH8.out.off hbF.out [.int .i64 eid',.int .u64 (d1' :Int),.int .u64 (d0' :Int),.int .u64 (dd' :Int),.bool eit',.int .i64 (nd' :Int)] 0,?_,HR7.out,by rw [hl];omega,hit7.out,hl7⟩
         · have:=qlm (b:=b12) (fun e=>(HOw7.out _ e).2.1 rfl) [.int .i64 eid',.int .u64 (d1' :Int),.int .u64 (d0' :Int),.int .u64 (dd' :Int),.bool eit',.int .i64 (nd' :Int)] w8 0 HR8.out
           rw [hl] at this ⊢
           exact this
         · rw [hl]
           exact HOw7.out
         · exact HW8.out.trans (qdf (qb5 (F:=fun g=>g=b12) (g:=b12) (.inl rfl) [.int .i64 eid',.int .u64 (d1' :Int),.int .u64 (d0' :Int),.int .u64 (dd' :Int),.bool eit',.int .i64 (nd' :Int)] w8 0 (TurnF.refl _ w8)) (fun k e=>by rw [e];exact hb12w) (by have:=HW8.out.size;omega))
        case measure=>
         simp [lenV]
         omega
  have hn0:(i:Int)<(n:Int):=oQ
  obtain⟨e,hx⟩:∃e,(t.es t.root)[i]? =some e:=⟨(t.es t.root)[i]'oQ,zby _⟩
  have hmem:=zjy hx;obtain⟨hi0,hi1,it,hget,hok⟩:=he e hmem;have hws:w.heap.size+1<=wr.heap.size:=by have:=hb.size;omega
  have hWr:Below w.heap.size w wr:=hW2.trans (hb.mono (Nat.le_succ _));have L:=HH.out.tr hWr;obtain⟨u0,u1,u2,u3,ult⟩:=L.c0;obtain⟨m0,m1,m2,mlt⟩:=L.n0 hr;rw [hs] at m2;simp only [decide_true] at m1;obtain⟨g,c',hv,hgl,r0,r1,r2⟩:=qdw (L.row t.root 0 hr (fun q=>q)) hx
  rw [hs] at hv;injection hv with hv1 hv2 hv3
  subst hv1 hv3;simp only [decide_true,if_true] at r2;obtain⟨Ak,ck,ekv,hkc,hAk,_⟩:=(L.ekey t.root 0 e hr hmem).bys;rw [ekv] at r0;obtain⟨z,hBi,_⟩:=L.it e.id it hget;obtain⟨Ao,co,eov,_,_,hpts⟩:=(L.ikey e.id it hget).2.pts;have hpl:=(L.ikey e.id it hget).2.1;rw [eov] at hBi;obtain⟨q0,q1⟩:=ce2 hBi;have qlt:=hBi.lt;have HD:=hdQ (fun W (hW:Below wr.heap.size wr W)=>show C9 35 #[.agg #[.int .i64 it.ob.kind,.slice Ao it.ob.pts.length co],.agg #[.int .i64 x,.int .i64 y]] W (Ret W (fV (qcf it.ob ⟨x,y⟩))) from qh4 wr.heap.size _ co it.ob.kind Ao it.ob.pts x y W (hpts.below hW) hW.size hpl)
  have HM:=hdQ L.mp;have HG:=hdQ (qdl hget);have hho:heOf t ⟨x,y⟩ e=⟨e.id,qcf it.ob ⟨x,y⟩,true,0⟩:=by unfold heOf;rw [hget];rfl
  have hst:qfp t ⟨x,y⟩ ((t.es t.root).take (i+1)) [] 0=qit ltPu (qfp t ⟨x,y⟩ ((t.es t.root).take i) [] 0) (heOf t ⟨x,y⟩ e,i+1):=by
   rw [zwy,hx]
   simp only [Option.toList_some]
   rw [qnf,List.length_take,Nat.min_eq_left oQ]
   simp
  have hPB:=HPB.out.below hb oQ
  obtain⟨p0,p1⟩:=ce2 hPB;generalize qcf it.ob ⟨x,y⟩=d at*
  have HPU:=hdQ (fun W (hW:Below wr.heap.size wr W)=>show C9 34 #[.pointer (some ⟨hb',0,none⟩),.agg #[.int .i64 e.id,.int .u64 ((d.num/18446744073709551616:Nat):Int),.int .u64 ((d.num%18446744073709551616:Nat):Int),.int .u64 (d.den:Int),.bool true,.int .i64 0]] W (fun e' w' =>e' =.returned (.tuple #[])/\∃(v' :Value) (F' :Nat->Prop),HeapAt w' F' hb' v' (qfp t ⟨x,y⟩ ((t.es t.root).take (i+1)) [] 0) (i+1)/\(∀k,F' k->w.heap.size+1<=k)/\Below (w.heap.size+1) w2 w') from by
   refine(qua (hH.tr hW) ⟨e.id,d,true,0⟩ hok (by rw [qlv,List.length_take];simp;omega) oQ).mono ?_
   rintro e' w' ⟨rfl,v',F',h1,h2,h3⟩;refine⟨rfl,v',F',by rw [hst,hho];exact h1,fun k q=> ?_,hb.trans ((hW.mono hws).trans (qdf h2 hF (by have:=hW.size;omega)))⟩
   rcases h3 k q with r|r
   · exact hF k r
   · have:=hW.size
     omega)
  simp only [fV] at HD;generalize d.num/18446744073709551616=d1 at*;generalize d.num%18446744073709551616=d0 at*;generalize d.den=dd at*;clear hx hmem he hget hok hWr L hv2 ekv hkc hAk hBi eov hpts hpl hho hst hPB hH hF hc2 hf2 t0 t1 t2 t3 n0 n1 n2 pb0 pb1 HH2;generalize it.ob.pts.length=pl at*;generalize e.kb.length=kl at*;generalize e.id=eid at*;have hws2:w.heap.size<wr.heap.size:=oQ
  go_wp2_with fail;refine qa1 [0,1,2,3,4,5,6,7,8,13,9,10,11,12,14,15,16] [17] kr kr pq ?_
  simp only [zdy,zey,ldz,lds,bare,qaj,lcz,lcs,zay,qdx,Option.isNone_none,Bool.and_true,Bool.true_and,Bool.false_and,Bool.and_self]
  repeat((try simp only [Act.put,lsi,lsz,lss]);first|(refine qb0 (v:= ?_) qaa rfl ?_ ?_;rotate_left;focus(intro wq;go_simp;try with_reducible rfl))|(refine qbm (v:= ?_) qaa rfl ?_ ?_;rotate_left;focus(intro wq hq;obtain⟨hcq,hfq⟩:=qbb hq;go_simp;try with_reducible rfl))|(refine qbn qaa rfl (fun K hK=> ?_);(refine qik _ _ _ _ rfl rfl rfl (show MapO _ _ _ (some mb) _ from qbk.tr HM.out bel) Tryz.underlying3 Tryz.underlying80 (Tryz.zeroItG _) oQ oQ ?_;rw [HG.out];simp only [Option.getD_some]);refine hK.out _ _ bel ?_;clear hK K)|(refine qbn qaa rfl (fun K hK=> ?_);go_simp;((first|(go_at_call 35;(with_reducible refine(HD.out _ bel).monoR ?_);rintro w5 hb5 hc5 hf5 hz5;(try simp at hz5);have hy50:=ol1 w w5)|skip)<;>(refine hK.out _ _ bel ?_;clear hK K))))
  (all_goals try simp only [Act.put,lsi,lsz,lss])
  refine qcl ?_;refine qar (fun K hK=> ?_)
  go_simp
  go_at_call 34;(refine(HPU.out _ bel).mono ?_);rintro e' w6 ⟨rfl,v6,F6,hH6,hF6,hB6⟩;have HH6:=hdQ hH6;have HF6:=hdQ hF6;have HB6:=hdQ hB6;clear hH6 hF6 hB6
  refine hK.out _ _ ?_;clear hK K
  (try simp only [Act.put,lsi,lsz,lss])
  refine qck ?_;go_wp2_with fail
  go_roundw
  case rel=>exact ⟨i+1,F6,v6,by go_num,by omega,HH6.out,HF6.out,HB6.out⟩
  case measure=>simp [Go.RowKit.intOf];omega
end
end Go.Proofs.YtfnhnjbkkggbeaaGreat
namespace Pg
open Go Go.RowKit
theorem quk:qcf ⟨1,[⟨0,0⟩]⟩ ⟨3,3⟩=⟨18,1⟩:=by decide+kernel
theorem quj:qcf ⟨1,[⟨3,4⟩]⟩ ⟨3,3⟩=⟨1,1⟩:=by decide+kernel
end Pg
namespace Go.Proofs.YtfnhnjbkkggbeaaGreat
open Go Go.RowKit Pg
theorem q6z (t:Tr) (x1 x2:It) (l:List En) (h1:x1.ob=⟨1,[⟨0,0⟩]⟩) (h2:x2.ob=⟨1,[⟨3,4⟩]⟩) (hl:t.items=putK 2 x2 (putK 1 x1 [])):qlk 1 (qfp t ⟨3,3⟩ ([]++ [entG x1 1]++ [entG x2 2]) [] 0)= [(⟨2,⟨1,1⟩,true,0⟩,2)]:=by
 have e1:heOf t ⟨3,3⟩ (entG x1 1)=⟨1,⟨18,1⟩,true,0⟩:=by
  unfold heOf
  rw [hl]
  simp [entG,putK,getK,insK,delK,h1,quk]
 have e2:heOf t ⟨3,3⟩ (entG x2 2)=⟨2,⟨1,1⟩,true,0⟩:=by
  unfold heOf
  rw [hl]
  simp [entG,putK,getK,insK,delK,h2,quj]
 simp only [List.nil_append,List.cons_append,qfp,e1,e2]
 rfl
theorem q1s {w:World} {e:TypeId} {v:Value} {a b c d:Value} (h:w.ownsRow 0 e 4 v 1 [a,b,c,d]):∃g cc,v=.slice (some ⟨g,0,none⟩) 1 cc/\w.cell? ⟨g,0,none⟩=some a/\w.cell? ⟨g,1,none⟩=some b/\w.cell? ⟨g,2,none⟩=some c/\w.cell? ⟨g,3,none⟩=some d:=by
 rcases h.2 with ⟨_,h0⟩|⟨g,cap,cur,rfl,_,hg,_⟩
 · cases h0
 · refine⟨g,cap,rfl,?_,?_,?_,?_⟩
   · rw [h.cellAt 0 dE];rfl
   · rw [h.cellAt 1 dE];rfl
   · rw [h.cellAt 2 dE];rfl
   · rw [h.cellAt 3 dE];rfl
theorem ins1 {w:World} {own imm:Nat->Prop} {tb mb r g:Nat} (h:Lay w own imm tb mb (.iface 121 (.agg #[.int .i64 1])) (newT 4 r) (fun _=>False) fun _=>False) (hB:Blk w g 46 #[.int .i64 0,.int .i64 0]):
 C9 12 #[gP tb,.int .i64 1,obV 1 (some ⟨g,0,none⟩) 1 1] w fun e w' =>e=.returned .nilIface/\q3y (boxM 1) w w' own imm tb mb (.iface 121 (.agg #[.int .i64 1])) (newT 4 r) 1 1 [⟨0,0⟩]:=by
 have hg:∀i,getK i (newT 4 r).items=none:=fun i=>by simp [newT,getK]
 exact ql2 (qul 1) h (qne 4 r) (by simp [newT]) (by simp [newT]) (by simp [newT]) (fun i x hx=>by rw [hg] at hx;cases hx) (by simp [newT]) dE dE (hg 1) w.heap.size 1 1 1 _ _ (q6s (p:=⟨0,0⟩) hB) (zhy _) dE dE (by decide+kernel) (by decide+kernel)
theorem ins2 {w:World} {own imm:Nat->Prop} {tb mb g:Nat} {t:Tr} {x:It} (h:Lay w own imm tb mb (.iface 121 (.agg #[.int .i64 1])) t (fun _=>False) fun _=>False) (hs:Shape t fun _=>False) (hr:t.lv t.root=some 0) (he:(t.es t.root).length=1) (hf:t.fan=4) (hi:t.items=putK 1 x []) (hB:Blk w g 46 #[.int .i64 3,.int .i64 4]):
 C9 12 #[gP tb,.int .i64 2,obV 1 (some ⟨g,0,none⟩) 1 1] w fun e w' =>e=.returned .nilIface/\q3y (boxM 1) w w' own imm tb mb (.iface 121 (.agg #[.int .i64 1])) t 2 1 [⟨3,4⟩]:=by
 have hg:∀i y,getK i t.items=some y->i=1:=fun i y hy=>by
  rw [hi] at hy
  by_cases q:i=1
  · exact q
  · simp [putK,getK,insK,delK] at hy
    omega
 exact ql2 (qul 1) h hs hr oQ oQ (fun i x hx=>by have:=hg i x hx;omega) (by rw [hi];simp [putK,insK,delK]) dE dE (by rw [hi];simp [putK,getK,insK,delK]) w.heap.size 1 1 1 _ _ (q6s (p:=⟨3,4⟩) hB) (zhy _) dE dE (by decide+kernel) (by decide+kernel)
theorem qmm (w:World):C9 7 #[] w (Ret w (.bool true)):=by
 have HB:=hdQ (fun W=>q3z 1 W dE dE)
 have HN:=hdQ (fun W=>qls 121 (.agg #[.int .i64 1]) 4 dE dE W)
 go_enter Tryz.func7,Tryz.ntmps7
 have HNr:Hid (∀(W:World) (own imm:Nat->Prop) (tb mb:Nat) (t:Tr) (x1 x2:It),Lay W own imm tb mb (.iface 121 (.agg #[.int .i64 1])) t (fun _=>False) (fun _=>False)->t.lv t.root=some 0->t.es t.root= []++ [entG x1 1]++ [entG x2 2]->t.items=putK 2 x2 (putK 1 x1 [])->x1.ob=⟨1,[⟨0,0⟩]⟩->x2.ob=⟨1,[⟨3,4⟩]⟩->
  C9 15 #[gP tb,ptV 3 3,.int .i64 1] W fun e w' =>∃v,e=.returned v/\w'.ownsRow 0 73 4 v 1 [.int .i64 2,.int .u64 0,.int .u64 1,.int .u64 1]/\Below W.heap.size W w'):=by
  intro W own imm tb mb t x1 x2 hL hr he hi h1 h2;have hN:=q6z t x1 x2 [] h1 h2 hi
  have hC:=qqa hL hr (by rw [he];simp) 3 3 (by decide+kernel) (by
   intro e hm;rw [he] at hm
   rw [hi]
   simp at hm
   rcases hm with rfl|rfl
   · exact⟨by simp [entG],by simp [entG],x1,by simp [entG,putK,getK,insK,delK],by rw [h1,quk];unfold FrOk;decide⟩
   · exact⟨by simp [entG],by simp [entG],x2,by simp [entG,putK,getK,insK,delK],by rw [h2,quj];unfold FrOk;decide⟩) 1 dE dE
  rw [he,hN] at hC;exact hC
 go_wp2_with (first|(go_at_call 23;(refine(HB.out _).monoR ?_);rintro wp hbp hcp hfp hzp;(try simp at hzp);have hpp:Below w.heap.size w wp:=bel)|(go_at_call 8;(refine(HN.out _).mono ?_);rintro e w2 ⟨tb,mb,r,own,rfl,hL,hown,hb2⟩;have HL:=hdQ hL;have HO:=hdQ hown;have HB2:=hdQ hb2;clear hL hown hb2;have HI1:=hdQ (fun W g (hW:Below w2.heap.size w2 W) (hB:Blk W g 46 #[.int .i64 0,.int .i64 0])=>show C9 12 #[.pointer (some ⟨tb,0,none⟩),.int .i64 1,.agg #[.int .i64 1,.slice (some ⟨g,0,none⟩) 1 1]] W _ from ins1 (HL.out.tr hW) hB);simp only [gP])|(go_at_call 12;(with_reducible refine(HI1.out _ _ bel blkA).mono ?_);rintro e w3 ⟨rfl,own3,imm3,x1,v1,lf1,ho1,hk1,hL3,hS3,hG3⟩;have hX3:Below wp.heap.size w2 w3:=((show Below w2.heap.size w2 (w2.alloc (.cells #[.int .i64 0,.int .i64 0] 46)) from bel).mono HB2.out.size).trans (qdf hG3.turn HO.out (zcy HB2.out.size sI));have HO3:Hid (∀b,own3 b->wp.heap.size<=b):=(fun b hb=>(hG3.oo b hb).elim (HO.out b) (fun q=>zcy (zcy HB2.out.size sI) q));have HX3:=hdQ (HB2.out.trans hX3);have HL3:=hdQ hL3;have HS3:=hdQ hS3;have HO1:=hdQ ho1;clear hL3 hS3 hG3 hX3 hk1 ho1;have HI2:=hdQ (fun W g (hW:Below w3.heap.size w3 W) (hB:Blk W g 46 #[.int .i64 3,.int .i64 4])=>show C9 12 #[.pointer (some ⟨tb,0,none⟩),.int .i64 2,.agg #[.int .i64 1,.slice (some ⟨g,0,none⟩) 1 1]] W _ from ins2 (HL3.out.tr hW) HS3.out (by simp [newT]) (by simp [newT,updT]) rfl rfl hB))|(go_at_call 12;(with_reducible refine(HI2.out _ _ bel blkA).mono ?_);rintro e w4 ⟨rfl,own4,imm4,x2,v2,lf2,ho2,hk2,hL4,hS4,hG4⟩;have HX4:=hdQ (HX3.out.trans (((show Below w3.heap.size w3 (w3.alloc (.cells #[.int .i64 3,.int .i64 4] 46)) from bel).mono HX3.out.size).trans (qdf hG4.turn HO3.out (zcy HX3.out.size sI))));have HN3:=hdQ (show C9 15 #[.pointer (some ⟨tb,0,none⟩),.agg #[.int .i64 3,.int .i64 3],.int .i64 1] w4 _ from HNr.out w4 own4 imm4 tb mb _ x1 x2 hL4 (by simp [newT]) (by simp [newT,updT]) rfl HO1.out ho2);clear hL4 hS4 hG4 hk2 ho2)|(go_at_call 15;(with_reducible refine HN3.out.mono ?_);rintro e w5 ⟨v5,rfl,ho5,hb5⟩;obtain⟨g5,c5,rfl,c0,c1,c2,c3⟩:=q1s ho5;have HB5:=hdQ hb5;clear ho5 hb5))
 go_ret;exact⟨rfl,hpp.trans ((HX4.out.mono hpp.size).trans (HB5.out.mono (zcy hpp.size HX4.out.size)))⟩
end Go.Proofs.YtfnhnjbkkggbeaaGreat
