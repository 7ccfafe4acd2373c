/-gist: Nearest, whatever the tree and the class: the walk.-/
import Derived.Test.YtfnhnjbkkggbeaaGreatHGisY
set_option linter.unusedVariables false
set_option linter.unusedSimpArgs false
set_option maxHeartbeats 2000000
set_option maxRecDepth 20000
namespace Go.Proofs.YtfnhnjbkkggbeaaGreat
open Go Go.RowKit Pg
theorem Tryz.infoNpX:(Tryz.prog.info? 76).map (fun i=>(i.zero,i.size,i.bytes))=some (some (.pointer none),1,8):=by kernel_rfl
theorem q2f (w:World) (v:Value) (hv:v.oneCell' =true):(w.alloc (.cells #[v] 76)).ownsRow w.heap.size 76 1 (.slice (some ⟨w.heap.size,0,none⟩) 1 1) 1 [v]:=⟨rfl,.inr ⟨w.heap.size,1,#[v],rfl,zhy _,(Blk.new rfl rfl:Blk (w.alloc (.cells #[v] 76)) w.heap.size 76 #[v]),zhy _,by decide,rfl,rfl⟩⟩
theorem q5c {w:World} {a:Value} {t:TypeId}:∀(j:Nat) (v:Value),[a][j]? =some v->(w.alloc (.cells #[a] t)).cell? ((⟨w.heap.size,0,none⟩:Addr).add j)=some v:=by
 intro j v hj
 match j,hj with
 | 0,hj=>simp at hj;subst hj;simp [Addr.add]
theorem q2k {a:Option Addr}:∀u∈ [Value.pointer a],u.oneCell' =true:=by simp [Value.oneCell']
def cN (w:World) (hb:Nat):Nat:=match w.cell? ⟨hb,1,none⟩ with
 | some (.int _ c)=>c.toNat
 | _=>0
section
variable {w w' :World} {B hb c:Nat} {F F' :Nat->Prop} {v v6 v8:Value} {h:List Pu} {nodes:List Nat} {out:List Nr}
theorem NearM.cN (M:NearM w B F hb c v v6 v8 h nodes out):cN w hb=c:=by
 have:=M.H.cells.2.1;unfold Go.Proofs.YtfnhnjbkkggbeaaGreat.cN
 rw [this]
 simp
theorem NearM.node_at {A:Option Addr} {c8:Nat} (M:NearM w B F hb c v v6 (.slice A nodes.length c8) h nodes out) {j b:Nat} (hj:nodes[j]? =some b):∃g,A=some ⟨g,0,none⟩/\g<w.heap.size/\j<nodes.length/\nodes.length<=c8/\w.cell? ⟨g,j,none⟩=some (.pointer (some ⟨b,0,none⟩)):=by
 have hjl:=(zsy.1 hj).1;have hr:=M.r8;obtain⟨A',c',e,hnc,hA,_⟩:=qaq hr;injection e with e1 e2 e3
 subst e1 e3
 rcases hr.2 with ⟨e,h0⟩|⟨g,cap,cur,e,_,hg,_⟩
 · omega
 · injection e with e1 e2 e3
   subst e1 e3;refine⟨g,rfl,(zqy.1 hg).1,hjl,hnc,?_⟩
   rw [hr.cellAt j oQ,zpx,hj]
   rfl
end
theorem qjp {w:World} {base B:Nat} {e:TypeId} {size:Nat} {v:Value} {n:Nat} {xs:List Value} (h:w.ownsRow base e size v n xs) (hb:∀g,v.ownBlock=some g->B<=g):w.ownsRow B e size v n xs:=by
 obtain⟨h1,h2|⟨g,cap,cur,hv,hg,hh,r⟩⟩:=h
 · exact⟨h1,.inl h2⟩
 · exact⟨h1,.inr ⟨g,cap,cur,hv,hb g (by rw [hv];rfl),hh,r⟩⟩
section
variable {w:World} {own imm:Nat->Prop} {tb mb:Nat} {t:Tr}
theorem q2p {C:Cl} {ct:TypeId} {cv:Value} {fM fC fD fU fS:Nat} {cov:List Nat->Ob->Prop} {good:List Nat->Prop} (Lw:Prop) (hC:ClAt ct cv C fM fC fD fU fS) (hLw:Lw->Lawful C cov good) (h:GAt C (.iface ct cv) w own imm tb mb t) (hcount:t.items.length<=40000) (x y:Int) (hp:okPt ⟨x,y⟩=true) (k:Int):
 C9 15 #[gP tb,ptV x y,.int .i64 k] w fun e w' =>∃v R,e=.returned v/\w'.ownsRow w.heap.size 73 4 v R.length (nrVs R)/\(Lw->R=(qp9 (fun o=>qcf o ⟨x,y⟩) (t.items.map fun q=>(q.1,q.2.ob))).take k.toNat)/\Below w.heap.size w w' :=by
 obtain⟨lr,dist,all,KK,NF⟩:=h.nearF hLw hp;obtain⟨R,hR⟩:∃R,(qp9 (fun o=>qcf o ⟨x,y⟩) (t.items.map fun q=>(q.1,q.2.ob))).take k.toNat=R:=⟨_,rfl⟩
 obtain⟨kn,hkn⟩:∃n,k.toNat=n:=⟨_,rfl⟩
 have HDone:Hid (∀{l:Nat} {r:List En} {h:List Pu} {nodes:List Nat} {out:List (Int×Fr)} {c:Nat},Nq Lw t dist all KK l r h nodes out c->out.length<=kn->out.length=kn\/(h= []/\r= [])->Lw->out=R):=by
  intro l r h nodes out c h1 h2 h3 L
  rw [<-hR,hkn]
  exact NF.done h1 h2 h3 L
 rw [hR]
 clear hR;have hK:KK<=80000:=by have:=NF.hK;omega
 have HFew:=hdQ (zcy NF.few hcount);have HKN:=hdQ hkn;have HNF:=hdQ NF;have HH:=hdQ h.lay;have HFar:=hdQ hC.far;have mD:=hC.mD;have nD:=hC.nD;obtain⟨t0,t1,t2,t3,tlt⟩:=h.lay.c0;obtain⟨n0,n1,n2,nlt⟩:=h.lay.n0 NF.root;have HG:=hdQ (fun W (hW:Below w.heap.size w W)=>qdq (HH.out.tr hW))
 have HCP:Hid (∀W,C9 32 #[ptV x y] W (Ret W .nilIface)):=fun W=>by
  have:=qay x y W;rw [hp] at this;exact this
 have HN:=hdQ (fun W=>ql5 W)
 clear hkn NF h hC hLw hcount hp n0 n1 n2
 simp only [gP] at*
 go_enter Tryz.func15,Tryz.ntmps15
 go_wp2_with (first|(go_at_call 25;(refine(HG.out _ bel).monoR ?_);rintro wp hbp hcp hfp hzp;(try simp at hzp);have hyp0:=ol1 w wp;have tp:tb<wp.heap.size:=oQ;have rp:t.root<wp.heap.size:=oQ;have tp1:tb<w.heap.size+1:=oQ;have rp1:t.root<w.heap.size+1:=oQ)|(go_at_call 32;(refine(HCP.out _).monoR ?_);rintro wq hbq hcq hfq hzq;(try simp at hzq);have hyq0:=ol1 w wq;have tq:tb<wq.heap.size:=oQ;have rq:t.root<wq.heap.size:=oQ)|(go_at_call 33;(refine(HN.out _).mono ?_);rintro e w1 ⟨hb',rfl,hH,hbn,hb1⟩;obtain⟨hc1,hf1,hz1⟩:=bc3 hb1;(try simp at hz1);have tu:tb<w1.heap.size:=oQ;have ru:t.root<w1.heap.size:=oQ))
 have hbw:w.heap.size+1<=hb' :=oQ
 refine qn0 (fun w2=>NearM w2 (w.heap.size+1) (fun g=>g=hb') hb' 0 (.slice none 0 0) (.slice none 0 0) (.slice (some ⟨w1.heap.size,0,none⟩) 1 1) [] [t.root] []/\Blk w2 w.heap.size 46 #[.int .i64 x,.int .i64 y]/\Below w.heap.size w w2) ⟨?_,blkA,bel⟩ ?_
 · refine⟨hH.tr bel,World.ownsRow_nil _ _ _ _,qa5 (q2f w1 _ rfl) (zly _),by simp [Value.ownBlock],?_,by simp [Value.ownBlock],fun g q=>by rw [q];exact hbw⟩
   intro g q;have q2:w1.heap.size=g:=zjx q;subst q2;exact⟨fun q=>by have q3:w1.heap.size=hb' :=q;have:=hH.lim _ rfl;omega,by omega⟩
 obtain⟨b8,hb8⟩:∃b,w1.heap.size=b:=⟨_,rfl⟩
 rw [hb8]
 clear hH hbn hb1 hc1 hf1 hz1 hcp hfp hbp hzp hyp0 hcq hfq hbq hzq hyq0 tp rp tp1 rp1 tq rq tu ru HN HG HCP hb8;rintro w2 ⟨M2,hB2,hW2⟩;have hz2:=hW2.size;have HM2:=hdQ M2;have HPB:=hdQ hB2;have lt2:=hB2.lt;clear M2 hB2 t0 t1 t2 t3;go_wp2_with fail
 go_loopw [6,8,9] (fun v6 v8 v9 wr=>∃(b l:Nat) (h:List Pu) (nodes:List Nat) (out:List Nr) (c:Nat) (F:Nat->Prop) (v:Value) (A6:Option Addr) (c6:Nat) (A8:Option Addr) (c8:Nat),v6=.slice A6 out.length c6/\v8=.slice A8 nodes.length c8/\v9=.pointer (some ⟨b,0,none⟩)/\t.lv b=some l/\Nq Lw t dist all KK l (t.es b) h nodes out c/\out.length<=kn/\NearM wr (w.heap.size+1) F hb' c v (.slice A6 out.length c6) (.slice A8 nodes.length c8) h nodes out/\Below (w.heap.size+1) w2 wr) (fun _ _ _ wr=>KK-cN wr hb')
 case atStart=>exact ⟨t.root,lr,[],[t.root],[],0,_,_,none,0,_,1,rfl,rfl,rfl,HNF.out.root,HNF.out.start,zly _,HM2.out,Below.refl _ _⟩
 case round=>
  clear HM2;obtain⟨b,l,h,nodes,out,c,F,v,A6,c6,A8,c8,rfl,rfl,rfl,hbl,hq,hol,M,hb⟩:=hrel;have hWr:Below w.heap.size w wr:=hW2.trans (hb.mono (Nat.le_succ _))
  by_cases hlt:out.length<kn
  case neg=>
   have hR:=HDone.out hq hol (.inl oQ)
   have hd:decide ((out.length:Int)<k)=false:=by
    have:=HKN.out
    simp
    omega
   have HM:=hdQ (qjp (B:=w.heap.size) M.r6 fun g q=>Nat.le_of_succ_le (M.o6 g q).2)
   have HRR:=hdQ hR;have HW:=hdQ hWr;clear hq hol M hb hR hWr hlt hbl;go_wp2_with fail;go_ret;exact⟨_,_,rfl,HM.out,HRR.out,HW.out⟩
  have hlk:(out.length:Int)<k:=by have:=HKN.out;omega
  have L:=HH.out.tr hWr;obtain⟨m0,m1,m2,mlt⟩:=L.n0 hbl;obtain⟨A,cc,hs,_,_,_⟩:=qaq (L.row b l hbl (fun q=>q))
  rw [hs] at m2;have HS:=hdQ hs;have HBL:=hdQ hbl;have HcN:=hdQ M.cN;have HQ:=hdQ hq;have HM:=hdQ M;have HB:=hdQ hb;have HOL:=hdQ hol;have HLT:=hdQ hlt;obtain⟨n,hn⟩:∃n,(t.es b).length=n:=⟨_,rfl⟩;have HLN:=hdQ hn;rw [hn] at m2;clear hn hs hq M hb hol hlt L hWr;go_wp2_with fail
  go_loopw [8,40] (fun v8 vi wq=>∃(i:Nat) (h:List Pu) (nodes:List Nat) (F:Nat->Prop) (v:Value) (A8:Option Addr) (c8:Nat),v8=.slice A8 nodes.length c8/\vi=.int .i64 i/\i<=n/\Nq Lw t dist all KK l ((t.es b).drop i) h nodes out (c+i)/\NearM wq (w.heap.size+1) F hb' (c+i) v (.slice A6 out.length c6) (.slice A8 nodes.length c8) h nodes out/\Below (w.heap.size+1) w2 wq) (fun _ vi _=>n-(Go.RowKit.intOf vi).toNat)
  case atStart=>exact ⟨0,h,nodes,F,v,A8,c8,rfl,rfl,zly _,HQ.out,HM.out,HB.out⟩
  case round=>
   clear HQ HM HB m0 m1 m2 mlt;obtain⟨i,h,nodes,F,v,A8,c8,rfl,rfl,hin,hq,M,hb⟩:=hrel;have hWr:Below w.heap.size w wr:=hW2.trans (hb.mono (Nat.le_succ _));have hws:w.heap.size+1<=wr.heap.size:=by have:=hb.size;omega
   have hhl:h.length<=100000:=by have:=hq.len;have:=hq.cle;omega
   have hci:c+i<=80000:=by have:=hq.cle;omega
   by_cases hlt:i<n
   case neg=>
    obtain rfl:n=i:=oQ
    rw [List.drop_of_length_le (by rw [HLN.out];exact zhy _)] at hq
    obtain⟨d1,e1⟩:∃d,(topE h).1.d.num/18446744073709551616=d:=⟨_,rfl⟩;obtain⟨d0,e0⟩:∃d,(topE h).1.d.num%18446744073709551616=d:=⟨_,rfl⟩;obtain⟨dd,ed⟩:∃d,(topE h).1.d.den=d:=⟨_,rfl⟩;obtain⟨nd,en⟩:∃d,(topE h).1.node=d:=⟨_,rfl⟩;obtain⟨eid,ei⟩:∃d,(topE h).1.id=d:=⟨_,rfl⟩;obtain⟨eit,et⟩:∃d,(topE h).1.item=d:=⟨_,rfl⟩;obtain⟨ok,eo⟩:∃d,(topE h).2=d:=⟨_,rfl⟩;have HPop:=hdQ (fun W (hW:Below wr.heap.size wr W)=>((M.tr hW).pop (zcy hws hW.size) hhl d1 d0 dd nd eid eit e1 e0 ed en ei et).mono (R' :=fun e w' =>e=.returned (.tuple #[.agg #[.int .i64 eid,.int .u64 (d1:Int),.int .u64 (d0:Int),.int .u64 (dd:Int),.bool eit,.int .i64 (nd:Int)],.bool ok])/\∃v',NearM w' (w.heap.size+1) F hb' (c+n) v' (.slice A6 out.length c6) (.slice A8 nodes.length c8) (popS ltPu h) nodes out/\Below (w.heap.size+1) w2 w' /\wr.heap.size<=w'.heap.size) fun e w' ⟨h1,v',h2,h3,h4⟩=>⟨by rw [h1,eo],v',h2,hb.trans ((hW.mono hws).trans h4),zcy hW.size h3.size⟩)
    have HTF:=hdQ (And.intro e1 (And.intro e0 (And.intro ed (And.intro en (And.intro ei et)))));have HEO:=hdQ eo;have HQ:=hdQ hq;have hcK:c+n<=KK:=hq.cle
    have HNE:Hid (0<n\/KK=0):=by
     have:=HNF.out.ne b l HBL.out;rw [HLN.out] at this;exact this
    have HFl:=hdQ (fun q (f:F q)=>M.H.lim q f)
    have H8l:=hdQ (fun g (q:(Value.slice A8 nodes.length c8).ownBlock=some g)=>(M.r8.lt g q).2)
    have H6l:=hdQ (fun g (q:(Value.slice A6 out.length c6).ownBlock=some g)=>(M.r6.lt g q).2)
    clear e1 e0 ed en ei et eo hq M hb hin hlt hhl hci hWr
    go_wp2_with (go_at_call 37;(refine(HPop.out _ bel).mono ?_);rintro e w3 ⟨rfl,v3,hM3,hB3,hz3⟩;have HM3:=hdQ hM3;have HB3:=hdQ hB3;clear hM3 hB3)
    obtain⟨b12,hb12⟩:∃b,w3.heap.size=b:=⟨_,rfl⟩
    have hbF:Hid (¬ F b12):=fun q=>by
     have:=HFl.out _ q
     omega
    have h8b:Hid ((Value.slice A8 nodes.length c8).ownBlock≠some b12):=fun q=>by
     have:=H8l.out _ q
     omega
    have hb12w:w.heap.size+1<=b12:=oQ
    rw [hb12]
    go_loopw [6,13] (fun v6 v13 wq=>∃(told:List Nr) (cur:List Pu) (A6:Option Addr) (c6:Nat) (v:Value) (d1 d0 dd nd:Nat) (eid:Int) (eit:Bool),v6=.slice A6 told.length c6/\v13=.bool (topE cur).2/\NearM wq (w.heap.size+1) F hb' (c+n) v (.slice A6 told.length c6) (.slice A8 nodes.length c8) (popS ltPu cur) nodes told/\(Value.slice A6 told.length c6).ownBlock≠some b12
     /\Blk wq b12 103 #[.int .i64 eid,.int .u64 (d1:Int),.int .u64 (d0:Int),.int .u64 (dd:Int),.bool eit,.int .i64 (nd:Int)]/\((topE cur).1.d.num/18446744073709551616=d1/\(topE cur).1.d.num%18446744073709551616=d0/\(topE cur).1.d.den=dd/\(topE cur).1.node=nd/\(topE cur).1.id=eid/\(topE cur).1.item=eit)
     /\Below (w.heap.size+1) w2 wq/\Nq Lw t dist all KK l [] cur nodes told (c+n)/\told.length<=kn) (fun v6 _ _=>kn-lenV v6)
    case atStart=>
     have hal:Below w3.heap.size w3 (w3.alloc (.cells #[.int .i64 eid,.int .u64 (d1:Int),.int .u64 (d0:Int),.int .u64 (dd:Int),.bool eit,.int .i64 (nd:Int)] 103)):=(Below.refl _ _).alloc (zhy _) _;exact⟨out,h,A6,c6,v3,d1,d0,dd,nd,eid,eit,rfl,by rw [HEO.out],HM3.out.tr hal,fun q=>by (have:=H6l.out _ q;omega),Blk.new hb12.symm rfl,HTF.out,HB3.out.trans (hal.mono oQ),HQ.out,HOL.out⟩
    case round=>
     clear HPop HM3 HB3 HTF HEO HQ HFl H8l H6l;obtain⟨told,cur,A6,c6,v,d1,d0,dd,nd,eid,eit,rfl,rfl,M,h12,hBx,⟨e1,e0,ed,en,ei,et⟩,hB,hq,htk⟩:=hrel;obtain⟨b0,b1,b2,b3,b4,b5⟩:=ce6 hBx;have fzb:=hBx.frozen;have blt:=hBx.lt;have HBx:=hdQ hBx;have HBl:=hdQ hB;have HBw:Hid (Below w.heap.size w wr):=hW2.trans (hB.mono (Nat.le_succ _));have hws3:w.heap.size+1<=wr.heap.size:=by have:=hB.size;omega
     have htl:told.length<=40000:=zcy hq.told_le HFew.out;have hcl:cur.length<=80000:=by have:=hq.len;omega
     have HTK:=hdQ htk;clear hBx hB
     cases cur with
     | nil=>
       have hR:=HDone.out hq htk (.inr ⟨rfl,rfl⟩);have HRow:=hdQ (qjp (B:=w.heap.size) M.r6 fun g q=>Nat.le_of_succ_le (M.o6 g q).2)
       have HRR:=hdQ hR;clear e1 e0 ed en ei et M hq hR htk h12 hcl
       simp only [topE]
       go_wp2_with fail;go_ret;exact⟨_,_,rfl,HRow.out,HRR.out,HBw.out⟩
     | cons z r=>
       simp only [topE] at e1 e0 ed en ei et ⊢
       cases eit with
       | false=>
         obtain⟨b2',m,hnb,hbm,hqn⟩:=hq.node_out rfl et;rw [en] at hnb;obtain⟨g8,hA8,hg8,hndl,hnc8,hcell⟩:=M.node_at hnb;subst hA8;have hndi:(nd:Int)<(nodes.length:Int):=oQ
         have HBM:=hdQ hbm;have HQN:=hdQ hqn;have HMM:=hdQ M
         have hpos:0<n:=by
          rcases HNE.out with q|q
          · exact q
          · have h1:=hq.len
            simp at h1
            omega
         clear e1 e0 ed en ei et M hq hqn hbm hnb htk h12 hcl hndl;go_wp2_with fail
         go_roundw
         case rel=>exact ⟨b2',m,_,nodes,told,c+n,F,v,A6,c6,_,c8,rfl,rfl,rfl,HBM.out,HQN.out,HTK.out,HMM.out,HBl.out⟩
         case measure=>
          rw [HcN.out,HMM.out.cN]
          omega
       | true=>
         by_cases hkk:told.length=kn
         · have hR:=HDone.out hq htk (.inl hkk)
           have hd:decide ((told.length:Int)<k)=false:=by
            have:=HKN.out
            simp
            omega
           have HRow:=hdQ (qjp (B:=w.heap.size) M.r6 fun g q=>Nat.le_of_succ_le (M.o6 g q).2)
           have HRR:=hdQ hR;clear e1 e0 ed en ei et M hq hR htk h12 hcl hkk;go_wp2_with fail;go_ret;exact⟨_,_,rfl,HRow.out,HRR.out,HBw.out⟩
         · have hlk2:(told.length:Int)<k:=by have:=HKN.out;omega
           obtain⟨i0,hi,iz0,iz1,iz2⟩:=info_parts Tryz.infoNrF;have hqn:=hq.item_out HNF.out.nd rfl et
           have HE:=hdQ (show nrV (z.1.id,z.1.d)= [.int .i64 eid,.int .u64 (d1:Int),.int .u64 (d0:Int),.int .u64 (dd:Int)] from by
            unfold nrV
            rw [e1,e0,ed,ei])
           have HMM:=hdQ M;have H12:=hdQ h12;have HQN:=hdQ hqn;have hkk1:told.length+1<=kn:=oQ
           have hl7:(popS ltPu (z::r)).length<=100000:=by
            have:=(qe6 (lt:=ltPu) (l:=z::r) rfl).length_eq
            simp at this hcl
            omega
           clear e1 e0 ed en ei et M hq hqn htk h12 hcl hkk
           go_wp2_with (at_builtin;go_must (refine qch _ rfl _ _ 52 rfl 73 i0 (.agg #[.int .i64 0,.int .u64 0,.int .u64 0,.int .u64 0]) 4 32 Tryz.underlying52 hi iz0 iz1 iz2 rfl dE _ _ _ rfl (HMM.out.r6.alloc _) ⟨wr.heap.size,0,none⟩ 1 1 [.int .i64 eid,.int .u64 (d1:Int),.int .u64 (d0:Int),.int .u64 (dd:Int)] rfl rfl qu0 qqo ?c3 ?c4 dE ?_))
           case c3=>unfold maxLen;omega
           case c4=>omega
           intro v7 w7 hown7 hg7 hwh;have hal:Below wr.heap.size wr (wr.alloc (.cells #[.int .i64 eid,.int .u64 (d1:Int),.int .u64 (d0:Int),.int .u64 (dd:Int)] 73)):=(Below.refl _ _).alloc (zhy _) _;obtain⟨A7,c7,rfl,_,_,_⟩:=qaq hown7;rw [<-HE.out] at hown7;have M7:=(HMM.out.tr hal).more6 hown7 hg7 (hwh.imp id fun q=>⟨_,q,by simp⟩) (by simp;omega)
           have H127:Hid ((Value.slice A7 (told.length+1) c7).ownBlock≠some b12):=fun q=>by
            rcases hwh with z|z
            · exact H12.out (z ▸ q)
            · rw [z] at q
              have:=zjx q
              omega
           have hB7:=Blk.kept (HBx.out.tr hal) hg7 (fun e=>H12.out e)
           have hW7:Below (w.heap.size+1) w2 w7:=HBl.out.trans ((hal.mono oQ).trans ((Below.refl _ _).grown hg7 (by simp;omega) (fun k e=>(HMM.out.o6 k e).2)))
           have hl:(told++ [(z.1.id,z.1.d)]).length=told.length+1:=sI
           rw [<-hl] at M7 H127;clear HBx HBl H12 HMM HE hown7 hg7 hwh hal b0 b1 b2 b3 b4 b5 fzb;generalize popS ltPu (z::r)=cur at*;generalize told++ [(z.1.id,z.1.d)]=told' at*;obtain⟨d1',e1⟩:∃d,(topE cur).1.d.num/18446744073709551616=d:=⟨_,rfl⟩;obtain⟨d0',e0⟩:∃d,(topE cur).1.d.num%18446744073709551616=d:=⟨_,rfl⟩;obtain⟨dd',ed⟩:∃d,(topE cur).1.d.den=d:=⟨_,rfl⟩;obtain⟨nd',en⟩:∃d,(topE cur).1.node=d:=⟨_,rfl⟩;obtain⟨eid',ei⟩:∃d,(topE cur).1.id=d:=⟨_,rfl⟩;obtain⟨eit',et⟩:∃d,(topE cur).1.item=d:=⟨_,rfl⟩;obtain⟨ok',eo⟩:∃d,(topE cur).2=d:=⟨_,rfl⟩;have hwz7:w.heap.size+1<=w7.heap.size:=by have:=hW7.size;omega
           have HPop:=hdQ (fun W (hW:Below w7.heap.size w7 W)=>((M7.tr hW).pop (zcy hwz7 hW.size) hl7 d1' d0' dd' nd' eid' eit' e1 e0 ed en ei et).mono (R' :=fun e w' =>e=.returned (.tuple #[.agg #[.int .i64 eid',.int .u64 (d1' :Int),.int .u64 (d0' :Int),.int .u64 (dd' :Int),.bool eit',.int .i64 (nd' :Int)],.bool ok'])/\∃v',NearM w' (w.heap.size+1) F hb' (c+n) v' (.slice A7 told'.length c7) (.slice A8 nodes.length c8) (popS ltPu cur) nodes told' /\Blk w' b12 103 #[.int .i64 eid,.int .u64 (d1:Int),.int .u64 (d0:Int),.int .u64 (dd:Int),.bool true,.int .i64 (nd:Int)]/\Below (w.heap.size+1) w2 w') fun e w' ⟨h1,v',h2,h3,h4⟩=>⟨by rw [h1,eo],v',h2,h3.blk (hB7.tr hW) hbF.out,hW7.trans ((hW.mono hwz7).trans h4)⟩)
           have HTF:=hdQ (And.intro e1 (And.intro e0 (And.intro ed (And.intro en (And.intro ei et)))));have HEO:=hdQ eo;clear e1 e0 ed en ei et eo M7 hB7 hW7
           rw [<-hl]
           go_wp2_with (go_at_call 37;(refine(HPop.out _ bel).mono ?_);rintro e w8 ⟨rfl,v8,hM8,hB8,hW8⟩;obtain⟨g0,g1,g2,g3,g4,g5⟩:=ce6 hB8;have fz8:=hB8.frozen;have HM8:=hdQ hM8;have HB8:=hdQ hB8;have HW8:=hdQ hW8;clear hM8 hB8 hW8)
           go_roundw
           case rel=>
            exact⟨told',cur,A7,c7,v8,d1',d0',dd',nd',eid',eit',by rw [hl],congrArg Value.bool HEO.out.symm,HM8.out.off hbF.out H127.out h8b.out [.int .i64 eid',.int .u64 (d1' :Int),.int .u64 (d0' :Int),.int .u64 (dd' :Int),.bool eit',.int .i64 (nd' :Int)] 0,H127.out,qer HB8.out,HTF.out,HW8.out.trans (qdf (qb5 (F:=fun g=>g=b12) (g:=b12) (.inl rfl) [.int .i64 eid',.int .u64 (d1' :Int),.int .u64 (d0' :Int),.int .u64 (dd' :Int),.bool eit',.int .i64 (nd' :Int)] w8 0 (TurnF.refl _ w8)) (fun k e=>by rw [e];exact hb12w) (by have:=HW8.out.size;omega)),HQN.out,by rw [hl];exact hkk1⟩
           case measure=>
            simp only [lenV,hl]
            omega
   have L:=HH.out.tr hWr;obtain⟨u0,u1,u2,u3,ult⟩:=L.c0;obtain⟨m0,m1,m2,mlt⟩:=L.n0 HBL.out;rw [HS.out,HLN.out] at m2;have hn0:(i:Int)<(n:Int):=oQ
   obtain⟨e,hx⟩:∃e,(t.es b)[i]? =some e:=⟨(t.es b)[i]'(by rw [HLN.out];exact hlt),zby _⟩
   have hmem:=zjy hx
   have hdr:(t.es b).drop i=e::(t.es b).drop (i+1):=by
    obtain⟨h1,h2⟩:=zsy.1 hx
    rw [zgx h1,h2]
   rw [hdr] at hq;obtain⟨g,c',hv,hgl,r0,r1,r2⟩:=qdw (L.row b l HBL.out (fun q=>q)) hx
   rw [HS.out] at hv;injection hv with hv1 hv2 hv3
   subst hv1 hv3;have hPB:=HPB.out.below hb oQ
   obtain⟨p0,p1⟩:=ce2 hPB;have hKx:=L.ekey b l e HBL.out hmem;have hk256:=hKx.1;have hkl:=hKx.2.1;obtain⟨Ak,ck,ekv,hkc,hAk,hyk⟩:=hKx.bys;rw [ekv] at r0;have HM:=hdQ M;have HB:=hdQ hb
   cases l with
   | zero=>
     rw [show decide (0=0)=true from rfl] at m1 r2
     simp only [if_true] at r2;obtain⟨⟨hi0,hi1⟩,it,hget,hdi,hok⟩:=HNF.out.ent b e HBL.out hmem;have hqn:=hq.item_in;rw [hdi] at hqn;obtain⟨z,hBi,_⟩:=L.it e.id it hget;obtain⟨Ao,co,eov,_,_,hpts⟩:=(L.ikey e.id it hget).2.pts;have hpl:=(L.ikey e.id it hget).2.1;rw [eov] at hBi;obtain⟨q0,q1⟩:=ce2 hBi;have qlt:=hBi.lt;have HD:=hdQ (fun W (hW:Below wr.heap.size wr W)=>show C9 35 #[.agg #[.int .i64 it.ob.kind,.slice Ao it.ob.pts.length co],.agg #[.int .i64 x,.int .i64 y]] W (Ret W (fV (qcf it.ob ⟨x,y⟩))) from qh4 wr.heap.size _ co it.ob.kind Ao it.ob.pts x y W (hpts.below hW) hW.size hpl)
     have HMp:=hdQ L.mp;have HGt:=hdQ (qdl hget);generalize qcf it.ob ⟨x,y⟩=d at*
     have HPU:=hdQ (fun W (hW:Below wr.heap.size wr W)=>show C9 34 #[.pointer (some ⟨hb',0,none⟩),.agg #[.int .i64 e.id,.int .u64 ((d.num/18446744073709551616:Nat):Int),.int .u64 ((d.num%18446744073709551616:Nat):Int),.int .u64 (d.den:Int),.bool true,.int .i64 0]] W (fun e' w' =>e' =.returned (.tuple #[])/\∃(v' :Value) (F' :Nat->Prop),NearM w' (w.heap.size+1) F' hb' (c+i+1) v' (.slice A6 out.length c6) (.slice A8 nodes.length c8) (qit ltPu h (⟨e.id,d,true,0⟩,c+i+1)) nodes out/\Below (w.heap.size+1) w2 w') from by
      refine((HM.out.tr hW).push (zcy hws hW.size) ⟨e.id,d,true,0⟩ hok hhl oQ).mono ?_
      rintro e' w' ⟨rfl,v',F',h1,h2,h3⟩
      exact⟨rfl,v',F',h1,HB.out.trans ((hW.mono hws).trans h3)⟩)
     have HQN:=hdQ hqn;simp only [fV] at HD;generalize d.num/18446744073709551616=d1 at*;generalize d.num%18446744073709551616=d0 at*;generalize d.den=dd at*;clear hx hmem hget hok hWr L hv2 ekv hkc hAk hyk hKx hk256 hkl hBi eov hpts hpl hPB hq hqn M hb hdi hdr hhl;generalize it.ob.pts.length=pl at*;generalize e.kb.length=kl at*;have hws2:w.heap.size<wr.heap.size:=oQ
     go_wp2_with fail;refine qa1 [0,1,2,3,4,5,6,7,8,13,9,10,11,12,14,15,16] [17] kr kr pq ?_
     simp only [zdy,zey,ldz,lds,bare,qaj,lcz,lcs,zay,qdx,Option.isNone_none,Bool.and_true,Bool.true_and,Bool.false_and,Bool.and_self]
     repeat((try simp only [Act.put,lsi,lsz,lss]);first|(refine qb0 (v:= ?_) qaa rfl ?_ ?_;rotate_left;focus(intro wq;go_simp;try with_reducible rfl))|(refine qbm (v:= ?_) qaa rfl ?_ ?_;rotate_left;focus(intro wq hq;obtain⟨hcq,hfq⟩:=qbb hq;go_simp;try with_reducible rfl))|(refine qbn qaa rfl (fun K hK=> ?_);(refine qik _ _ _ _ rfl rfl rfl (show MapO _ _ _ (some mb) _ from qbk.tr HMp.out bel) Tryz.underlying3 Tryz.underlying80 (Tryz.zeroItG _) oQ oQ ?_;rw [HGt.out];simp only [Option.getD_some]);refine hK.out _ _ bel ?_;clear hK K)|(refine qbn qaa rfl (fun K hK=> ?_);go_simp;((first|(go_at_call 35;(with_reducible refine(HD.out _ bel).monoR ?_);rintro w5 hb5 hc5 hf5 hz5;(try simp at hz5);have hy50:=ol1 w w5)|skip)<;>(refine hK.out _ _ bel ?_;clear hK K))))
     (all_goals try simp only [Act.put,lsi,lsz,lss])
     refine qcl ?_;refine qar (fun K hK=> ?_)
     go_simp
     go_at_call 34;(refine(HPU.out _ bel).mono ?_);rintro e' w6 ⟨rfl,v6,F6,hM6,hB6⟩;have HM6:=hdQ hM6;have HB6:=hdQ hB6;clear hM6 hB6
     refine hK.out _ _ ?_;clear hK K
     (try simp only [Act.put,lsi,lsz,lss])
     refine qck ?_;go_wp2_with fail
     go_roundw
     case rel=>exact ⟨i+1,_,nodes,F6,v6,A8,c8,rfl,by go_num,by omega,HQN.out,HM6.out,HB6.out⟩
     case measure=>simp [Go.RowKit.intOf];omega
   | succ l=>
     rw [show decide (l+1=0)=false by simp] at m1 r2
     simp only [Bool.false_eq_true,if_false,gP] at r2;obtain⟨hkid,hfar⟩:=HNF.out.far b l e HBL.out hmem;have hqn:=hq.node_in hkid hfar;have hD:=HFar.out e.kb hk256 hkl;have HCl:=hdQ (fun W (hW:Below wr.heap.size wr W)=>qdt wr.heap.size e.kb.length ck Ak e.kb W (hyk.tr hW (zhy _)) hW.size hkl hkc hAk)
     have HDi:=hdQ (fun W B A c=>hD.calls W B A c x y)
     have eD:=hD.enter;have hok:=hD.ok ⟨x,y⟩;generalize C.far e.kb ⟨x,y⟩=d at*
     have HPU:=hdQ (fun W (hW:Below wr.heap.size wr W)=>show C9 34 #[.pointer (some ⟨hb',0,none⟩),.agg #[.int .i64 0,.int .u64 ((d.num/18446744073709551616:Nat):Int),.int .u64 ((d.num%18446744073709551616:Nat):Int),.int .u64 (d.den:Int),.bool false,.int .i64 (nodes.length:Nat)]] W (fun e' w' =>e' =.returned (.tuple #[])/\∃(v' :Value) (F' :Nat->Prop),NearM w' (w.heap.size+1) F' hb' (c+i+1) v' (.slice A6 out.length c6) (.slice A8 nodes.length c8) (qit ltPu h (⟨0,d,false,nodes.length⟩,c+i+1)) nodes out/\Below (w.heap.size+1) w2 w' /\wr.heap.size<=W.heap.size/\W.heap.size<=w'.heap.size/\∀t cs,Blk W wr.heap.size t cs->Blk w' wr.heap.size t cs) from by
      refine((HM.out.tr hW).push (zcy hws hW.size) ⟨0,d,false,nodes.length⟩ hok hhl oQ).mono ?_
      rintro e' w' ⟨rfl,v',F',h1,h2,h3⟩
      exact⟨rfl,v',F',h1,HB.out.trans ((hW.mono hws).trans h3),hW.size,h2.size,fun t cs hB=>h2.blk hB fun q=>by have:=HM.out.H.lim _ q;omega⟩)
     have HQN:=hdQ hqn;simp only [fV] at HDi;generalize d.num/18446744073709551616=d1 at*;generalize d.num%18446744073709551616=d0 at*;generalize d.den=dd at*;have hnl:nodes.length<=80001:=by have:=hq.nlen;omega
     clear hx hmem hok hWr L hv2 ekv hkc hAk hyk hKx hk256 hkl hPB hq hqn M hb hdr hhl hD hfar hkid;have hws2:w.heap.size<wr.heap.size:=oQ
     obtain⟨i0,hi,iz0,iz1,iz2⟩:=info_parts Tryz.infoNpX;generalize hnn:nodes.length=nn at*;go_wp2_with fail;refine qa1 [0,1,2,3,4,5,6,8,9,10,13,14,7,11,12,15] [16] kr kr pq ?_
     simp only [zdy,zey,ldz,lds,bare,qaj,lcz,lcs,zay,qdx,Option.isNone_none,Bool.and_true,Bool.true_and,Bool.false_and,Bool.and_self]
     repeat((try simp only [Act.put,lsi,lsz,lss]);first|(refine qb0 (v:= ?_) qaa rfl ?_ ?_;rotate_left;focus(intro wq;go_simp;try with_reducible rfl))|(refine qbm (v:= ?_) qaa rfl ?_ ?_;rotate_left;focus(intro wq hq;obtain⟨hcq,hfq⟩:=qbb hq;go_simp;try with_reducible rfl))|(refine qbn qaa rfl (fun K hK=> ?_);go_simp;((first|(go_at_call 36;(with_reducible refine(HCl.out _ bel).mono ?_);rintro e w4 ⟨s4,rfl,ho4,hb4⟩;obtain⟨A4,c4,rfl,hy4,y42,y43,y44⟩:=qa7 ho4;clear ho4 y42;obtain⟨hc4,hf4,hz4⟩:=bc3 hb4;(try simp at hz4))|((refine(HDi.out _ w4.heap.size _ _ (hy4.tr bel (zhy _)) oQ y44 y43).monoR ?_);rintro w5 hb5 hc5 hf5 hz5;(try simp at hz5);have hy50:=ol1 w w5)|skip)<;>(refine hK.out _ _ bel ?_;clear hK K))))
     (all_goals try simp only [Act.put,lsi,lsz,lss])
     refine qcl ?_;refine qar (fun K hK=> ?_)
     go_simp
     go_at_call 34;(refine(HPU.out _ bel).mono ?_);rintro e' w6 ⟨rfl,v6,F6,hM6,hB6,hs6,hs7,hX6⟩;have hB11:=hX6 96 #[.slice Ak e.kb.length ck,.int .i64 e.id,.pointer (some ⟨e.kid,0,none⟩)] blkA;have g2:=hB11.cell 2;simp only [lAq] at g2;have g11:=hB11.lt;have HM6:=hdQ hM6;have HB6:=hdQ hB6;clear hM6 hB6 hX6 hB11
     refine hK.out _ _ ?_;clear hK K
     (try simp only [Act.put,lsi,lsz,lss])
     refine qck ?_
     go_wp2_with (at_builtin;go_must (refine qch _ rfl _ _ 93 rfl 76 i0 (.pointer none) 1 8 Tryz.underlying93 hi iz0 iz1 iz2 rfl dE _ _ _ rfl (HM6.out.r8.alloc _) ⟨w6.heap.size,0,none⟩ 1 1 [.pointer (some ⟨e.kid,0,none⟩)] rfl rfl q5c q2k ?c3 ?c4 dE ?_))
     case c3=>unfold maxLen;omega
     case c4=>omega
     intro v7 w7 hown7 hg7 hwh;subst hnn;obtain⟨A7,c7,rfl,_,_,_⟩:=qaq hown7;have hal:Below w6.heap.size w6 (w6.alloc (.cells #[.pointer (some ⟨e.kid,0,none⟩)] 76)):=(Below.refl _ _).alloc (zhy _) _;have M7:=(HM6.out.tr hal).more8 (x:=e.kid) hown7 hg7 (hwh.imp id fun q=>⟨_,q,by simp⟩) (by simp;omega)
     have hW7:Below (w.heap.size+1) w2 w7:=HB6.out.trans ((hal.mono oQ).trans ((Below.refl _ _).grown hg7 (by simp;omega) (fun k e=>(HM6.out.o8 k e).2)))
     have hl:(nodes++ [e.kid]).length=nodes.length+1:=sI
     rw [<-hl] at M7;clear hown7 hg7 hwh hal;have HM7:=hdQ M7;have HW7:=hdQ hW7;clear M7 hW7;go_wp2_with fail
     go_roundw
     case rel=>exact ⟨i+1,_,nodes++ [e.kid],F6,v6,A7,c7,by rw [hl],by go_num,by omega,HQN.out,HM7.out,HW7.out⟩
     case measure=>simp [Go.RowKit.intOf];omega
theorem q2q {C:Cl} {ct:TypeId} {cv:Value} {fM fC fD fU fS:Nat} {cov:List Nat->Ob->Prop} {good:List Nat->Prop} (hC:ClAt ct cv C fM fC fD fU fS) (hLw:Lawful C cov good) (h:GAt C (.iface ct cv) w own imm tb mb t) (hcount:t.items.length<=40000) (x y:Int) (hp:okPt ⟨x,y⟩=true) (k:Int):
 C9 15 #[gP tb,ptV x y,.int .i64 k] w fun e w' =>∃v,e=.returned v/\w'.ownsRow w.heap.size 73 4 v ((qp9 (fun o=>qcf o ⟨x,y⟩) (t.items.map fun q=>(q.1,q.2.ob))).take k.toNat).length (nrVs ((qp9 (fun o=>qcf o ⟨x,y⟩) (t.items.map fun q=>(q.1,q.2.ob))).take k.toNat))/\Below w.heap.size w w' :=
 (q2p True hC (fun _=>hLw) h hcount x y hp k).mono fun e w' ⟨v,R,he,ho,hR,hb⟩=>⟨v,he,by rw [<-hR trivial];exact ho,hb⟩
end
end Go.Proofs.YtfnhnjbkkggbeaaGreat
