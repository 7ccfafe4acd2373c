/-Cursors of what is near.-/
import Derived.Test.YtfnhnjbkkggbeaaGreatKLawGn
import Derived.Test.YtfnhnjbkkggbeaaGreatKMade
set_option linter.unusedVariables false
set_option linter.unusedSimpArgs false
set_option maxHeartbeats 2000000
set_option maxRecDepth 20000
namespace Go.Proofs.YtfnhnjbkkggbeaaGreat
open Go Go.RowKit Pg
theorem qqc {w:World} {base size n:Nat} {e:TypeId} {v:Value} {xs:List Value} (h:w.ownsRow base e size v n xs) {A:Option Addr} {c:Nat} (hv:v=.slice A n c):qdv w (fun b=>v.ownBlock=some b) A xs:=fun hn=>by
 have hx:=h.1
 rcases h.2 with ⟨h0,h1⟩|⟨g,cap,cur,rfl,_,hg,_⟩
 · subst h1
   rw [hx] at hn
   simp at hn
 · injection hv with hv _ _
   refine⟨g,0,hv.symm,rfl,(zqy.1 hg).1,fun k u hk=> ?_⟩
   rw [Nat.zero_add,h.cellAt k (by have:=(zsy.1 hk).1;omega)]
   exact hk
def insO (C:Cl) (m:List (Int×Ob)) (id:Int) (o:Ob):Nat:=if ¬ (0<=id/\id<=1099511627776) then 1 else if ckOb o≠0 then ckOb o else if (C.make o).1≠0 then(C.make o).1 else if (getK id m).isSome then 6 else 0
theorem qsj (C:Cl) (t:Tr) (id:Int) (o:Ob):insE C t id o=insO C (obsT t.items) id o:=by
 unfold insE insO obsT
 rw [qsl]
 simp
def bldR (C:Cl):List (Int×Ob)->List (Int×Ob)->Nat×Int
 | _,[]=>(0,0)
 | m,p::r=>if insO C m p.1 p.2=0 then bldR C (putK p.1 p.2 m) r else(insO C m p.1 p.2,p.1)
def bldM (l:List (Int×Ob)):List (Int×Ob):=l.foldl (fun m p=>putK p.1 p.2 m) []
theorem qxw {l:List (Int×Ob)} {k:Nat} {p:Int×Ob} (h:l[k]? =some p):bldM (l.take (k+1))=putK p.1 p.2 (bldM (l.take k)):=by
 unfold bldM
 rw [zwy,h,Option.toList_some,List.foldl_append]
 rfl
theorem q0c (l:List (Int×Ob)):(bldM l).length<=l.length:=by
 unfold bldM
 suffices ∀m:List (Int×Ob),(l.foldl (fun m p=>putK p.1 p.2 m) m).length<=m.length+l.length by simpa using this []
 induction l with
 | nil=>simp
 | cons a r ih=>
   intro m;have:=ih (putK a.1 a.2 m);have:=qrz a.1 a.2 m
   simp only [List.foldl_cons,zax]
   omega
theorem qxv {C:Cl} {m l:List (Int×Ob)} {k:Nat} {p:Int×Ob} (h:l[k]? =some p):bldR C m (l.drop k)=if insO C m p.1 p.2=0 then bldR C (putK p.1 p.2 m) (l.drop (k+1)) else(insO C m p.1 p.2,p.1):=by
 have hk:=(zsy.1 h).1
 rw [zgx hk]
 have:l[k]=p:=by rw [zby hk] at h;exact zjx h
 rw [this]
 rfl
theorem qyx {α:Type} {id:Int} {v:α} {m:List (Int×α)} (h:getK id m=none):(putK id v m).length=m.length+1:=by
 unfold putK
 rw [qnd]
 congr 1;unfold delK
 rw [List.filter_eq_self.2]
 intro p hp;have:=qes.1 h p hp
 simp [this]
theorem qzw {C:Cl} {m:List (Int×Ob)} {id:Int} {o:Ob} (h:insO C m id o=0):getK id m=none:=by
 unfold insO at h
 split at h
 · cases h
 · split at h
   · contradiction
   · split at h
     · contradiction
     · cases hg:getK id m with
       | none=>rfl
       | some x=>rw [hg] at h;cases h
theorem qxu {C:Cl}:∀{l m:List (Int×Ob)},(bldR C m l).1=0->(l.foldl (fun m p=>putK p.1 p.2 m) m).length=m.length+l.length
 | [],m,_=>by simp
 | p::r,m,h=>by
   unfold bldR at h
   by_cases e:insO C m p.1 p.2=0
   · rw [if_pos e] at h
     rw [List.foldl_cons,qxu h,qyx (qzw e),zax]
     omega
   · rw [if_neg e] at h
     exact absurd h e
theorem q2c {C:Cl} {l:List (Int×Ob)} (h:(bldR C [] l).1=0):(bldM l).length=l.length:=by
 have:=qxu h;unfold bldM
 simpa using this
def bldE (C:Cl) (t:Tr) (l:List (Int×Ob)):Nat×Int:=if t.items.length=0 then bldR C [] l else(1,0)
section
variable {w w' :World} {own own2 imm imm2:Nat->Prop} {xb tb mb:Nat} {cl:Value} {t:Tr}
theorem Lay.moved (h:Lay w own imm xb mb cl t (fun _=>False) fun _=>False) (ho:¬ own tb) (hi:¬ imm tb) (hg:w.grownBy w' (some tb)) (hB:Blk w' tb 82 #[cl,.int .i64 t.fan,gP t.root,.map (some mb)]):Lay w' (fun b=>own b\/b=tb) imm tb mb cl t (fun _=>False) fun _=>False:=by
 have k:=h.kept hg fun g e=>by cases e;exact⟨ho,hi⟩
 exact⟨hB,k.mp,k.nd,k.row,k.it,k.ikey,k.ekey,k.apR,k.apI,.inr rfl,.inl k.oM,fun b l hb=> .inl (k.oN b l hb),fun b l g h1 h2 h3=> .inl (k.oR b l g h1 h2 h3),fun id x hx=> .inl (k.oI id x hx),fun b hb=>by
  rcases hb with q|q
  · exact k.sep b q
  · rw [q];exact hi,fun b hb=>by
  rcases hb with (q|q)|q
  · exact k.lim b (.inl q)
  · rw [q];exact hB.lt
  · exact k.lim b (.inr q)⟩
end
def BldG (C:Cl) (cl:Value) (w w' :World) (own imm:Nat->Prop) (tb:Nat) (mb:Nat) (t:Tr) (l:List (Int×Ob)):Prop:=
 ∃t' own' imm' mb',GAt C cl w' own' imm' tb mb' t' /\Grow w w' own imm own' imm' /\t'.fan=t.fan/\((bldE C t l).1≠0->t' =t)/\((bldE C t l).1=0->obsT t'.items=bldM l)
theorem qge {a b c:World} {row:Option Nat} (h:a.grownBy b row) (k:b.grownBy c row):a.grownBy c row:=
 ⟨k.os.trans h.os,k.tape.trans h.tape,k.output.trans h.output,zcy h.size k.size,fun i hi hne=>(k.block i (zky hi h.size) hne).trans (h.block i hi hne)⟩
theorem ErrY.form {w:World} {v:Value} {k:Nat} (h:ErrY w v k) (hk:k≠0):∃t u,v=.iface t u:=by
 rcases h with ⟨h,_⟩|⟨_,d,hd⟩
 · exact absurd h hk
 · exact ErrD.some d v hd
section
variable {w:World} {own imm:Nat->Prop} {tb mb:Nat} {t:Tr}
theorem BldG.same {C:Cl} {cl:Value} {w' :World} {l:List (Int×Ob)} (h:GAt C cl w own imm tb mb t) (hb:Below w.heap.size w w') (he:(bldE C t l).1≠0):BldG C cl w w' own imm tb mb t l:=
 ⟨t,own,imm,mb,h.tr hb,Grow.of_below hb,rfl,fun _=>rfl,fun q=>absurd q he⟩
theorem qrf {C:Cl} {ct:TypeId} {cv:Value} (h:GAt C (.iface ct cv) w own imm tb mb t) (hcount:t.items.length<=100000) (n c:Nat) (A:Option Addr) (l:List (Int×Ob)) (h0:t.items.length≠0):
 C9 9 #[gP tb,.slice A n c] w fun e w' =>∃v,e=.returned v/\ErrX w' v (bldE C t l).1 ⟨#[98,117,105,108,100]⟩ (bldE C t l).2/\BldG C (.iface ct cv) w w' own imm tb mb t l:=by
 have he:bldE C t l=(1,0):=by unfold bldE;rw [if_neg h0]
 have HSm:=hdQ (fun w' (hb:Below w.heap.size w w')=>BldG.same (l:=l) h hb (by rw [he];decide))
 rw [he]
 obtain⟨t0,t1,t2,t3,tlt⟩:=h.lay.c0;have HG:=hdQ (fun W (hW:Below w.heap.size w W)=>qc9 (h.lay.tr hW))
 have HM:=hdQ h.lay.mp;obtain⟨m,hm⟩:∃m,t.items.length=m:=⟨_,rfl⟩;have HML:=hdQ (show (t.items.map fun p=>(p.1,gP p.2.blk)).length=m from by rw [zyy];exact hm)
 have hm0:(0:Int)<(m:Int):=oQ
 have hF:=hdQ (fun W=>qet ⟨#[98,117,105,108,100]⟩ 0 (.iface 75 (.int .i64 1)) 1 W (.inr ⟨by decide,0,rfl⟩))
 have HLn:Hid (∀W,Below w.heap.size w W->∀ty,(Builtin.len_ #[80] ty #[.map (some mb)]).run Tryz.prog W=.ok (.int .i64 (m:Nat)) W):=fun W hW ty=>by
  have:=World.ownsMap.len (show W.ownsMap Tryz.prog 3 RV mb _ (toD (t.items.map fun p=>(p.1,gP p.2.blk))) from qba.tr HM.out hW) Tryz.underlying80 ty
  rw [qjb,HML.out] at this;exact this
 clear h he h0 hm
 simp only [gP] at*
 go_enter Tryz.func9,Tryz.ntmps9
 go_wp2_with (first
  | (go_at_call 25;(refine(HG.out _ bel).monoR ?_);rintro w1 hb1 hc1 hf1 hz1;(try simp at hz1);have hln:=HLn.out w1 hb1)
  | (go_at_call 24;(refine(hF.out _).mono ?_);rintro e w2 ⟨v',rfl,hE2,hb2⟩;have HE2:=hdQ hE2;clear hE2;obtain⟨hc2,hf2⟩:=qa1 hb2))
 go_ret;exact⟨_,rfl,HE2.out,HSm.out _ bel⟩
theorem qpl {C:Cl} {ct:TypeId} {cv:Value} {fM fC fD fU fS fP:Nat} (hC:ClAt ct cv C fM fC fD fU fS) (hP:PenAt ct cv fP) (hE:MakeE cv C fM) (h:GAt C (.iface ct cv) w own imm tb mb t) (B n c:Nat) (A:Option Addr) (l:List (Int×Ob)) (hl:qe4 w B A n l) (hB:B<=w.heap.size) (hn:n<=100000) (hpts:∀p∈l,p.2.pts.length<=1000000) (h0:t.items.length=0):
 C9 9 #[gP tb,.slice A n c] w fun e w' =>∃v,e=.returned v/\ErrX w' v (bldE C t l).1 ⟨#[98,117,105,108,100]⟩ (bldE C t l).2/\BldG C (.iface ct cv) w w' own imm tb mb t l:=by
 have he:bldE C t l=bldR C [] l:=by unfold bldE;rw [if_pos h0]
 have HH:=hdQ h;have HSm:=hdQ (fun w' (hb:Below w.heap.size w w') (q:(bldR C [] l).1≠0)=>BldG.same (l:=l) h hb (by rw [he];exact q))
 have HHe:=hdQ he
 rw [he]
 obtain⟨t0,t1,t2,t3,tlt⟩:=h.lay.c0;have HG:=hdQ (fun W (hW:Below w.heap.size w W)=>qc9 (h.lay.tr hW))
 have HM:=hdQ h.lay.mp;have HML:=hdQ (show (t.items.map fun p=>(p.1,gP p.2.blk)).length=0 from by rw [zyy];exact h0)
 have HLn:Hid (∀W,Below w.heap.size w W->∀ty,(Builtin.len_ #[80] ty #[.map (some mb)]).run Tryz.prog W=.ok (.int .i64 0) W):=fun W hW ty=>by
  have:=World.ownsMap.len (show W.ownsMap Tryz.prog 3 RV mb _ (toD (t.items.map fun p=>(p.1,gP p.2.blk))) from qba.tr HM.out hW) Tryz.underlying80 ty
  rw [qjb,HML.out] at this;exact this
 have HN:=hdQ (fun W=>qqe ct cv t.fan h.fan4 h.fan16 W)
 have HI:=hdQ hl;have HPt:=hdQ hpts;have HFan:=hdQ (And.intro h.fan4 h.fan16);have hll:=hl.1;have HLen:=hdQ hll;have HC:=hdQ hC;have HP:=hdQ hP;have HE:=hdQ hE;clear h he h0 hl hpts hll hC hP hE;obtain⟨fan,hfan⟩:∃x,t.fan=x:=⟨_,rfl⟩;have HFe:=hdQ hfan;rw [hfan] at t1 HN HFan;clear hfan
 simp only [gP] at*
 go_enter Tryz.func9,Tryz.ntmps9
 go_wp2_with (go_at_call 25;(refine(HG.out _ bel).monoR ?_);rintro w1 hb1 hc1 hf1 hz1;(try simp at hz1);have hln:=HLn.out w1 hb1;have s0:=(hc1 tb 0 tlt).trans t0;have s1:=(hc1 tb 1 tlt).trans t1;have tl1:tb<w1.heap.size:=zky tlt hb1.size)
 refine qac kr kr pq ?_
 simp only [zdy,zey,ldz,lds,bare,qak,lcz,lcs,zay]
 repeat' ((try simp only [Act.put,lsi,lsz,lss]);first|(refine lqx ?_)|(refine qab qaa rfl (fun K hK=> ?_);go_simp;((first |  (go_at_call 8;(with_reducible refine(HN.out _).mono ?_);rintro e w3 ⟨xb,xm,r,ownx,rfl,hL3,hown3,hb3⟩;have HL3:=hdQ (And.intro hL3 hown3);clear hL3 hown3;obtain⟨hc3,hf3,hz3⟩:=bc3 hb3;(try simp at hz3))|skip)<;>(refine hK.out _ _ bel ?_;clear hK K))))
 (all_goals try simp only [Act.put,lsi,lsz,lss]);all_goals(refine qad ?_)
 refine qqs (Φ:=fun W=>Exit.then _ _ Exit.normal _ W) (fun W=>(∃ownx immx tx,GAt C (.iface ct cv) W ownx immx xb xm tx/\tx.fan=fan/\obsT tx.items=bldM (l.take 0)/\∀b,ownx b\/immx b->w.heap.size<=b)/\Below w.heap.size w W) ⟨⟨ownx,fun _=>False,newT fan r,qw8 (HL3.out.1.tr bel) HFan.out.1 HFan.out.2,rfl,rfl,fun b hb=>by
  rcases hb with hb|hb
  · exact zcy (show w.heap.size<=_ from bsy w) (HL3.out.2 b hb)
  · exact hb.elim⟩,bel⟩ ?_
 rintro w4 ⟨⟨ownx,immx,tx,hG4,hf4,hM4,hl4⟩,hb4⟩;clear hc3 hf3 hb3 hz3 HL3;go_wp2_with fail
 go_loopw [36] (fun vi wr=>∃(i:Nat) (ownx immx:Nat->Prop) (tx:Tr),i<=n/\vi=.int .i64 i/\GAt C (.iface ct cv) wr ownx immx xb xm tx/\tx.fan=fan/\obsT tx.items=bldM (l.take i)/\bldR C (bldM (l.take i)) (l.drop i)=bldR C [] l/\(∀b,ownx b\/immx b->w.heap.size<=b)/\Below w.heap.size w wr) (fun vi _=>n-(Go.RowKit.intOf vi).toNat)
 case atStart=>exact ⟨0,ownx,immx,tx,zly _,rfl,hG4,hf4,hM4,rfl,hl4,hb4⟩
 case round=>
  clear hG4 hf4 hM4 hl4 hb4;obtain⟨i,ownx,immx,tx,hin,rfl,hGx,hfx,hMx,hRx,hlx,hb⟩:=hrel;have HGx:=hdQ (And.intro hGx (And.intro hfx (And.intro hMx (And.intro hRx (And.intro hlx hb)))));have hws:=hb.size;have hBr:B<=wr.heap.size:=zcy hB hws
  have hcnt:tx.items.length<=1000000:=by
   have h1:tx.items.length=(bldM (l.take i)).length:=by rw [<-hMx];unfold obsT;rw [zyy]
   have h2:=q0c (l.take i);rw [List.length_take] at h2
   omega
  by_cases hlt:i<n
  case neg=>
   obtain rfl:n=i:=oQ
   have hld:=hGx.lay;have htl:tb<wr.heap.size:=zky tlt hws;have hdx:=hld.hd;have hdt:=(HH.out.lay.tr hb).hd;have x0:=hdx.cell 0;have x1:=hdx.cell 1;have x2:=hdx.cell 2;have x3:=hdx.cell 3;have xl:=hdx.lt;have z0:=hdt.cell 0;have z1:=hdt.cell 1;have z2:=hdt.cell 2;have z3:=hdt.cell 3;have fz:=hdt.frozen;simp only [lAq,gP] at x0 x1 x2 x3 z0 z1 z2 z3
   have hne:xb≠tb:=fun e=>by
    have:=hlx xb (.inl hld.oT)
    omega
   have HDx:=hdQ (And.intro hld hdt);clear hGx hfx hMx hRx hlx hb hdx hdt hld;go_wp2_with fail;go_ret
   have hb0:bldR C [] l=(0,0):=by
    rw [<-HGx.out.2.2.2.1,List.drop_of_length_le (by rw [HLen.out];exact zhy _)]
    rfl
   have hg9:wr.grownBy ((((wr.setCell ⟨tb,0,none⟩ (.iface ct cv)).setCell ⟨tb,1,none⟩ (.int .i64 tx.fan)).setCell ⟨tb,2,none⟩ (.pointer (some ⟨tx.root,0,none⟩))).setCell ⟨tb,3,none⟩ (.map (some xm))) (some tb):=
    qge (qge (qge (qb2 wr ⟨tb,0,none⟩ _) (qb2 _ ⟨tb,1,none⟩ _)) (qb2 _ ⟨tb,2,none⟩ _)) (qb2 _ ⟨tb,3,none⟩ _)
   have hlo:=HGx.out.2.2.2.2.1;have hld:=HDx.out.1;have hB9:=qew (a:=.iface ct cv) (b:=.int .i64 tx.fan) (c:=.pointer (some ⟨tx.root,0,none⟩)) (d:=.map (some xm)) HDx.out.2;have hmv:=Lay.moved hld (fun q=>by have:=hlo tb (.inl q);omega) (fun q=>by have:=hlo tb (.inr q);omega) hg9 hB9
   have hw0:=HH.out.lay
   have hG9:GAt C (.iface ct cv) ((((wr.setCell ⟨tb,0,none⟩ (.iface ct cv)).setCell ⟨tb,1,none⟩ (.int .i64 tx.fan)).setCell ⟨tb,2,none⟩ (.pointer (some ⟨tx.root,0,none⟩))).setCell ⟨tb,3,none⟩ (.map (some xm))) (fun b=>own b\/ownx b) (fun b=>imm b\/immx b) tb xm tx:=
    {HGx.out.1 with
     lay:=hmv.more (fun b q=>by
      rcases q with q|q
      · exact .inr q
      · rw [q];exact .inl hw0.oT) (fun b q=> .inr q) (fun b q k=>by
      rcases q with q|q<;>rcases k with k|k
      · exact hw0.sep b q k
      · have:=hw0.lim b (.inl q)
        have:=hlo b (.inr k)
        omega
      · have:=hw0.lim b (.inr k)
        have:=hlo b (.inl q)
        omega
      · exact hld.sep b q k) (fun b q=>zky (show b<wr.heap.size from by
      rcases q with (q|q)|(q|q)
      · exact zky (hw0.lim b (.inl q)) hws
      · exact hld.lim b (.inl q)
      · exact zky (hw0.lim b (.inr q)) hws
      · exact hld.lim b (.inr q)) hg9.size)}
   have hgr:Grow w ((((wr.setCell ⟨tb,0,none⟩ (.iface ct cv)).setCell ⟨tb,1,none⟩ (.int .i64 tx.fan)).setCell ⟨tb,2,none⟩ (.pointer (some ⟨tx.root,0,none⟩))).setCell ⟨tb,3,none⟩ (.map (some xm))) own imm (fun b=>own b\/ownx b) (fun b=>imm b\/immx b):=
    ⟨((TurnF.refl own w).below HGx.out.2.2.2.2.2).grown hg9 (fun k e=>by cases e;exact .inl hw0.oT),fun b q=>q.imp (fun h=>h) (fun h=>hlo b (.inl h)),fun b q=>q.imp (fun h=>h) (fun h=>hlo b (.inr h)),fun b q=> .inl q,fun b q=> .inl q⟩
   refine⟨.nilIface,rfl,by rw [hb0];exact .inl ⟨rfl,rfl⟩,tx,_,_,xm,hG9,hgr,by rw [HGx.out.2.1,HFe.out],fun q=>absurd (by rw [HHe.out,hb0]) q,fun _=> ?_⟩
   rw [HGx.out.2.2.1,zmy (by rw [HLen.out];exact zhy _)]
  have hltI:(i:Int)<(n:Int):=oQ
  obtain⟨b,off,p,A',n',c',rfl,hbw,hp,c0,c1,c2,hpt⟩:=(HI.out.below (hb.mono hB)).at_ hlt;have hbr:b<wr.heap.size:=oQ
  have hpn:n' <=1000000:=by rw [<-hpt.1];exact HPt.out p (zjy hp)
  obtain⟨pid,ob⟩:=p;obtain⟨pk,pl⟩:=ob
  simp only at c0 c1 c2 hpt
  have hio:=qsj C tx pid ⟨pk,pl⟩;rw [hMx] at hio;have hdr:=qxv (C:=C) (m:=bldM (l.take i)) hp;rw [hRx] at hdr
  simp only at hdr
  have hins:=fun W (hW:Below wr.heap.size wr W)=>qma HC.out HP.out HE.out (hGx.tr hW) hcnt pid B n' c' pk A' pl (hpt.below (hW.mono hBr)) (zcy hBr hW.size) hpn
  obtain⟨e,he⟩:∃e,insO C (bldM (l.take i)) pid ⟨pk,pl⟩=e:=⟨_,rfl⟩;rw [he] at hio hdr;have htk:=qxw hp
  by_cases he0:e=0
  case pos=>
   subst he0;have hins2:=hins;rw [hio] at hins;rw [if_pos rfl] at hdr;have HIn:=hdQ hins;have HDr:=hdQ (And.intro hdr (And.intro htk hio));clear hGx hfx hMx hRx hlx hb hpt hp hio hdr hins hins2 htk he
   go_wp2_with (go_at_call 26;(refine(HIn.out _ bel).mono ?_);rintro e6 w6 ⟨v6,rfl,hy6,hI6⟩;obtain rfl:=hy6.zero;have HI6:=hdQ (hI6.from (show Below wr.heap.size wr _ from bel));clear hy6 hI6)
   go_roundw
   case rel=>
    obtain⟨t6,own6,imm6,hG6,hgr6,hf6,_,hs6⟩:=HI6.out;obtain⟨x6,hx6,hit6⟩:=hs6 HDr.out.2.2;have hlo:=HGx.out.2.2.2.2.1;refine⟨i+1,own6,imm6,t6,by omega,by go_num,hG6,by rw [hf6];exact HGx.out.2.1,?_,?_,fun b hb=> ?_,HGx.out.2.2.2.2.2.trans (qek hgr6.turn (fun k q=>hlo k (.inl q)) hws)⟩
    · rw [hit6,HDr.out.2.1,<-HGx.out.2.2.1]
      unfold obsT
      rw [<-hx6]
      exact(qry (fun x:It=>x.ob) pid x6 tx.items).symm
    · rw [HDr.out.2.1]
      exact HDr.out.1.symm
    · rcases hb with q|q
      · rcases hgr6.oo b q with k|k
        · exact hlo b (.inl k)
        · omega
      · rcases hgr6.ii b q with k|k
        · exact hlo b (.inr k)
        · omega
   case measure=>simp [Go.RowKit.intOf];omega
  case neg=>
   rw [if_neg he0] at hdr;rw [hio] at hins;have HIn:=hdQ hins;have HDr:=hdQ (And.intro hdr he0);have hlim:=fun b (q:ownx b)=>hGx.lay.lim b (.inl q)
   have HLim:=hdQ hlim;have HFn:=hdQ (fun v W (hy:ErrY W v e)=>qet ⟨#[98,117,105,108,100]⟩ pid v e W hy)
   clear hGx hfx hMx hRx hlx hb hpt hp hio hdr hins htk he he0 hlim
   go_wp2_with (first
    | (go_at_call 26;(refine(HIn.out _ bel).mono ?_);rintro e6 w6 ⟨v6,rfl,hy6,t6,own6,imm6,hG6,hgr6,_⟩;obtain⟨et,eu,rfl⟩:=hy6.form HDr.out.2;have HY6:=hdQ hy6;have r6:w6.cell? ⟨wr.heap.size,0,none⟩=some (.int .i64 pid):=(hgr6.turn.cell (p:=⟨wr.heap.size,0,none⟩) sI (fun q=>by have:=HLim.out _ q;simp at this)).trans sI;have HB6:=hdQ (HGx.out.2.2.2.2.2.trans (Below.trans ((show Below wr.heap.size wr _ from bel).mono hws) (qek hgr6.turn (fun k q=>HGx.out.2.2.2.2.1 k (.inl q)) (by simp;omega))));have r6l:wr.heap.size<w6.heap.size:=zky sI hgr6.turn.size;clear hG6 hgr6 hy6)
    | (go_at_call 24;(refine(HFn.out _ _ HY6.out).mono ?_);rintro e w7 ⟨v',rfl,hE7,hb7⟩;have HE7:=hdQ hE7;clear hE7;have HB7:=hdQ hb7;clear hb7))
   go_ret
   rw [HDr.out.1]
   refine⟨_,rfl,HE7.out,HSm.out _ (HB6.out.trans (HB7.out.mono HB6.out.size)) (by rw [HDr.out.1];exact HDr.out.2)⟩
theorem qx2 {C:Cl} {ct:TypeId} {cv:Value} {fM fC fD fU fS fP:Nat} (hC:ClAt ct cv C fM fC fD fU fS) (hP:PenAt ct cv fP) (hE:MakeE cv C fM) (h:GAt C (.iface ct cv) w own imm tb mb t) (hcount:t.items.length<=100000) (B n c:Nat) (A:Option Addr) (l:List (Int×Ob)) (hl:qe4 w B A n l) (hB:B<=w.heap.size) (hn:n<=100000) (hpts:∀p∈l,p.2.pts.length<=1000000):
 C9 9 #[gP tb,.slice A n c] w fun e w' =>∃v,e=.returned v/\ErrX w' v (bldE C t l).1 ⟨#[98,117,105,108,100]⟩ (bldE C t l).2/\BldG C (.iface ct cv) w w' own imm tb mb t l:=by
 by_cases h0:t.items.length=0
 · exact qpl hC hP hE h B n c A l hl hB hn hpts h0
 · exact qrf h hcount n c A l h0
end
end Go.Proofs.YtfnhnjbkkggbeaaGreat
