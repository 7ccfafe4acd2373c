/-Cursors: Close;a closed cursor tells nothing.-/
import Derived.Test.YtildgbhliaonnaaGreatRScaO
import Derived.Test.YtildgbhliaonnaaGreatRRefK
set_option linter.unusedVariables false
set_option linter.unusedSimpArgs false
set_option maxHeartbeats 4000000
set_option maxRecDepth 20000
namespace Go.Proofs.YtildgbhliaonnaaGreat
open Go Go.RowKit Pg
theorem qw7 {w:World} {Z:Nat->Prop} {cb k:Nat} {S:List Nr} (h:CurAt w Z cb S k true):C9 19 #[gP cb] w fun e w' =>e=.returned .nilIface/\CurAt w' Z cb S k false/\TurnF (fun b=>b=cb) w w' :=by
 obtain⟨A,c,h1,h2,h3,h4⟩:=h.hd;have c2:=h1.cell 2;have cl:=h1.lt;have fC:=h1.frozen;simp only [lAq] at c2;have HH:=hdQ (And.intro h h1);have HR:=hdQ (And.intro h2 (And.intro h3 h4));clear h h1 h2 h3 h4
 simp only [gP]
 go_enter Tryz.func19,Tryz.ntmps19
 go_wp2;go_ret;have ht:TurnF (fun b=>b=cb) w (w.setCell ⟨cb,2,none⟩ (.bool false)):=(TurnF.refl (fun b=>b=cb) w).set_ (F:=fun b=>b=cb) (p:=⟨cb,2,none⟩) (.inl rfl) _
 exact⟨rfl,⟨⟨A,c,(HH.out.2.set_ 2 (.bool false)).eq_ sI,HR.out.1,HR.out.2.1,HR.out.2.2.turn ht fun b hb q=>HH.out.1.no (q ▸ hb)⟩,HH.out.1.le,HH.out.1.no,fun b hb=>zky (HH.out.1.lim b hb) ht.size⟩,ht⟩
theorem qvc {q:Qu} {I:List (Int×Ob)} {i:Nat} {p:Int×Ob} (h:I[i]? =some p):qfw q (I.take (i+1))=qfw q (I.take i)++if qba p.2 q then [p.1] else []:=by
 unfold qfw
 rw [zwy,h,List.filter_append,zfx]
 simp only [Option.toList_some,List.filter_cons,List.filter_nil]
 cases qba p.2 q<;>rfl
theorem qpg (q:Qu) (I:List (Int×Ob)):(qfw q I).length<=I.length:=by
 unfold qfw
 rw [zyy]
 exact List.length_filter_le _ _
section
variable {w:World} {Y Z:Nat->Prop} {mb:Nat} {L:List (Int×Mi)}
theorem qse (h:MrAt w Y Z mb L) (hn:L.length<=100000) (q:Qu) (A:Option Addr) (m c:Nat) (hm:m<=1000000) (hr:qan w w.heap.size A m q.ring):
 C9 17 #[gP mb,quV q.kind q.box A m c,.int .i64 0] w fun e w' =>∃v,e=.returned v/\w'.ownsRow w.heap.size 3 1 v (qfw q (obsM L)).length (idcs (qfw q (obsM L)))/\Below w.heap.size w w' :=by
 obtain⟨i0,hi,iz0,iz1,iz2⟩:=info_parts Tryz.infoIY;obtain⟨sv,hB,hrow,_⟩:=h.rw;obtain⟨Ar,cr,rfl,hnc,hAn,hAb⟩:=qaq hrow;have b0:=hB.cell 0;simp only [lta,lcz] at b0;have bl:=hB.lt;have HR0:=hdQ hrow;have HH:=hdQ h;have HRing:=hdQ hr;obtain⟨n,hl⟩:∃n,L.length=n:=⟨_,rfl⟩;have HM:=hdQ hl;rw [hl] at b0 hn HR0 hnc;have HMt:=hdQ (fun W (hW:Below w.heap.size w W) (o:Ob) (A' :Option Addr) (c' :Nat) (hp:qan W W.heap.size A' o.pts.length o.pts) (h2:o.pts.length<=1000000)=>qvt W.heap.size o.pts.length c' m c o.kind q.kind q.box A' A o.pts q.ring W hp ((hr.tr hW (zhy _)).more hW.size) (zhy _) h2 hm)
 have HMt2:Hid (∀o:Ob,qba ⟨o.kind,o.pts⟩ ⟨q.kind,q.box,q.ring⟩=qba o q):=fun o=>rfl
 clear h hB hrow hAn hAb hnc hl hr;generalize hbx:q.box=bx at*;obtain⟨⟨x0,y0⟩,x1,y1⟩:=bx;have HBX0:=hdQ hbx;clear hbx
 simp only [gP,quV] at*
 go_enter Tryz.func17,Tryz.ntmps17
 go_wp2_with fail;refine qcr (fun w3=>Blk w3 w.heap.size 49 #[.int .i64 q.kind,.int .i64 x0,.int .i64 y0,.int .i64 x1,.int .i64 y1,.slice A m c]/\Below w.heap.size w w3) ⟨blkA,bel⟩ ?_
 rintro w3 ⟨hB3,hb3⟩
 go_loopw [7,8] (fun vl vi wr=>∃i:Nat,∃acc:List Int,∃Al cl,i<=n/\vi=.int .i64 i/\vl=.slice Al acc.length cl/\acc=qfw q ((obsM L).take i)/\wr.ownsRow (w.heap.size+1) 3 1 vl acc.length (idcs acc)/\Blk wr w.heap.size 49 #[.int .i64 q.kind,.int .i64 x0,.int .i64 y0,.int .i64 x1,.int .i64 y1,.slice A m c]/\Below w.heap.size w wr) (fun _ vi _=>n-(Go.RowKit.intOf vi).toNat)
 case atStart=>exact ⟨0,[],none,0,zly _,rfl,rfl,by rw [List.take_zero];rfl,World.ownsRow_nil _ _ _ _,hB3,hb3⟩
 case round=>
  clear hB3 hb3;obtain⟨i,acc,Al,cl,hin,rfl,rfl,hacc,hro,hBx,hb⟩:=hrel;obtain⟨hc,hf,hz⟩:=bc3 hb;have b0' :=(hc mb _ bl).trans b0;have bl' :mb<wr.heap.size:=oQ
  obtain⟨q0,q1,q2,q3,q4,q5⟩:=ce6 hBx;have ql:=hBx.lt
  have hal:acc.length<=i:=by
   rw [hacc]
   refine zcy (qpg _ _) ?_
   rw [List.length_take]
   omega
  have HRO:=hdQ hro;have HBX:=hdQ hBx;have HW:=hdQ hb;have HAcc:=hdQ hacc;clear hro hBx hacc
  by_cases hlt:i<n
  case neg=>
   obtain rfl:n=i:=oQ
   have e1:(obsM L).take n=obsM L:=zmy (by unfold obsM;rw [zyy,HM.out];exact zhy _)
   rw [e1] at HAcc;clear e1;go_wp2_with fail;go_ret;exact⟨_,rfl,by rw [<-HAcc.out];exact qa4 HRO.out oQ,hb⟩
  have hi1:(i:Int)<(n:Int):=oQ
  obtain⟨p,hp⟩:∃p,L[i]? =some p:=⟨L[i]'(by rw [HM.out];omega),zby _⟩
  have hmem:=zjy hp;have hr:=HR0.out;rw [<-HM.out] at hr;obtain⟨g,c9,hv,hgl,r0,r1,r2⟩:=qoe hr hp;rw [HM.out] at hv;injection hv with hv1 hv2 hv3
  subst hv1 hv3;rw [<-hc g _ hgl] at r0 r1 r2;have hgw:g<wr.heap.size:=oQ
  obtain⟨Ap,cp,ep,hpt⟩:=(HH.out.tr hb).pts p hmem |>.pts
  have hpl:=((HH.out.tr hb).pts p hmem).1;rw [ep] at r2;obtain⟨mv,hmv⟩:∃b,qba p.2.ob q=b:=⟨_,rfl⟩
  have HMa:Hid (∀W,Below wr.heap.size wr W->C9 35 #[.agg #[.int .i64 p.2.ob.kind,.slice Ap p.2.ob.pts.length cp],.agg #[.int .i64 q.kind,.int .i64 x0,.int .i64 y0,.int .i64 x1,.int .i64 y1,.slice A m c]] W (Ret W (.bool mv))):=fun W hW=>by
   have h1:=HMt.out W (HW.out.trans (hW.mono hz)) p.2.ob Ap cp ((hpt.below hW).more hW.size) hpl;rw [HMt2.out p.2.ob,hmv] at h1;exact h1
  have hstep:qfw q ((obsM L).take (i+1))=acc++if mv then [p.1] else []:=by
   rw [qvc (p:=(p.1,p.2.ob)) (by unfold obsM;rw [zpx,hp];rfl),<-HAcc.out,hmv]
  have HST:=hdQ hstep;clear hc hf b0 hr hv2 hp hmem ep hpt hpl hmv hstep;generalize p.2.ob.pts.length=pl at*;generalize p.2.ob.kind=pk at*;generalize p.1=pid at*
  cases mv with
  | false=>
    go_wp2_with fail;refine qac kr kr pq ?_
    simp only [zdy,zey,ldz,lds,bare,qak,lcz,lcs,zay]
    repeat' ((try simp only [Act.put,lsi,lsz,lss]);first|(refine qbn ?_ ?_;focus(simp only [lAq,zgy,zfy];done))|(refine qbe ?_ ?_ ?_;(focus(simp only [lAq,zgy,zfy];done));(focus(exact bel)))|(refine qau (X:= ?_) ?_ ?_ (fun hg=> ?_) (fun hg=> ?_);rotate_left;(focus(simp only [lAq];with_reducible rfl));(focus(exact bel));all_goals(try simp only [zgy,zfy] at hg))|(refine lqx ?_)|(refine qab qaa rfl (fun K hK=> ?_);go_simp;((first |  (go_at_call 35;(with_reducible refine(HMa.out _ bel).monoR ?_);rintro w1 hb1 hc1 hf1 hz1;(try simp at hz1))|skip)<;>(refine hK.out _ _ bel ?_;clear hK K))))
    (all_goals try simp only [Act.put,lsi,lsz,lss]);all_goals(refine qad ?_)
    go_wp2_with fail
    go_roundw
    case rel=>exact ⟨i+1,acc,Al,cl,by omega,by go_num,rfl,by rw [HST.out];simp,qam HRO.out (qai bel) sI,HBX.out.tr bel,HW.out.trans ((show Below wr.heap.size wr _ from bel).mono hz)⟩
    case measure=>simp [Go.RowKit.intOf];omega
  | true=>
    go_wp2_with fail;refine qac kr kr pq ?_
    simp only [zdy,zey,ldz,lds,bare,qak,lcz,lcs,zay]
    repeat' ((try simp only [Act.put,lsi,lsz,lss]);first|(refine qbn ?_ ?_;focus(simp only [lAq,zgy,zfy];done))|(refine qbe ?_ ?_ ?_;(focus(simp only [lAq,zgy,zfy];done));(focus(exact bel)))|(refine qau (X:= ?_) ?_ ?_ (fun hg=> ?_) (fun hg=> ?_);rotate_left;(focus(simp only [lAq];with_reducible rfl));(focus(exact bel));all_goals(try simp only [zgy,zfy] at hg))|(refine lqx ?_)|(refine qab qaa rfl (fun K hK=> ?_);go_simp;((first |  (go_at_call 35;(with_reducible refine(HMa.out _ bel).mono ?_);rintro e w1 ⟨rfl,hb1⟩;have hb1' :Below wr.heap.size wr w1:=bel;obtain⟨hc1,hf1⟩:=qbi hb1';have d0:=(hc1 mb 0 bl').trans b0';have d1:=(hc1 g _ hgw).trans r0;have hz1:=hb1'.size;have m1:mb<w1.heap.size:=oQ;have m2:g<w1.heap.size:=oQ;clear hc1 hf1)|skip)<;>(refine hK.out _ _ bel ?_;clear hK K))))
    (all_goals try simp only [Act.put,lsi,lsz,lss]);all_goals(refine qad ?_)
    go_wp2_with (at_builtin;refine wpList_append_own _ rfl _ _ 25 rfl (w.heap.size+1) 3 i0 (.int .i64 0) 1 8 Tryz.underlying25 hi iz0 iz1 iz2 rfl dE _ _ _ rfl (qam HRO.out (qai bel) sI) _ _ _ _ rfl rfl qys ?c2 ?c3 ?c4 ?c5 ?_)
    case c2=>simp [Value.oneCell']
    case c3=>unfold maxLen;omega
    case c4=>omega
    case c5=>simp;omega
    intro v7 w7 hown hgrow _;have hb7:Below w.heap.size w w7:=(HW.out.trans ((show Below wr.heap.size wr _ from bel).mono hz)).grown hgrow (by simp;omega) (fun k e=>by have:=(HRO.out.lt k e).1;omega)
    have hB7:Blk w7 w.heap.size 49 #[.int .i64 q.kind,.int .i64 x0,.int .i64 y0,.int .i64 x1,.int .i64 y1,.slice A m c]:=(show Blk _ w.heap.size 49 #[.int .i64 q.kind,.int .i64 x0,.int .i64 y0,.int .i64 x1,.int .i64 y1,.slice A m c] from HBX.out.tr bel).kept hgrow (fun e=>by have:=(HRO.out.lt _ e).1;omega)
    have hl7:(acc++ [pid]).length=acc.length+1:=sI
    rw [show idcs acc++ [Value.int .i64 pid]=idcs (acc++ [pid]) by unfold idcs;simp,<-hl7] at hown
    obtain⟨A7,c7,rfl,_,_,_⟩:=qaq hown;have H7:=hdQ (And.intro hown (And.intro hB7 hb7));clear hown hgrow hb7 hB7;go_wp2_with fail
    go_roundw
    case rel=>exact ⟨i+1,acc++ [pid],A7,c7,by omega,by go_num,rfl,by rw [HST.out];simp,H7.out⟩
    case measure=>simp [Go.RowKit.intOf];omega
end
section
variable {C:Cl} {cl:Value} {w:World} {Y own imm Z:Nat->Prop} {tb mb mm:Nat} {t:Tr} {L:List (Int×Mi)} {m:List (Int×Ob)}
theorem Side.len (h:Side C cl w Y own imm Z tb mb mm t L m):L.length=t.items.length:=by
 have h1:=congrArg List.length (h.om.trans h.ot.symm);unfold obsM obsT at h1
 simpa using h1
theorem Side.of (h:Side C cl w Y own imm Z tb mb mm t L m) {p:Int×Mi} (hp:p∈L):(0<=p.1/\p.1<=1099511627776)/\ckOb p.2.ob=0:=by
 have h1:(p.1,p.2.ob)∈obsT t.items:=by
  rw [h.ot,<-h.om]
  exact zty.2 ⟨p,hp,rfl⟩
 obtain⟨⟨i,it⟩,hm,e⟩:=zty.1 h1;injection e with e1 e2
 obtain⟨h2,h3,_⟩:=h.g.its i it (qhp h.g.shape.rise hm)
 simp only at e1 e2
 rw [<-e1,<-e2]
 exact⟨h2,h3⟩
theorem Side.near (h:Side C cl w Y own imm Z tb mb mm t L m) (hcount:t.items.length<=100000) (x y:Int) (hp:okPt ⟨x,y⟩=true):
 C9 16 #[gP mm,ptV x y,.int .i64 (t.items.length:Nat)] w fun e w' =>∃v,e=.returned v/\w'.ownsRow w.heap.size 60 4 v t.items.length (nrVs (qqc t x y))/\Below w.heap.size w w' :=by
 have h1:=qqh h.r (by rw [h.len];exact hcount) x y hp (t.items.length:Nat) (by rw [h.len];omega) (fun p q=>qqz (h.of q).2 hp) (fun p q=>(h.of q).1)
 rw [h.om,<-h.ot,h.len] at h1;exact h1
theorem Side.srch (h:Side C cl w Y own imm Z tb mb mm t L m) (hcount:t.items.length<=100000) (q:Qu) (A:Option Addr) (k c:Nat) (hk:k<=1000000) (hr:qan w w.heap.size A k q.ring):
 C9 17 #[gP mm,quV q.kind q.box A k c,.int .i64 0] w fun e w' =>∃v,e=.returned v/\w'.ownsRow w.heap.size 3 1 v (qfw q (obsT t.items)).length (idcs (qfw q (obsT t.items)))/\Below w.heap.size w w' :=by
 have h1:=qse h.r (by rw [h.len];exact hcount) q A k c hk hr
 rw [h.om,<-h.ot] at h1;exact h1
end
structure ApM (w:World) (Za Zb Zn Zi:Nat->Prop) (ca cb:Nat) (An Ai:Option Addr) (S:List Nr) (I:List Int) (x y:Nat):Prop where
 a:CurAt w Za ca S x true
 b:CurAt w Zb cb (idNr I) y true
 n:qcv w Zn An (nrVs S)
 i:qcv w Zi Ai (idcs I)
 na:∀k,Zb k\/k=cb\/Zn k\/Zi k->k≠ca
 nb:∀k,Za k\/k=ca\/Zn k\/Zi k->k≠cb
section
variable {w w' :World} {Za Zb Zn Zi:Nat->Prop} {ca cb:Nat} {An Ai:Option Addr} {S:List Nr} {I:List Int} {x y x' y' :Nat}
theorem ApM.tr (M:ApM w Za Zb Zn Zi ca cb An Ai S I x y) (hb:Below w.heap.size w w'):ApM w' Za Zb Zn Zi ca cb An Ai S I x y:=
 ⟨M.a.tr hb,M.b.tr hb,M.n.kept (qai hb) sI,M.i.kept (qai hb) sI,M.na,M.nb⟩
theorem ApM.stepA (M:ApM w Za Zb Zn Zi ca cb An Ai S I x y) (hc:CurAt w' Za ca S x' true) (ht:TurnF (fun b=>b=ca) w w'):ApM w' Za Zb Zn Zi ca cb An Ai S I x' y:=
 ⟨hc,M.b.turn ht fun b hb q=>M.na b (by rcases hb with h|h<;>simp [h]) q,M.n.turn ht fun b hb q=>M.na b (by simp [hb]) q,M.i.turn ht fun b hb q=>M.na b (by simp [hb]) q,M.na,M.nb⟩
theorem ApM.stepB (M:ApM w Za Zb Zn Zi ca cb An Ai S I x y) (hc:CurAt w' Zb cb (idNr I) y' true) (ht:TurnF (fun b=>b=cb) w w'):ApM w' Za Zb Zn Zi ca cb An Ai S I x y' :=
 ⟨M.a.turn ht fun b hb q=>M.nb b (by rcases hb with h|h<;>simp [h]) q,hc,M.n.turn ht fun b hb q=>M.nb b (by simp [hb]) q,M.i.turn ht fun b hb q=>M.nb b (by simp [hb]) q,M.na,M.nb⟩
end
theorem q61 {w:World} {Z:Nat->Prop} {A:Option Addr} {I:List Int} (h:qcv w Z A (idcs I)) {k:Nat} {z:Int} (hz:I[k]? =some z):∃b off,A=some ⟨b,off,none⟩/\b<w.heap.size/\w.cell? ⟨b,off+k,none⟩=some (.int .i64 z):=by
 have hk:k<I.length:=(zsy.1 hz).1;obtain⟨b,off,e,_,hb,hc⟩:=h (by unfold idcs;rw [zyy];omega)
 exact⟨b,off,e,hb,hc _ _ (by unfold idcs;rw [zpx,hz];rfl)⟩
end Go.Proofs.YtildgbhliaonnaaGreat
