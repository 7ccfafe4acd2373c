/-The nearest-/
import Derived.Test.YteodamnfgcnmmaaGreatDoorRLawSp
import Derived.Test.YteodamnfgcnmmaaGreatDoorRRefEH
import Derived.Deep.CutBlock
import Derived.Deep.DeepCutAuto
set_option linter.unusedVariables false
set_option linter.unusedSimpArgs false
set_option maxHeartbeats 4000000
set_option maxRecDepth 20000
namespace Pg
open Go Go.RowKit
theorem qqo {dist:Ob->Fr} {I:List (Int×Ob)} (hI:(I.map (·.1)).Nodup):(qdx dist I).Pairwise fun a b=>cmpN a b<0:=
 qpr (by rw [List.map_map];exact hI)
theorem qis {dist:Ob->Fr} {I:List (Int×Ob)} {a:Int×Fr}:a∈qdx dist I↔∃p∈I,a=(p.1,dist p.2):=by
 unfold qdx
 rw [(qfx _).mem_iff,zty]
 constructor
 · rintro⟨p,h,rfl⟩;exact⟨p,h,rfl⟩
 · rintro⟨p,h,rfl⟩;exact⟨p,h,rfl⟩
theorem q3j {x y:Int×Fr} (h:¬ cmpN x y<0) (hne:x.1≠y.1):cmpN y x<0:=by
 rcases Int.lt_trichotomy (cmpN x y) 0 with q|q|q
 · exact absurd q h
 · exfalso
   unfold cmpN orI at q
   split at q
   · exact hne (qmb.1 q)
   · contradiction
 · exact(qdk.sw y x).2 q
theorem qnm {x y z:Int×Fr} (h:cmpN x y<0) (k:cmpN y z<0):cmpN x z<0:=by
 have h1:=qdk.le x y z oQ oQ
 rcases Int.lt_or_eq_of_le h1 with q|q
 · exact q
 · exfalso
   -- z is not behind x
   have h2:cmpN z x<=0:=by
    rcases Int.lt_or_le 0 (cmpN z x) with w|w
    · have:=(qdk.sw x z).2 w;omega
    · exact w
   have h3:=qdk.le z x y h2 oQ
   have h4:=(qdk.sw y z).1 k
   omega
theorem q5c {l:List (Int×Fr)} {n:Int×Fr} {k:Nat} (hl:l.Pairwise fun a b=>cmpN a b<0) (hne:∀x∈l,x.1≠n.1) (hk:k<=l.length) (h1:∀j x,k<=j->l[j]? =some x->cmpN n x<0) (h2:∀m x,k=m+1->l[m]? =some x->¬ cmpN n x<0):
 (l.take k++n::l.drop k).Pairwise fun a b=>cmpN a b<0:=by
 have hd:∀x∈l.drop k,cmpN n x<0:=fun x hx=>by
  obtain⟨j,hj⟩:=List.mem_iff_getElem?.1 hx;rw [List.getElem?_drop] at hj;exact h1 _ _ (Nat.le_add_right _ _) hj
 have ht:∀x∈l.take k,cmpN x n<0:=fun x hx=>by
  cases k with
  | zero=>simp at hx
  | succ m=>
    obtain⟨j,hj⟩:=List.mem_iff_getElem?.1 hx
    have hjm:j<m+1:=by
     rcases zry j (m+1) with q|q
     · exact q
     · rw [zoy (by rw [List.length_take];omega)] at hj;cases hj
    rw [List.getElem?_take,if_pos hjm] at hj;have hml:m<l.length:=hk;have hm2:=zby hml;have h3:=q3j (h2 m _ rfl hm2) (fun e=>hne _ (List.getElem_mem hml) e.symm)
    rcases zry j m with q|q
    · obtain⟨hjl,ej⟩:=zsy.1 hj
      have h4:=List.pairwise_iff_getElem.1 hl j m hjl hml q;rw [ej] at h4;exact qnm h4 h3
    · obtain rfl:j=m:=oQ
      rw [hm2] at hj
      cases hj
      exact h3
 rw [List.pairwise_append,List.pairwise_cons]
 refine⟨hl.sublist (List.take_sublist _ _),⟨hd,hl.sublist (List.drop_sublist _ _)⟩,fun a ha b hb=> ?_⟩
 rcases List.mem_cons.1 hb with q|q
 · rw [q];exact ht a ha
 · exact qnm (ht a ha) (hd b q)
theorem qy4 {dist:Ob->Fr} {I:List (Int×Ob)} {i k:Nat} {p:Int×Ob} (hI:(I.map (·.1)).Nodup) (hp:I[i]? =some p) (hk:k<=(qdx dist (I.take i)).length) (h1:∀j x,k<=j->(qdx dist (I.take i))[j]? =some x->cmpN (p.1,dist p.2) x<0)
 (h2:∀m x,k=m+1->(qdx dist (I.take i))[m]? =some x->¬ cmpN (p.1,dist p.2) x<0):qdx dist (I.take (i+1))=(qdx dist (I.take i)).take k++(p.1,dist p.2)::(qdx dist (I.take i)).drop k:=by
 have hn:∀j,((I.take j).map (·.1)).Nodup:=fun j=>by
  rw [List.map_take]
  exact hI.sublist (List.take_sublist _ _)
 have hne:∀x∈qdx dist (I.take i),x.1≠p.1:=fun x hx e=>by
  obtain⟨q,hq,rfl⟩:=qis.1 hx;have h3:=hn (i+1);rw [zwy,hp,zfx,List.nodup_append] at h3;exact h3.2.2 q.1 (zty.2 ⟨q,hq,rfl⟩) p.1 sI e
 refine qql (qqo (hn _)) (q5c (qqo (hn _)) hne hk h1 h2) fun a=> ?_
 have hm:a∈(qdx dist (I.take i)).take k++(p.1,dist p.2)::(qdx dist (I.take i)).drop k↔a=(p.1,dist p.2)\/a∈qdx dist (I.take i):=by
  rw [List.mem_append,List.mem_cons]
  have:a∈qdx dist (I.take i)↔a∈(qdx dist (I.take i)).take k\/a∈(qdx dist (I.take i)).drop k:=by
   rw [<-List.mem_append,List.take_append_drop]
  rw [this]
  constructor
  · rintro(q|q|q)
    · exact .inr (.inl q)
    · exact .inl q
    · exact .inr (.inr q)
  · rintro(q|q|q)
    · exact .inr (.inl q)
    · exact .inl q
    · exact .inr (.inr q)
 rw [hm,qis,qis,zwy,hp]
 constructor
 · rintro⟨q,hq,rfl⟩
   rcases List.mem_append.1 hq with z|z
   · exact .inr ⟨q,z,rfl⟩
   · simp at z
     subst z;exact .inl rfl
 · rintro(rfl|⟨q,hq,rfl⟩)
   · exact⟨p,List.mem_append.2 (.inr sI),rfl⟩
   · exact⟨q,List.mem_append.2 (.inl hq),rfl⟩
theorem qqp (d:Ob->Fr):qdx d []= []:=zbx (qlm d [])
def ShR (S R:List Nr) (j:Nat):Prop:=∃z,R=S.take j++z::S.drop j
theorem ShR.len {S R:List Nr} {j:Nat} (h:ShR S R j) (hj:j<=S.length):R.length=S.length+1:=by
 obtain⟨z,rfl⟩:=h
 simp
 omega
theorem ShR.start (S:List Nr) (z:Nr):ShR S (S++ [z]) S.length:=⟨z,by simp⟩
theorem ShR.prev {S R:List Nr} {j:Nat} (h:ShR S R (j+1)) (hj:j+1<=S.length):R[j]? =some (S[j]'hj):=by
 obtain⟨z,rfl⟩:=h
 rw [zex (by simp;omega),List.getElem?_take_of_lt oQ,zby]
theorem ShR.step {S R:List Nr} {j:Nat} (h:ShR S R (j+1)) (hj:j+1<=S.length):ShR S (R.set (j+1) (S[j]'hj)) j:=by
 obtain⟨z,rfl⟩:=h;refine⟨S[j],?_⟩;have hl:(S.take (j+1)).length=j+1:=by simp;omega
 have h1:(S.take (j+1)++z::S.drop (j+1)).set (j+1) S[j]=S.take (j+1)++(z::S.drop (j+1)).set (j+1-(S.take (j+1)).length) S[j]:=List.set_append_right _ _ oQ
 have e1:S.take (j+1)=S.take j++ [S[j]]:=by rw [zwy,zby (show j<S.length by omega)];rfl
 have e2:S.drop j=S[j]::S.drop (j+1):=zgx (show j<S.length by omega)
 rw [h1,hl,Nat.sub_self,lsz,e2,e1,List.append_assoc]
 rfl
theorem ShR.done {S R:List Nr} {j:Nat} (h:ShR S R j) (hj:j<=S.length) (x:Nr):R.set j x=S.take j++x::S.drop j:=by
 obtain⟨z,rfl⟩:=h;have hl:(S.take j).length=j:=by simp;omega
 have h1:(S.take j++z::S.drop j).set j x=S.take j++(z::S.drop j).set (j-(S.take j).length) x:=List.set_append_right _ _ oQ
 rw [h1,hl,Nat.sub_self,lsz]
end Pg
namespace Go.Proofs.YteodamnfgcnmmaaGreatDoor
open Go Go.RowKit Pg
theorem qyd (a b:Nr) (ha:FrOk a.2) (hb:FrOk b.2) (w:World):C9 34 #[nrA a,nrA b] w (Ret w (.bool (decide (cmpN a b<0)))):=by
 have HC:=hdQ (fun W=>qp7 a.2 b.2 ha hb W)
 have hN:cmpN a b=orI (cmpF a.2 b.2) (cmpI a.1 b.1):=rfl;obtain⟨F,hF⟩:∃F,cmpF a.2 b.2=F:=⟨_,rfl⟩;rw [hF] at HC hN
 simp only [fV,nrA] at*
 generalize a.2.num/18446744073709551616=a1 at*;generalize a.2.num%18446744073709551616=a0 at*;generalize a.2.den=ad at*;generalize b.2.num/18446744073709551616=b1 at*;generalize b.2.num%18446744073709551616=b0 at*;generalize b.2.den=bd at*
 have HRes:Hid ((F<0->cmpN a b<0)/\(0<F->¬ cmpN a b<0)/\(F=0->(cmpN a b<0↔a.1<b.1))):=by
  unfold Hid
  rw [hN]
  unfold orI cmpI sgn;refine⟨fun h=>by rw [if_neg oQ];exact h,fun h=>by rw [if_neg oQ];omega,fun h=> ?_⟩
  rw [if_pos h]
  split
  · omega
  · split<;>omega
 generalize a.1=ai at*;generalize b.1=bi at*;generalize cmpN a b=q at*;clear hF ha hb hN
 rcases Int.lt_trichotomy F 0 with h|h|h
 · have h1:=HRes.out.1 h
   have h2:decide (q<0)=true:=decide_eq_true h1
   rw [h2]
   clear HRes h1 h2
   go_enter Tryz.func34,Tryz.ntmps34
   go_wp2_with (go_at_call 71;(with_reducible refine(HC.out _).monoR ?_);rintro w1 hb1 hc1 hf1 hz1;(try simp at hz1))
   go_ret;exact⟨rfl,bel⟩
 · subst h
   have h2:decide (q<0)=decide (ai<bi):=by
    have:=HRes.out.2.2 rfl
    by_cases k:ai<bi
    · rw [decide_eq_true k,decide_eq_true (this.2 k)]
    · rw [decide_eq_false k,decide_eq_false (fun z=>k (this.1 z))]
   rw [h2]
   clear HRes h2
   go_enter Tryz.func34,Tryz.ntmps34
   go_wp2_with (go_at_call 71;(with_reducible refine(HC.out _).monoR ?_);rintro w1 hb1 hc1 hf1 hz1;(try simp at hz1);have hy0:=ol1 w w1)
   go_ret;exact⟨by first|rfl|simp,bel⟩
 · have h1:=HRes.out.2.1 h
   have h2:decide (q<0)=false:=decide_eq_false h1;have h3:decide (F<0)=false:=decide_eq_false oQ
   have h4:(F==0)=false:=by rw [beq_eq_false_iff_ne];omega
   rw [h2]
   clear HRes h1 h2
   go_enter Tryz.func34,Tryz.ntmps34
   go_wp2_with (go_at_call 71;(with_reducible refine(HC.out _).monoR ?_);rintro w1 hb1 hc1 hf1 hz1;(try simp at hz1))
   go_ret;exact⟨rfl,bel⟩
theorem Tryz.infoNrK:(Tryz.prog.info? 58).map (fun i=>(i.zero,i.size,i.bytes))=some (some (.agg #[.int .i64 0,.int .u64 0,.int .u64 0,.int .u64 0]),4,32):=by kernel_rfl
theorem qy2 (x:Nr):(nrV x).length=4:=rfl
theorem qqd {w:World} {B g c:Nat} {R:List Nr} {j:Nat} (h:w.ownsRow B 58 4 (.slice (some ⟨g,0,none⟩) R.length c) R.length (nrVs R)) (hj:j<R.length) (x:Nr):
 (setW w g (j*4) (nrV x)).ownsRow B 58 4 (.slice (some ⟨g,0,none⟩) R.length c) R.length (nrVs (R.set j x)):=by
 have h1:=qoc (nrV x) w (j*4) _ h (by rw [qy2];omega)
 unfold nrVs at h1 ⊢;rw [qlz qy2 hj] at h1;exact h1
theorem qt0 {w:World} {B:Nat} {v:Value} {R:List Nr} (h:w.ownsRow B 58 4 v R.length (nrVs R)) {k:Nat} {x:Nr} (hx:R[k]? =some x):∃g c,v=.slice (some ⟨g,0,none⟩) R.length c/\R.length<=c/\B<=g/\g<w.heap.size/\(∃cur,Blk w g 58 cur)/\w.cell? ⟨g,k*4,none⟩=some (.int .i64 x.1)/\w.cell? ⟨g,k*4+1,none⟩=some (.int .u64 ((x.2.num/18446744073709551616:Nat):Int))/\w.cell? ⟨g,k*4+2,none⟩=some (.int .u64 ((x.2.num%18446744073709551616:Nat):Int))/\w.cell? ⟨g,k*4+3,none⟩=some (.int .u64 (x.2.den:Int)):=by
 obtain⟨A,c,e,hc,_,_⟩:=qao h;have hk:=(zsy.1 hx).1;obtain⟨b,off,e2,hb,h0,h1,h2,h3⟩:=q2f (qgi h e) hx
 rcases h.2 with ⟨e3,q⟩|⟨g,cap,cur,e3,hBg,hg,_⟩
 · omega
 · rw [e3] at e
   injection e with e4 e5 e6
   rw [e2] at e4;injection e4 with e4
   injection e4 with e7 e8
   subst e7;subst e8;subst e6;rw [Nat.zero_add] at h0 h1 h2 h3;exact⟨g,cap,e3,hc,hBg,hb,⟨cur,hg⟩,h0,h1,h2,h3⟩
theorem q26 {w:World} {a b c d:Value} {t:TypeId}:∀(j:Nat) (v:Value),[a,b,c,d][j]? =some v->(w.alloc (.cells #[a,b,c,d] t)).cell? ((⟨w.heap.size,0,none⟩:Addr).add j)=some v:=by
 intro j v hj
 match j,hj with
 | 0,hj=>simp at hj;subst hj;simp [Addr.add]
 | 1,hj=>simp at hj;subst hj;simp [Addr.add]
 | 2,hj=>simp at hj;subst hj;simp [Addr.add]
 | 3,hj=>simp at hj;subst hj;simp [Addr.add]
section
variable {w:World} {Y Z:Nat->Prop} {mb:Nat} {L:List (Int×Mi)}
theorem qqs (h:MrAt w Y Z mb L) (hn:L.length<=100000) (x y:Int) (hp:okPt ⟨x,y⟩=true) (k:Int) (hk:(L.length:Int)<=k) (hfr:∀p∈L,FrOk (qbj p.2.ob ⟨x,y⟩)) (hids:∀p∈L,0<=p.1/\p.1<=1099511627776):
 C9 12 #[gP mb,ptV x y,.int .i64 k] w fun e w' =>∃v,e=.returned v/\w'.ownsRow w.heap.size 58 4 v L.length (nrVs (qdx (fun o=>qbj o ⟨x,y⟩) (obsM L)))/\Below w.heap.size w w' :=by
 obtain⟨i0,hi,iz0,iz1,iz2⟩:=info_parts Tryz.infoNrK;obtain⟨sv,hB,hrow,_⟩:=h.rw;obtain⟨A,c,rfl,hnc,hAn,hAb⟩:=qao hrow;have b0:=hB.cell 0;simp only [lta,lcz] at b0;have bl:=hB.lt;have HR0:=hdQ hrow;have HH:=hdQ h
 have HPo:Hid (∀W,C9 9 #[ptV x y] W (Ret W (.bool true))):=fun W=>by
  have:=qai x y W;rw [hp] at this;exact this
 obtain⟨m,hm⟩:∃m,L.length=m:=⟨_,rfl⟩;have HM:=hdQ hm
 have hI:((obsM L).map (·.1)).Nodup:=by
  unfold obsM
  rw [List.map_map]
  exact List.pairwise_map.2 (h.rise.imp fun{a b} q=>by
   have q' :a.1<b.1:=q
   show a.1≠b.1
   omega)
 have HI:=hdQ hI;have HFr:=hdQ hfr;have HIds:=hdQ hids
 rw [hm] at b0 hk hn HR0 hnc ⊢
 by_cases hk1:k<1
 case pos=>
  have hm0:m=0:=oQ
  subst hm0;have hL:L= []:=zbx hm;clear h hB hrow hAn hAb hnc hm hI hfr hids;subst hL
  simp only [gP,ptV]
  go_enter Tryz.func12,Tryz.ntmps12
  go_wp2_with (go_at_call 9;(with_reducible refine(HPo.out _).monoR ?_);rintro w1 hb1 hc1 hf1 hz1;(try simp at hz1))
  go_ret;exact⟨.slice none 0 0,rfl,by rw [show obsM []= [] from rfl,qqp];exact World.ownsRow_nil _ _ _ _,bel⟩
 clear h hB hrow hAn hAb hnc hm hI hfr hids;have hk2:¬ k<1:=hk1
 simp only [gP,ptV] at*
 go_enter Tryz.func12,Tryz.ntmps12
 go_wp2_with (go_at_call 9;(with_reducible refine(HPo.out _).monoR ?_);rintro wp hbp hcp hfp hzp;(try simp at hzp);have hyp0:=ol1 w wp)
 refine qcn (fun w3=>Blk w3 w.heap.size 24 #[.int .i64 x,.int .i64 y]/\Below w.heap.size w w3) ⟨blkA,bel⟩ ?_
 rintro w3 ⟨hB3,hb3⟩;clear hcp hfp hbp hzp hyp0
 go_loopw [7,8] (fun vl vi wr=>∃i:Nat,∃Al cl,i<=m/\vi=.int .i64 i/\vl=.slice Al i cl/\wr.ownsRow (w.heap.size+1) 58 4 vl i (nrVs (qdx (fun o=>qbj o ⟨x,y⟩) ((obsM L).take i)))/\Blk wr w.heap.size 24 #[.int .i64 x,.int .i64 y]/\Below w.heap.size w wr) (fun _ vi _=>m-(Go.RowKit.intOf vi).toNat)
 case atStart=>exact ⟨0,none,0,zly _,rfl,rfl,by rw [List.take_zero,qqp];exact World.ownsRow_nil _ _ _ _,hB3,hb3⟩
 case round=>
  clear hB3 hb3;obtain⟨i,Al,cl,him,rfl,rfl,hro,hBx,hb⟩:=hrel;obtain⟨hc,hf,hz⟩:=bc3 hb;have b0' :=(hc mb _ bl).trans b0;have bl' :mb<wr.heap.size:=oQ
  obtain⟨q0,q1⟩:=ce2 hBx;have ql:=hBx.lt;have HRO:=hdQ hro
  have hicl:i<=cl:=by
   obtain⟨_,_,e,h1,_⟩:=qao hro;injection e with _ _ e
   omega
  have hicl2:(i:Int)<=(cl:Int):=oQ
  have HBX:=hdQ hBx;have HW:=hdQ hb;clear hro hBx
  by_cases hlt:i<m
  case neg=>
   obtain rfl:m=i:=oQ
   have e1:(obsM L).take m=obsM L:=zmy (by unfold obsM;rw [zyy,HM.out];exact zhy _)
   rw [e1] at HRO;have hmin:min k (m:Int)=(m:Int):=oQ
   clear e1;go_wp2_with fail;go_ret;exact⟨_,rfl,qa4 HRO.out oQ,hb⟩
  have hi1:(i:Int)<(m:Int):=oQ
  obtain⟨p,hp⟩:∃p,L[i]? =some p:=⟨L[i]'(by rw [HM.out];omega),zby _⟩
  have hmem:=zjy hp;have hr:=HR0.out;rw [<-HM.out] at hr;obtain⟨g,c9,hv,hgl,r0,r1,r2⟩:=qso hr hp;rw [HM.out] at hv;injection hv with hv1 hv2 hv3
  subst hv1 hv3;rw [<-hc g _ hgl] at r0 r1 r2;have hgw:g<wr.heap.size:=oQ
  obtain⟨Ap,cp,ep,hpt⟩:=(HH.out.tr hb).pts p hmem |>.pts
  have hpl:=((HH.out.tr hb).pts p hmem).1;rw [ep] at r2;obtain⟨⟨d0x,d1x⟩,hd⟩:∃d,qbj p.2.ob ⟨x,y⟩=d:=⟨_,rfl⟩;have hfd:=HFr.out p hmem;rw [hd] at hfd
  have HD:=hdQ (fun W (hW:Below wr.heap.size wr W)=>show C9 33 #[.agg #[.int .i64 p.2.ob.kind,.slice Ap p.2.ob.pts.length cp],.agg #[.int .i64 x,.int .i64 y]] W (Ret W (fV ⟨d0x,d1x⟩)) from by
   have:=qyf wr.heap.size p.2.ob.pts.length cp p.2.ob.kind Ap p.2.ob.pts x y W (hpt.below hW) hW.size hpl;rw [show (⟨p.2.ob.kind,p.2.ob.pts⟩:Ob)=p.2.ob from rfl,hd] at this
   exact this)
  obtain⟨nr,hnr⟩:∃nr:Nr,(p.1,(⟨d0x,d1x⟩:Fr))=nr:=⟨_,rfl⟩;have HNr:Hid (nr=(p.1,qbj p.2.ob ⟨x,y⟩)/\FrOk nr.2):=⟨by rw [<-hnr,hd],by rw [<-hnr];exact hfd⟩
  obtain⟨pid,hpid⟩:∃z,p.1=z:=⟨_,rfl⟩;have hidr:=HIds.out p hmem;rw [hpid] at r0 hidr hnr;have HP:=hdQ hp;obtain⟨e1,he1⟩:∃z,d0x/18446744073709551616=z:=⟨_,rfl⟩;obtain⟨e0,he0⟩:∃z,d0x%18446744073709551616=z:=⟨_,rfl⟩;have hnV:nrV nr= [.int .i64 pid,.int .u64 (e1:Int),.int .u64 (e0:Int),.int .u64 (d1x:Int)]:=by rw [<-hnr,<-he1,<-he0];rfl
  have hnA:nrA nr=.agg #[.int .i64 pid,.int .u64 (e1:Int),.int .u64 (e0:Int),.int .u64 (d1x:Int)]:=by rw [<-hnr,<-he1,<-he0];rfl
  have HNV:=hdQ (And.intro hnV hnA);simp only [fV,he1,he0] at HD;obtain⟨R,hR⟩:∃R,qdx (fun o=>qbj o ⟨x,y⟩) ((obsM L).take i)=R:=⟨_,rfl⟩
  have hRl:R.length=i:=by rw [<-hR,qlm,List.length_take];unfold obsM;rw [zyy,HM.out];omega
  have HRd:Hid (∀(k:Nat),k<=R.length->(∀j x,k<=j->R[j]? =some x->cmpN nr x<0)->(∀m x,k=m+1->R[m]? =some x->¬ cmpN nr x<0)->qdx (fun o=>qbj o ⟨x,y⟩) ((obsM L).take (i+1))=R.take k++nr::R.drop k):=fun k hk h1 h2=>by
   rw [<-hR] at hk h1 h2 ⊢
   have ho:(obsM L)[i]? =some (p.1,p.2.ob):=by unfold obsM;rw [zpx,HP.out];rfl
   have:=qy4 (dist:=fun o=>qbj o ⟨x,y⟩) HI.out ho hk (by rw [<-HNr.out.1];exact h1) (by rw [<-HNr.out.1];exact h2)
   rw [<-HNr.out.1] at this;exact this
  have HFrR:Hid (∀q∈R,FrOk q.2):=fun q hq=>by
   rw [<-hR] at hq;obtain⟨o,ho,rfl⟩:=qis.1 hq;have ho2:=List.mem_of_mem_take ho;unfold obsM at ho2;obtain⟨z,hz,rfl⟩:=zty.1 ho2;exact HFr.out z hz
  rw [hR] at HRO;have HRL:=hdQ hRl;clear hc hf b0 hr hv2 hp hmem ep hpt hpl hd hfd hnr hpid hnV hnA he1 he0 hR hRl hidr;generalize p.2.ob.pts.length=pl at*;generalize p.2.ob.kind=pk at*;have hBx:=HBX.out;go_wp2_with fail;refine qa8 [0,1,2,3,4,5,6,7,8,9,10,11,12,13,14,15,16,17,18] [19] [20] (fun _=> #[.int .i64 0,.int .u64 0,.int .u64 0,.int .u64 0]) kr kr pq (by intro i hi w;simp only [List.mem_cons,List.not_mem_nil,or_false] at hi;rcases hi with rfl<;>simp only [ldz,lds,tyOf]<;>kernel_rfl) (fun KN hKN=> ?_)
  simp only [zdy,zey,ldz,lds,bare,qal,lcz,lcs,zay]
  repeat((try simp only [Act.put,lsi,lsz,lss]);first|(refine qcf (v:= ?_) rfl ?_ ?_;rotate_left;focus(intro wq hq;obtain⟨hcq,hfq⟩:=qa7 hq;go_simp;try with_reducible rfl))|(refine qcy (v:= ?_) rfl ?_ ?_;rotate_left;focus(intro wq hq K hK;obtain⟨hcq,hfq⟩:=qa7 hq;go_simp;(first|(go_at_call 33;(with_reducible refine(HD.out _ bel).monoR ?_);rintro w1 hb1 hc1 hf1 hz1;(try simp at hz1)));refine hK.out _ _ ?_ bel;simp only [Act.put,lsi,lsz,lss];try with_reducible rfl)))
  (try simp only [Act.put,lsi,lsz,lss])
  refine qdz (hKN.out _ ?_);clear hKN KN;intro gs wf hwf hgs hds
  simp only [zdy,zey,ldz,lds,bare,qal,lcz,lcs,zay,List.foldl_cons,List.foldl_nil,ptrV]
  obtain⟨hg19,HB19⟩:=hgs 19 dE
  simp only [ldz,lds,tyOf] at HB19;clear hgs hds;generalize gs 19=g19 at*;have cg19:=HB19.cell;have fg19:=HB19.frozen
  repeat((try simp only [Act.put,lsi,lsz,lss]);first|(refine qab qaa rfl (fun K hK=> ?_);go_simp;refine hK.out _ _ bel ?_;clear hK K)|(refine qa5 (v:= ?_) qaa rfl ?_ ?_;rotate_left;focus(intro wq hq;go_simp;try with_reducible rfl)))
  refine qad ?_;refine qb5 (R:=fun w2=>Below w.heap.size w w2/\Blk w2 g19 58 #[.int .i64 pid,.int .u64 (e1:Int),.int .u64 (e0:Int),.int .u64 (d1x:Int)]/\Blk w2 w.heap.size 24 #[.int .i64 x,.int .i64 y]/\Below wr.heap.size wr w2) ⟨bel,((((HB19.set_ 0 _).set_ 1 _).set_ 2 _).set_ 3 _).eq_ sI,blkA,bel⟩ ?_
  rintro w2 ⟨hb2,h19,hE0,hE1⟩;clear cg19 fg19 HB19;have cg19:=h19.cell;have fg19:=h19.frozen;have lg19:=h19.lt;obtain⟨hc2,hf2⟩:=qa7 hb2;have hoR:∀q,(Value.slice Al i cl).ownBlock=some q->q<wr.heap.size:=fun q e=>(HRO.out.lt q e).2
  have HOR:=hdQ hoR;have HRO2:=hdQ (qap HRO.out (qag hE1) sI)
  have HG19:=hdQ (And.intro hg19 (And.intro h19 (And.intro hE0 hb2)));have hz2:=hE1.size;clear cg19 fg19 hc2 hf2 hBx r0 r1 r2 b0' q0 q1 HBX HRO hoR hE1 hE0 h19 hb2 HD HW ql hz bl' hgw hgl hb
  go_upto_block 2 with fail
  go_cut [10] (fun v10 wx=>Below w2.heap.size w2 wx/\∃a:Nat,v10=.int .i64 a/\a<=i/\(∀j x,a<=j->R[j]? =some x->cmpN nr x<0)/\(∀m x,a=m+1->R[m]? =some x->¬ cmpN nr x<0))
  case first=>as_aux_lemma=>
   go_wp2_with fail
   go_loopw [10] (fun v10 wx=>Below w2.heap.size w2 wx/\∃a:Nat,v10=.int .i64 a/\a<=i/\(∀j x,a<=j->R[j]? =some x->cmpN nr x<0)) (fun v10 _=>(Go.RowKit.intOf v10).toNat)
   case atStart=>exact ⟨Below.refl _ _,i,rfl,zhy _,fun j x hj hx=>by
    have:=(zsy.1 hx).1;have:=HRL.out
    omega⟩
   case round=>
    obtain⟨hb3,a,rfl,hai,hle⟩:=hrel;have HLe:=hdQ hle;have HB3:=hdQ hb3;have h19:=HG19.out.2.1.tr hb3;obtain⟨g0,g1,g2,g3⟩:=ce4 h19;have gl:=h19.lt;clear hle h19
    by_cases ha0:a=0
    case pos=>
     subst ha0;go_wp2_with fail;refine qac kr kr pq ?_
     simp only [zdy,zey,ldz,lds,bare,qal,lcz,lcs,zay]
     repeat' ((try simp only [Act.put,lsi,lsz,lss]);first|(refine qbs ?_ ?_;focus(simp only [lAq,zgy,zfy];done))|(refine qbd ?_ ?_ ?_;(focus(simp only [lAq,zgy,zfy];done));(focus(exact bel)))|(refine qaz (X:= ?_) ?_ ?_ (fun hg=> ?_) (fun hg=> ?_);rotate_left;(focus(simp only [lAq];with_reducible rfl));(focus(exact bel));all_goals(try simp only [zgy,zfy] at hg))|(refine lqx ?_)|(refine qab qaa rfl (fun K hK=> ?_);go_simp;((first |  fail|skip)<;>(refine hK.out _ _ bel ?_;clear hK K))))
     (all_goals try simp only [Act.put,lsi,lsz,lss]);all_goals(refine qad ?_)
     go_wp2_with fail
     go_meet
     exact⟨by first|exact HB3.out|exact bel,0,rfl,zly _,HLe.out,fun m x e=>by omega⟩
    obtain⟨b,hb⟩:∃b,b+1=a:=⟨a-1,by omega⟩
    have hbi:b<i:=oQ
    have hab:(a:Int)-1=(b:Int):=oQ
    have ha1:(0:Int)<(a:Int):=oQ
    have ha2:0<a:=oQ
    have hwb:IntKind.i64.wrap (b:Int)=(b:Int):=IntWalk.i64_in _ ⟨by omega,by omega⟩
    have hbI:(b:Int)<(i:Int):=oQ
    obtain⟨q,hq⟩:∃q,R[b]? =some q:=⟨R[b]'(by rw [HRL.out];exact hbi),zby _⟩
    have hrow:=HRO2.out;rw [<-HRL.out] at hrow;obtain⟨gr,cr,hv,_,_,hgr,_,x0,x1,x2,x3⟩:=qt0 (qap hrow (qag hb3) sI) hq
    rw [HRL.out] at hv;injection hv with hv1 hv2 hv3
    subst hv1 hv3;obtain⟨dc,hdc⟩:∃dc,decide (cmpN nr q<0)=dc:=⟨_,rfl⟩
    have HLs:=hdQ (fun W=>show C9 34 #[.agg #[.int .i64 pid,.int .u64 (e1:Int),.int .u64 (e0:Int),.int .u64 (d1x:Int)],nrA q] W (Ret W (.bool dc)) from by
     have:=qyd nr q HNr.out.2 (HFrR.out q (zjy hq)) W;rw [HNV.out.2,hdc] at this
     exact this)
    have HQ:=hdQ (And.intro hq hdc);have HA:=hdQ hb;simp only [nrA] at HLs;clear hrow hv2 hq hdc hb hb3;generalize q.2.num/18446744073709551616=n1 at*;generalize q.2.num%18446744073709551616=n0 at*;generalize q.2.den=nd at*;generalize q.1=ni at*
    cases dc with
    | true=>
      go_wp2_with fail;refine qac kr kr pq ?_
      simp only [zdy,zey,ldz,lds,bare,qal,lcz,lcs,zay]
      repeat' ((try simp only [Act.put,lsi,lsz,lss]);first|(refine qbs ?_ ?_;focus(simp only [lAq,zgy,zfy];done))|(refine qbd ?_ ?_ ?_;(focus(simp only [lAq,zgy,zfy];done));(focus(exact bel)))|(refine qaz (X:= ?_) ?_ ?_ (fun hg=> ?_) (fun hg=> ?_);rotate_left;(focus(simp only [lAq];with_reducible rfl));(focus(exact bel));all_goals(try simp only [zgy,zfy] at hg))|(refine lqx ?_)|(refine qab qaa rfl (fun K hK=> ?_);go_simp;((first |  (go_at_call 34;(with_reducible refine(HLs.out _).monoR ?_);rintro w1 hb1 hc1 hf1 hz1;(try simp at hz1))|skip)<;>(refine hK.out _ _ bel ?_;clear hK K))))
      (all_goals try simp only [Act.put,lsi,lsz,lss]);all_goals(refine qad ?_)
      go_wp2_with fail
      go_roundw
      case rel=>
       refine⟨HB3.out.trans ((show Below wr.heap.size wr _ from bel).mono HB3.out.size),b,by go_num,by omega,fun j x hj hx=> ?_⟩
       by_cases hjb:j=b
       · subst hjb
         rw [HQ.out.1] at hx
         cases hx
         exact of_decide_eq_true HQ.out.2
       · exact HLe.out j x (by have:=HA.out;omega) hx
      case measure=>simp [Go.RowKit.intOf];omega
    | false=>
      go_wp2_with fail;refine qac kr kr pq ?_
      simp only [zdy,zey,ldz,lds,bare,qal,lcz,lcs,zay]
      repeat' ((try simp only [Act.put,lsi,lsz,lss]);first|(refine qbs ?_ ?_;focus(simp only [lAq,zgy,zfy];done))|(refine qbd ?_ ?_ ?_;(focus(simp only [lAq,zgy,zfy];done));(focus(exact bel)))|(refine qaz (X:= ?_) ?_ ?_ (fun hg=> ?_) (fun hg=> ?_);rotate_left;(focus(simp only [lAq];with_reducible rfl));(focus(exact bel));all_goals(try simp only [zgy,zfy] at hg))|(refine lqx ?_)|(refine qab qaa rfl (fun K hK=> ?_);go_simp;((first |  (go_at_call 34;(with_reducible refine(HLs.out _).monoR ?_);rintro w1 hb1 hc1 hf1 hz1;(try simp at hz1))|skip)<;>(refine hK.out _ _ bel ?_;clear hK K))))
      (all_goals try simp only [Act.put,lsi,lsz,lss]);all_goals(refine qad ?_)
      go_wp2_with fail
      go_meet
      exact⟨HB3.out.trans ((show Below wr.heap.size wr _ from bel).mono HB3.out.size),a,rfl,hai,HLe.out,fun m x e hx=>by
       have hmb:m=b:=by have:=HA.out;omega
       rw [hmb,HQ.out.1] at hx
       cases hx
       first|exact of_decide_eq_false HQ.out.2|exact Int.not_lt.1 (of_decide_eq_false HQ.out.2)⟩
  case rest=>
   obtain⟨hbd,a,rfl,hai,h1,h2⟩:=hcut;have HREnd:=hdQ (HRd.out a (by rw [HRL.out];exact hai) h1 (fun m x e hx=>by have:=h2 m x e hx;omega))
   clear h1 h2 HRd;have h19:=HG19.out.2.1.tr hbd;obtain⟨g0,g1,g2,g3⟩:=ce4 h19;have gl:=h19.lt;have HROc:=hdQ (qap HRO2.out (qag hbd) sI)
   have HBD:=hdQ hbd;have hzd:=hbd.size;clear h19 hbd
   go_wp2_with (at_builtin;go_must (refine qbw _ rfl _ _ 40 rfl 58 i0 (.agg #[.int .i64 0,.int .u64 0,.int .u64 0,.int .u64 0]) 4 32 Tryz.underlying40 hi iz0 iz1 iz2 rfl dE _ _ _ rfl (qa4 (qap HROc.out (qag bel) sI) (zly _)) ⟨wc.heap.size,0,none⟩ 1 1 [.int .i64 pid,.int .u64 (e1:Int),.int .u64 (e0:Int),.int .u64 (d1x:Int)] rfl rfl q26 ?c2 ?c3 ?c4 dE ?_))
   case c2=>simp [Value.oneCell']
   case c3=>unfold maxLen;omega
   case c4=>omega
   intro v7 w7 hown hgrow hwh;have hrowb:=hown;have hzc:=hgrow.size
   try simp at hzc
   have hlr:∀q,v7.ownBlock=some q->q≠g19/\q≠w.heap.size/\w.heap.size+1<=q:=fun q e=>by
    rcases hwh with k|k
    · rw [e] at k
      have h1:=HOR.out q k.symm;have h2:=(HROc.out.lt q k.symm).1;have h3:=HG19.out.1;refine⟨fun z=>by omega,by omega,h2⟩
    · rw [e] at k
      injection k with k
      try simp at k
      have h2:=HG19.out.2.2.2.size;refine⟨fun z=>by omega,by omega,by omega⟩
   have hgrow' :(wc.alloc (.cells #[.int .i64 pid,.int .u64 (e1:Int),.int .u64 (e0:Int),.int .u64 (d1x:Int)] 58)).grownBy w7 (Value.slice Al i cl).ownBlock:=hgrow;have hkeep:∀g t cs,Blk w2 g t cs->(Value.slice Al i cl).ownBlock≠some g->Blk w7 g t cs:=fun g t cs hB hne=>((hB.tr HBD.out).alloc _).kept hgrow' hne
   have h19:=hkeep _ _ _ HG19.out.2.1 (fun e=>by have:=HOR.out _ e;have:=HG19.out.1;omega)
   have hBx:=hkeep _ _ _ HG19.out.2.2.1 (fun e=>by have:=(HROc.out.lt _ e).1;omega)
   have hb7:Below w.heap.size w w7:=(((HG19.out.2.2.2.trans (HBD.out.mono HG19.out.2.2.2.size))).alloc (by have:=HG19.out.2.2.2.size;omega) _).grown hgrow' (by have:=HG19.out.2.2.2.size;simp;omega) fun k e=>by have:=(HROc.out.lt k e).1;omega
   rw [show nrVs R++ [Value.int .i64 pid,.int .u64 (e1:Int),.int .u64 (e0:Int),.int .u64 (d1x:Int)]=nrVs (R++ [nr]) by rw [qgk,<-HNV.out.1];simp [nrVs]] at hown
   have hRn:(R++ [nr]).length=i+1:=by rw [zny,HRL.out];rfl
   rw [<-hRn] at hown;obtain⟨g7,c7,rfl,hc7,_,hg7,_,_⟩:=qt0 hown (show (R++ [nr])[i]? =some nr by rw [zdx (by rw [HRL.out];exact zhy _),HRL.out];simp)
   rw [hRn] at hown hc7
   rw [hRn]
   obtain⟨hn19,hnw,hnB⟩:=hlr g7 rfl;have HL4:=hdQ (And.intro hown (And.intro h19 (And.intro hBx hb7)));have hiI:((i+1:Nat):Int)-1=(i:Int):=oQ
   have hcI:((i+1:Nat):Int)<=(c7:Int):=oQ
   have HNN:=hdQ (And.intro hn19 (And.intro hnw hnB));clear hown h19 hBx hb7 hkeep hgrow hgrow' hrowb hlr g0 g1 g2 g3 gl hwh;obtain⟨i1,hi1'⟩:∃z,i+1=z:=⟨_,rfl⟩;have HI1:=hdQ hi1'
   rw [hi1'] at HL4 hiI hcI hc7 ⊢
   clear hi1';have hwi:IntKind.i64.wrap (i:Int)=(i:Int):=IntWalk.i64_in _ ⟨by omega,by omega⟩
   go_wp2_with fail
   go_loopw [11] (fun v11 wx=>∃(j:Nat) (R' :List Nr),v11=.int .i64 j/\a<=j/\j<=i/\ShR R R' j/\wx.ownsRow 0 58 4 (.slice (some ⟨g7,0,none⟩) i1 c7) i1 (nrVs R')/\Blk wx g19 58 #[.int .i64 pid,.int .u64 (e1:Int),.int .u64 (e0:Int),.int .u64 (d1x:Int)]/\Blk wx w.heap.size 24 #[.int .i64 x,.int .i64 y]/\Below w.heap.size w wx) (fun v11 _=>(Go.RowKit.intOf v11).toNat)
   case atStart=>exact ⟨i,R++ [nr],rfl,hai,zhy _,by rw [<-HRL.out];exact ShR.start R nr,HL4.out⟩
   case round=>
    obtain⟨j,R',rfl,haj,hji,hsh,hrow,h19,hBx,hb⟩:=hrel;have hRl' :R'.length=i1:=by rw [hsh.len (by rw [HRL.out];exact hji),HRL.out];exact HI1.out
    have hji1:j<i1:=by have:=HI1.out;omega
    obtain⟨y,hy⟩:∃y,R'[j]? =some y:=⟨R'[j]'oQ,zby _⟩
    have hrow' :=hrow
    rw [<-hRl'] at hrow'
    obtain⟨_,_,e,_,_,hgl,⟨cur,hBg⟩,y0,y1,y2,y3⟩:=qt0 hrow' hy;injection e with e _ _
    injection e with e
    injection e with e
    subst e;have fR:=hBg.frozen;clear hBg;have HR' :=hdQ hrow';have HSH:=hdQ hsh;have HY:=hdQ (And.intro h19 (And.intro hBx hb));have hjI:(j:Int)<(i1:Int):=oQ
    by_cases hlt:a<j
    case pos=>
     obtain⟨b,rfl⟩:∃b,j=b+1:=⟨j-1,by omega⟩
     have hpv:=hsh.prev (by rw [HRL.out];exact hji)
     obtain⟨z,hz⟩:∃z,R[b]'(by rw [HRL.out];omega)=z:=⟨_,rfl⟩
     rw [hz] at hpv;have hst:=hsh.step (by rw [HRL.out];exact hji)
     rw [hz] at hst;obtain⟨_,_,e,_,_,_,_,z0,z1,z2,z3⟩:=qt0 hrow' hpv;injection e with e _ _
     injection e with e
     injection e with e
     subst e;have hnew:=qqd HR'.out (show b+1<R'.length by omega) z
     have HNew:=hdQ (And.intro hnew hst);have hab:(((b+1:Nat):Int))-1=(b:Int):=oQ
     have hlt1:(a:Int)<((b+1:Nat):Int):=oQ
     have hbI:(b:Int)<(i1:Int):=oQ
     have hwb:IntKind.i64.wrap (b:Int)=(b:Int):=IntWalk.i64_in _ ⟨by omega,by omega⟩
     unfold nrV at HNew;generalize z.2.num/18446744073709551616=n1 at*;generalize z.2.num%18446744073709551616=n0 at*;generalize z.2.den=nd at*;generalize z.1=ni at*;have HZ:=hdQ hz;clear hrow hrow' hsh hst hpv hnew h19 hBx hb hy hz;obtain⟨j1,hj1⟩:∃z,b+1=z:=⟨_,rfl⟩;have HJ1:=hdQ hj1
     simp only [hj1] at HNew hab hlt1 hjI y0 y1 y2 y3 ⊢
     clear hj1;go_wp2_with fail
     go_roundw
     case rel=>
      have hs:=HY.out.2.2.size;refine⟨b,R'.set j1 z,by go_num,by omega,by omega,?_,?_,?_,?_,?_⟩
      · exact HNew.out.2
      · have h1:=HNew.out.1
        rw [hRl'] at h1;exact h1
      · exact(((HY.out.1.far (p:=⟨g7,_,none⟩) (Ne.symm hn19) _).far (p:=⟨g7,_,none⟩) (Ne.symm hn19) _).far (p:=⟨g7,_,none⟩) (Ne.symm hn19) _).far (p:=⟨g7,_,none⟩) (Ne.symm hn19) _
      · exact(((HY.out.2.1.far (p:=⟨g7,_,none⟩) (Ne.symm hnw) _).far (p:=⟨g7,_,none⟩) (Ne.symm hnw) _).far (p:=⟨g7,_,none⟩) (Ne.symm hnw) _).far (p:=⟨g7,_,none⟩) (Ne.symm hnw) _
      · exact(((HY.out.2.2.setCell (p:=⟨g7,_,none⟩) (Nat.le_of_succ_le hnB) _).setCell (p:=⟨g7,_,none⟩) (Nat.le_of_succ_le hnB) _).setCell (p:=⟨g7,_,none⟩) (Nat.le_of_succ_le hnB) _).setCell (p:=⟨g7,_,none⟩) (Nat.le_of_succ_le hnB) _
     case measure=>simp [Go.RowKit.intOf];omega
    case neg=>
     obtain rfl:a=j:=oQ
     have hdone:=hsh.done (by rw [HRL.out];exact hai) nr
     have hnew:=qqd HR'.out (show a<R'.length by omega) nr
     rw [hdone,<-HREnd.out,HNV.out.1] at hnew;have HNew:=hdQ hnew;obtain⟨g0,g1,g2,g3⟩:=ce4 h19;have gl:=h19.lt;clear hrow hrow' hsh hdone hnew h19 hBx hb hy;go_wp2_with fail
     go_roundw
     case rel=>
      refine⟨i+1,some ⟨g7,0,none⟩,c7,by omega,by go_num,by rw [HI1.out],?_,?_,?_⟩
      · have h1:=HNew.out
        rw [hRl'] at h1;have h2:=qqe (b' :=w.heap.size+1) h1 fun q e=>by injection e with e;rw [<-e];exact hnB
        rw [HI1.out] at h2 ⊢
        exact h2
      · exact(((HY.out.2.1.far (p:=⟨g7,_,none⟩) (Ne.symm hnw) _).far (p:=⟨g7,_,none⟩) (Ne.symm hnw) _).far (p:=⟨g7,_,none⟩) (Ne.symm hnw) _).far (p:=⟨g7,_,none⟩) (Ne.symm hnw) _
      · exact(((HY.out.2.2.setCell (p:=⟨g7,_,none⟩) (Nat.le_of_succ_le hnB) _).setCell (p:=⟨g7,_,none⟩) (Nat.le_of_succ_le hnB) _).setCell (p:=⟨g7,_,none⟩) (Nat.le_of_succ_le hnB) _).setCell (p:=⟨g7,_,none⟩) (Nat.le_of_succ_le hnB) _
     case measure=>simp [Go.RowKit.intOf];omega
end
end Go.Proofs.YteodamnfgcnmmaaGreatDoor
