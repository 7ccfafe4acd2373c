/-slices.Delete and slices.DeleteFunc of a node's entries.-/
import Derived.Test.YtjopdlmbgidigaaGreatAGisI
import Derived.Deep.RegionLaw
set_option linter.unusedVariables false
set_option linter.unusedSimpArgs false
set_option maxHeartbeats 2000000
set_option maxRecDepth 20000
namespace Pg
open Go Go.RowKit
section
variable {w:World} {base g n cap s:Nat} {t:TypeId} {xs:List Value}
theorem qma (h:w.ownsRow base t s (.slice (some ⟨g,0,none⟩) n cap) n xs):∃cur,Blk w g t cur/\n<=cap/\base<=g/\cur.toList.take (n*s)=xs:=by
 obtain⟨h1,⟨h2,_⟩|⟨g',cap',cur,hv,hg,hh,hnc,hcm,hcs,ht⟩⟩:=h
 · cases h2
 · injection hv with e1 e2 e3
   injection e1 with e1
   injection e1 with e1
   subst e1 e3;exact⟨cur,hh,hnc,hg,ht⟩
theorem qej (h:w.ownsRow base t s (.slice (some ⟨g,0,none⟩) n cap) n xs) (i:Nat):w.frozen? ⟨g,i,none⟩=false:=by
 obtain⟨cur,hb,_⟩:=qma h;exact hb.frozen _
theorem q2n (h:w.ownsRow base t s (.slice (some ⟨g,0,none⟩) n cap) n xs) (i:Nat) (u:Value):(w.setCell ⟨g,i,none⟩ u).ownsRow base t s (.slice (some ⟨g,0,none⟩) n cap) n (xs.set i u):=by
 obtain⟨h1,⟨h2,_⟩|⟨g',cap',cur,hv,hg,hh,hnc,hcm,hcs,ht⟩⟩:=h
 · cases h2
 · injection hv with e1 e2 e3
   injection e1 with e1
   injection e1 with e1
   subst e1 e3;refine⟨by simpa using h1,.inr ⟨g,cap,cur.setIfInBounds i u,rfl,hg,(Blk.set_ (show Blk w g t cur from hh) i u),hnc,hcm,by simpa using hcs,?_⟩⟩
   rw [<-ht,Array.toList_setIfInBounds,List.take_set]
theorem qu8 {k:Nat} (h:w.ownsRow base t s (.slice (some ⟨g,0,none⟩) n cap) n xs) (hk:k<=n):w.ownsRow base t s (.slice (some ⟨g,0,none⟩) k cap) k (xs.take (k*s)):=by
 obtain⟨h1,⟨h2,_⟩|⟨g',cap',cur,hv,hg,hh,hnc,hcm,hcs,ht⟩⟩:=h
 · cases h2
 · injection hv with e1 e2 e3
   injection e1 with e1
   injection e1 with e1
   subst e1 e3;have hks:k*s<=n*s:=zuy _ hk;refine⟨by rw [List.length_take,h1];omega,.inr ⟨g,cap,cur,rfl,hg,hh,by omega,hcm,hcs,?_⟩⟩
   rw [<-ht,List.take_take,Nat.min_eq_left hks]
theorem qd1:∀(vs:List Value) {w:World} {xs:List Value} (i:Nat),w.ownsRow base t s (.slice (some ⟨g,0,none⟩) n cap) n xs->(w.setCells g i vs).ownsRow base t s (.slice (some ⟨g,0,none⟩) n cap) n (setN xs i vs)
 | [],_,_,_,h=>h
 | v::r,_,_,i,h=>qd1 r (i+1) (q2n h i v)
theorem qqn:∀(vs xs:List Value) (i:Nat),xs.length<=i->setN xs i vs=xs
 | [],_,_,_=>rfl
 | v::r,xs,i,h=>by rw [setN,List.set_eq_of_length_le h];exact qqn r xs (i+1) oQ
theorem qq3 (h:w.ownsRow base t s (.slice (some ⟨g,0,none⟩) n cap) n xs) (vs:List Value) (i:Nat) (hi:n*s<=i):(w.setCells g i vs).ownsRow base t s (.slice (some ⟨g,0,none⟩) n cap) n xs:=by
 have:=qd1 vs i h
 rwa [qqn vs xs i (by rw [h.1];exact hi)] at this
theorem qdd {a:World}:∀(vs:List Value) {w:World} (i:Nat),a.grownBy w (some g)->a.grownBy (w.setCells g i vs) (some g)
 | [],_,_,h=>h
 | v::r,_,i,h=>qdd r (i+1) (h.trans (qcc _ ⟨g,i,none⟩ v))
end
theorem qlj {P:Program} {o:Oper} {a:Act} {w:World} {K:Act->World->Prop} {Q:Exit->Act->World->Prop} (s x:Operand) (t:TypeId) (hop:o.op=Op.call {callee:=Callee.builtin Builtin.append,args:= #[s,x],argTypes:= #[t,t]})
 (e:TypeId) (i:TypeInfo) (size:Nat) (h1:P.underlying t=some (.slice e)) (h2:P.info? e=some i) (h4:i.size=size)
 (b off n cap:Nat) (hs:a.eval s=.slice (some ⟨b,off,none⟩) n cap)
 (ad:Addr) (m c:Nat) (news:List Value) (hx:a.eval x=.slice (some ad) m c) (hn:news.length=m*size) (hc:∀j u,news[j]? =some u->w.cell? (ad.add j)=some u) (h1c:∀u∈news,u.oneCell' =true)
 (hroom:n+m<=cap) (hspare:∀j,j<news.length->(w.cell? ⟨b,off+n*size+j,none⟩).isSome=true/\w.frozen? ⟨b,off+n*size+j,none⟩=false)
 (hK:K (a.put o.dst (.slice (some ⟨b,off,none⟩) (n+m) cap)) (w.setCells b (off+n*size) news)):o.wp P a w K Q:=by
 subst h4;have hrun:=run_append_room_cells (P:=P) w t o.type e i h1 h2 b off n cap ad m c news hn hc h1c hroom (fun j hj=>(hspare j hj).1) (fun j hj=>(hspare j hj).2)
 unfold Oper.wp
 simp [execOp,hop,resolve,invoke,builtin,hs,hx,hrun,Result.andThen]
 exact hK
end Pg
namespace Go.Proofs.YtjopdlmbgidigaaGreat
open Go Go.RowKit Pg
theorem qkm (w:World) (b o n c:Nat) (hn:0<n) (hc:∀j,j<n*3->(w.cell? ⟨b,o+j,none⟩).isSome=true) (hf:∀j,j<n*3->w.frozen? ⟨b,o+j,none⟩=false):
 ∃zs:List Value,∀ty,(Builtin.clear_ #[72] ty #[.slice (some ⟨b,o,none⟩) n c]).run Tryz.prog w=.ok (.tuple #[]) (w.setCells b o zs):=by
 have hv:∀w,(zeroValue 84).run Tryz.prog w=.ok (.agg #[.slice none 0 0,.int .i64 0,.pointer none]) w:=fun w=>by kernel_rfl
 have hlen:(Builtin.zeroCells (Value.agg #[.slice none 0 0,.int .i64 0,.pointer none]).cells n).toList.length=n*3:=by simp [Builtin.zeroCells,Value.cells]
 have hone:∀v∈(Builtin.zeroCells (Value.agg #[.slice none 0 0,.int .i64 0,.pointer none]).cells n).toList,v.oneCell' =true:=by
  intro v hv';obtain⟨i,hi,rfl⟩:=List.getElem_of_mem hv';have hm:i%3=0\/i%3=1\/i%3=2:=oQ
  rcases hm with h|h|h<;>simp [Builtin.zeroCells,Value.cells,h,Value.oneCell']
 have hst:=run_storeCells_cells (P:=Tryz.prog) b o (Builtin.zeroCells (Value.agg #[.slice none 0 0,.int .i64 0,.pointer none]).cells n).toList 0 w (by rw [hlen];simpa using hc) (by rw [hlen];simpa using hf) hone
 simp only [Nat.add_zero] at hst;obtain⟨m,rfl⟩:∃m,n=m+1:=⟨n-1,by omega⟩
 exact⟨(Builtin.zeroCells (Value.agg #[.slice none 0 0,.int .i64 0,.pointer none]).cells (m+1)).toList,fun ty=>by simp [Builtin.clear_,run_underlying Tryz.underlying72,hv,hst]⟩
theorem qxm (lf:Bool) (e:En):(qes lf e).length=3:=rfl
theorem qtv {lf:Bool} {l:List En} {k:Nat} (hk:k<l.length) (e:En):setN (qaq lf l) (k*3) (qes lf e)=qaq lf (l.set k e):=qrp (qxm lf) hk e
theorem qtw (lf:Bool) (l:List En) (h:∀e∈l,e.kv.oneCell' =true):∀u∈qaq lf l,u.oneCell' =true:=by
 intro u hu;obtain⟨e,he,hu⟩:=List.mem_flatMap.1 hu;simp only [qes,List.mem_cons,List.not_mem_nil,or_false] at hu
 rcases hu with rfl|rfl|rfl
 · exact h e he
 · rfl
 · cases lf<;>rfl
theorem q12 {w:World} {g i1 c q:Nat} {news:List Value} (hs:∀j u,news[j]? =some u->w.cell? ⟨g,i1*3+j,none⟩=some u) (hl:news.length=q*3) (hq:c=i1->q=0):∀j u,news[j]? =some u->w.cell? (Addr.add (if c=i1 then⟨g,0,none⟩ else⟨g,i1*3,none⟩) j)=some u:=by
 intro j u hu
 by_cases h:c=i1
 · rw [hq h] at hl
   have:=(zsy.1 hu).1
   omega
 · rw [if_neg h]
   have e:(⟨g,i1*3,none⟩:Addr).add j=⟨g,i1*3+j,none⟩:=by
    unfold Addr.add
    by_cases hz:j=0
    · simp [hz]
    · simp [hz]
   rw [e]
   exact hs j u hu
theorem q13 (lf:Bool) (l:List En) (g n c i:Nat) (w:World) (h:w.ownsRow 0 84 3 (.slice (some ⟨g,0,none⟩) n c) n (qaq lf l)) (hone:∀e∈l,e.kv.oneCell' =true) (hi:i<n) (hn:n<=1000000):
 C9 48 #[.slice (some ⟨g,0,none⟩) n c,.int .i64 (i:Int),.int .i64 ((i+1:Nat):Int)] w fun e w' =>e=.returned (.slice (some ⟨g,0,none⟩) (n-1) c)/\w'.ownsRow 0 84 3 (.slice (some ⟨g,0,none⟩) (n-1) c) (n-1) (qaq lf (l.eraseIdx i))/\w.grownBy w' (some g):=by
 obtain⟨i0,hii,iz0,iz1,iz2⟩:=info_parts Tryz.infoEnG;obtain⟨w0,hw0⟩:∃x,w.drew=x:=⟨_,rfl⟩;have h0:w0.ownsRow 0 84 3 (.slice (some ⟨g,0,none⟩) n c) n (qaq lf l):=by rw [<-hw0];exact qgc h
 have hgw:∀x:World,w0.grownBy x (some g)->w.grownBy x (some g):=by rw [<-hw0];intro x hx;obtain⟨a,b,c,d,e⟩:=hx;exact⟨a,b,c,d,e⟩
 obtain⟨cur,hB,hnc,_,hcur⟩:=qma h0;have hll:l.length=n:=by have:=h0.1;rw [qe7] at this;omega
 obtain⟨news,hnews⟩:∃x,qaq lf (l.drop (i+1))=x:=⟨_,rfl⟩;have hnl:news.length=(n-(i+1))*3:=by rw [<-hnews,qe7,List.length_drop,hll]
 have hxs:qaq lf l=qaq lf (l.take i)++qaq lf [l[i]'oQ]++news:=by
  rw [<-hnews,<-qcr,<-qcr,List.append_assoc,List.singleton_append,<-zgx,List.take_append_drop]
 have hcell:∀j,j<n*3->(w0.cell? ⟨g,j,none⟩).isSome=true:=fun j hj=>by
  rw [h0.cellAt j oQ,zby (by rw [h.1];omega)];rfl
 have hsrc:∀j u,news[j]? =some u->w0.cell? ⟨g,(i+1)*3+j,none⟩=some u:=fun j u hu=>by
  have hj:=(zsy.1 hu).1
  rw [h0.cellAt _ oQ,<-hu,<-hnews,<-qm1,List.getElem?_drop]
 have hW1:=qu8 (k:=n-1) (qd1 news (i*3) h0) oQ
 have hset:(setN (qaq lf l) (i*3) news).take ((n-1)*3)=qaq lf (l.eraseIdx i):=by
  have hle:(qaq lf (l.take i)).length=i*3:=by rw [qe7,List.length_take];congr 1;omega
  rw [qss _ _ _ (by rw [qe7,hnl,hll];omega),List.eraseIdx_eq_take_drop_succ,qcr,hnews,qm0,List.append_assoc,List.take_append,hle,zmy (by rw [hle];omega)]
  congr 1
  rw [List.take_append_of_le_length (by rw [hnl];omega),zmy (by rw [hnl];omega)]
 rw [hset] at hW1;have hT1:w0.grownBy (w0.setCells g (i*3) news) (some g):=qdd news (i*3) ⟨rfl,rfl,rfl,zhy _,fun _ _ _=>rfl⟩
 obtain⟨W1,hw1⟩:∃x,w0.setCells g (i*3) news=x:=⟨_,rfl⟩;rw [hw1] at hW1 hT1;obtain⟨m,hm⟩:∃m,n-1=m:=⟨_,rfl⟩;have hm1:i+(n-(i+1))=m:=oQ
 have hcell1:∀j,j<n*3->(W1.cell? ⟨g,j,none⟩).isSome=true:=fun j hj=>by
  have h2:=qd1 news (i*3) h0;rw [hw1] at h2
  rw [h2.cellAt j oQ,zby (by rw [h2.1];omega)];rfl
 obtain⟨zs,hcl⟩:=qkm W1 g (m*3) 1 (c-m) dE (fun j hj=>hcell1 _ oQ) (fun j _=>qej hW1 _)
 have hfin:(W1.setCells g (m*3) zs).ownsRow 0 84 3 (.slice (some ⟨g,0,none⟩) (n-1) c) (n-1) (qaq lf (l.eraseIdx i)):=qq3 hW1 zs (m*3) oQ
 have hTf:w.grownBy (W1.setCells g (m*3) zs) (some g):=hgw _ (qdd zs (m*3) hT1)
 rw [hm] at hfin ⊢
 have HF:=hdQ (And.intro hfin hTf);have HApp:Hid ((∀u∈news,u.oneCell' =true)/\(∀j,j<news.length->(w0.cell? ⟨g,0+i*3+j,none⟩).isSome=true/\w0.frozen? ⟨g,0+i*3+j,none⟩=false)):=⟨by rw [<-hnews];exact qtw lf _ fun e he=>hone e (List.mem_of_mem_drop he),fun j hj=>⟨by rw [Nat.zero_add];exact hcell _ oQ,qej h0 _⟩⟩
 have HW1:=hdQ hw1;obtain⟨i1,hi1⟩:∃x,i+1=x:=⟨_,rfl⟩;have HI1:=hdQ hi1;obtain⟨q,hq⟩:∃x,n-i1=x:=⟨_,rfl⟩;have HQ:=hdQ hq;have hne:((i:Int)==(i1:Int))=false:=by rw [beq_eq_false_iff_ne];omega
 have hic:(i:Int)<=(c:Int):=oQ
 have hi1c:(i1:Int)<=(c:Int):=oQ
 have hi1n:(i1:Int)<=(n:Int):=oQ
 have hii1:(i:Int)<=(i1:Int):=oQ
 have hncI:(n:Int)<=(c:Int):=oQ
 have hmn:(m:Int)<=(n:Int):=oQ
 have hmc:¬ c=m:=oQ
 have hnm:n-m=1:=oQ
 have hicn:¬ c=i:=oQ
 have hqm:i+q=m:=oQ
 have HE:Hid (i+q=m/\i+q<=c):=⟨hqm,by omega⟩
 rw [hi1] at hsrc hnl ⊢
 rw [hq] at hnl;have HS:=hdQ hsrc;have HNL:=hdQ hnl;have HW0:=hdQ hw0;clear h h0 hgw hw0 hB hcur hll hnews hxs hcell hsrc hW1 hset hT1 hw1 hcell1 hfin hTf hnl hone hm1 hi1 hq hm
 go_enter Tryz.func48,Tryz.ntmps48
 go_wp2_with fail;refine qay [0,1,2,3,4,5] [6,7] kr kr pq ?_
 simp only [zdy,zey,ldz,lds,bare,qal,lcz,lcs,zay,qdr,Option.isNone_none,Bool.and_true,Bool.true_and,Bool.false_and,Bool.and_self]
 repeat((try simp only [Act.put,lsi,lsz,lss]);first|(refine qbo (v:= ?_) qaa rfl ?_ ?_;rotate_left;focus(intro wq;go_simp;try with_reducible rfl))|(refine qbf (v:= ?_) qaa rfl ?_ ?_;rotate_left;focus(intro wq hq;obtain⟨hcq,hfq⟩:=qbb hq;go_simp;try with_reducible rfl))|(refine qbh qaa rfl (fun K hK=> ?_);go_simp;((first|fail|skip)<;>(refine hK.out _ _ bel ?_;clear hK K))))
 (all_goals try simp only [Act.put,lsi,lsz,lss])
 refine qb6 ?_;refine qas (fun K hK=> ?_)
 (rw [HW0.out]);(refine qlj _ _ 72 rfl 84 i0 3 Tryz.underlying72 hii iz1 g 0 i c rfl (if c=i1 then⟨g,0,none⟩ else⟨g,i1*3,none⟩) (n-i1) (c-i1) news ?_ ?_ ?_ HApp.out.1 ?_ HApp.out.2 ?_);(focus(show Value.slice (if c=i1 then _ else _) _ _=_;split<;>rfl));(focus(rw [HQ.out];exact HNL.out));(focus(exact q12 HS.out HNL.out (by rw [<-HQ.out];omega)));(focus(rw [HQ.out];exact HE.out.2));(rw [Nat.zero_add,HW1.out,HQ.out,HE.out.1])
 refine hK.out _ _ ?_;clear hK K
 (try simp only [Act.put,lsi,lsz,lss])
 refine qas (fun K hK=> ?_)
 go_simp
 refine hK.out _ _ ?_;clear hK K
 (try simp only [Act.put,lsi,lsz,lss])
 refine qb5 ?_;go_wp2_with fail
 all_goals
  go_ret
  first
   | exact⟨rfl,HF.out.1,HF.out.2⟩
   | (have hF:=HF.out;have e:c=i1:=(by assumption);rw [e] at hF;exact⟨rfl,hF.1,hF.2⟩)
end Go.Proofs.YtjopdlmbgidigaaGreat
