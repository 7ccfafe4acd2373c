/-slices.Delete and slices.DeleteFunc of a node's entries.-/
import Derived.Test.YteodamnfgcnmmaaGreatDoorTGisY
import Derived.Deep.RegionLaw
set_option linter.unusedVariables false
set_option linter.unusedSimpArgs false
set_option maxHeartbeats 8000000
set_option maxRecDepth 20000
namespace Pg
open Go Go.RowKit
section
variable {w:World} {base g n cap s:Nat} {t:TypeId} {xs:List Value}
theorem qlg (h:w.ownsRow base t s (.slice (some ⟨g,0,none⟩) n cap) n xs):∃cur,Blk w g t cur/\n<=cap/\base<=g/\cur.toList.take (n*s)=xs:=by
 obtain⟨h1,⟨h2,_⟩|⟨g',cap',cur,hv,hg,hh,hnc,hcm,hcs,ht⟩⟩:=h
 · cases h2
 · injection hv with e1 e2 e3
   injection e1 with e1
   injection e1 with e1
   subst e1 e3;exact⟨cur,hh,hnc,hg,ht⟩
theorem qd9 (h:w.ownsRow base t s (.slice (some ⟨g,0,none⟩) n cap) n xs) (i:Nat):w.frozen? ⟨g,i,none⟩=false:=by
 obtain⟨cur,hb,_⟩:=qlg h;exact hb.frozen _
theorem q1u (h:w.ownsRow base t s (.slice (some ⟨g,0,none⟩) n cap) n xs) (i:Nat) (u:Value):(w.setCell ⟨g,i,none⟩ u).ownsRow base t s (.slice (some ⟨g,0,none⟩) n cap) n (xs.set i u):=by
 obtain⟨h1,⟨h2,_⟩|⟨g',cap',cur,hv,hg,hh,hnc,hcm,hcs,ht⟩⟩:=h
 · cases h2
 · injection hv with e1 e2 e3
   injection e1 with e1
   injection e1 with e1
   subst e1 e3;refine⟨by simpa using h1,.inr ⟨g,cap,cur.setIfInBounds i u,rfl,hg,(Blk.set_ (show Blk w g t cur from hh) i u),hnc,hcm,by simpa using hcs,?_⟩⟩
   rw [<-ht,Array.toList_setIfInBounds,List.take_set]
theorem qt8 {k:Nat} (h:w.ownsRow base t s (.slice (some ⟨g,0,none⟩) n cap) n xs) (hk:k<=n):w.ownsRow base t s (.slice (some ⟨g,0,none⟩) k cap) k (xs.take (k*s)):=by
 obtain⟨h1,⟨h2,_⟩|⟨g',cap',cur,hv,hg,hh,hnc,hcm,hcs,ht⟩⟩:=h
 · cases h2
 · injection hv with e1 e2 e3
   injection e1 with e1
   injection e1 with e1
   subst e1 e3;have hks:k*s<=n*s:=zuy _ hk;refine⟨by rw [List.length_take,h1];omega,.inr ⟨g,cap,cur,rfl,hg,hh,by omega,hcm,hcs,?_⟩⟩
   rw [<-ht,List.take_take,Nat.min_eq_left hks]
theorem qds:∀(vs:List Value) {w:World} {xs:List Value} (i:Nat),w.ownsRow base t s (.slice (some ⟨g,0,none⟩) n cap) n xs->(w.setCells g i vs).ownsRow base t s (.slice (some ⟨g,0,none⟩) n cap) n (setN xs i vs)
 | [],_,_,_,h=>h
 | v::r,_,_,i,h=>qds r (i+1) (q1u h i v)
theorem qpm:∀(vs xs:List Value) (i:Nat),xs.length<=i->setN xs i vs=xs
 | [],_,_,_=>rfl
 | v::r,xs,i,h=>by rw [setN,List.set_eq_of_length_le h];exact qpm r xs (i+1) oQ
theorem qp3 (h:w.ownsRow base t s (.slice (some ⟨g,0,none⟩) n cap) n xs) (vs:List Value) (i:Nat) (hi:n*s<=i):(w.setCells g i vs).ownsRow base t s (.slice (some ⟨g,0,none⟩) n cap) n xs:=by
 have:=qds vs i h
 rwa [qpm vs xs i (by rw [h.1];exact hi)] at this
theorem qcz {a:World}:∀(vs:List Value) {w:World} (i:Nat),a.grownBy w (some g)->a.grownBy (w.setCells g i vs) (some g)
 | [],_,_,h=>h
 | v::r,_,i,h=>qcz r (i+1) (h.trans (qcf _ ⟨g,i,none⟩ v))
end
theorem qkw {P:Program} {o:Oper} {a:Act} {w:World} {K:Act->World->Prop} {Q:Exit->Act->World->Prop} (s x:Operand) (t:TypeId) (hop:o.op=Op.call {callee:=Callee.builtin Builtin.append,args:= #[s,x],argTypes:= #[t,t]})
 (e:TypeId) (i:TypeInfo) (size:Nat) (h1:P.underlying t=some (.slice e)) (h2:P.info? e=some i) (h4:i.size=size)
 (b off n cap:Nat) (hs:a.eval s=.slice (some ⟨b,off,none⟩) n cap)
 (ad:Addr) (m c:Nat) (news:List Value) (hx:a.eval x=.slice (some ad) m c) (hn:news.length=m*size) (hc:∀j u,news[j]? =some u->w.cell? (ad.add j)=some u) (h1c:∀u∈news,u.oneCell' =true)
 (hroom:n+m<=cap) (hspare:∀j,j<news.length->(w.cell? ⟨b,off+n*size+j,none⟩).isSome=true/\w.frozen? ⟨b,off+n*size+j,none⟩=false)
 (hK:K (a.put o.dst (.slice (some ⟨b,off,none⟩) (n+m) cap)) (w.setCells b (off+n*size) news)):o.wp P a w K Q:=by
 subst h4;have hrun:=run_append_room_cells (P:=P) w t o.type e i h1 h2 b off n cap ad m c news hn hc h1c hroom (fun j hj=>(hspare j hj).1) (fun j hj=>(hspare j hj).2)
 unfold Oper.wp
 simp [execOp,hop,resolve,invoke,builtin,hs,hx,hrun,Result.andThen]
 exact hK
end Pg
namespace Go.Proofs.YteodamnfgcnmmaaGreatDoor
open Go Go.RowKit Pg
theorem qj0 (w:World) (b o n c:Nat) (hn:0<n) (hc:∀j,j<n*3->(w.cell? ⟨b,o+j,none⟩).isSome=true) (hf:∀j,j<n*3->w.frozen? ⟨b,o+j,none⟩=false):
 ∃zs:List Value,∀ty,(Builtin.clear_ #[109] ty #[.slice (some ⟨b,o,none⟩) n c]).run Tryz.prog w=.ok (.tuple #[]) (w.setCells b o zs):=by
 have hv:∀w,(zeroValue 122).run Tryz.prog w=.ok (.agg #[.slice none 0 0,.int .i64 0,.pointer none]) w:=fun w=>by kernel_rfl
 have hlen:(Builtin.zeroCells (Value.agg #[.slice none 0 0,.int .i64 0,.pointer none]).cells n).toList.length=n*3:=by simp [Builtin.zeroCells,Value.cells]
 have hone:∀v∈(Builtin.zeroCells (Value.agg #[.slice none 0 0,.int .i64 0,.pointer none]).cells n).toList,v.oneCell' =true:=by
  intro v hv';obtain⟨i,hi,rfl⟩:=List.getElem_of_mem hv';have hm:i%3=0\/i%3=1\/i%3=2:=oQ
  rcases hm with h|h|h<;>simp [Builtin.zeroCells,Value.cells,h,Value.oneCell']
 have hst:=run_storeCells_cells (P:=Tryz.prog) b o (Builtin.zeroCells (Value.agg #[.slice none 0 0,.int .i64 0,.pointer none]).cells n).toList 0 w (by rw [hlen];simpa using hc) (by rw [hlen];simpa using hf) hone
 simp only [Nat.add_zero] at hst;obtain⟨m,rfl⟩:∃m,n=m+1:=⟨n-1,by omega⟩
 exact⟨(Builtin.zeroCells (Value.agg #[.slice none 0 0,.int .i64 0,.pointer none]).cells (m+1)).toList,fun ty=>by simp [Builtin.clear_,run_underlying Tryz.underlying109,hv,hst]⟩
theorem qwr (lf:Bool) (e:En):(qek lf e).length=3:=rfl
theorem qsr {lf:Bool} {l:List En} {k:Nat} (hk:k<l.length) (e:En):setN (qar lf l) (k*3) (qek lf e)=qar lf (l.set k e):=qqp (qwr lf) hk e
theorem qss (lf:Bool) (l:List En) (h:∀e∈l,e.kv.oneCell' =true):∀u∈qar lf l,u.oneCell' =true:=by
 intro u hu;obtain⟨e,he,hu⟩:=List.mem_flatMap.1 hu;simp only [qek,List.mem_cons,List.not_mem_nil,or_false] at hu
 rcases hu with rfl|rfl|rfl
 · exact h e he
 · rfl
 · cases lf<;>rfl
theorem q1a {w:World} {g i1 c q:Nat} {news:List Value} (hs:∀j u,news[j]? =some u->w.cell? ⟨g,i1*3+j,none⟩=some u) (hl:news.length=q*3) (hq:c=i1->q=0):∀j u,news[j]? =some u->w.cell? (Addr.add (if c=i1 then⟨g,0,none⟩ else⟨g,i1*3,none⟩) j)=some u:=by
 intro j u hu
 by_cases h:c=i1
 · rw [hq h] at hl
   have:=(zsy.1 hu).1
   omega
 · rw [if_neg h]
   have e:(⟨g,i1*3,none⟩:Addr).add j=⟨g,i1*3+j,none⟩:=by
    unfold Addr.add
    by_cases hz:j=0
    · simp [hz]
    · simp [hz]
   rw [e]
   exact hs j u hu
theorem q1b (lf:Bool) (l:List En) (g n c i:Nat) (w:World) (h:w.ownsRow 0 122 3 (.slice (some ⟨g,0,none⟩) n c) n (qar lf l)) (hone:∀e∈l,e.kv.oneCell' =true) (hi:i<n) (hn:n<=1000000):
 C9 64 #[.slice (some ⟨g,0,none⟩) n c,.int .i64 (i:Int),.int .i64 ((i+1:Nat):Int)] w fun e w' =>e=.returned (.slice (some ⟨g,0,none⟩) (n-1) c)/\w'.ownsRow 0 122 3 (.slice (some ⟨g,0,none⟩) (n-1) c) (n-1) (qar lf (l.eraseIdx i))/\w.grownBy w' (some g):=by
 obtain⟨i0,hii,iz0,iz1,iz2⟩:=info_parts Tryz.infoEnG;obtain⟨w0,hw0⟩:∃x,w.drew=x:=⟨_,rfl⟩;have h0:w0.ownsRow 0 122 3 (.slice (some ⟨g,0,none⟩) n c) n (qar lf l):=by rw [<-hw0];exact qf7 h
 have hgw:∀x:World,w0.grownBy x (some g)->w.grownBy x (some g):=by rw [<-hw0];intro x hx;obtain⟨a,b,c,d,e⟩:=hx;exact⟨a,b,c,d,e⟩
 obtain⟨cur,hB,hnc,_,hcur⟩:=qlg h0;have hll:l.length=n:=by have:=h0.1;rw [qe2] at this;omega
 obtain⟨news,hnews⟩:∃x,qar lf (l.drop (i+1))=x:=⟨_,rfl⟩;have hnl:news.length=(n-(i+1))*3:=by rw [<-hnews,qe2,List.length_drop,hll]
 have hxs:qar lf l=qar lf (l.take i)++qar lf [l[i]'oQ]++news:=by
  rw [<-hnews,<-qdf,<-qdf,List.append_assoc,List.singleton_append,<-zgx,List.take_append_drop]
 have hcell:∀j,j<n*3->(w0.cell? ⟨g,j,none⟩).isSome=true:=fun j hj=>by
  rw [h0.cellAt j oQ,zby (by rw [h.1];omega)];rfl
 have hsrc:∀j u,news[j]? =some u->w0.cell? ⟨g,(i+1)*3+j,none⟩=some u:=fun j u hu=>by
  have hj:=(zsy.1 hu).1
  rw [h0.cellAt _ oQ,<-hu,<-hnews,<-ql3,List.getElem?_drop]
 have hW1:=qt8 (k:=n-1) (qds news (i*3) h0) oQ
 have hset:(setN (qar lf l) (i*3) news).take ((n-1)*3)=qar lf (l.eraseIdx i):=by
  have hle:(qar lf (l.take i)).length=i*3:=by rw [qe2,List.length_take];congr 1;omega
  rw [qrq _ _ _ (by rw [qe2,hnl,hll];omega),List.eraseIdx_eq_take_drop_succ,qdf,hnews,ql1,List.append_assoc,List.take_append,hle,zmy (by rw [hle];omega)]
  congr 1
  rw [List.take_append_of_le_length (by rw [hnl];omega),zmy (by rw [hnl];omega)]
 rw [hset] at hW1;have hT1:w0.grownBy (w0.setCells g (i*3) news) (some g):=qcz news (i*3) ⟨rfl,rfl,rfl,zhy _,fun _ _ _=>rfl⟩
 obtain⟨W1,hw1⟩:∃x,w0.setCells g (i*3) news=x:=⟨_,rfl⟩;rw [hw1] at hW1 hT1;obtain⟨m,hm⟩:∃m,n-1=m:=⟨_,rfl⟩;have hm1:i+(n-(i+1))=m:=oQ
 have hcell1:∀j,j<n*3->(W1.cell? ⟨g,j,none⟩).isSome=true:=fun j hj=>by
  have h2:=qds news (i*3) h0;rw [hw1] at h2
  rw [h2.cellAt j oQ,zby (by rw [h2.1];omega)];rfl
 obtain⟨zs,hcl⟩:=qj0 W1 g (m*3) 1 (c-m) dE (fun j hj=>hcell1 _ oQ) (fun j _=>qd9 hW1 _)
 have hfin:(W1.setCells g (m*3) zs).ownsRow 0 122 3 (.slice (some ⟨g,0,none⟩) (n-1) c) (n-1) (qar lf (l.eraseIdx i)):=qp3 hW1 zs (m*3) oQ
 have hTf:w.grownBy (W1.setCells g (m*3) zs) (some g):=hgw _ (qcz zs (m*3) hT1)
 rw [hm] at hfin ⊢
 have HF:=hdQ (And.intro hfin hTf);have HApp:Hid ((∀u∈news,u.oneCell' =true)/\(∀j,j<news.length->(w0.cell? ⟨g,0+i*3+j,none⟩).isSome=true/\w0.frozen? ⟨g,0+i*3+j,none⟩=false)):=⟨by rw [<-hnews];exact qss lf _ fun e he=>hone e (List.mem_of_mem_drop he),fun j hj=>⟨by rw [Nat.zero_add];exact hcell _ oQ,qd9 h0 _⟩⟩
 have HW1:=hdQ hw1;obtain⟨i1,hi1⟩:∃x,i+1=x:=⟨_,rfl⟩;have HI1:=hdQ hi1;obtain⟨q,hq⟩:∃x,n-i1=x:=⟨_,rfl⟩;have HQ:=hdQ hq;have hne:((i:Int)==(i1:Int))=false:=by rw [beq_eq_false_iff_ne];omega
 have hic:(i:Int)<=(c:Int):=oQ
 have hi1c:(i1:Int)<=(c:Int):=oQ
 have hi1n:(i1:Int)<=(n:Int):=oQ
 have hii1:(i:Int)<=(i1:Int):=oQ
 have hncI:(n:Int)<=(c:Int):=oQ
 have hmn:(m:Int)<=(n:Int):=oQ
 have hmc:¬ c=m:=oQ
 have hnm:n-m=1:=oQ
 have hicn:¬ c=i:=oQ
 have hqm:i+q=m:=oQ
 have HE:Hid (i+q=m/\i+q<=c):=⟨hqm,by omega⟩
 rw [hi1] at hsrc hnl ⊢
 rw [hq] at hnl;have HS:=hdQ hsrc;have HNL:=hdQ hnl;have HW0:=hdQ hw0;clear h h0 hgw hw0 hB hcur hll hnews hxs hcell hsrc hW1 hset hT1 hw1 hcell1 hfin hTf hnl hone hm1 hi1 hq hm
 go_enter Tryz.func64,Tryz.ntmps64
 go_wp2_with fail;refine qa0 [0,1,2,3,4,5] [6,7] kr kr pq ?_
 simp only [zdy,zey,ldz,lds,bare,qak,lcz,lcs,zay,qdr,Option.isNone_none,Bool.and_true,Bool.true_and,Bool.false_and,Bool.and_self]
 repeat((try simp only [Act.put,lsi,lsz,lss]);first|(refine qb0 (v:= ?_) qaa rfl ?_ ?_;rotate_left;focus(intro wq;go_simp;try with_reducible rfl))|(refine qbl (v:= ?_) qaa rfl ?_ ?_;rotate_left;focus(intro wq hq;obtain⟨hcq,hfq⟩:=qbc hq;go_simp;try with_reducible rfl))|(refine qbp qaa rfl (fun K hK=> ?_);go_simp;((first|fail|skip)<;>(refine hK.out _ _ bel ?_;clear hK K))))
 (all_goals try simp only [Act.put,lsi,lsz,lss])
 refine qce ?_;refine qat (fun K hK=> ?_)
 (rw [HW0.out]);(refine qkw _ _ 109 rfl 122 i0 3 Tryz.underlying109 hii iz1 g 0 i c rfl (if c=i1 then⟨g,0,none⟩ else⟨g,i1*3,none⟩) (n-i1) (c-i1) news ?_ ?_ ?_ HApp.out.1 ?_ HApp.out.2 ?_);(focus(show Value.slice (if c=i1 then _ else _) _ _=_;split<;>rfl));(focus(rw [HQ.out];exact HNL.out));(focus(exact q1a HS.out HNL.out (by rw [<-HQ.out];omega)));(focus(rw [HQ.out];exact HE.out.2));(rw [Nat.zero_add,HW1.out,HQ.out,HE.out.1])
 refine hK.out _ _ ?_;clear hK K
 (try simp only [Act.put,lsi,lsz,lss])
 refine qat (fun K hK=> ?_)
 go_simp
 refine hK.out _ _ ?_;clear hK K
 (try simp only [Act.put,lsi,lsz,lss])
 refine qcd ?_;go_wp2_with fail
 all_goals
  go_ret
  first
   | exact⟨rfl,HF.out.1,HF.out.2⟩
   | (have hF:=HF.out;have e:c=i1:=(by assumption);rw [e] at hF;exact⟨rfl,hF.1,hF.2⟩)
end Go.Proofs.YteodamnfgcnmmaaGreatDoor
namespace Pg
def idxI (d:Int):List En->Nat->Int
 | [],_=> -1
 | e::r,i=>if e.id=d then(i:Int) else idxI d r (i+1)
theorem qzm {d:Int} {l:List En} {i:Nat} {e:En} (h:l[i]? =some e):idxI d (l.drop i) i=if e.id=d then(i:Int) else idxI d (l.drop (i+1)) (i+1):=by
 have hi:i<l.length:=by
  rcases zry i l.length with q|q
  · exact q
  · rw [zoy q] at h;cases h
 rw [zgx hi]
 rw [zby hi] at h;injection h with h
 subst h
 rfl
theorem qqn {d:Int}:∀{l:List En} {i:Nat},idxI d l i= -1->l.filter (fun e=> !decide (e.id=d))=l
 | [],_,_=>rfl
 | e::r,i,h=>by
   unfold idxI at h
   by_cases q:e.id=d
   · rw [if_pos q] at h;omega
   · rw [if_neg q] at h
     rw [List.filter_cons_of_pos (by simpa using q),qqn h]
theorem qqm {d:Int}:∀{l:List En} {i:Nat},idxI d l i≠ -1->∃j x,idxI d l i=((i+j:Nat):Int)/\l[j]? =some x/\x.id=d/\(l.take j).filter (fun e=> !decide (e.id=d))=l.take j
 | [],_,h=>absurd rfl h
 | e::r,i,h=>by
   unfold idxI at h ⊢
   by_cases q:e.id=d
   · exact⟨0,e,by rw [if_pos q];rfl,rfl,q,rfl⟩
   · rw [if_neg q] at h ⊢
     obtain⟨j,x,h1,h2,h3,h4⟩:=qqm h;exact⟨j+1,x,by rw [h1];congr 1;omega,by simpa using h2,h3,by rw [List.take_succ_cons,List.filter_cons_of_pos (by simpa using q),h4]⟩
end Pg
namespace Go.Proofs.YteodamnfgcnmmaaGreatDoor
open Go Go.RowKit Pg
theorem quu (kv p:Value) (id d:Int) (g:Nat) (w:World) (hg:w.cell? ⟨g,0,none⟩=some (.int .i64 d)) (hlt:g<w.heap.size):
 C9 60 #[.agg #[kv,.int .i64 id,p],.pointer (some ⟨g,0,none⟩)] w (Ret w (.bool (decide (id=d)))):=by
 have e:decide (id=d)=(id==d):=by rw [Bool.eq_iff_iff];simp
 rw [e]
 go_enter Tryz.func60,Tryz.ntmps60
 go_wp2;go_ret;exact⟨rfl,bel⟩
theorem qwv (lf:Bool) (l:List En) (g n:Nat) (d:Int) (v:Value) (w:World) (h:w.ownsRow 0 122 3 v n (qar lf l)) (hg:w.cell? ⟨g,0,none⟩=some (.int .i64 d)) (hlt:g<w.heap.size) (hn:n<=1000000):
 C9 100 #[v,.func (.func 60) #[] #[.pointer (some ⟨g,0,none⟩)]] w (Ret w (.int .i64 (idxI d l 0))):=by
 obtain⟨A,c,rfl,hnc,hAn,hAb⟩:=qao h;have hl:l.length=n:=by have:=h.1;rw [qe2] at this;omega
 have HR:=hdQ h;have HP:=hdQ (fun kv id p W (hW:Below w.heap.size w W)=>quu kv p id d g W (((qbc hW).1 g 0 hlt).trans hg) (zky hlt hW.size))
 clear h hnc hAn hAb
 go_enter Tryz.func100,Tryz.ntmps100
 go_wp2_with fail
 go_loopw [8] (fun vi wr=>∃i:Nat,i<=n/\vi=.int .i64 i/\idxI d (l.drop i) i=idxI d l 0/\Below w.heap.size w wr) (fun vi _=>n-(Go.RowKit.intOf vi).toNat)
 case atStart=>exact ⟨0,by omega,rfl,rfl,bel⟩
 case round=>
  obtain⟨i,hi,rfl,he,hb⟩:=hrel
  by_cases hlt' :i<n
  case neg=>
   obtain rfl:n=i:=oQ
   have HE:Hid (idxI d l 0= -1):=by
    unfold Hid
    rw [<-he,List.drop_of_length_le oQ]
    rfl
   clear he;go_wp2_with fail;go_ret;exact⟨by rw [HE.out];rfl,bel⟩
  have hi1:(i:Int)<(n:Int):=oQ
  obtain⟨x,hx⟩:∃x,l[i]? =some x:=⟨l[i]'oQ,zby _⟩
  have hr:=HR.out;rw [<-hl] at hr;obtain⟨g',c',hv,hgl,r0,r1,r2⟩:=qct hr hx;injection hv with hv1 hv2 hv3
  subst hv1 hv3;obtain⟨hc,hf,hz⟩:=bc3 hb;rw [<-hc g' _ hgl] at r0 r1 r2;have hgw:g' <wr.heap.size:=oQ
  rw [qzm hx] at he;obtain⟨p,hp⟩:∃p,(if lf then Value.pointer none else gP x.kid)=p:=⟨_,rfl⟩
  rw [hp] at r2;clear hr hv2 hc hf hp
  by_cases hk:x.id=d
  · rw [if_pos hk] at he
    have HE:=hdQ he;have hd:decide (x.id=d)=true:=decide_eq_true hk;clear he hk
    go_wp2_with (go_at_call 60;(with_reducible refine(HP.out _ _ _ _ bel).mono ?_);rintro e w1 ⟨rfl,hb1⟩;obtain⟨hc1,hf1⟩:=qbc hb1;rw [hd])
    go_ret;exact⟨by rw [HE.out];rfl,bel⟩
  · rw [if_neg hk] at he
    have HE:=hdQ he;have hd:decide (x.id=d)=false:=decide_eq_false hk;clear he hk
    go_wp2_with (go_at_call 60;(with_reducible refine(HP.out _ _ _ _ bel).mono ?_);rintro e w1 ⟨rfl,hb1⟩;obtain⟨hc1,hf1⟩:=qbc hb1;rw [hd])
    go_roundw
    case rel=>exact ⟨i+1,by omega,by go_num,HE.out,bel⟩
    case measure=>simp [Go.RowKit.intOf];omega
theorem qgq {w w' :World} {g:Nat} (h:w.grownBy w' none):w.grownBy w' (some g):=by
 obtain⟨a,b,c,d,e⟩:=h;exact⟨a,b,c,d,fun k hk q=>e k hk sI⟩
theorem qs9 {w w' :World} {g b o:Nat} (h:w.grownBy w' (some g)) (hb:b<w.heap.size) (hne:b≠g):w'.cell? ⟨b,o,none⟩=w.cell? ⟨b,o,none⟩:=by
 unfold World.cell?
 rw [h.block b hb (by simpa using hne)]
theorem qlz {l:List En} {d:Int} {j:Nat} {x:En} (h:l[j]? =some x) (hx:x.id=d):(l.take (j+1)).filter (fun e=> !decide (e.id=d))=(l.take j).filter (fun e=> !decide (e.id=d)):=by
 rw [zwy,h,List.filter_append]
 simp [hx]
theorem qqs {l:List En} {d:Int} {j:Nat} {x:En} (h:l[j]? =some x) (hx:¬ x.id=d):(l.take (j+1)).filter (fun e=> !decide (e.id=d))=(l.take j).filter (fun e=> !decide (e.id=d))++ [x]:=by
 rw [zwy,h,List.filter_append]
 simp [hx]
theorem qnf {L l:List En} {j:Nat} (h:L.drop j=l.drop j):L.drop (j+1)=l.drop (j+1):=by
 rw [<-List.drop_drop,<-List.drop_drop,h]
structure DelAt (w0 w:World) (lf:Bool) (l:List En) (d:Int) (g n c a j:Nat) (L:List En):Prop where
 row:w.ownsRow 0 122 3 (.slice (some ⟨g,0,none⟩) n c) n (qar lf L)
 grown:w0.grownBy w (some g)
 len:L.length=n
 lt:a<j
 le:j<=n
 num:a=((l.take j).filter fun e=> !decide (e.id=d)).length
 kept:L.take a=(l.take j).filter fun e=> !decide (e.id=d)
 rest:L.drop j=l.drop j
theorem qx8 (l:List En) (g gd n c:Nat) (d:Int) (w:World) (h:w.ownsRow 0 122 3 (.slice (some ⟨g,0,none⟩) n c) n (qar true l)) (hg:w.cell? ⟨gd,0,none⟩=some (.int .i64 d)) (hlt:gd<w.heap.size) (hne:gd≠g) (hn:n<=1000000) (hkv:∀e∈l,∃A m k,e.kv=.slice A m k):
 C9 59 #[.slice (some ⟨g,0,none⟩) n c,.func (.func 60) #[] #[.pointer (some ⟨gd,0,none⟩)]] w fun e w' =>∃m,m=(l.filter fun e=> !decide (e.id=d)).length/\e=.returned (.slice (some ⟨g,0,none⟩) m c)/\w'.ownsRow 0 122 3 (.slice (some ⟨g,0,none⟩) m c) m (qar true (l.filter fun e=> !decide (e.id=d)))/\w.grownBy w' (some g):=by
 have HIx:=hdQ (qwv true l gd n d _ w h hg hlt hn);have hl:l.length=n:=by have:=h.1;rw [qe2] at this;omega
 have HL:=hdQ hl;have HR:=hdQ h;have HG:=hdQ (And.intro hg (And.intro hlt hne));have HKV:=hdQ hkv;clear h hg hl hkv
 by_cases hix:idxI d l 0= -1
 · have hF:=qqn hix
   rw [hix] at HIx;have HF:=hdQ hF;clear hF hix
   go_enter Tryz.func59,Tryz.ntmps59
   go_wp2_with (go_at_call 100;(refine HIx.out.monoR ?_);rintro w1 hb1 hc1 hf1 hz1;(try simp at hz1))
   go_ret;exact⟨n,by rw [HF.out,HL.out],rfl,by rw [HF.out];exact qal HR.out (qaf hb1) sI,qgq (qaf hb1)⟩
 obtain⟨j0,x0,h1,h2,h3,h4⟩:=qqm hix;rw [h1,Nat.zero_add] at HIx;have hj0:j0<l.length:=(zsy.1 h2).1;have HJ:=hdQ (And.intro hj0 (And.intro h2 (And.intro h3 h4)));have hjn:j0<n:=by rw [<-HL.out];exact hj0
 have hm1:((j0:Int)== -1)=false:=by rw [beq_eq_false_iff_ne];omega
 clear hix h1 h2 h3 h4 hj0
 go_enter Tryz.func59,Tryz.ntmps59
 go_wp2_with (go_at_call 100;(refine HIx.out.monoR ?_);rintro w1 hb1 hc1 hf1 hz1;(try simp at hz1))
 have HB1:=hdQ hb1
 have HN0:Hid ((l.take (j0+1)).filter (fun e=> !decide (e.id=d))=l.take j0):=by
  obtain⟨h1,h2,h3,h4⟩:=HJ.out;unfold Hid
  rw [qlz h2 h3,h4]
 clear hb1 hc1 hf1 hz1 hm1 HIx hlt hne
 go_loopw [5,6] (fun va vj wr=>∃(a j:Nat) (L:List En),va=.int .i64 a/\vj=.int .i64 j/\DelAt w wr true l d g n c a j L) (fun _ vj _=>n-(Go.RowKit.intOf vj).toNat)
 case atStart=>
  have hz:=HJ.out.1;exact⟨j0,j0+1,l,rfl,by first|go_num|(rw [IntWalk.wrap64_in _ oQ];go_num),⟨qal HR.out (qaf HB1.out) sI,qgq (qaf HB1.out),HL.out,by omega,by omega,by rw [HN0.out,List.length_take];omega,HN0.out.symm,rfl⟩⟩
 case round=>
  obtain⟨a,j,L,rfl,rfl,D⟩:=hrel;have hcn:n<=c:=by obtain⟨_,_,h,_⟩:=qlg D.row;exact h
  have haj:=D.lt;have hjn' :=D.le;obtain⟨cg,cl,cn⟩:=HG.out;have cg' :wr.cell? ⟨gd,0,none⟩=some (.int .i64 d):=(qs9 D.grown cl cn).trans cg;have cl' :gd<wr.heap.size:=zky cl D.grown.size;have HP:=hdQ (fun kv id p W (hW:Below wr.heap.size wr W)=>quu kv p id d gd W (((qbc hW).1 gd 0 cl').trans cg') (zky cl' hW.size))
  have HD:=hdQ D;clear cg cg' cl cl' cn
  by_cases hlt:j<n
  case neg=>
   obtain rfl:n=j:=oQ
   have hac:¬ c=a:=oQ
   have hacI:(a:Int)<=(c:Int):=oQ
   have hanI:(a:Int)<=(n:Int):=oQ
   have hncI:(n:Int)<=(c:Int):=oQ
   obtain⟨zs,hcl⟩:=qj0 wr g (a*3) (n-a) (c-a) oQ (fun z hz=>by rw [D.row.cellAt _ oQ,zby (by rw [D.row.1];omega)];rfl) (fun z _=>qd9 D.row _)
   clear D;go_wp2_with fail;go_ret;have e:l.take n=l:=zmy (by rw [HL.out];exact zhy _)
   have hk:=HD.out.kept;have hnum:=HD.out.num;rw [e] at hk hnum;have hro:=qp3 (qt8 (k:=a) HD.out.row oQ) zs (a*3) (zhy _)
   rw [ql1,hk] at hro;exact⟨a,hnum,rfl,hro,qcz zs (a*3) HD.out.grown⟩
  have hltI:(j:Int)<(n:Int):=oQ
  have hjl:j<l.length:=by rw [HL.out];exact hlt
  obtain⟨x,hx⟩:∃x,l[j]? =some x:=⟨l[j],zby hjl⟩
  have hLx:L[j]? =some x:=by
   have:=congrArg (·[0]?) D.rest
   simp only [List.getElem?_drop,Nat.add_zero] at this
   rw [this,hx]
  have hal:a<L.length:=by rw [D.len];omega
  obtain⟨y,hy⟩:∃y,L[a]? =some y:=⟨L[a],zby hal⟩;have hr:=D.row;rw [<-D.len] at hr;obtain⟨g',c',hv,hgl,r0,r1,r2⟩:=qct hr hLx;injection hv with hv1 hv2 hv3
  injection hv1 with hv1
  injection hv1 with hv1
  subst hv1 hv3;clear hv2;obtain⟨g',c',hv,_,s0,s1,s2⟩:=qct hr hy;injection hv with hv1 hv2 hv3
  injection hv1 with hv1
  injection hv1 with hv1
  subst hv1 hv3;have f0:=qd9 hr (a*3);have f1:=qd9 hr (a*3+1);have f2:=qd9 hr (a*3+2);simp only [if_true] at r2 s2;obtain⟨Ak,mk,ck,hkv⟩:=HKV.out x (zjy hx);rw [hkv] at r0;have HX:=hdQ (And.intro hx (And.intro hkv hy));have haI:(a:Int)<(n:Int):=oQ
  clear D hr hv2 hx hLx hy hkv hal hjl
  by_cases hk:x.id=d
  · have hd:decide (x.id=d)=true:=decide_eq_true hk
    have HK:=hdQ hk;clear hk
    go_wp2_with (go_at_call 60;(with_reducible refine(HP.out _ _ _ _ bel).mono ?_);rintro e w1 ⟨rfl,hb1⟩;obtain⟨hc1,hf1⟩:=qbc hb1;rw [hd])
    have hbw:Below wr.heap.size wr w1:=bel;refine⟨⟨a,j+1,L,by go_num,by go_num,?_⟩,by simp [Go.RowKit.intOf];omega⟩
    obtain⟨hx,_,_⟩:=HX.out;exact⟨qal HD.out.row (qaf hbw) sI,HD.out.grown.trans (qgq (qaf hbw)),HD.out.len,by omega,by omega,by rw [qlz hx HK.out];exact HD.out.num,by rw [qlz hx HK.out];exact HD.out.kept,qnf HD.out.rest⟩
  · have hd:decide (x.id=d)=false:=decide_eq_false hk
    have HK:=hdQ hk;clear hk
    go_wp2_with (go_at_call 60;(with_reducible refine(HP.out _ _ _ _ bel).mono ?_);rintro e w1 ⟨rfl,hb1⟩;obtain⟨hc1,hf1⟩:=qbc hb1;rw [hd])
    have hbw:Below wr.heap.size wr w1:=bel;refine⟨⟨a+1,j+1,L.set a x,by go_num,by go_num,?_⟩,by simp [Go.RowKit.intOf];omega⟩
    obtain⟨hx,hkv,_⟩:=HX.out;have hL:=HD.out.len;have hro:=qds (qek true x) (a*3) (qal HD.out.row (qaf hbw) sI)
    rw [qsr oQ] at hro
    have hgr:=qcz (qek true x) (a*3) (HD.out.grown.trans (qgq (qaf hbw)));have ex:qek true x= [.slice Ak mk ck,.int .i64 x.id,.pointer none]:=by unfold qek;rw [hkv];rfl
    rw [ex] at hro hgr;refine⟨hro,hgr,by rw [zkx];exact hL,by omega,by omega,?_,?_,?_⟩
    · rw [qqs hx HK.out,zny,<-HD.out.num];rfl
    · rw [qqs hx HK.out,<-HD.out.kept,zwy,List.getElem?_set_self oQ,List.take_set,List.set_eq_of_length_le (by rw [List.length_take];omega)];rfl
    · rw [List.drop_set_of_lt oQ];exact qnf HD.out.rest
end Go.Proofs.YteodamnfgcnmmaaGreatDoor
namespace Pg
theorem qw7 (t:Tr) (n:Nat):below t 0 n=(t.es n).flatMap fun e=> [e.id]:=by
 unfold below
 induction t.es n with
 | nil=>rfl
 | cons e r ih=>rw [zdy,zvy,ih];rfl
def belS (t:Tr):Nat->En->List Int
 | 0,e=> [e.id]
 | l+1,e=>below t l e.kid
theorem qw9 (t:Tr) (l n:Nat):below t l n=(t.es n).flatMap (belS t l):=by
 cases l with
 | zero=>rw [qw7];rfl
 | succ l=>rfl
end Pg
namespace Go.Proofs.YteodamnfgcnmmaaGreatDoor
open Go Go.RowKit Pg
theorem q4l {W:World} {o:Obj} {a:Value} {t:TypeId}:∀(j:Nat) (v:Value),[a][j]? =some v->((W.alloc o).alloc (.cells #[a] t)).cell? ((⟨W.heap.size+1,0,none⟩:Addr).add j)=some v:=by
 have h:=qr6 (w:=W.alloc o) (a:=a) (t:=t);have e:(W.alloc o).heap.size=W.heap.size+1:=sI
 rw [e] at h;exact h
section
variable {w:World} {own imm:Nat->Prop} {tb mb:Nat} {cl:Value} {t:Tr} {H:Nat->Prop} {L L' :Int->Prop}
theorem q0h (hS:Shape t L') (hlen:∀b l,t.lv b=some l->(t.es b).length<=16) (hcount:t.items.length<=100000):∀(l n:Nat) (w:World),t.lv n=some l->Lay w own imm tb mb cl t (fun _=>False) L->
 C9 62 #[gP n] w fun e w' =>∃v,e=.returned v/\w'.ownsRow w.heap.size 3 1 v (below t l n).length (idcs (below t l n))/\Below w.heap.size w w' :=by
 intro l
 induction l using Nat.strongRecOn with
 | _ l ih0=>
 intro n w hn h;obtain⟨n0,n1,n2,nlt⟩:=h.n0 hn;obtain⟨Ar,cr,hs,_,_,_⟩:=qao (h.row n l hn (fun q=>q))
 rw [hs] at n2
 have hfew:(below t l n).length<=100000:=by
  have h2:=hS.below_len hn
  omega
 obtain⟨k,hk⟩:∃k,(t.es n).length=k:=⟨_,rfl⟩;have HLN:=hdQ hk;rw [hk] at n2;have hk16:k<=16:=by rw [<-hk];exact hlen n _ hn
 have HS:=hdQ hs;have HN:=hdQ hn;have HH:=hdQ h;have HIH:Hid (∀l' b,l=l' +1->t.lv b=some l' ->∀W,Below w.heap.size w W->C9 62 #[gP b] W fun e w' =>∃v,e=.returned v/\w'.ownsRow W.heap.size 3 1 v (below t l' b).length (idcs (below t l' b))/\Below W.heap.size W w'):=fun l' b e hb W hW=>ih0 l' oQ b W hb (h.tr hW)
 have HSh:=hdQ hS
 rw [qw9] at hfew ⊢
 have HFew:=hdQ hfew;clear hn h hS ih0 hk hs hfew hlen hcount
 simp only [gP] at*
 go_enter Tryz.func62,Tryz.ntmps62
 go_wp2_with fail
 go_loopw [2,10] (fun v6 vi wr=>∃(i:Nat) (acc:List Int) (A6:Option Addr) (c6:Nat),v6=.slice A6 acc.length c6/\vi=.int .i64 i/\i<=k/\acc=((t.es n).take i).flatMap (belS t l)/\wr.ownsRow w.heap.size 3 1 (.slice A6 acc.length c6) acc.length (idcs acc)/\Below w.heap.size w wr) (fun _ vi _=>k-(Go.RowKit.intOf vi).toNat)
 case atStart=>exact ⟨0,[],none,0,rfl,rfl,zly _,by simp,World.ownsRow_nil _ _ _ _,Below.refl _ _⟩
 case round=>
  obtain⟨i,acc,A6,c6,rfl,rfl,hik,hacc,hrow,hb⟩:=hrel;have hWr:Below w.heap.size w wr:=hb;have hws:w.heap.size<=wr.heap.size:=hb.size
  by_cases hlt:i<k
  case neg=>
   obtain rfl:k=i:=oQ
   rw [zmy (by rw [HLN.out];exact zhy _)] at hacc
   have HA:=hdQ hacc;have HR:=hdQ hrow;have HW:=hdQ hWr;clear hacc hrow hb hWr hlt;go_wp2_with fail;go_ret;exact⟨_,rfl,by rw [<-HA.out];exact HR.out,HW.out⟩
  have L:=HH.out.tr hWr;obtain⟨m0,m1,m2,mlt⟩:=L.n0 HN.out;rw [HS.out,HLN.out] at m2;have hn0:(i:Int)<(k:Int):=oQ
  obtain⟨e,hx⟩:∃e,(t.es n)[i]? =some e:=⟨(t.es n)[i]'(by rw [HLN.out];exact hlt),zby _⟩
  have hmem:=zjy hx
  have hstep:((t.es n).take (i+1)).flatMap (belS t l)=acc++belS t l e:=by
   rw [zwy,hx,List.flatMap_append,<-hacc]
   simp
  have hal:(acc++belS t l e).length<=100000:=by
   rw [<-hstep]
   exact zcy (qj7 _ _ _) HFew.out
  obtain⟨g,c',hv,hgl,r0,r1,r2⟩:=qct (L.row n l HN.out (fun q=>q)) hx
  rw [HS.out] at hv;injection hv with hv1 hv2 hv3
  subst hv1 hv3;obtain⟨Ak,ck,ekv,_⟩:=(L.ekey n l e HN.out hmem).bys;rw [ekv] at r0;have HRow:=hdQ hrow;have HB:=hdQ hb;have HSt:=hdQ hstep;have HAl:=hdQ hal;have HMem:=hdQ hmem
  obtain⟨rv,hrv⟩:∃a,(if decide (l=0)=true then Value.pointer none else .pointer (some ⟨e.kid,0,none⟩))=Value.pointer a:=by
   split
   · exact⟨none,rfl⟩
   · exact⟨_,rfl⟩
  simp only [gP] at r2;rw [hrv] at r2;have HRV:=hdQ hrv;clear hx hmem L hv2 ekv hacc hrow hb hstep hal hWr hrv;obtain⟨i0,hi,iz0,iz1,iz2⟩:=info_parts Tryz.infoIY
  cases l with
  | zero=>
    rw [show decide (0=0)=true from rfl] at m1
    have HE:Hid (belS t 0 e= [e.id]):=rfl;rw [HE.out] at HSt HAl
    go_wp2_with (at_builtin;go_must (refine wpList_append_own _ rfl _ _ 52 rfl w.heap.size 3 i0 (.int .i64 0) 1 8 Tryz.underlying52 hi iz0 iz1 iz2 rfl dE _ _ _ rfl (qal HRow.out (qaf (show Below wr.heap.size wr _ from bel)) sI) ⟨wr.heap.size+1,0,none⟩ 1 1 [.int .i64 e.id] rfl rfl q4l (qi4 [e.id]) ?c3 ?c4 ?c5 ?_))
    case c3=>have:=HAl.out;rw [zny] at this;unfold maxLen;simp at this;omega
    case c4=>have:=HAl.out;rw [zny] at this;simp at this;omega
    case c5=>first|omega|(simp;omega)
    intro v8 w8 hown8 hg8 _;obtain⟨A8,c8,rfl,_,_,_⟩:=qao hown8;have hal:Below wr.heap.size wr ((wr.alloc (.cells #[.slice Ak e.kb.length ck,.int .i64 e.id,.pointer rv] 122)).alloc (.cells #[.int .i64 e.id] 3)):=bel;have hzz:=hal.size;have HB11:=hdQ (HB.out.trans ((hal.mono hws).trans ((Below.refl _ _).grown hg8 (by simp;omega) (fun k e=>(HRow.out.lt k e).1))))
    have hl:(acc++ [e.id]).length=acc.length+1:=sI
    have HR11:=hdQ (show w8.ownsRow w.heap.size 3 1 (.slice A8 (acc++ [e.id]).length c8) (acc++ [e.id]).length (idcs (acc++ [e.id])) from by
     rw [hl]
     unfold idcs
     rw [zfx]
     exact hown8)
    clear hown8 hg8 hal;go_wp2_with fail
    go_roundw
    case rel=>exact ⟨i+1,acc++ [e.id],A8,c8,by rw [hl],by go_num,by omega,by rw [HSt.out],HR11.out,HB11.out⟩
    case measure=>simp [Go.RowKit.intOf];omega
  | succ l=>
    rw [show decide (l+1=0)=false by simp] at m1
    obtain rfl:rv=some ⟨e.kid,0,none⟩:=by have:=HRV.out;simpa using this.symm
    have hkid:=(HSh.out.kid n l e HN.out HMem.out).1;have HI:=hdQ (fun W (hW:Below wr.heap.size wr W)=>HIH.out l e.kid rfl hkid W (HB.out.trans (hW.mono HB.out.size)))
    have HE:Hid (belS t (l+1) e=below t l e.kid):=rfl;rw [HE.out] at HSt HAl;clear HRV hkid;generalize below t l e.kid=ys at*
    go_wp2_with (first|(go_at_call 62;(refine(HI.out _ bel).mono ?_);rintro e' w7 ⟨v7,rfl,ho7,hb7⟩;have HO7:=hdQ ho7;obtain⟨hc7,hf7,hz7⟩:=bc3 hb7;(try simp at hz7);have HB7:=hdQ (HB.out.trans ((show Below wr.heap.size wr w7 from bel).mono HB.out.size));have HR7:=hdQ (qal HRow.out (qaf (show Below wr.heap.size wr w7 from bel)) sI);clear ho7)|(at_builtin;go_must (refine qfi rfl _ _ 52 rfl w.heap.size 3 i0 (.int .i64 0) 1 8 Tryz.underlying52 hi iz0 iz1 iz2 rfl dE _ _ _ rfl HR7.out _ _ _ _ rfl HO7.out (qi4 _) ?c3 ?c4 ?c5 ?_)))
    case c3=>have:=HAl.out;rw [zny] at this;unfold maxLen;omega
    case c4=>have:=HAl.out;rw [zny] at this;omega
    case c5=>omega
    intro v8 w8 hown8 hg8;obtain⟨A8,c8,rfl,_,_,_⟩:=qao hown8;have HB11:=hdQ (HB7.out.trans ((Below.refl _ _).grown hg8 oQ (fun k e=>(HR7.out.lt k e).1)))
    have hl:(acc++ys).length=acc.length+ys.length:=sI
    have HR11:=hdQ (show w8.ownsRow w.heap.size 3 1 (.slice A8 (acc++ys).length c8) (acc++ys).length (idcs (acc++ys)) from by
     rw [hl]
     unfold idcs
     rw [zfx]
     exact hown8)
    clear hown8 hg8;go_wp2_with fail
    go_roundw
    case rel=>exact ⟨i+1,acc++ys,A8,c8,by rw [hl],by go_num,by omega,HSt.out.symm,HR11.out,HB11.out⟩
    case measure=>simp [Go.RowKit.intOf];omega
end
end Go.Proofs.YteodamnfgcnmmaaGreatDoor
