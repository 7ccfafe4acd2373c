/-slices.Delete and slices.DeleteFunc of a node's entries.-/
import Derived.Test.YtfnhnjbkkggbeaaGreatKGisY
import Derived.Deep.RegionLaw
import Derived.Deep.CutBlock
import Derived.Deep.DeepCutAuto
set_option linter.unusedVariables false
set_option linter.unusedSimpArgs false
set_option maxHeartbeats 8000000
set_option maxRecDepth 20000
namespace Pg
open Go Go.RowKit
section
variable {w:World} {base g n cap s:Nat} {t:TypeId} {xs:List Value}
theorem qkg (h:w.ownsRow base t s (.slice (some ⟨g,0,none⟩) n cap) n xs):∃cur,Blk w g t cur/\n<=cap/\base<=g/\cur.toList.take (n*s)=xs:=by
 obtain⟨h1,⟨h2,_⟩|⟨g',cap',cur,hv,hg,hh,hnc,hcm,hcs,ht⟩⟩:=h
 · cases h2
 · injection hv with e1 e2 e3
   injection e1 with e1
   injection e1 with e1
   subst e1 e3;exact⟨cur,hh,hnc,hg,ht⟩
theorem qds (h:w.ownsRow base t s (.slice (some ⟨g,0,none⟩) n cap) n xs) (i:Nat):w.frozen? ⟨g,i,none⟩=false:=by
 obtain⟨cur,hb,_⟩:=qkg h;exact hb.frozen _
theorem qy5 (h:w.ownsRow base t s (.slice (some ⟨g,0,none⟩) n cap) n xs) (i:Nat) (u:Value):(w.setCell ⟨g,i,none⟩ u).ownsRow base t s (.slice (some ⟨g,0,none⟩) n cap) n (xs.set i u):=by
 obtain⟨h1,⟨h2,_⟩|⟨g',cap',cur,hv,hg,hh,hnc,hcm,hcs,ht⟩⟩:=h
 · cases h2
 · injection hv with e1 e2 e3
   injection e1 with e1
   injection e1 with e1
   subst e1 e3;refine⟨by simpa using h1,.inr ⟨g,cap,cur.setIfInBounds i u,rfl,hg,(Blk.set_ (show Blk w g t cur from hh) i u),hnc,hcm,by simpa using hcs,?_⟩⟩
   rw [<-ht,Array.toList_setIfInBounds,List.take_set]
theorem qr5 {k:Nat} (h:w.ownsRow base t s (.slice (some ⟨g,0,none⟩) n cap) n xs) (hk:k<=n):w.ownsRow base t s (.slice (some ⟨g,0,none⟩) k cap) k (xs.take (k*s)):=by
 obtain⟨h1,⟨h2,_⟩|⟨g',cap',cur,hv,hg,hh,hnc,hcm,hcs,ht⟩⟩:=h
 · cases h2
 · injection hv with e1 e2 e3
   injection e1 with e1
   injection e1 with e1
   subst e1 e3;have hks:k*s<=n*s:=zuy _ hk;refine⟨by rw [List.length_take,h1];omega,.inr ⟨g,cap,cur,rfl,hg,hh,by omega,hcm,hcs,?_⟩⟩
   rw [<-ht,List.take_take,Nat.min_eq_left hks]
theorem qdh:∀(vs:List Value) {w:World} {xs:List Value} (i:Nat),w.ownsRow base t s (.slice (some ⟨g,0,none⟩) n cap) n xs->(w.setCells g i vs).ownsRow base t s (.slice (some ⟨g,0,none⟩) n cap) n (setN xs i vs)
 | [],_,_,_,h=>h
 | v::r,_,_,i,h=>qdh r (i+1) (qy5 h i v)
theorem qn2:∀(vs xs:List Value) (i:Nat),xs.length<=i->setN xs i vs=xs
 | [],_,_,_=>rfl
 | v::r,xs,i,h=>by rw [setN,List.set_eq_of_length_le h];exact qn2 r xs (i+1) oQ
theorem qog (h:w.ownsRow base t s (.slice (some ⟨g,0,none⟩) n cap) n xs) (vs:List Value) (i:Nat) (hi:n*s<=i):(w.setCells g i vs).ownsRow base t s (.slice (some ⟨g,0,none⟩) n cap) n xs:=by
 have:=qdh vs i h
 rwa [qn2 vs xs i (by rw [h.1];exact hi)] at this
theorem qcr {a:World}:∀(vs:List Value) {w:World} (i:Nat),a.grownBy w (some g)->a.grownBy (w.setCells g i vs) (some g)
 | [],_,_,h=>h
 | v::r,_,i,h=>qcr r (i+1) (h.trans (qb2 _ ⟨g,i,none⟩ v))
end
theorem qjs {P:Program} {o:Oper} {a:Act} {w:World} {K:Act->World->Prop} {Q:Exit->Act->World->Prop} (s x:Operand) (t:TypeId) (hop:o.op=Op.call {callee:=Callee.builtin Builtin.append,args:= #[s,x],argTypes:= #[t,t]})
 (e:TypeId) (i:TypeInfo) (size:Nat) (h1:P.underlying t=some (.slice e)) (h2:P.info? e=some i) (h4:i.size=size)
 (b off n cap:Nat) (hs:a.eval s=.slice (some ⟨b,off,none⟩) n cap)
 (ad:Addr) (m c:Nat) (news:List Value) (hx:a.eval x=.slice (some ad) m c) (hn:news.length=m*size) (hc:∀j u,news[j]? =some u->w.cell? (ad.add j)=some u) (h1c:∀u∈news,u.oneCell' =true)
 (hroom:n+m<=cap) (hspare:∀j,j<news.length->(w.cell? ⟨b,off+n*size+j,none⟩).isSome=true/\w.frozen? ⟨b,off+n*size+j,none⟩=false)
 (hK:K (a.put o.dst (.slice (some ⟨b,off,none⟩) (n+m) cap)) (w.setCells b (off+n*size) news)):o.wp P a w K Q:=by
 subst h4;have hrun:=run_append_room_cells (P:=P) w t o.type e i h1 h2 b off n cap ad m c news hn hc h1c hroom (fun j hj=>(hspare j hj).1) (fun j hj=>(hspare j hj).2)
 unfold Oper.wp
 simp [execOp,hop,resolve,invoke,builtin,hs,hx,hrun,Result.andThen]
 exact hK
end Pg
namespace Go.Proofs.YtfnhnjbkkggbeaaGreat
open Go Go.RowKit Pg
theorem qiy (w:World) (b o n c:Nat) (hn:0<n) (hc:∀j,j<n*3->(w.cell? ⟨b,o+j,none⟩).isSome=true) (hf:∀j,j<n*3->w.frozen? ⟨b,o+j,none⟩=false):
 ∃zs:List Value,∀ty,(Builtin.clear_ #[77] ty #[.slice (some ⟨b,o,none⟩) n c]).run Tryz.prog w=.ok (.tuple #[]) (w.setCells b o zs):=by
 have hv:∀w,(zeroValue 96).run Tryz.prog w=.ok (.agg #[.slice none 0 0,.int .i64 0,.pointer none]) w:=fun w=>by kernel_rfl
 have hlen:(Builtin.zeroCells (Value.agg #[.slice none 0 0,.int .i64 0,.pointer none]).cells n).toList.length=n*3:=by simp [Builtin.zeroCells,Value.cells]
 have hone:∀v∈(Builtin.zeroCells (Value.agg #[.slice none 0 0,.int .i64 0,.pointer none]).cells n).toList,v.oneCell' =true:=by
  intro v hv';obtain⟨i,hi,rfl⟩:=List.getElem_of_mem hv';have hm:i%3=0\/i%3=1\/i%3=2:=oQ
  rcases hm with h|h|h<;>simp [Builtin.zeroCells,Value.cells,h,Value.oneCell']
 have hst:=run_storeCells_cells (P:=Tryz.prog) b o (Builtin.zeroCells (Value.agg #[.slice none 0 0,.int .i64 0,.pointer none]).cells n).toList 0 w (by rw [hlen];simpa using hc) (by rw [hlen];simpa using hf) hone
 simp only [Nat.add_zero] at hst;obtain⟨m,rfl⟩:∃m,n=m+1:=⟨n-1,by omega⟩
 exact⟨(Builtin.zeroCells (Value.agg #[.slice none 0 0,.int .i64 0,.pointer none]).cells (m+1)).toList,fun ty=>by simp [Builtin.clear_,run_underlying Tryz.underlying77,hv,hst]⟩
theorem qt8 (lf:Bool) (e:En):(qdz lf e).length=3:=rfl
theorem qqw {lf:Bool} {l:List En} {k:Nat} (hk:k<l.length) (e:En):setN (qam lf l) (k*3) (qdz lf e)=qam lf (l.set k e):=qow (qt8 lf) hk e
theorem qqx (lf:Bool) (l:List En) (h:∀e∈l,e.kv.oneCell' =true):∀u∈qam lf l,u.oneCell' =true:=by
 intro u hu;obtain⟨e,he,hu⟩:=List.mem_flatMap.1 hu;simp only [qdz,List.mem_cons,List.not_mem_nil,or_false] at hu
 rcases hu with rfl|rfl|rfl
 · exact h e he
 · rfl
 · cases lf<;>rfl
theorem qyk {w:World} {g i1 c q:Nat} {news:List Value} (hs:∀j u,news[j]? =some u->w.cell? ⟨g,i1*3+j,none⟩=some u) (hl:news.length=q*3) (hq:c=i1->q=0):∀j u,news[j]? =some u->w.cell? (Addr.add (if c=i1 then⟨g,0,none⟩ else⟨g,i1*3,none⟩) j)=some u:=by
 intro j u hu
 by_cases h:c=i1
 · rw [hq h] at hl
   have:=(zsy.1 hu).1
   omega
 · rw [if_neg h]
   have e:(⟨g,i1*3,none⟩:Addr).add j=⟨g,i1*3+j,none⟩:=by
    unfold Addr.add
    by_cases hz:j=0
    · simp [hz]
    · simp [hz]
   rw [e]
   exact hs j u hu
theorem qyl (lf:Bool) (l:List En) (g n c i:Nat) (w:World) (h:w.ownsRow 0 96 3 (.slice (some ⟨g,0,none⟩) n c) n (qam lf l)) (hone:∀e∈l,e.kv.oneCell' =true) (hi:i<n) (hn:n<=1000000):
 C9 47 #[.slice (some ⟨g,0,none⟩) n c,.int .i64 (i:Int),.int .i64 ((i+1:Nat):Int)] w fun e w' =>e=.returned (.slice (some ⟨g,0,none⟩) (n-1) c)/\w'.ownsRow 0 96 3 (.slice (some ⟨g,0,none⟩) (n-1) c) (n-1) (qam lf (l.eraseIdx i))/\w.grownBy w' (some g):=by
 obtain⟨i0,hii,iz0,iz1,iz2⟩:=info_parts Tryz.infoEnG;obtain⟨w0,hw0⟩:∃x,w.drew=x:=⟨_,rfl⟩;have h0:w0.ownsRow 0 96 3 (.slice (some ⟨g,0,none⟩) n c) n (qam lf l):=by rw [<-hw0];exact qfh h
 have hgw:∀x:World,w0.grownBy x (some g)->w.grownBy x (some g):=by rw [<-hw0];intro x hx;obtain⟨a,b,c,d,e⟩:=hx;exact⟨a,b,c,d,e⟩
 obtain⟨cur,hB,hnc,_,hcur⟩:=qkg h0;have hll:l.length=n:=by have:=h0.1;rw [qee] at this;omega
 obtain⟨news,hnews⟩:∃x,qam lf (l.drop (i+1))=x:=⟨_,rfl⟩;have hnl:news.length=(n-(i+1))*3:=by rw [<-hnews,qee,List.length_drop,hll]
 have hxs:qam lf l=qam lf (l.take i)++qam lf [l[i]'oQ]++news:=by
  rw [<-hnews,<-qcc,<-qcc,List.append_assoc,List.singleton_append,<-zgx,List.take_append_drop]
 have hcell:∀j,j<n*3->(w0.cell? ⟨g,j,none⟩).isSome=true:=fun j hj=>by
  rw [h0.cellAt j oQ,zby (by rw [h.1];omega)];rfl
 have hsrc:∀j u,news[j]? =some u->w0.cell? ⟨g,(i+1)*3+j,none⟩=some u:=fun j u hu=>by
  have hj:=(zsy.1 hu).1
  rw [h0.cellAt _ oQ,<-hu,<-hnews,<-qkw,List.getElem?_drop]
 have hW1:=qr5 (k:=n-1) (qdh news (i*3) h0) oQ
 have hset:(setN (qam lf l) (i*3) news).take ((n-1)*3)=qam lf (l.eraseIdx i):=by
  have hle:(qam lf (l.take i)).length=i*3:=by rw [qee,List.length_take];congr 1;omega
  rw [qpx _ _ _ (by rw [qee,hnl,hll];omega),List.eraseIdx_eq_take_drop_succ,qcc,hnews,qkv,List.append_assoc,List.take_append,hle,zmy (by rw [hle];omega)]
  congr 1
  rw [List.take_append_of_le_length (by rw [hnl];omega),zmy (by rw [hnl];omega)]
 rw [hset] at hW1;have hT1:w0.grownBy (w0.setCells g (i*3) news) (some g):=qcr news (i*3) ⟨rfl,rfl,rfl,zhy _,fun _ _ _=>rfl⟩
 obtain⟨W1,hw1⟩:∃x,w0.setCells g (i*3) news=x:=⟨_,rfl⟩;rw [hw1] at hW1 hT1;obtain⟨m,hm⟩:∃m,n-1=m:=⟨_,rfl⟩;have hm1:i+(n-(i+1))=m:=oQ
 have hcell1:∀j,j<n*3->(W1.cell? ⟨g,j,none⟩).isSome=true:=fun j hj=>by
  have h2:=qdh news (i*3) h0;rw [hw1] at h2
  rw [h2.cellAt j oQ,zby (by rw [h2.1];omega)];rfl
 obtain⟨zs,hcl⟩:=qiy W1 g (m*3) 1 (c-m) dE (fun j hj=>hcell1 _ oQ) (fun j _=>qds hW1 _)
 have hfin:(W1.setCells g (m*3) zs).ownsRow 0 96 3 (.slice (some ⟨g,0,none⟩) (n-1) c) (n-1) (qam lf (l.eraseIdx i)):=qog hW1 zs (m*3) oQ
 have hTf:w.grownBy (W1.setCells g (m*3) zs) (some g):=hgw _ (qcr zs (m*3) hT1)
 rw [hm] at hfin ⊢
 have HF:=hdQ (And.intro hfin hTf);have HApp:Hid ((∀u∈news,u.oneCell' =true)/\(∀j,j<news.length->(w0.cell? ⟨g,0+i*3+j,none⟩).isSome=true/\w0.frozen? ⟨g,0+i*3+j,none⟩=false)):=⟨by rw [<-hnews];exact qqx lf _ fun e he=>hone e (List.mem_of_mem_drop he),fun j hj=>⟨by rw [Nat.zero_add];exact hcell _ oQ,qds h0 _⟩⟩
 have HW1:=hdQ hw1;obtain⟨i1,hi1⟩:∃x,i+1=x:=⟨_,rfl⟩;have HI1:=hdQ hi1;obtain⟨q,hq⟩:∃x,n-i1=x:=⟨_,rfl⟩;have HQ:=hdQ hq;have hne:((i:Int)==(i1:Int))=false:=by rw [beq_eq_false_iff_ne];omega
 have hic:(i:Int)<=(c:Int):=oQ
 have hi1c:(i1:Int)<=(c:Int):=oQ
 have hi1n:(i1:Int)<=(n:Int):=oQ
 have hii1:(i:Int)<=(i1:Int):=oQ
 have hncI:(n:Int)<=(c:Int):=oQ
 have hmn:(m:Int)<=(n:Int):=oQ
 have hmc:¬ c=m:=oQ
 have hnm:n-m=1:=oQ
 have hicn:¬ c=i:=oQ
 have hqm:i+q=m:=oQ
 have HE:Hid (i+q=m/\i+q<=c):=⟨hqm,by omega⟩
 rw [hi1] at hsrc hnl ⊢
 rw [hq] at hnl;have HS:=hdQ hsrc;have HNL:=hdQ hnl;have HW0:=hdQ hw0;clear h h0 hgw hw0 hB hcur hll hnews hxs hcell hsrc hW1 hset hT1 hw1 hcell1 hfin hTf hnl hone hm1 hi1 hq hm
 go_enter Tryz.func47,Tryz.ntmps47
 go_wp2_with fail;refine qax [0,1,2,3,4,5] [6,7] kr kr pq ?_
 simp only [zdy,zey,ldz,lds,bare,qak,lcz,lcs,zay,qc0,Option.isNone_none,Bool.and_true,Bool.true_and,Bool.false_and,Bool.and_self]
 repeat((try simp only [Act.put,lsi,lsz,lss]);first|(refine qbh (v:= ?_) qaa rfl ?_ ?_;rotate_left;focus(intro wq;go_simp;try with_reducible rfl))|(refine qa6 (v:= ?_) qaa rfl ?_ ?_;rotate_left;focus(intro wq hq;obtain⟨hcq,hfq⟩:=qa1 hq;go_simp;try with_reducible rfl))|(refine qa7 qaa rfl (fun K hK=> ?_);go_simp;((first|fail|skip)<;>(refine hK.out _ _ bel ?_;clear hK K))))
 (all_goals try simp only [Act.put,lsi,lsz,lss])
 refine qbs ?_;refine qao (fun K hK=> ?_)
 (rw [HW0.out]);(refine qjs _ _ 77 rfl 96 i0 3 Tryz.underlying77 hii iz1 g 0 i c rfl (if c=i1 then⟨g,0,none⟩ else⟨g,i1*3,none⟩) (n-i1) (c-i1) news ?_ ?_ ?_ HApp.out.1 ?_ HApp.out.2 ?_);(focus(show Value.slice (if c=i1 then _ else _) _ _=_;split<;>rfl));(focus(rw [HQ.out];exact HNL.out));(focus(exact qyk HS.out HNL.out (by rw [<-HQ.out];omega)));(focus(rw [HQ.out];exact HE.out.2));(rw [Nat.zero_add,HW1.out,HQ.out,HE.out.1])
 refine hK.out _ _ ?_;clear hK K
 (try simp only [Act.put,lsi,lsz,lss])
 refine qao (fun K hK=> ?_)
 go_simp
 refine hK.out _ _ ?_;clear hK K
 (try simp only [Act.put,lsi,lsz,lss])
 refine qbr ?_;go_wp2_with fail
 all_goals
  go_ret
  first
   | exact⟨rfl,HF.out.1,HF.out.2⟩
   | (have hF:=HF.out;have e:c=i1:=(by assumption);rw [e] at hF;exact⟨rfl,hF.1,hF.2⟩)
end Go.Proofs.YtfnhnjbkkggbeaaGreat
namespace Pg
def idxI (d:Int):List En->Nat->Int
 | [],_=> -1
 | e::r,i=>if e.id=d then(i:Int) else idxI d r (i+1)
theorem qw4 {d:Int} {l:List En} {i:Nat} {e:En} (h:l[i]? =some e):idxI d (l.drop i) i=if e.id=d then(i:Int) else idxI d (l.drop (i+1)) (i+1):=by
 have hi:i<l.length:=by
  rcases zry i l.length with q|q
  · exact q
  · rw [zoy q] at h;cases h
 rw [zgx hi]
 rw [zby hi] at h;injection h with h
 subst h
 rfl
theorem qou {d:Int}:∀{l:List En} {i:Nat},idxI d l i= -1->l.filter (fun e=> !decide (e.id=d))=l
 | [],_,_=>rfl
 | e::r,i,h=>by
   unfold idxI at h
   by_cases q:e.id=d
   · rw [if_pos q] at h;omega
   · rw [if_neg q] at h
     rw [List.filter_cons_of_pos (by simpa using q),qou h]
theorem qot {d:Int}:∀{l:List En} {i:Nat},idxI d l i≠ -1->∃j x,idxI d l i=((i+j:Nat):Int)/\l[j]? =some x/\x.id=d/\(l.take j).filter (fun e=> !decide (e.id=d))=l.take j
 | [],_,h=>absurd rfl h
 | e::r,i,h=>by
   unfold idxI at h ⊢
   by_cases q:e.id=d
   · exact⟨0,e,by rw [if_pos q];rfl,rfl,q,rfl⟩
   · rw [if_neg q] at h ⊢
     obtain⟨j,x,h1,h2,h3,h4⟩:=qot h;exact⟨j+1,x,by rw [h1];congr 1;omega,by simpa using h2,h3,by rw [List.take_succ_cons,List.filter_cons_of_pos (by simpa using q),h4]⟩
end Pg
namespace Go.Proofs.YtfnhnjbkkggbeaaGreat
open Go Go.RowKit Pg
theorem qsp (kv p:Value) (id d:Int) (g:Nat) (w:World) (hg:w.cell? ⟨g,0,none⟩=some (.int .i64 d)) (hlt:g<w.heap.size):
 C9 44 #[.agg #[kv,.int .i64 id,p],.pointer (some ⟨g,0,none⟩)] w (Ret w (.bool (decide (id=d)))):=by
 have e:decide (id=d)=(id==d):=by rw [Bool.eq_iff_iff];simp
 rw [e]
 go_enter Tryz.func44,Tryz.ntmps44
 go_wp2;go_ret;exact⟨rfl,bel⟩
theorem quc (lf:Bool) (l:List En) (g n:Nat) (d:Int) (v:Value) (w:World) (h:w.ownsRow 0 96 3 v n (qam lf l)) (hg:w.cell? ⟨g,0,none⟩=some (.int .i64 d)) (hlt:g<w.heap.size) (hn:n<=1000000):
 C9 70 #[v,.func (.func 44) #[] #[.pointer (some ⟨g,0,none⟩)]] w (Ret w (.int .i64 (idxI d l 0))):=by
 obtain⟨A,c,rfl,hnc,hAn,hAb⟩:=qas h;have hl:l.length=n:=by have:=h.1;rw [qee] at this;omega
 have HR:=hdQ h;have HP:=hdQ (fun kv id p W (hW:Below w.heap.size w W)=>qsp kv p id d g W (((qa1 hW).1 g 0 hlt).trans hg) (zky hlt hW.size))
 clear h hnc hAn hAb
 go_enter Tryz.func70,Tryz.ntmps70
 go_wp2_with fail
 go_loopw [8] (fun vi wr=>∃i:Nat,i<=n/\vi=.int .i64 i/\idxI d (l.drop i) i=idxI d l 0/\Below w.heap.size w wr) (fun vi _=>n-(Go.RowKit.intOf vi).toNat)
 case atStart=>exact ⟨0,by omega,rfl,rfl,bel⟩
 case round=>
  obtain⟨i,hi,rfl,he,hb⟩:=hrel
  by_cases hlt' :i<n
  case neg=>
   obtain rfl:n=i:=oQ
   have HE:Hid (idxI d l 0= -1):=by
    unfold Hid
    rw [<-he,List.drop_of_length_le oQ]
    rfl
   clear he;go_wp2_with fail;go_ret;exact⟨by rw [HE.out];rfl,bel⟩
  have hi1:(i:Int)<(n:Int):=oQ
  obtain⟨x,hx⟩:∃x,l[i]? =some x:=⟨l[i]'oQ,zby _⟩
  have hr:=HR.out;rw [<-hl] at hr;obtain⟨g',c',hv,hgl,r0,r1,r2⟩:=qcf hr hx;injection hv with hv1 hv2 hv3
  subst hv1 hv3;obtain⟨hc,hf,hz⟩:=bc3 hb;rw [<-hc g' _ hgl] at r0 r1 r2;have hgw:g' <wr.heap.size:=oQ
  rw [qw4 hx] at he;obtain⟨p,hp⟩:∃p,(if lf then Value.pointer none else gP x.kid)=p:=⟨_,rfl⟩
  rw [hp] at r2;clear hr hv2 hc hf hp
  by_cases hk:x.id=d
  · rw [if_pos hk] at he
    have HE:=hdQ he;have hd:decide (x.id=d)=true:=decide_eq_true hk;clear he hk
    go_wp2_with (go_at_call 44;(with_reducible refine(HP.out _ _ _ _ bel).mono ?_);rintro e w1 ⟨rfl,hb1⟩;obtain⟨hc1,hf1⟩:=qa1 hb1;rw [hd])
    go_ret;exact⟨by rw [HE.out];rfl,bel⟩
  · rw [if_neg hk] at he
    have HE:=hdQ he;have hd:decide (x.id=d)=false:=decide_eq_false hk;clear he hk
    go_wp2_with (go_at_call 44;(with_reducible refine(HP.out _ _ _ _ bel).mono ?_);rintro e w1 ⟨rfl,hb1⟩;obtain⟨hc1,hf1⟩:=qa1 hb1;rw [hd])
    go_roundw
    case rel=>exact ⟨i+1,by omega,by go_num,HE.out,bel⟩
    case measure=>simp [Go.RowKit.intOf];omega
theorem qfv {w w' :World} {g:Nat} (h:w.grownBy w' none):w.grownBy w' (some g):=by
 obtain⟨a,b,c,d,e⟩:=h;exact⟨a,b,c,d,fun k hk q=>e k hk sI⟩
theorem qrc {w w' :World} {g b o:Nat} (h:w.grownBy w' (some g)) (hb:b<w.heap.size) (hne:b≠g):w'.cell? ⟨b,o,none⟩=w.cell? ⟨b,o,none⟩:=by
 unfold World.cell?
 rw [h.block b hb (by simpa using hne)]
theorem qks {l:List En} {d:Int} {j:Nat} {x:En} (h:l[j]? =some x) (hx:x.id=d):(l.take (j+1)).filter (fun e=> !decide (e.id=d))=(l.take j).filter (fun e=> !decide (e.id=d)):=by
 rw [zwy,h,List.filter_append]
 simp [hx]
theorem qo0 {l:List En} {d:Int} {j:Nat} {x:En} (h:l[j]? =some x) (hx:¬ x.id=d):(l.take (j+1)).filter (fun e=> !decide (e.id=d))=(l.take j).filter (fun e=> !decide (e.id=d))++ [x]:=by
 rw [zwy,h,List.filter_append]
 simp [hx]
theorem qmc {L l:List En} {j:Nat} (h:L.drop j=l.drop j):L.drop (j+1)=l.drop (j+1):=by
 rw [<-List.drop_drop,<-List.drop_drop,h]
structure DelAt (w0 w:World) (lf:Bool) (l:List En) (d:Int) (g n c a j:Nat) (L:List En):Prop where
 row:w.ownsRow 0 96 3 (.slice (some ⟨g,0,none⟩) n c) n (qam lf L)
 grown:w0.grownBy w (some g)
 len:L.length=n
 lt:a<j
 le:j<=n
 num:a=((l.take j).filter fun e=> !decide (e.id=d)).length
 kept:L.take a=(l.take j).filter fun e=> !decide (e.id=d)
 rest:L.drop j=l.drop j
theorem qvs (l:List En) (g gd n c:Nat) (d:Int) (w:World) (h:w.ownsRow 0 96 3 (.slice (some ⟨g,0,none⟩) n c) n (qam true l)) (hg:w.cell? ⟨gd,0,none⟩=some (.int .i64 d)) (hlt:gd<w.heap.size) (hne:gd≠g) (hn:n<=1000000) (hkv:∀e∈l,∃A m k,e.kv=.slice A m k):
 C9 43 #[.slice (some ⟨g,0,none⟩) n c,.func (.func 44) #[] #[.pointer (some ⟨gd,0,none⟩)]] w fun e w' =>∃m,m=(l.filter fun e=> !decide (e.id=d)).length/\e=.returned (.slice (some ⟨g,0,none⟩) m c)/\w'.ownsRow 0 96 3 (.slice (some ⟨g,0,none⟩) m c) m (qam true (l.filter fun e=> !decide (e.id=d)))/\w.grownBy w' (some g):=by
 have HIx:=hdQ (quc true l gd n d _ w h hg hlt hn);have hl:l.length=n:=by have:=h.1;rw [qee] at this;omega
 have HL:=hdQ hl;have HR:=hdQ h;have HG:=hdQ (And.intro hg (And.intro hlt hne));have HKV:=hdQ hkv;clear h hg hl hkv
 by_cases hix:idxI d l 0= -1
 · have hF:=qou hix
   rw [hix] at HIx;have HF:=hdQ hF;clear hF hix
   go_enter Tryz.func43,Tryz.ntmps43
   go_wp2_with (go_at_call 70;(refine HIx.out.monoR ?_);rintro w1 hb1 hc1 hf1 hz1;(try simp at hz1))
   go_ret;exact⟨n,by rw [HF.out,HL.out],rfl,by rw [HF.out];exact qaq HR.out (qag hb1) sI,qfv (qag hb1)⟩
 obtain⟨j0,x0,h1,h2,h3,h4⟩:=qot hix;rw [h1,Nat.zero_add] at HIx;have hj0:j0<l.length:=(zsy.1 h2).1;have HJ:=hdQ (And.intro hj0 (And.intro h2 (And.intro h3 h4)));have hjn:j0<n:=by rw [<-HL.out];exact hj0
 have hm1:((j0:Int)== -1)=false:=by rw [beq_eq_false_iff_ne];omega
 clear hix h1 h2 h3 h4 hj0
 go_enter Tryz.func43,Tryz.ntmps43
 go_wp2_with (go_at_call 70;(refine HIx.out.monoR ?_);rintro w1 hb1 hc1 hf1 hz1;(try simp at hz1))
 have HB1:=hdQ hb1
 have HN0:Hid ((l.take (j0+1)).filter (fun e=> !decide (e.id=d))=l.take j0):=by
  obtain⟨h1,h2,h3,h4⟩:=HJ.out;unfold Hid
  rw [qks h2 h3,h4]
 clear hb1 hc1 hf1 hz1 hm1 HIx hlt hne
 go_loopw [5,6] (fun va vj wr=>∃(a j:Nat) (L:List En),va=.int .i64 a/\vj=.int .i64 j/\DelAt w wr true l d g n c a j L) (fun _ vj _=>n-(Go.RowKit.intOf vj).toNat)
 case atStart=>
  have hz:=HJ.out.1;exact⟨j0,j0+1,l,rfl,by first|go_num|(rw [IntWalk.wrap64_in _ oQ];go_num),⟨qaq HR.out (qag HB1.out) sI,qfv (qag HB1.out),HL.out,by omega,by omega,by rw [HN0.out,List.length_take];omega,HN0.out.symm,rfl⟩⟩
 case round=>
  obtain⟨a,j,L,rfl,rfl,D⟩:=hrel;have hcn:n<=c:=by obtain⟨_,_,h,_⟩:=qkg D.row;exact h
  have haj:=D.lt;have hjn' :=D.le;obtain⟨cg,cl,cn⟩:=HG.out;have cg' :wr.cell? ⟨gd,0,none⟩=some (.int .i64 d):=(qrc D.grown cl cn).trans cg;have cl' :gd<wr.heap.size:=zky cl D.grown.size;have HP:=hdQ (fun kv id p W (hW:Below wr.heap.size wr W)=>qsp kv p id d gd W (((qa1 hW).1 gd 0 cl').trans cg') (zky cl' hW.size))
  have HD:=hdQ D;clear cg cg' cl cl' cn
  by_cases hlt:j<n
  case neg=>
   obtain rfl:n=j:=oQ
   have hac:¬ c=a:=oQ
   have hacI:(a:Int)<=(c:Int):=oQ
   have hanI:(a:Int)<=(n:Int):=oQ
   have hncI:(n:Int)<=(c:Int):=oQ
   obtain⟨zs,hcl⟩:=qiy wr g (a*3) (n-a) (c-a) oQ (fun z hz=>by rw [D.row.cellAt _ oQ,zby (by rw [D.row.1];omega)];rfl) (fun z _=>qds D.row _)
   clear D;go_wp2_with fail;go_ret;have e:l.take n=l:=zmy (by rw [HL.out];exact zhy _)
   have hk:=HD.out.kept;have hnum:=HD.out.num;rw [e] at hk hnum;have hro:=qog (qr5 (k:=a) HD.out.row oQ) zs (a*3) (zhy _)
   rw [qkv,hk] at hro;exact⟨a,hnum,rfl,hro,qcr zs (a*3) HD.out.grown⟩
  have hltI:(j:Int)<(n:Int):=oQ
  have hjl:j<l.length:=by rw [HL.out];exact hlt
  obtain⟨x,hx⟩:∃x,l[j]? =some x:=⟨l[j],zby hjl⟩
  have hLx:L[j]? =some x:=by
   have:=congrArg (·[0]?) D.rest
   simp only [List.getElem?_drop,Nat.add_zero] at this
   rw [this,hx]
  have hal:a<L.length:=by rw [D.len];omega
  obtain⟨y,hy⟩:∃y,L[a]? =some y:=⟨L[a],zby hal⟩;have hr:=D.row;rw [<-D.len] at hr;obtain⟨g',c',hv,hgl,r0,r1,r2⟩:=qcf hr hLx;injection hv with hv1 hv2 hv3
  injection hv1 with hv1
  injection hv1 with hv1
  subst hv1 hv3;clear hv2;obtain⟨g',c',hv,_,s0,s1,s2⟩:=qcf hr hy;injection hv with hv1 hv2 hv3
  injection hv1 with hv1
  injection hv1 with hv1
  subst hv1 hv3;have f0:=qds hr (a*3);have f1:=qds hr (a*3+1);have f2:=qds hr (a*3+2);simp only [if_true] at r2 s2;obtain⟨Ak,mk,ck,hkv⟩:=HKV.out x (zjy hx);rw [hkv] at r0;have HX:=hdQ (And.intro hx (And.intro hkv hy));have haI:(a:Int)<(n:Int):=oQ
  clear D hr hv2 hx hLx hy hkv hal hjl
  by_cases hk:x.id=d
  · have hd:decide (x.id=d)=true:=decide_eq_true hk
    have HK:=hdQ hk;clear hk
    go_wp2_with (go_at_call 44;(with_reducible refine(HP.out _ _ _ _ bel).mono ?_);rintro e w1 ⟨rfl,hb1⟩;obtain⟨hc1,hf1⟩:=qa1 hb1;rw [hd])
    have hbw:Below wr.heap.size wr w1:=bel;refine⟨⟨a,j+1,L,by go_num,by go_num,?_⟩,by simp [Go.RowKit.intOf];omega⟩
    obtain⟨hx,_,_⟩:=HX.out;exact⟨qaq HD.out.row (qag hbw) sI,HD.out.grown.trans (qfv (qag hbw)),HD.out.len,by omega,by omega,by rw [qks hx HK.out];exact HD.out.num,by rw [qks hx HK.out];exact HD.out.kept,qmc HD.out.rest⟩
  · have hd:decide (x.id=d)=false:=decide_eq_false hk
    have HK:=hdQ hk;clear hk
    go_wp2_with (go_at_call 44;(with_reducible refine(HP.out _ _ _ _ bel).mono ?_);rintro e w1 ⟨rfl,hb1⟩;obtain⟨hc1,hf1⟩:=qa1 hb1;rw [hd])
    have hbw:Below wr.heap.size wr w1:=bel;refine⟨⟨a+1,j+1,L.set a x,by go_num,by go_num,?_⟩,by simp [Go.RowKit.intOf];omega⟩
    obtain⟨hx,hkv,_⟩:=HX.out;have hL:=HD.out.len;have hro:=qdh (qdz true x) (a*3) (qaq HD.out.row (qag hbw) sI)
    rw [qqw oQ] at hro
    have hgr:=qcr (qdz true x) (a*3) (HD.out.grown.trans (qfv (qag hbw)));have ex:qdz true x= [.slice Ak mk ck,.int .i64 x.id,.pointer none]:=by unfold qdz;rw [hkv];rfl
    rw [ex] at hro hgr;refine⟨hro,hgr,by rw [zkx];exact hL,by omega,by omega,?_,?_,?_⟩
    · rw [qo0 hx HK.out,zny,<-HD.out.num];rfl
    · rw [qo0 hx HK.out,<-HD.out.kept,zwy,List.getElem?_set_self oQ,List.take_set,List.set_eq_of_length_le (by rw [List.length_take];omega)];rfl
    · rw [List.drop_set_of_lt oQ];exact qmc HD.out.rest
end Go.Proofs.YtfnhnjbkkggbeaaGreat
namespace Pg
theorem qun (t:Tr) (n:Nat):below t 0 n=(t.es n).flatMap fun e=> [e.id]:=by
 unfold below
 induction t.es n with
 | nil=>rfl
 | cons e r ih=>rw [zdy,zvy,ih];rfl
def belS (t:Tr):Nat->En->List Int
 | 0,e=> [e.id]
 | l+1,e=>below t l e.kid
theorem qup (t:Tr) (l n:Nat):below t l n=(t.es n).flatMap (belS t l):=by
 cases l with
 | zero=>rw [qun];rfl
 | succ l=>rfl
end Pg
namespace Go.Proofs.YtfnhnjbkkggbeaaGreat
open Go Go.RowKit Pg
theorem q1k {W:World} {o:Obj} {a:Value} {t:TypeId}:∀(j:Nat) (v:Value),[a][j]? =some v->((W.alloc o).alloc (.cells #[a] t)).cell? ((⟨W.heap.size+1,0,none⟩:Addr).add j)=some v:=by
 have h:=qwf (w:=W.alloc o) (a:=a) (t:=t);have e:(W.alloc o).heap.size=W.heap.size+1:=sI
 rw [e] at h;exact h
section
variable {w:World} {own imm:Nat->Prop} {tb mb:Nat} {cl:Value} {t:Tr} {H:Nat->Prop} {L L' :Int->Prop}
theorem qk8 (hS:Shape t L') (hlen:∀b l,t.lv b=some l->(t.es b).length<=16) (hcount:t.items.length<=100000):∀(l n:Nat) (w:World),t.lv n=some l->Lay w own imm tb mb cl t (fun _=>False) L->
 C9 42 #[gP n] w fun e w' =>∃v,e=.returned v/\w'.ownsRow w.heap.size 3 1 v (below t l n).length (idcs (below t l n))/\Below w.heap.size w w' :=by
 intro l
 induction l using Nat.strongRecOn with
 | _ l ih0=>
 intro n w hn h;obtain⟨n0,n1,n2,nlt⟩:=h.n0 hn;obtain⟨Ar,cr,hs,_,_,_⟩:=qas (h.row n l hn (fun q=>q))
 rw [hs] at n2
 have hfew:(below t l n).length<=100000:=by
  have h2:=hS.below_len hn
  omega
 obtain⟨k,hk⟩:∃k,(t.es n).length=k:=⟨_,rfl⟩;have HLN:=hdQ hk;rw [hk] at n2;have hk16:k<=16:=by rw [<-hk];exact hlen n _ hn
 have HS:=hdQ hs;have HN:=hdQ hn;have HH:=hdQ h;have HIH:Hid (∀l' b,l=l' +1->t.lv b=some l' ->∀W,Below w.heap.size w W->C9 42 #[gP b] W fun e w' =>∃v,e=.returned v/\w'.ownsRow W.heap.size 3 1 v (below t l' b).length (idcs (below t l' b))/\Below W.heap.size W w'):=fun l' b e hb W hW=>ih0 l' oQ b W hb (h.tr hW)
 have HSh:=hdQ hS
 rw [qup] at hfew ⊢
 have HFew:=hdQ hfew;clear hn h hS ih0 hk hs hfew hlen hcount
 simp only [gP] at*
 go_enter Tryz.func42,Tryz.ntmps42
 go_wp2_with fail
 go_loopw [2,10] (fun v6 vi wr=>∃(i:Nat) (acc:List Int) (A6:Option Addr) (c6:Nat),v6=.slice A6 acc.length c6/\vi=.int .i64 i/\i<=k/\acc=((t.es n).take i).flatMap (belS t l)/\wr.ownsRow w.heap.size 3 1 (.slice A6 acc.length c6) acc.length (idcs acc)/\Below w.heap.size w wr) (fun _ vi _=>k-(Go.RowKit.intOf vi).toNat)
 case atStart=>exact ⟨0,[],none,0,rfl,rfl,zly _,by simp,World.ownsRow_nil _ _ _ _,Below.refl _ _⟩
 case round=>
  obtain⟨i,acc,A6,c6,rfl,rfl,hik,hacc,hrow,hb⟩:=hrel;have hWr:Below w.heap.size w wr:=hb;have hws:w.heap.size<=wr.heap.size:=hb.size
  by_cases hlt:i<k
  case neg=>
   obtain rfl:k=i:=oQ
   rw [zmy (by rw [HLN.out];exact zhy _)] at hacc
   have HA:=hdQ hacc;have HR:=hdQ hrow;have HW:=hdQ hWr;clear hacc hrow hb hWr hlt;go_wp2_with fail;go_ret;exact⟨_,rfl,by rw [<-HA.out];exact HR.out,HW.out⟩
  have L:=HH.out.tr hWr;obtain⟨m0,m1,m2,mlt⟩:=L.n0 HN.out;rw [HS.out,HLN.out] at m2;have hn0:(i:Int)<(k:Int):=oQ
  obtain⟨e,hx⟩:∃e,(t.es n)[i]? =some e:=⟨(t.es n)[i]'(by rw [HLN.out];exact hlt),zby _⟩
  have hmem:=zjy hx
  have hstep:((t.es n).take (i+1)).flatMap (belS t l)=acc++belS t l e:=by
   rw [zwy,hx,List.flatMap_append,<-hacc]
   simp
  have hal:(acc++belS t l e).length<=100000:=by
   rw [<-hstep]
   exact zcy (qi4 _ _ _) HFew.out
  obtain⟨g,c',hv,hgl,r0,r1,r2⟩:=qcf (L.row n l HN.out (fun q=>q)) hx
  rw [HS.out] at hv;injection hv with hv1 hv2 hv3
  subst hv1 hv3;obtain⟨Ak,ck,ekv,_⟩:=(L.ekey n l e HN.out hmem).bys;rw [ekv] at r0;have HRow:=hdQ hrow;have HB:=hdQ hb;have HSt:=hdQ hstep;have HAl:=hdQ hal;have HMem:=hdQ hmem
  obtain⟨rv,hrv⟩:∃a,(if decide (l=0)=true then Value.pointer none else .pointer (some ⟨e.kid,0,none⟩))=Value.pointer a:=by
   split
   · exact⟨none,rfl⟩
   · exact⟨_,rfl⟩
  simp only [gP] at r2;rw [hrv] at r2;have HRV:=hdQ hrv;clear hx hmem L hv2 ekv hacc hrow hb hstep hal hWr hrv;obtain⟨i0,hi,iz0,iz1,iz2⟩:=info_parts Tryz.infoIY
  cases l with
  | zero=>
    rw [show decide (0=0)=true from rfl] at m1
    have HE:Hid (belS t 0 e= [e.id]):=rfl;rw [HE.out] at HSt HAl
    go_wp2_with (at_builtin;go_must (refine wpList_append_own _ rfl _ _ 43 rfl w.heap.size 3 i0 (.int .i64 0) 1 8 Tryz.underlying43 hi iz0 iz1 iz2 rfl dE _ _ _ rfl (qaq HRow.out (qag (show Below wr.heap.size wr _ from bel)) sI) ⟨wr.heap.size+1,0,none⟩ 1 1 [.int .i64 e.id] rfl rfl q1k (qh1 [e.id]) ?c3 ?c4 ?c5 ?_))
    case c3=>have:=HAl.out;rw [zny] at this;unfold maxLen;simp at this;omega
    case c4=>have:=HAl.out;rw [zny] at this;simp at this;omega
    case c5=>first|omega|(simp;omega)
    intro v8 w8 hown8 hg8 _;obtain⟨A8,c8,rfl,_,_,_⟩:=qas hown8;have hal:Below wr.heap.size wr ((wr.alloc (.cells #[.slice Ak e.kb.length ck,.int .i64 e.id,.pointer rv] 96)).alloc (.cells #[.int .i64 e.id] 3)):=bel;have hzz:=hal.size;have HB11:=hdQ (HB.out.trans ((hal.mono hws).trans ((Below.refl _ _).grown hg8 (by simp;omega) (fun k e=>(HRow.out.lt k e).1))))
    have hl:(acc++ [e.id]).length=acc.length+1:=sI
    have HR11:=hdQ (show w8.ownsRow w.heap.size 3 1 (.slice A8 (acc++ [e.id]).length c8) (acc++ [e.id]).length (idcs (acc++ [e.id])) from by
     rw [hl]
     unfold idcs
     rw [zfx]
     exact hown8)
    clear hown8 hg8 hal;go_wp2_with fail
    go_roundw
    case rel=>exact ⟨i+1,acc++ [e.id],A8,c8,by rw [hl],by go_num,by omega,by rw [HSt.out],HR11.out,HB11.out⟩
    case measure=>simp [Go.RowKit.intOf];omega
  | succ l=>
    rw [show decide (l+1=0)=false by simp] at m1
    obtain rfl:rv=some ⟨e.kid,0,none⟩:=by have:=HRV.out;simpa using this.symm
    have hkid:=(HSh.out.kid n l e HN.out HMem.out).1;have HI:=hdQ (fun W (hW:Below wr.heap.size wr W)=>HIH.out l e.kid rfl hkid W (HB.out.trans (hW.mono HB.out.size)))
    have HE:Hid (belS t (l+1) e=below t l e.kid):=rfl;rw [HE.out] at HSt HAl;clear HRV hkid;generalize below t l e.kid=ys at*
    go_wp2_with (first|(go_at_call 42;(refine(HI.out _ bel).mono ?_);rintro e' w7 ⟨v7,rfl,ho7,hb7⟩;have HO7:=hdQ ho7;obtain⟨hc7,hf7,hz7⟩:=bc3 hb7;(try simp at hz7);have HB7:=hdQ (HB.out.trans ((show Below wr.heap.size wr w7 from bel).mono HB.out.size));have HR7:=hdQ (qaq HRow.out (qag (show Below wr.heap.size wr w7 from bel)) sI);clear ho7)|(at_builtin;go_must (refine qez rfl _ _ 43 rfl w.heap.size 3 i0 (.int .i64 0) 1 8 Tryz.underlying43 hi iz0 iz1 iz2 rfl dE _ _ _ rfl HR7.out _ _ _ _ rfl HO7.out (qh1 _) ?c3 ?c4 ?c5 ?_)))
    case c3=>have:=HAl.out;rw [zny] at this;unfold maxLen;omega
    case c4=>have:=HAl.out;rw [zny] at this;omega
    case c5=>omega
    intro v8 w8 hown8 hg8;obtain⟨A8,c8,rfl,_,_,_⟩:=qas hown8;have HB11:=hdQ (HB7.out.trans ((Below.refl _ _).grown hg8 oQ (fun k e=>(HR7.out.lt k e).1)))
    have hl:(acc++ys).length=acc.length+ys.length:=sI
    have HR11:=hdQ (show w8.ownsRow w.heap.size 3 1 (.slice A8 (acc++ys).length c8) (acc++ys).length (idcs (acc++ys)) from by
     rw [hl]
     unfold idcs
     rw [zfx]
     exact hown8)
    clear hown8 hg8;go_wp2_with fail
    go_roundw
    case rel=>exact ⟨i+1,acc++ys,A8,c8,by rw [hl],by go_num,by omega,HSt.out.symm,HR11.out,HB11.out⟩
    case measure=>simp [Go.RowKit.intOf];omega
end
end Go.Proofs.YtfnhnjbkkggbeaaGreat
namespace Pg
open Go Go.RowKit Go.Maps
theorem qx3 {w:World} {P:Program} {k t e:TypeId} {b:Nat} {V:List (Int×Value)} {id:Int} {o:Oper} {a:Act} {Q:Exit->Act->World->Prop} {K:Act->World->Prop} (m x:Operand) (hop:o.op=Op.call {callee:=Callee.builtin Builtin.delete,args:= #[m,x],argTypes:= #[t,k]}) (hm:a.eval m=.map (some b)) (hx:a.eval x=.int .i64 id) (h:qba w P k b V) (hk:P.underlying k=some (.int .i64)) (ht:P.underlying t=some (.map k e))
 (h0: -9223372036854775808<=id) (h1:id<=9223372036854775807) (hK:∀w',qba w' P k b (delK id V)->w.grownBy w' (some b)->K (a.put o.dst (.tuple #[])) w'):o.wp P a w K Q:=by
 obtain⟨w',hr,r1,r2⟩:=h.drop hk ht o.type h0 h1;unfold Oper.wp
 simp [execOp,hop,resolve,invoke,builtin,hm,hx,hr,Result.andThen]
 exact hK w' r1 r2
end Pg
namespace Go.Proofs.YtfnhnjbkkggbeaaGreat
open Go Go.RowKit Pg
section
variable {w w' :World} {own imm:Nat->Prop} {tb mb:Nat} {cl:Value} {t:Tr} {L L' :Int->Prop}
theorem Lay.shrunk (h:Lay w own imm tb mb cl t (fun _=>False) L) {b l g m c m' :Nat} (hb:t.lv b=some l) (hsl:t.sl b=.slice (some ⟨g,0,none⟩) m c) (hg:w.grownBy w' (some g)) {es:List En}
 (hrow:w'.ownsRow 0 96 3 (.slice (some ⟨g,0,none⟩) m' c) m' (qam (decide (l=0)) es)) (hm:m' =es.length) (hsub:∀e∈es,e∈t.es b):
 Lay (w'.setCell ⟨b,2,none⟩ (.slice (some ⟨g,0,none⟩) m' c)) own imm tb mb cl {t with es:=updT t.es b es,sl:=updT t.sl b (.slice (some ⟨g,0,none⟩) m' c)} (fun _=>False) L/\Grow w (w'.setCell ⟨b,2,none⟩ (.slice (some ⟨g,0,none⟩) m' c)) own imm own imm:=by
 have hg0:(t.sl b).ownBlock=some g:=by rw [hsl];rfl
 have hog:=h.oR b l g hb (fun q=>q) hg0
 have h1:=h.rowLost hb (fun q=>q) (by rw [hg0];exact hg)
 subst hm
 have h2:=h1.setRow hb hrow (fun g' e=>by
  have e' :g=g' :=by simpa [Value.ownBlock] using e
  subst e'
  exact⟨hog,fun b' l' hb' hne _ q=>hne (h.apR b' b l' l g hb' hb (fun q=>q) (fun q=>q) q hg0)⟩) (fun e he=>h1.ekey b l e hb (hsub e he))
 refine⟨h2.less (fun x hx=> ?_) (fun _ q=>q),Grow.of_turn (((TurnF.refl own w).grown hg fun k e=>by cases e;exact .inl hog).set_ (p:=⟨b,2,none⟩) (.inl (h.oN b l hb)) _)⟩
 rcases hx with ⟨q|q,hne⟩
 · exact q
 · exact hne q
end
end Go.Proofs.YtfnhnjbkkggbeaaGreat
namespace Pg
open Go Go.RowKit
theorem qnm {P:Program} {w:World} {t ty e:TypeId} {i:TypeInfo} {z:Value} {base size bytes:Nat} (ht:P.underlying t=some (.slice e)) (hi:P.info? e=some i) (hz:i.zero=some z)
 (hsize:i.size=size) (hby:i.bytes=bytes) {v:Value} {n:Nat} {xs:List Value} (hown:w.ownsRow base e size v n xs)
 {a:Addr} {m c:Nat} {news:List Value} (hl:news.length=m*size) (hnews:∀j u,news[j]? =some u->w.cell? (a.add j)=some u) (h1:∀u∈news,u.oneCell' =true)
 (h63:n+m<=maxLen) (hbytes:(n+m)*bytes<=140737488355328) (hm:v=.slice none 0 0->0<m) {v' :Value} {w' :World} (hr:(Builtin.append_ #[t,t] ty #[v,.slice (some a) m c]).run P w=.ok v' w'):v'.ownBlock=v.ownBlock\/v'.ownBlock=some w.heap.size:=by
 by_cases h0:0<m
 · exact qi6 ht hi hz hsize hby hown hl hnews h1 h63 hbytes h0 hr
 subst hsize;subst hby;have hsmall:n+m<=9223372036854775807:=by simp only [maxLen] at h63;omega
 rcases hown.2 with ⟨rfl,rfl⟩|⟨g,cap,cur,rfl,hbg,hg,hnc,hcm,hcs,htake⟩
 · exact absurd (hm rfl) h0
 · have hroom:n+m<=cap:=oQ
   have hfit:n*i.size+news.length<=cur.size:=by rw [hl,hcs,<-Nat.add_mul];exact zuy _ hroom
   have hr2:=run_append_room (P:=P) w t ty e i ht hi g n cap cur hg a m c news hl hnews h1 hroom hfit;rw [hr2] at hr;injection hr with e1 _
   subst e1;exact .inl rfl
theorem qg5 {P:Program} {w:World} {ops:Array Oper} {rest:List Oper} {o:Oper} {a:Act} {Q:Exit->Act->World->Prop} (hgd:o.guard=none) (s x:Operand) (t:TypeId)
 (ho:o.op=.call {callee:=.builtin .append,args:= #[s,x],argTypes:= #[t,t]})
 (e:TypeId) (i:TypeInfo) (z:Value) (size bytes:Nat) (ht:P.underlying t=some (.slice e)) (hi:P.info? e=some i) (hz:i.zero=some z)
 (hsize:i.size=size) (hby:i.bytes=bytes) (hzs:z.cells.size=size) (hsz:0<size)
 (v:Value) (n:Nat) (xs:List Value) (hs:a.eval s=v) (hown:w.ownsRow 0 e size v n xs) (base2:Nat) (v2:Value) (m:Nat) (ys:List Value) (hx:a.eval x=v2) (hown2:w.ownsRow base2 e size v2 m ys) (h1:∀u∈ys,u.oneCell' =true)
 (h63:n+m<=maxLen) (hbytes:(n+m)*bytes<=140737488355328)
 (h:∀v' w',w'.ownsRow 0 e size v' (n+m) (xs++ys)->w.grownBy w' v.ownBlock->(v'.ownBlock=v.ownBlock\/v'.ownBlock=some w.heap.size)->wpList P ops Q rest (a.put o.dst v') w'):wpList P ops Q (o::rest) a w:=by
 have hl:=hown2.1
 rcases hown2.2 with ⟨e1,h0⟩|⟨g,cap,cur,e1,hg,hh,hc⟩
 · subst e1 h0
   have hys:ys= []:=by simpa using hl
   subst hys;exact wpList_append_own_none hgd s x t ho 0 e i size ht hi v n xs hs hown hx (h v w (by simpa using hown) ⟨rfl,rfl,rfl,zhy _,fun _ _ _=>rfl⟩ (.inl rfl))
 · subst e1
   refine wpList_plain hgd fun _ hK=> ?_
   have hnews:∀j u,ys[j]? =some u->w.cell? ((⟨g,0,none⟩:Addr).add j)=some u:=hown2.cells (g:=g) rfl;obtain⟨v',w',hr,h2,h3,h4⟩:=run_append_own (P:=P) w 0 t o.type e i z size bytes ht hi hz hsize hby hzs hsz v n xs hown ⟨g,0,none⟩ m cap ys hl hnews h1 h63 hbytes (zly _)
   have hw:v'.ownBlock=v.ownBlock\/v'.ownBlock=some w.heap.size:=by
    by_cases q:v=.slice none 0 0/\m=0
    · have q1:=h4.2 q
      rw [q1,q.1]
      exact .inl rfl
    · exact qnm ht hi hz hsize hby hown hl hnews h1 h63 hbytes (fun e=>by
       rcases Nat.eq_zero_or_pos m with r|r
       · exact absurd ⟨e,r⟩ q
       · exact r) hr
   unfold Oper.wp execOp
   simp only [ho,resolve,invoke,builtin,Sem.run_bind,Sem.run_pure,Result.andThen_ok,List.map_toArray,zdy,zey,hs,hx,hr]
   exact hK _ _ (h v' w' h2 h3 hw)
theorem Climb.lens {U:List (List Nat)->List Nat} {t:Tr} {out:List Int} {n:Nat} (c:Climb U t out n):∀b l,t.lv b=some l->(t.es b).length<=t.fan:=fun b l hb=>by
 by_cases q:b=n
 · rw [q];exact c.most
 · exact(c.fill b l hb q).1
theorem Top.lens {U:List (List Nat)->List Nat} {t:Tr} {out:List Int} (c:Top U t out):∀b l,t.lv b=some l->(t.es b).length<=t.fan:=fun b l hb=>by
 by_cases q:b=t.root
 · rw [q];exact c.most
 · exact(c.fill b l hb q).1
theorem qxj {α:Type} {id:Int} {m:List (Int×α)} (h:getK id m=none):delK id m=m:=by
 unfold delK
 rw [List.filter_eq_self]
 intro p hp;have:=qes.1 h p hp
 simpa using this
theorem qxb {m:List (Int×It)} {out:List Int} (hnd:out.Nodup) (h:∀i∈out,∃it,getK i m=some it):out.length<=m.length:=by
 have:=qhw (m:=m.map (·.1)) hnd fun i hi=>by
  obtain⟨it,hit⟩:=h i hi;exact zty.2 ⟨_,qfj hit,rfl⟩
 rwa [zyy] at this
end Pg
namespace Go.Proofs.YtfnhnjbkkggbeaaGreat
open Go Go.RowKit Pg
theorem qvr (lf:Bool) (l:List En) (g n c i:Nat) (w:World) (h:w.ownsRow 0 96 3 (.slice (some ⟨g,0,none⟩) n c) n (qam lf l)) (hone:∀e∈l,e.kv.oneCell' =true) (hi:i<n) (hn:n<=1000000):
 C9 47 #[.slice (some ⟨g,0,none⟩) n c,.int .i64 (i:Int),.int .i64 ((i:Int)+1)] w fun e w' =>e=.returned (.slice (some ⟨g,0,none⟩) (n-1) c)/\w'.ownsRow 0 96 3 (.slice (some ⟨g,0,none⟩) (n-1) c) (n-1) (qam lf (l.eraseIdx i))/\w.grownBy w' (some g):=by
 have h1:=qyl lf l g n c i w h hone hi hn
 rwa [show ((i+1:Nat):Int)=(i:Int)+1 from by omega] at h1
section
variable {w W W' :World} {own imm own' imm' :Nat->Prop} {v v' :Value} {out ys:List Int}
structure LostAt (w W:World) (own imm:Nat->Prop) (v:Value) (out:List Int):Prop where
 row:W.ownsRow 0 3 1 v out.length (idcs out)
 no:∀k,v.ownBlock=some k->w.heap.size<=k/\¬ own k/\¬ imm k
theorem LostAt.nil:LostAt w W own imm (.slice none 0 0) []:=⟨World.ownsRow_nil _ _ _ _,fun k e=>by cases e⟩
theorem LostAt.grow (h:LostAt w W own imm v out) (hg:Grow W W' own imm own' imm'):LostAt w W' own' imm' v out:=
 ⟨qof h.row hg.turn fun g q=>(h.no g q).2.1,fun k q=>⟨(h.no k q).1,fun r=>(hg.oo k r).elim (h.no k q).2.1 fun s=>by have:=(h.row.lt k q).2;omega,fun r=>(hg.ii k r).elim (h.no k q).2.2 fun s=>by have:=(h.row.lt k q).2;omega⟩⟩
theorem LostAt.tr (h:LostAt w W own imm v out) (hb:Below W.heap.size W W'):LostAt w W' own imm v out:=h.grow (Grow.of_below hb)
theorem LostAt.more (h:LostAt w W own imm v out) (hlim:∀b,own b\/imm b->b<W.heap.size) (hw:w.heap.size<=W.heap.size) (hrow:W'.ownsRow 0 3 1 v' (out.length+ys.length) (idcs out++idcs ys)) (hwh:v'.ownBlock=v.ownBlock\/v'.ownBlock=some W.heap.size):LostAt w W' own imm v' (out++ys):=by
 refine⟨by rw [zny];unfold idcs;rw [zfx];exact hrow,fun k q=> ?_⟩
 rcases hwh with e|e
 · exact h.no k (by rw [<-e];exact q)
 · rw [e] at q
   cases q
   exact⟨hw,fun r=>by have:=hlim _ (.inl r);omega,fun r=>by have:=hlim _ (.inr r);omega⟩
theorem LostAt.at_ {A:Option Addr} {n c i:Nat} {z:Int} (h:LostAt w W own imm (.slice A n c) out) (hz:out[i]? =some z):∃g,A=some ⟨g,0,none⟩/\g<W.heap.size/\W.cell? ⟨g,i,none⟩=some (.int .i64 z):=by
 have hi:i<out.length:=(zsy.1 hz).1
 rcases h.row.2 with ⟨_,h0⟩|⟨g,cap,cur,e,_⟩
 · omega
 · injection e with e1 e2 e3
   subst e1;have hr:=h.row;rw [e2,e3] at hr;refine⟨g,rfl,(hr.lt g rfl).2,?_⟩
   rw [hr.cellAt i oQ]
   unfold idcs
   rw [zpx,hz]
   rfl
end
section
variable {C:Cl} {cl:Value} {w W W' :World} {own imm0 imm:Nat->Prop} {tb mb n l u i m g c:Nat} {t t3:Tr} {id:Int} {out:List Int} {x:En}
structure ClimbAt (C:Cl) (cl:Value) (w W:World) (own imm0:Nat->Prop) (tb mb:Nat) (t:Tr) (id:Int) (t3:Tr) (out:List Int) (imm:Nat->Prop) (n l:Nat):Prop where
 lay:Lay W own imm tb mb cl t3 (fun _=>False) fun i=>i∈out
 grow:Grow w W own imm0 own imm
 climb:Climb C.un t3 out n
 lv:t3.lv n=some l
 its:t3.items=delK id t.items
 fan:t3.fan=t.fan
 old:∀b l,t3.lv b=some l->t.lv b=some l
theorem ClimbAt.kept {row:Option Nat} (h:ClimbAt C cl w W own imm0 tb mb t id t3 out imm n l) (hg:W.grownBy W' row) (hne:∀g,row=some g->w.heap.size<=g/\¬ own g/\¬ imm g):ClimbAt C cl w W' own imm0 tb mb t id t3 out imm n l:=
 {h with
  lay:=h.lay.kept hg fun g e=>(hne g e).2
  grow:=⟨h.grow.turn.grown hg fun k e=> .inr (hne k e).1,h.grow.oo,h.grow.ii,h.grow.o,h.grow.i⟩}
theorem ClimbAt.tr (h:ClimbAt C cl w W own imm0 tb mb t id t3 out imm n l) (hb:Below W.heap.size W W'):ClimbAt C cl w W' own imm0 tb mb t id t3 out imm n l:=h.kept (qag hb) sI
open Classical in
theorem ClimbAt.dropped (h:ClimbAt C cl w W own imm0 tb mb t id t3 out imm n l) (hu:t3.up n=some u) (hx:(t3.es u)[i]? =some x) (hxk:x.kid=n) (hsl:t3.sl u=.slice (some ⟨g,0,none⟩) m c) (hm:(t3.es u).length=m) (hg:W.grownBy W' (some g)) (hrow:W'.ownsRow 0 96 3 (.slice (some ⟨g,0,none⟩) (m-1) c) (m-1) (qam false ((t3.es u).eraseIdx i))):
 ∃t4,ClimbAt C cl w (W'.setCell ⟨u,2,none⟩ (.slice (some ⟨g,0,none⟩) (m-1) c)) own imm0 tb mb t id t4 (out++below t3 l n) imm u (l+1)/\Grow W (W'.setCell ⟨u,2,none⟩ (.slice (some ⟨g,0,none⟩) (m-1) c)) own imm own imm:=by
 obtain⟨hul,hun⟩:=h.climb.up h.lv hu;have hi:i<(t3.es u).length:=(zsy.1 hx).1;obtain⟨hL,hG⟩:=h.lay.shrunk (b:=u) (l:=l+1) (m:=m) (es:=(t3.es u).eraseIdx i) hul hsl hg (by simpa using hrow) (by rw [List.length_eraseIdx,if_pos hi,hm]) (fun e he=>(List.eraseIdx_sublist _ _).subset he)
 have hlv:∀b m,(if Und t3.up n b then none else t3.lv b)=some m->t3.lv b=some m:=fun b m hb=>by
  split at hb
  · cases hb
  · exact hb
 refine⟨_,⟨(hL.forget (lv:=fun b=>if Und t3.up n b then none else t3.lv b) hlv).less (fun _ q=>q) (fun i q=>List.mem_append_left _ q),h.grow.trans hG,h.climb.drop (v:=.slice (some ⟨g,0,none⟩) (m-1) c) h.lv hu hx hxk rfl,?_,h.its,h.fan,fun b l hb=>h.old b l (hlv b l hb)⟩,hG⟩
 have hnu:¬ Und t3.up n u:=fun q=>by
  obtain⟨m',h1,h2,_⟩:=h.climb.shape.und_lv hul q;rw [h.lv] at h2;injection h2 with h2
  omega
 show (if Und t3.up n u then none else t3.lv u)=some (l+1)
 rw [if_neg hnu]
 exact hul
theorem ClimbAt.keyed {kv:Value} {kb:List Nat} {B:Nat} (h:ClimbAt C cl w W own imm0 tb mb t id t3 out imm n l) (hu:t3.up n=some u) (hx:(t3.es u)[i]? =some x) (hxk:x.kid=n) (hlen:t3.fan/2<=(t3.es n).length) (hsl:t3.sl u=.slice (some ⟨g,0,none⟩) m c) (hW:Below W.heap.size W W') (ho:W'.ownsRow B 5 1 kv kb.length (qap kb)) (hB:W.heap.size<=B) (hkb:kb=C.un ((t3.es n).map En.kb)) (h1:∀x∈kb,x<256) (h2:kb.length<=1000000):
 ∃t4 imm4,ClimbAt C cl w (W'.setCell ⟨g,i*3,none⟩ kv) own imm0 tb mb t id t4 out imm4 u (l+1)/\Grow W (W'.setCell ⟨g,i*3,none⟩ kv) own imm own imm4:=by
 subst hkb;obtain⟨hul,_⟩:=h.climb.up h.lv hu;obtain⟨imm4,hL,hG⟩:=h.lay.refreshed hW hul (fun q=>q) hsl (zsy.1 hx).1 ho hB h1 h2
 exact⟨_,imm4,⟨hL,h.grow.trans hG,h.climb.key h.lv hu hx hxk hlen kv,hul,h.its,h.fan,h.old⟩,hG⟩
structure TopAt (C:Cl) (cl:Value) (w W:World) (own0 imm0:Nat->Prop) (tb mb:Nat) (t:Tr) (id:Int) (t3:Tr) (out:List Int) (own imm:Nat->Prop) (l:Nat):Prop where
 lay:Lay W own imm tb mb cl t3 (fun _=>False) fun i=>i∈out
 grow:Grow w W own0 imm0 own imm
 top:Top C.un t3 out
 lv:t3.lv t3.root=some l
 its:t3.items=delK id t.items
 fan:t3.fan=t.fan
theorem ClimbAt.top (h:ClimbAt C cl w W own imm0 tb mb t id t3 out imm n l) (hu:t3.up n=none):TopAt C cl w W own imm0 tb mb t id t3 out own imm l:=
 ⟨h.lay,h.grow,h.climb.top h.lv hu,by rw [<-h.climb.shape.one n l h.lv hu];exact h.lv,h.its,h.fan⟩
variable {own0:Nat->Prop}
theorem TopAt.sunk (h:TopAt C cl w W own0 imm0 tb mb t id t3 out own imm (l+1)) (hes:t3.es t3.root= [x]):
 TopAt C cl w ((W.setCell ⟨tb,2,none⟩ (gP x.kid)).setCell ⟨x.kid,0,none⟩ (.pointer none)) own0 imm0 tb mb t id {t3 with root:=x.kid,lv:=updT t3.lv t3.root none,up:=updT t3.up x.kid none} out own imm l/\Grow W ((W.setCell ⟨tb,2,none⟩ (gP x.kid)).setCell ⟨x.kid,0,none⟩ (.pointer none)) own imm own imm/\(∀b m,updT t3.lv t3.root none b=some m->t3.lv b=some m)/\t3.lv x.kid=some l:=by
 obtain⟨h1,h2⟩:=h.top.sink h.lv hes rfl;have hk:=(h.top.shape.kid _ _ x h.lv (by rw [hes];simp)).1
 have hL1:=(h.lay.setRoot (r:=x.kid)).noUp (b:=x.kid) (l:=l) hk
 have hlv:∀b m,updT t3.lv t3.root none b=some m->t3.lv b=some m:=fun b m hb=>by
  unfold updT at hb
  split at hb
  · cases hb
  · exact hb
 have hG:Grow W ((W.setCell ⟨tb,2,none⟩ (gP x.kid)).setCell ⟨x.kid,0,none⟩ (.pointer none)) own imm own imm:=Grow.of_turn (((TurnF.refl own W).set_ (p:=⟨tb,2,none⟩) (.inl h.lay.oT) _).set_ (p:=⟨x.kid,0,none⟩) (.inl (h.lay.oN _ _ hk)) _);exact⟨⟨hL1.forget (lv:=updT t3.lv t3.root none) hlv,h.grow.trans hG,h1,h2,h.its,h.fan⟩,hG,hlv,hk⟩
theorem TopAt.emptied (h:TopAt C cl w W own0 imm0 tb mb t id t3 out own imm (l+1)) (hes:t3.es t3.root= []):
 ∃t4 own4,TopAt C cl w ((W.setCell ⟨tb,2,none⟩ (gP W.heap.size)).alloc (.cells #[.pointer none,.bool true,.slice none 0 0] 79)) own0 imm0 tb mb t id t4 out own4 imm 0/\Grow W ((W.setCell ⟨tb,2,none⟩ (gP W.heap.size)).alloc (.cells #[.pointer none,.bool true,.slice none 0 0] 79)) own imm own4 imm:=by
 have h1:=h.lay.setRoot (r:=W.heap.size);have h2:=h1.bornNew (W:=(W.setCell ⟨tb,2,none⟩ (gP W.heap.size)).alloc (.cells #[.pointer none,.bool true,.slice none 0 0] 79)) (o:=W.heap.size) (l:=0) (h.lay.fresh (zhy _)) bel sI (Blk.new sI rfl)
 have h3:=h2.1.forget (lv:=fun b=>if b=W.heap.size then some 0 else none) (fun b m hb=>by
  by_cases q:b=W.heap.size
  · rw [if_pos q] at hb
    rw [q]
    show updT t3.lv W.heap.size (some 0) W.heap.size=some m
    rw [qaf]
    exact hb
  · rw [if_neg q] at hb
    cases hb)
 obtain⟨h4,h5⟩:=h.top.empty (r:=W.heap.size) h.lv hes rfl;have hG:=(Grow.of_turn ((TurnF.refl own W).set_ (p:=⟨tb,2,none⟩) (.inl h.lay.oT) (gP W.heap.size)):Grow W _ own imm own imm).trans h2.2;exact⟨_,_,⟨h3,h.grow.trans hG,h4,h5,h.its,h.fan⟩,hG⟩
structure DoneAt (C:Cl) (cl:Value) (w W:World) (own0 imm0:Nat->Prop) (tb mb:Nat) (t:Tr) (id:Int) (t3:Tr) (L:Int->Prop) (own imm:Nat->Prop):Prop where
 lay:Lay W own imm tb mb cl t3 (fun _=>False) L
 grow:Grow w W own0 imm0 own imm
 shape:Shape t3 L
 fill:Fill t3 fun _=>False
 keyed:Keyed C.un t3 fun _=>False
 its:t3.items=delK id t.items
 fan:t3.fan=t.fan
theorem TopAt.done (h:TopAt C cl w W own0 imm0 tb mb t id t3 out own imm l) (hz:l=0\/2<=(t3.es t3.root).length):DoneAt C cl w W own0 imm0 tb mb t id t3 (fun i=>i∈out) own imm:=
 ⟨h.lay,h.grow,h.top.shape,h.top.done h.lv hz,h.top.keyed,h.its,h.fan⟩
variable {L L' :Int->Prop}
theorem DoneAt.less (h:DoneAt C cl w W own0 imm0 tb mb t id t3 L own imm) (hL:∀i,L i↔L' i):DoneAt C cl w W own0 imm0 tb mb t id t3 L' own imm:=
 {h with lay:=h.lay.less (fun _ q=>q) (fun i q=>(hL i).1 q),shape:=h.shape.less hL}
def DelG (C:Cl) (cl:Value) (w w' :World) (own imm:Nat->Prop) (tb mb:Nat) (t:Tr) (id:Int):Prop:=
 ∃t' own' imm',GAt C cl w' own' imm' tb mb t' /\Grow w w' own imm own' imm' /\t'.fan=t.fan/\t'.items=delK id t.items
theorem DoneAt.gat {own' imm' :Nat->Prop} (h:DoneAt C cl w W own imm tb mb t id t3 L own' imm') (hL:∀i,¬ L i) (hG:GAt C cl w own imm tb mb t):DelG C cl w W own imm tb mb t id:=by
 have h' :=h.less (L' :=fun _=>False) fun i=>⟨fun q=>hL i q,fun q=>q.elim⟩
 refine⟨t3,own',imm',⟨h'.lay,h'.shape,h'.fill,h'.keyed,by rw [h.fan];exact hG.fan4,by rw [h.fan];exact hG.fan16,fun j y hj=> ?_⟩,h.grow,h.fan,h.its⟩
 rw [h.its,qkq hG.shape.rise] at hj
 split at hj
 · cases hj
 · exact hG.its j y hj
end
section
variable {w w' :World} {own imm:Nat->Prop} {tb mb:Nat} {t:Tr} {L L' :Int->Prop}
theorem qqz {ct:TypeId} {cv:Value} (h:Lay w own imm tb mb (.iface ct cv) t (fun _=>False) L) (id:Int) (hid: -9223372036854775808<=id/\id<=9223372036854775807) (hget:getK id t.items=none):
 C9 21 #[gP tb,.int .i64 id] w fun e w' =>∃v,e=.returned v/\ErrX w' v 7 ⟨#[100,101,108,101,116,101]⟩ id/\Below w.heap.size w w' :=by
 have HM:=hdQ h.mp;obtain⟨t0,t1,t2,t3,tl⟩:=h.c0;have HG:=hdQ (fun W (hW:Below w.heap.size w W)=>qc9 (h.tr hW))
 have HN:=hdQ (qhe hget);have hF:=hdQ (fun W=>qet ⟨#[100,101,108,101,116,101]⟩ id (.iface 75 (.int .i64 7)) 7 W (.inr ⟨by decide,0,rfl⟩))
 obtain⟨hid1,hid2⟩:=hid;clear h hget
 simp only [gP] at*
 go_enter Tryz.func21,Tryz.ntmps21
 go_wp2_with fail;refine qac kr kr pq ?_
 simp only [zdy,zey,ldz,lds,bare,qak,lcz,lcs,zay]
 repeat' ((try simp only [Act.put,lsi,lsz,lss]);first|(refine qbj ?_ ?_;focus(simp only [lAq,zgy,zfy];done))|(refine qa3 ?_ ?_ ?_;(focus(simp only [lAq,zgy,zfy];done));(focus(exact bel)))|(refine qaw (X:= ?_) ?_ ?_ (fun hg=> ?_) (fun hg=> ?_);rotate_left;(focus(simp only [lAq];with_reducible rfl));(focus(exact bel));all_goals(try simp only [zgy,zfy] at hg))|(refine lqx ?_)|(refine qab qaa rfl (fun K hK=> ?_);(refine qef _ _ _ _ rfl rfl rfl (show MapO _ _ _ (some mb) _ from qba.tr HM.out bel) Tryz.underlying3 Tryz.underlying80 (Tryz.zeroItG _) oQ oQ ?_;rw [HN.out];simp only [Option.getD_none]);refine hK.out _ _ bel ?_;clear hK K)|(refine qab qaa rfl (fun K hK=> ?_);go_simp;((first |  (go_at_call 25;(with_reducible refine(HG.out _ bel).monoR ?_);rintro w1 hb1 hc1 hf1 hz1;(try simp at hz1);have hy0:=ol1 w w1)  | skip)<;>(refine hK.out _ _ bel ?_;clear hK K))))
 (all_goals try simp only [Act.put,lsi,lsz,lss]);all_goals(refine qad ?_)
 go_wp2_with (go_at_call 24;(refine(hF.out _).mono ?_);rintro e w2 ⟨v',rfl,hE2,hb2⟩;have HE2:=hdQ hE2;clear hE2;have HB2:=hdQ hb2;obtain⟨hc2,hf2⟩:=qa1 hb2)
 go_ret;exact⟨_,rfl,HE2.out,bel⟩
theorem qqy {C:Cl} {ct:TypeId} {cv:Value} {fM fC fD fU fS fP:Nat} (hC:ClAt ct cv C fM fC fD fU fS) (hP:PenAt ct cv fP) (hGA:GAt C (.iface ct cv) w own imm tb mb t) (hcount:t.items.length<=100000) (id:Int) (hid: -9223372036854775808<=id/\id<=9223372036854775807) (x:It) (hget:getK id t.items=some x):
 C9 21 #[gP tb,.int .i64 id] w fun e w' =>e=.returned .nilIface/\DelG C (.iface ct cv) w w' own imm tb mb t id:=by
 have h:=hGA.lay;have hs:=hGA.shape;have hlen:∀b l,t.lv b=some l->(t.es b).length<=16:=fun b l hb=>zcy (hGA.fill b l hb (fun q=>q)).1 hGA.fan16
 have HGA:=hdQ hGA;have HCC:=hdQ hC;have HPP:=hdQ hP;obtain⟨D,hD⟩:=hs.deep;have HD:=hdQ hD;have HCt:=hdQ hcount;obtain⟨i0,hi0,iz0,iz1,iz2⟩:=info_parts Tryz.infoIY;clear hC hP hD hcount;clear hGA;have HM:=hdQ h.mp;obtain⟨t0,t1,t2,t3,tl⟩:=h.c0;have HG:=hdQ (fun W (hW:Below w.heap.size w W)=>qc9 (h.tr hW))
 have HN:=hdQ (qcy hget);obtain⟨z,hBi,hz⟩:=h.it id x hget;have hz:=hz (fun q=>q)
 subst hz;obtain⟨hlv,⟨e0,he0,hid0⟩⟩:=hs.itm id x hget (fun q=>q)
 obtain⟨nf,hnf⟩:∃nf,t.leaf id=nf:=⟨_,rfl⟩;rw [hnf] at hBi hlv he0;obtain⟨n0,n1,n2,nlt⟩:=h.n0 hlv;have i3:=hBi.cell 3;have ilt:=hBi.lt;simp only [lAq] at i3;have hrow:=h.row nf 0 hlv (fun q=>q)
 obtain⟨A,c,hsl,hnc,hAn,hAb⟩:=qas hrow
 obtain⟨g,rfl⟩:∃g,A=some ⟨g,0,none⟩:=by
  obtain⟨g,c',e,_⟩:=qcf hrow (k:=0) (e:=(t.es nf)[0]'(List.length_pos_of_mem he0)) (zby _);rw [hsl] at e;injection e with e1 _ _
  exact⟨g,e1⟩
 obtain⟨n,hn⟩:∃n,(t.es nf).length=n:=⟨_,rfl⟩;rw [hn] at hsl;rw [hsl] at n2;have hn16:n<=16:=by rw [<-hn];exact hlen nf _ hlv
 have hid' :=hid;obtain⟨hid1,hid2⟩:=hid;have HH:=hdQ (And.intro h (And.intro hlv (And.intro hsl (And.intro hn hnf))));have HS:=hdQ hs;clear h hget hs hlen hBi hrow hsl hnc hAn hAb hn hnf he0 hid0 hlv
 simp only [gP] at*
 go_enter Tryz.func21,Tryz.ntmps21
 go_wp2_with fail;refine qac kr kr pq ?_
 simp only [zdy,zey,ldz,lds,bare,qak,lcz,lcs,zay]
 repeat' ((try simp only [Act.put,lsi,lsz,lss]);first|(refine qbj ?_ ?_;focus(simp only [lAq,zgy,zfy];done))|(refine qa3 ?_ ?_ ?_;(focus(simp only [lAq,zgy,zfy];done));(focus(exact bel)))|(refine qaw (X:= ?_) ?_ ?_ (fun hg=> ?_) (fun hg=> ?_);rotate_left;(focus(simp only [lAq];with_reducible rfl));(focus(exact bel));all_goals(try simp only [zgy,zfy] at hg))|(refine lqx ?_)|(refine qab qaa rfl (fun K hK=> ?_);(refine qef _ _ _ _ rfl rfl rfl (show MapO _ _ _ (some mb) _ from qba.tr HM.out bel) Tryz.underlying3 Tryz.underlying80 (Tryz.zeroItG _) oQ oQ ?_;rw [HN.out];simp only [Option.getD_some,gP]);refine hK.out _ _ bel ?_;clear hK K)|(refine qab qaa rfl (fun K hK=> ?_);go_simp;((first |  (go_at_call 25;(with_reducible refine(HG.out _ bel).monoR ?_);rintro w1 hb1 hc1 hf1 hz1;(try simp at hz1);have hy0:=ol1 w w1)  | skip)<;>(refine hK.out _ _ bel ?_;clear hK K))))
 (all_goals try simp only [Act.put,lsi,lsz,lss]);all_goals(refine qad ?_)
 go_wp2_with fail;have gB:Blk w1 w.heap.size 3 #[.int .i64 id]:=blkA;have hbw:Below w.heap.size w w1:=bel;have HBW:=hdQ hbw;obtain⟨hcx,_⟩:=qa1 hbw;have q0:=gB.cell 0;have ql:=gB.lt;simp only [lAq] at q0;have s0:=(hcx tb 0 tl).trans t0;have s1:=(hcx tb 1 tl).trans t1;have s2:=(hcx tb 2 tl).trans t2;have s3:=(hcx tb 3 tl).trans t3;have m0:=(hcx nf 0 nlt).trans n0;have m1:=(hcx nf 1 nlt).trans n1;have m2:=(hcx nf 2 nlt).trans n2;have j3:=(hcx x.blk 3 ilt).trans i3;have hsz:=hbw.size;have tl1:tb<w1.heap.size:=oQ
 have nlt1:nf<w1.heap.size:=oQ
 have ilt1:x.blk<w1.heap.size:=oQ
 have HQ:=hdQ (And.intro gB (And.intro tl (And.intro nlt ilt)));clear t0 t1 t2 t3 n0 n1 n2 i3 tl nlt ilt hb1 hc1 hf1 hz1 hcx gB HG;refine qac kr kr pq ?_
 simp only [zdy,zey,ldz,lds,bare,qak,lcz,lcs,zay]
 repeat' ((try simp only [Act.put,lsi,lsz,lss]);first|(refine lqx ?_)|(refine qab qaa rfl (fun K hK=> ?_);(refine qef _ _ _ _ rfl rfl rfl (show MapO _ _ _ (some mb) _ from qba.tr HM.out bel) Tryz.underlying3 Tryz.underlying80 (Tryz.zeroItG _) oQ oQ ?_;rw [HN.out];simp only [Option.getD_some,gP]);refine hK.out _ _ bel ?_;clear hK K)|(refine qab qaa rfl (fun K hK=> ?_);go_simp;((first|fail  | skip)<;>(refine hK.out _ _ bel ?_;clear hK K))))
 (all_goals try simp only [Act.put,lsi,lsz,lss]);all_goals(refine qad ?_)
 go_wp2_with fail;refine qck (fun W=>Below w1.heap.size w1 W) bel ?_
 rintro w2 hb2;obtain⟨hcx,_⟩:=qa1 hb2;have q0' :=(hcx _ 0 ql).trans q0;have s0' :=(hcx tb 0 tl1).trans s0;have s1' :=(hcx tb 1 tl1).trans s1;have s2' :=(hcx tb 2 tl1).trans s2;have s3' :=(hcx tb 3 tl1).trans s3;have m0' :=(hcx nf 0 nlt1).trans m0;have m1' :=(hcx nf 1 nlt1).trans m1;have m2' :=(hcx nf 2 nlt1).trans m2;have hsz2:=hb2.size;have tl2:tb<w2.heap.size:=oQ
 have nlt2:nf<w2.heap.size:=oQ
 have ql2:w.heap.size<w2.heap.size:=oQ
 clear q0 s0 s1 s2 s3 m0 m1 m2 j3 hcx tl1 nlt1 ilt1 ql hy0;refine qax [0,1,2,3,4] [5] kr kr pq ?_
 simp only [zdy,zey,ldz,lds,bare,qak,lcz,lcs,zay,qc0,Option.isNone_none,Bool.and_true,Bool.true_and,Bool.false_and,Bool.and_self]
 repeat((try simp only [Act.put,lsi,lsz,lss]);first|(refine qbh (v:= ?_) qaa rfl ?_ ?_;rotate_left;focus(intro wq;go_simp;try with_reducible rfl))|(refine qa6 (v:= ?_) qaa rfl ?_ ?_;rotate_left;focus(intro wq hq;obtain⟨hcq,hfq⟩:=qa1 hq;go_simp;try with_reducible rfl))|(refine qa7 qaa rfl (fun K hK=> ?_);go_simp;((first|fail|skip)<;>(refine hK.out _ _ bel ?_;clear hK K))))
 (all_goals try simp only [Act.put,lsi,lsz,lss])
 refine qbs ?_;refine qao (fun K hK=> ?_)
 (refine qx3 _ _ rfl rfl rfl (show qba _ _ _ mb _ from qba.tr HM.out bel) Tryz.underlying3 Tryz.underlying80 oQ oQ ?_);(intro w9 hm9 hg9)
 refine hK.out _ _ ?_;clear hK K
 (try simp only [Act.put,lsi,lsz,lss])
 refine qbr ?_;have hW2:Below w.heap.size w w2.drew:=(HBW.out.trans (hb2.mono hsz)).drew;have hLa:=HH.out.1.tr hW2;have L9:=hLa.del HS.out.rise hg9 hm9;have hGa:Grow w w9 own imm own imm:=(Grow.of_below hW2).trans (Grow.of_turn ((TurnF.refl own _).grown hg9 fun k e=>by cases e;exact .inl hLa.oM))
 have hmb:mb<w.heap.size:=HH.out.1.lim mb (.inl HH.out.1.oM);have gB9:Blk w9 w.heap.size 3 #[.int .i64 id]:=Blk.kept ((HQ.out.1.tr hb2).drew) hg9 fun e=>by injection e with e;omega
 obtain⟨hlv,hsl,hln,hlf⟩:=HH.out.2;have hogo:own g:=HH.out.1.oR nf 0 g hlv (fun q=>q) (by rw [hsl];rfl)
 have hgl:g<w.heap.size:=HH.out.1.lim g (.inl hogo)
 have hrow9:w9.ownsRow 0 96 3 (.slice (some ⟨g,0,none⟩) n c) n (qam true (t.es nf)):=by
  have h:=L9.row nf 0 hlv (fun q=>q)
  rw [show (({t with items:=delK id t.items}:Tr).sl nf)=.slice (some ⟨g,0,none⟩) n c from hsl,show (({t with items:=delK id t.items}:Tr).es nf).length=n from hln] at h
  exact h
 have HDF:=hdQ (fun W (hW:Below w9.heap.size w9 W)=>qvs (t.es nf) g w.heap.size n c id W (qaq hrow9 (qag hW) sI) (((gB9.tr hW).cell 0).trans rfl) (gB9.tr hW).lt oQ oQ (fun e he=>by
  obtain⟨Ak,ck,ekv,_⟩:=(L9.ekey nf 0 e hlv he).bys
  exact⟨Ak,_,ck,ekv⟩))
 have nd9:=L9.nd nf 0 hlv;have hng:nf≠g:=fun e=>qe1 hrow9 nd9 dE (by rw [e];rfl)
 obtain⟨t0,t1,t2,t3,tl⟩:=L9.c0;obtain⟨n0,n1,n2,nlt⟩:=L9.n0 hlv;rw [show (({t with items:=delK id t.items}:Tr).sl nf)=.slice (some ⟨g,0,none⟩) n c from hsl] at n2
 have q09:=gB9.cell 0;have ql9:=gB9.lt;simp only [lAq] at q09;have HL9:=hdQ (And.intro L9 (And.intro hGa (And.intro gB9 (And.intro nd9 hng))));clear hb2 hsz hsz2 hLa hGa hmb gB9 hlv hsl hln hlf hogo hgl hrow9 nd9 hng hW2 hm9 hg9 q0' s0' s1' s2' s3' m0' m1' m2' tl2 nlt2 ql2 L9 hbw
 simp only [gP] at*
 go_upto_block 0 with (go_at_call 43;(refine(HDF.out _ bel).mono ?_);rintro e' wa ⟨m,hm,rfl,hro,hgr⟩;have HRO:=hdQ (And.intro hm (And.intro hro hgr));clear hm;have nda:Blk wa nf _ _:=Blk.kept HL9.out.2.2.2.1 hgr (fun e=>by injection e with e;exact HL9.out.2.2.2.2 e.symm);have na2:=nda.cell 2;have naf:=nda.frozen 2;have nal:=nda.lt;simp only [lAq] at na2;clear hro hgr nda)
 refine qck (fun W=>∃t2,ClimbAt C (.iface ct cv) w W own imm tb mb t id t2 [] imm nf 0) ?_ ?_
 · obtain⟨hlv,hsl,hln,hlf⟩:=HH.out.2
   obtain⟨L9,hGa,gB9,nd9,hng⟩:=HL9.out;obtain⟨hm,hro,hgr⟩:=HRO.out;obtain⟨hL,hG⟩:=L9.shrunk (b:=nf) (l:=0) (m:=n) (es:=(t.es nf).filter fun e=> !decide (e.id=id)) hlv hsl hgr hro hm (fun e he=>(List.mem_filter.1 he).1)
   exact⟨_,hL.less (fun _ q=>q) (fun _ q=>q.elim),hGa.trans hG,Climb.start HGA.out.shape HGA.out.fill HGA.out.keyed hlv hlf rfl,hlv,rfl,rfl,fun _ _ q=>q⟩
 clear HL9 HRO HDF HH HS HM HN HQ HBW t0 t1 t2 t3 tl n0 n1 n2 nlt q09 ql9 na2 naf nal hz;rintro wb ⟨t2,hCl⟩;have HB:=hdQ hCl;clear hCl
 go_cut [6] (fun v6 wx=>∃(t3:Tr) (out:List Int) (A:Option Addr) (c l:Nat) (imm3:Nat->Prop),v6=.slice A out.length c/\TopAt C (.iface ct cv) w wx own imm tb mb t id t3 out own imm3 l/\(∀b l,t3.lv b=some l->t.lv b=some l)/\LostAt w wx own imm3 (.slice A out.length c) out)
 case first=>as_aux_lemma=>
  go_wp2_with fail
  go_loopw [5,6] (fun v5 v6 wr=>∃(t3:Tr) (out:List Int) (A:Option Addr) (c l u:Nat) (imm3:Nat->Prop),v5=gP u/\v6=.slice A out.length c/\ClimbAt C (.iface ct cv) w wr own imm tb mb t id t3 out imm3 u l/\LostAt w wr own imm3 (.slice A out.length c) out) (fun v5 _ wr=>D-lvOf t v5)
  case atStart=>exact ⟨t2, [],none,0,0,nf,imm,rfl,rfl,HB.out,LostAt.nil⟩
  case round=>
   clear HB;obtain⟨t3,out,A,c3,l,u,imm3,rfl,rfl,hCl,hLo⟩:=hrel;have hl:=hCl.lv;obtain⟨t0,t1,t2',t3',tl⟩:=hCl.lay.c0;obtain⟨n0,n1,n2,nlt⟩:=hCl.lay.n0 hl;have HCl:=hdQ hCl;have HLo:=hdQ hLo;clear hCl hLo
   cases hup:t3.up u with
   | none=>
     rw [hup] at n0;have HT:=hdQ (HCl.out.top hup);clear hup hl
     simp only [gO,gP] at*
     go_wp2_with fail
     go_meet
     exact⟨t3,out,A,c3,l,imm3,rfl,HT.out,HCl.out.old,HLo.out⟩
   | some p=>
     rw [hup] at n0;have hul:=(HCl.out.climb.up hl hup).1;have HUl:=hdQ (And.intro hl (And.intro hup hul));have hfan:t3.fan<=16:=by rw [HCl.out.fan];exact HGA.out.fan16
     have hlens:=HCl.out.climb.lens;obtain⟨p0,p1,p2,plt⟩:=HCl.out.lay.n0 hul;have HLe:=hdQ (fun W (hW:Below wr.heap.size wr W)=>qkl (HCl.out.lay.tr hW) oQ)
     obtain⟨_,e0,he0,hek0⟩:=HCl.out.climb.shape.up u l p hl hup;obtain⟨g,c,cur,hsl,hmc,hBg⟩:=HCl.out.lay.rowAt hul (fun q=>q) he0
     obtain⟨Au,cu,hsu,_,_,_⟩:=qas (HCl.out.lay.row u l hl (fun q=>q))
     rw [hsu] at n2;rw [hsl] at p2;obtain⟨k,hk⟩:∃k,(t3.es u).length=k:=⟨_,rfl⟩;rw [hk] at n2;obtain⟨m,hm⟩:∃m,(t3.es p).length=m:=⟨_,rfl⟩;rw [hm] at p2 hmc hsl;have HFan:=hdQ hfan
     have HFw:Hid (out.length<=100000/\out.length+(below t3 l u).length<=200000/\t3.items.length<=100000):=by
      have h1:=qxb HCl.out.climb.nd HCl.out.climb.has;have h2:=HCl.out.climb.shape.below_len hl;have h3:t3.items.length<=100000:=by rw [HCl.out.its];exact zcy (qjj _ _) HCt.out
      exact⟨by omega,by omega,h3⟩
     have hm16:m<=16:=by have:=hlens p _ hul;omega
     have hk16:k<=16:=by have:=hlens u _ hl;omega
     obtain⟨q,hq⟩:∃q,t3.fan/2=q:=⟨_,rfl⟩;rw [hq] at HLe;have HQ:=hdQ (And.intro hk (And.intro hm hq));have HPl:=hdQ (fun W imm' out' (h:ClimbAt C (.iface ct cv) w W own imm tb mb t id t3 out' imm' u l)=>qih h.lay hl hup hul ⟨e0,he0,hek0⟩ (fun e he=>⟨_,(HCl.out.climb.shape.kid p l e hul he).1⟩) (fun q=>q) oQ)
     have hng:p≠g:=fun e=>qe1 (HCl.out.lay.row p _ hul (fun q=>q)) (HCl.out.lay.nd p _ hul) dE (by rw [hsl,<-e];rfl)
     have HSl:=hdQ (And.intro hsl hng);have fR:=hBg.frozen;have hgl:=hBg.lt;clear hup hsu hk hq hm hsl hul hl hlens hng e0 he0 hek0 hfan
     simp only [gO,gP] at*
     go_wp2_with fail;refine qac kr kr pq ?_
     simp only [zdy,zey,ldz,lds,bare,qak,lcz,lcs,zay]
     repeat' ((try simp only [Act.put,lsi,lsz,lss]);first|(refine lqx ?_)|(refine qab qaa rfl (fun K hK=> ?_);go_simp;((first |  (go_at_call 45;(with_reducible refine(HLe.out _ bel).monoR ?_);rintro wl hbl hcl hfl hzl;(try simp at hzl))|skip)<;>(refine hK.out _ _ bel ?_;clear hK K))))
     (all_goals try simp only [Act.put,lsi,lsz,lss]);all_goals(refine qad ?_)
     by_cases hkq:k<q
     · have hkI:(k:Int)<(q:Int):=oQ
       have HBl:=hdQ (fun W (hW:Below wr.heap.size wr W)=>qk8 HCl.out.climb.shape (fun b l hb=>zcy (HCl.out.climb.lens b l hb) HFan.out) HFw.out.2.2 l u W HUl.out.1 (HCl.out.lay.tr hW))
       have hf1:=HFw.out.1;have hf2:=HFw.out.2.1
       go_wp2_with (first
        | (go_at_call 42;(with_reducible refine(HBl.out _ bel).mono ?_);rintro e5 w5 ⟨v5,rfl,ho5,hb5⟩;have HO5:=hdQ ho5;clear ho5;have HB5:=hdQ (show Below wr.heap.size wr w5 from bel);have HR5:=hdQ (HLo.out.tr HB5.out).row)
        | (at_builtin;go_must (refine qg5 rfl _ _ 43 rfl 3 i0 (.int .i64 0) 1 8 Tryz.underlying43 hi0 iz0 iz1 iz2 rfl dE _ _ _ rfl HR5.out _ _ _ _ rfl HO5.out (qh1 _) ?c3 ?c4 ?_)))
       case c3=>unfold maxLen;omega
       case c4=>omega
       intro v8 w8 hown8 hg8 hwh8;have hC5:=HCl.out.tr HB5.out;have hL5:=HLo.out.tr HB5.out;have hC8:=hC5.kept hg8 (fun g e=>hL5.no g e)
       have hL8:=hL5.more hC5.lay.lim hC5.grow.size hown8 hwh8;obtain⟨A8,c8,rfl,_,_,_⟩:=qas hown8;clear n0 n1 n2 nlt p0 p1 p2 plt t0 t1 t2' t3' tl fR hgl hcl hfl hbl hzl hb5;obtain⟨p0,p1,p2,plt⟩:=hC8.lay.n0 HUl.out.2.2;rw [HSl.out.1] at p2;have HC8:=hdQ hC8;have HL8:=hdQ hL8;clear hC5 hL5 hC8 hL8 hown8 hg8 hwh8 hf1 hf2;have HPl8:=hdQ (fun W (hW:Below w8.heap.size w8 W)=>HPl.out W _ _ (HC8.out.tr hW))
       have HPB:=hdQ (HC8.out.lay.nd p _ HUl.out.2.2)
       have HSD:=hdQ (fun W i (hW:Below w8.heap.size w8 W) (hi:i<m)=>qvr false (t3.es p) g m c i W (by
        have h:=(HC8.out.tr hW).lay.row p _ HUl.out.2.2 (fun q=>q)
        rw [HSl.out.1,HQ.out.2.1,show decide (l+1=0)=false by simp] at h
        exact h) (fun e he=>by
        obtain⟨Ak,ck,ekv,_⟩:=(HC8.out.lay.ekey p _ e HUl.out.2.2 he).bys
        rw [ekv]
        rfl) hi oQ)
       simp only [gP] at*
       go_wp2_with (first
        | (go_at_call 46;(with_reducible refine(HPl8.out _ bel).mono ?_);rintro e9 w9 ⟨i,x9,hx,hxk,rfl,hb9⟩;have HX:=hdQ (And.intro hx hxk);have hil:i<m:=(by have:=(zsy.1 hx).1;rw [HQ.out.2.1] at this;exact this);have hil0:(i:Int)<(m:Int):=oQ;obtain⟨hc9,hf9,hz9⟩:=bc3 hb9;(try simp at hz9);have HB9:=hdQ hb9;clear hx hxk)
        | (go_at_call 47;(with_reducible refine(HSD.out _ _ bel hil).mono ?_);rintro ea wa ⟨rfl,hro,hgr⟩;have HRO:=hdQ (And.intro hro hgr);have nda:=Blk.kept (Blk.tr HPB.out HB9.out) hgr (fun e=>HSl.out.2 (by injection e with e;exact e.symm));have na2:=nda.cell 2;have naf:=nda.frozen 2;have nal:=nda.lt;simp only [lAq] at na2;clear hro hgr nda))
       go_roundw
       case rel=>
        obtain⟨hro,hgr⟩:=HRO.out;obtain⟨t4,hC4,hG4⟩:=(HC8.out.tr HB9.out).dropped HUl.out.2.1 HX.out.1 HX.out.2 HSl.out.1 HQ.out.2.1 hgr hro;exact⟨t4,out++below t3 l u,A8,c8,l+1,p,imm3,rfl,by rw [zny],hC4,by rw [zny];exact(HL8.out.tr HB9.out).grow hG4⟩
       case measure=>
        have h1:=HCl.out.old _ _ HUl.out.1;have h2:=HCl.out.old _ _ HUl.out.2.2;have h3:=HD.out _ _ h2
        simp only [lvOf,h1,h2,Option.getD_some]
        omega
     · have hkI:¬ (k:Int)<(q:Int):=oQ
       go_wp2_with fail;refine qck (fun W=>Below wr.heap.size wr W) bel ?_
       clear n0 n1 n2 nlt p0 p1 p2 plt t0 t1 t2' t3' tl fR hgl hcl hfl hbl hzl;rintro w2 hb2;have HC2:=hdQ (HCl.out.tr hb2);have HL2:=hdQ (HLo.out.tr hb2);clear hb2;obtain⟨t0,t1,t2',t3',tl⟩:=HC2.out.lay.c0;obtain⟨p0,p1,p2,plt⟩:=HC2.out.lay.n0 HUl.out.2.2;rw [HSl.out.1] at p2;obtain⟨cur2,hBg⟩:=qij (HC2.out.lay.row p _ HUl.out.2.2 (fun q=>q)) (by rw [HSl.out.1];rfl)
       have fR:=hBg.frozen;have hgl:=hBg.lt;have HRow:=hdQ (HC2.out.lay.row p _ HUl.out.2.2 (fun q=>q))
       have HPl2:=hdQ (fun W (hW:Below w2.heap.size w2 W)=>HPl.out W _ _ (HC2.out.tr hW))
       have HUn2:=hdQ (fun W (hW:Below w2.heap.size w2 W)=>qgk HCC.out (HC2.out.lay.tr hW) HUl.out.1 (fun q=>q) (by have:=HQ.out.1;omega))
       have hkk:∀k∈(t3.es u).map En.kb,(∀x∈k,x<256)/\k.length<=1000000:=fun k hk' =>by
        obtain⟨e,he,rfl⟩:=zty.1 hk';have:=HC2.out.lay.ekey u _ e HUl.out.1 he;exact⟨this.1,this.2.1⟩
       have hform:=HCC.out.formU _ (fun k hk=>(hkk k hk).1) (fun k hk=>(hkk k hk).2)
       have HREF:=hdQ (fun W (i:Nat) x9 kv (hW:Below w2.heap.size w2 W) (hx:(t3.es p)[i]? =some x9) (hxk:x9.kid=u) (ho:W.ownsRow w2.heap.size 5 1 kv (C.un ((t3.es u).map En.kb)).length (qap (C.un ((t3.es u).map En.kb))))=>HC2.out.keyed HUl.out.2.1 hx hxk (by rw [HQ.out.1,HQ.out.2.2];omega) HSl.out.1 hW ho (zhy _) rfl hform.1 hform.2)
       clear hkk hform hBg;generalize C.un ((t3.es u).map En.kb)=U at*
       simp only [gP] at*
       refine qax [0,1,2,3,4,6,7,5,8,9,10] [11] kr kr pq ?_
       simp only [zdy,zey,ldz,lds,bare,qak,lcz,lcs,zay,qc0,Option.isNone_none,Bool.and_true,Bool.true_and,Bool.false_and,Bool.and_self]
       repeat((try simp only [Act.put,lsi,lsz,lss]);first|(refine qbh (v:= ?_) qaa rfl ?_ ?_;rotate_left;focus(intro wq;go_simp;try with_reducible rfl))|(refine qa6 (v:= ?_) qaa rfl ?_ ?_;rotate_left;focus(intro wq hq;obtain⟨hcq,hfq⟩:=qa1 hq;go_simp;try with_reducible rfl))|(refine qa7 qaa rfl (fun K hK=> ?_);go_simp;((first|(go_at_call 46;(with_reducible refine(HPl2.out _ bel).mono ?_);rintro e w5 ⟨i,x9,hx,hxk,rfl,hb5⟩;obtain⟨hc5,hf5,hz5⟩:=bc3 hb5;(try simp at hz5);have hg5:g<w5.heap.size:=oQ;have HX:=hdQ (And.intro hx hxk);have hil:i<m:=(by have:=(zsy.1 hx).1;rw [HQ.out.2.1] at this;exact this);have hil0:(i:Int)<(m:Int):=oQ;have hrw:=HRow.out;obtain⟨g',c',hv',_,r0,_,_⟩:=qcf hrw hx;rw [HSl.out.1] at hv';injection hv' with hv1 hv2 hv3;injection hv1 with hv1;injection hv1 with hv1;subst hv1;have r5:w5.cell? ⟨g,i*3,none⟩=some x9.kv:=(hc5 g _ (by simpa using hgl)).trans (by simpa using r0);have f5:w5.frozen? ⟨g,i*3,none⟩=false:=(hf5 g _ (by simpa using hgl)).trans (by simpa using fR _);clear hv2 hv3 hrw hx hxk)|(go_at_call 48;(with_reducible refine(HUn2.out _ bel).mono ?_);rintro e w6 ⟨v6,rfl,ho6,hb6⟩;obtain⟨A6,c6,rfl,_,_,_,_⟩:=qa0 ho6;have HO6:=hdQ ho6;clear ho6;obtain⟨hc6,hf6,hz6⟩:=bc3 hb6;(try simp at hz6);have r6:w6.cell? ⟨g,i*3,none⟩=some x9.kv:=(hc6 g _ (by simpa using hg5)).trans (by simpa using r5);have f6:w6.frozen? ⟨g,i*3,none⟩=false:=(hf6 g _ (by simpa using hg5)).trans (by simpa using f5))|skip)<;>(refine hK.out _ _ bel ?_;clear hK K))))
       (all_goals try simp only [Act.put,lsi,lsz,lss])
       refine qbs ?_;refine qao (fun K hK=> ?_)
       go_simp
       refine q1x (K:=K) (fun w7=>∃t4 imm4,ClimbAt C (.iface ct cv) w w7 own imm tb mb t id t4 out imm4 p (l+1)/\Grow w2 w7 own imm3 own imm4) ?_ ?_;(focus(refine HREF.out _ i x9 (.slice A6 U.length c6) ?_ HX.out.1 HX.out.2 ?_;(focus(exact bel));(focus(refine qbb (qaq HO6.out (qag ?_) sI) (by(try simp);omega);exact bel))));rintro w7 ⟨t4,imm4,hC7,hG7⟩
       refine hK.out _ _ ?_;clear hK K
       (try simp only [Act.put,lsi,lsz,lss])
       refine qbr ?_;have HE7:=hdQ (And.intro hC7 hG7);clear hC7 hG7 r0 r5 f5 r6 f6 hc5 hf5 hc6 hf6 hb5 hb6 p0 p1 p2 plt t0 t1 t2' t3' tl fR;go_wp2_with fail
       go_roundw
       case rel=>exact ⟨t4,out,A,c3,l+1,p,imm4,rfl,rfl,HE7.out.1,HL2.out.grow HE7.out.2⟩
       case measure=>
        have h1:=HCl.out.old _ _ HUl.out.1;have h2:=HCl.out.old _ _ HUl.out.2.2;have h3:=HD.out _ _ h2
        simp only [lvOf,h1,h2,Option.getD_some]
        omega
 case rest=>
  obtain⟨t3,out,A,c3,l,imm3,rfl,hT,hold,hLo⟩:=hcut;have HT:=hdQ (And.intro hT (And.intro hold hLo))
  have HOut:Hid (out.Nodup/\(∀j∈out,∃it,getK j (delK id t.items)=some it)/\out.length<=100000):=by
   have h1:∀j∈out,∃it,getK j (delK id t.items)=some it:=by rw [<-hT.its];exact hT.top.has
   exact⟨hT.top.nd,h1,zcy (qxb hT.top.nd h1) (zcy (qjj _ _) HCt.out)⟩
  clear hT hold hLo HB
  go_upto_block 2 with fail
  go_cut [] (fun wx=>∃(t4:Tr) (own4 imm4:Nat->Prop),DoneAt C (.iface ct cv) w wx own imm tb mb t id t4 (fun i=>i∈out) own4 imm4/\LostAt w wx own4 imm4 (.slice A out.length c3) out)
  case first=>as_aux_lemma=>
   go_wp2_with fail
   go_loopw [] (fun wr=>∃(t4:Tr) (imm4:Nat->Prop) (l4:Nat),TopAt C (.iface ct cv) w wr own imm tb mb t id t4 out own imm4 l4/\(∀b l,t4.lv b=some l->t.lv b=some l)/\LostAt w wr own imm4 (.slice A out.length c3) out) (fun wr=>lvOf t ((wr.cell? ⟨tb,2,none⟩).getD .nilIface))
   case atStart=>exact ⟨t3,imm3,l,HT.out.1,HT.out.2.1,HT.out.2.2⟩
   case round=>
    clear HT;obtain⟨t4,imm4,l4,hT,hold,hLo⟩:=hrel;obtain⟨c0,c1,c2,c3',tl⟩:=hT.lay.c0;obtain⟨r0,r1,r2,rl⟩:=hT.lay.n0 hT.lv;obtain⟨Ar,cr,hsl,hlc,_,_⟩:=qas (hT.lay.row _ _ hT.lv (fun q=>q))
    rw [hsl] at r2;have HT:=hdQ (And.intro hT (And.intro hold hLo));have HS:=hdQ hsl
    have hle:(t4.es t4.root).length<=16:=by
     have h1:=hT.top.lens _ _ hT.lv;have h2:=HGA.out.fan16;rw [hT.fan] at h1
     omega
    clear hT hold hLo hsl
    cases l4 with
    | zero=>
      rw [show decide ((0:Nat)=0)=true from rfl] at r1
      simp only [gP] at*
      go_wp2_with fail
      go_meet
      exact⟨t4,own,imm4,HT.out.1.done (.inl rfl),HT.out.2.2⟩
    | succ l4=>
      rw [show decide (l4+1=0)=false by simp] at r1
      obtain⟨n,hn⟩:∃n,(t4.es t4.root).length=n:=⟨_,rfl⟩;rw [hn] at r2;have fT:=HT.out.1.lay.hd.frozen 2;have HN:=hdQ hn
      rcases hes:t4.es t4.root with _|⟨y,_|⟨y2,rest⟩⟩
      · rw [hes] at hn
        obtain rfl:n=0:=by simpa using hn.symm
        have HE:=hdQ (HT.out.1.emptied hes);clear hn hes
        simp only [gP] at*
        go_wp2_with fail
        go_meet
        obtain⟨t5,own5,h5,hG5⟩:=HE.out;exact⟨t5,own5,imm4,h5.done (.inl rfl),HT.out.2.2.grow hG5⟩
      · rw [hes] at hn
        obtain rfl:n=1:=by simpa using hn.symm
        have HE:=hdQ (HT.out.1.sunk hes);obtain⟨g,c',hv,hgl,q0,q1,q2⟩:=qcf (HT.out.1.lay.row _ _ HT.out.1.lv (fun q=>q)) (k:=0) (e:=y) (by rw [hes];rfl)
        rw [HS.out] at hv;injection hv with hv1 hv2 hv3
        subst hv1;rw [show decide (l4+1=0)=false by simp] at q2
        simp only [Nat.zero_mul,Nat.zero_add,Bool.false_eq_true,if_false] at q2;obtain⟨k0,k1,k2,kl⟩:=HT.out.1.lay.n0 HE.out.2.2.2;have fK:=(HT.out.1.lay.nd _ _ HE.out.2.2.2).frozen 0;clear hn hes hv2 hv3 q0 q1 k1 k2
        simp only [gP] at*
        go_wp2_with fail
        go_roundw
        case rel=>exact ⟨_,imm4,l4,HE.out.1,fun b l hb=>HT.out.2.1 b l (HE.out.2.2.1 b l hb),HT.out.2.2.grow HE.out.2.1⟩
        case measure=>
         have h1:=HT.out.2.1 _ _ HT.out.1.lv;have h2:=HT.out.2.1 _ _ HE.out.2.2.2;have h3:=HE.out.1.lay.c0.2.2.1;have h4:=HT.out.1.lay.c0.2.2.1;simp only [gP] at h3 h4
         rw [h3,h4]
         simp only [lvOf,Option.getD_some,h1,h2]
         omega
      · have hn2:2<=n:=by rw [<-hn,hes];simp
        have HE:=hdQ (show 2<=(t4.es t4.root).length by omega)
        clear hn hes;have hnI:¬ (n:Int)<2:=oQ
        rw [HN.out] at hle
        simp only [gP] at*
        go_wp2_with fail
        go_meet
        exact⟨t4,own,imm4,HT.out.1.done (.inr HE.out),HT.out.2.2⟩
  case rest=>
   obtain⟨t4,own4,imm4,hD,hLo⟩:=hcut;obtain⟨n,hn⟩:∃n,out.length=n:=⟨_,rfl⟩;have HD4:=hdQ (And.intro hD hLo);have HN:=hdQ hn;have hn5:n<=100000:=by have:=HOut.out.2.2;omega
   rw [hn]
   clear hD hLo hn HT;go_wp2_with fail
   go_loopw [148] (fun vi wr=>∃(i:Nat) (t5:Tr) (own5 imm5:Nat->Prop),vi=.int .i64 i/\i<=n/\DoneAt C (.iface ct cv) w wr own imm tb mb t id t5 (fun j=>j∈out.drop i) own5 imm5/\LostAt w wr own5 imm5 (.slice A n c3) out) (fun vi _=>n-(Go.RowKit.intOf vi).toNat)
   case atStart=>
    refine⟨0,t4,own4,imm4,rfl,zly _,HD4.out.1,?_⟩;have:=HD4.out.2;rw [HN.out] at this;exact this
   case round=>
    obtain⟨i,t5,own5,imm5,rfl,hin,hD,hLo⟩:=hrel;have HD5:=hdQ (And.intro hD hLo);clear hD hLo HD4
    by_cases hlt:i<n
    case neg=>
     obtain rfl:n=i:=oQ
     go_wp2_with fail;go_ret;exact⟨rfl,HD5.out.1.gat (fun j hj=>by rw [List.drop_eq_nil_of_le (by rw [HN.out];exact zhy _)] at hj;cases hj) HGA.out⟩
    case pos=>
     have hltI:(i:Int)<(n:Int):=oQ
     obtain⟨z,hz⟩:∃z,out[i]? =some z:=⟨out[i]'(by rw [HN.out];exact hlt),zby _⟩
     have hio:i<out.length:=by rw [HN.out];exact hlt
     obtain⟨g,rfl,hgl,q0⟩:=HD5.out.2.at_ hz
     have hdr:out.drop i=z::out.drop (i+1):=by
      rw [zgx hio]
      rw [zby hio] at hz;injection hz with hz
      rw [hz]
     obtain⟨it,hit⟩:=HOut.out.2.1 z (zjy hz)
     have hL:∀j,(j∈out.drop i/\j≠z)↔j∈out.drop (i+1):=fun j=>by
      have hnd:(out.drop i).Nodup:=HOut.out.1.sublist (List.drop_sublist _ _)
      rw [hdr] at hnd ⊢
      rw [List.nodup_cons] at hnd
      rw [List.mem_cons]
      constructor
      · rintro⟨h|h,h2⟩
        · exact absurd h h2
        · exact h
      · intro h
        exact⟨.inr h,fun e=>hnd.1 (e ▸ h)⟩
     have HAdd:=hdQ (fun W (hW:Below wr.heap.size wr W)=>qx0 HCC.out HPP.out (HD5.out.1.lay.tr hW) HD5.out.1.shape HD5.out.1.fill HD5.out.1.keyed (by rw [HD5.out.1.fan];exact HGA.out.fan4) (by rw [HD5.out.1.fan];exact HGA.out.fan16) (fun j y hj=>by
      rw [HD5.out.1.its,qkq HGA.out.shape.rise] at hj
      split at hj
      · cases hj
      · exact(HGA.out.its j y hj).1) (id:=z) (x:=it) (by rw [HD5.out.1.its];exact hit) (by rw [hdr];simp))
     have HL:=hdQ hL;clear hz hdr hit hL hio
     simp only [gP] at*
     go_wp2_with (go_at_call 49;(with_reducible refine(HAdd.out _ bel).mono ?_);rintro e w6 ⟨rfl,t6,own6,imm6,hL6,hS6,hF6,hK6,hI6,hf6,hG6⟩;have H6:=hdQ (show DoneAt C (.iface ct cv) w w6 own imm tb mb t id t6 (fun j=>j∈out.drop (i+1)) own6 imm6/\LostAt w w6 own6 imm6 (.slice (some ⟨g,0,none⟩) n c3) out from ⟨DoneAt.less ⟨hL6,HD5.out.1.grow.trans ((Grow.of_below (show Below wr.heap.size wr _ from bel)).trans hG6),hS6,hF6,hK6,hI6.trans HD5.out.1.its,hf6.trans HD5.out.1.fan⟩ HL.out,(HD5.out.2.tr (show Below wr.heap.size wr _ from bel)).grow hG6⟩);clear hL6 hS6 hF6 hK6 hI6 hf6 hG6)
     go_roundw
     case rel=>exact ⟨i+1,t6,own6,imm6,by go_num,by omega,H6.out.1,H6.out.2⟩
     case measure=>simp [Go.RowKit.intOf];omega
def delE (t:Tr) (id:Int):Nat:=if (getK id t.items).isSome then 0 else 7
theorem qux {C:Cl} {ct:TypeId} {cv:Value} {fM fC fD fU fS fP:Nat} (hC:ClAt ct cv C fM fC fD fU fS) (hP:PenAt ct cv fP) (hGA:GAt C (.iface ct cv) w own imm tb mb t) (hcount:t.items.length<=100000) (id:Int) (hid: -9223372036854775808<=id/\id<=9223372036854775807):
 C9 21 #[gP tb,.int .i64 id] w fun e w' =>∃v,e=.returned v/\ErrX w' v (delE t id) ⟨#[100,101,108,101,116,101]⟩ id/\DelG C (.iface ct cv) w w' own imm tb mb t id:=by
 unfold delE
 cases hg:getK id t.items with
 | none=>exact (qqz hGA.lay id hid hg).mono fun e w' ⟨v,he,hx,hb⟩=>⟨v,he,hx,t,own,imm,hGA.tr hb,Grow.of_below hb,rfl,(qxj hg).symm⟩
 | some x=>exact (qqy hC hP hGA hcount id hid x hg).mono fun e w' ⟨he,h⟩=>⟨_,he,.inl ⟨rfl,rfl⟩,h⟩
end
end Go.Proofs.YtfnhnjbkkggbeaaGreat
