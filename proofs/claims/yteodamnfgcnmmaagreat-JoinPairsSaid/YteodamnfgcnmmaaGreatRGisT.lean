/-gist-/
import Derived.Test.YteodamnfgcnmmaaGreatRGisB
set_option linter.unusedVariables false
set_option linter.unusedSimpArgs false
set_option maxHeartbeats 4000000
set_option maxRecDepth 20000
namespace Go.Proofs.YteodamnfgcnmmaaGreat
open Go Go.RowKit Pg
def entG (x:It) (id:Int):En:=⟨x.kv,x.kb,id,0⟩
def qd4 (t:Tr) (n:Nat) (es:List En) (v:Value) (k:Nat):Tr:={t with es:=updT t.es n es,sl:=updT t.sl n v,leaf:=fun i=>if i∈(es.take k).map En.id then n else t.leaf i}
theorem qna {t:Tr} {n:Nat} {es:List En} {v:Value} {k:Nat} {e:En} (he:es[k]? =some e):{qd4 t n es v k with leaf:=updT (qd4 t n es v k).leaf e.id n}=qd4 t n es v (k+1):=by
 have hf:updT (fun i=>if i∈(es.take k).map En.id then n else t.leaf i) e.id n=fun i=>if i∈(es.take (k+1)).map En.id then n else t.leaf i:=by
  funext i
  unfold updT
  simp only [zwy,he,Option.toList_some,zfx,zdy,zey,List.mem_append,zhx]
  by_cases h1:i=e.id
  · simp [h1]
  · simp [h1]
 unfold qd4
 rw [<-hf]
theorem qpg {L:Int->Prop} {es:List En} {k:Nat} {e:En} (he:es[k]? =some e) (i:Int):((L i/\i ∉ (es.take k).map En.id)/\i≠e.id)↔(L i/\i ∉ (es.take (k+1)).map En.id):=by
 simp only [zwy,he,Option.toList_some,zfx,zdy,zey,List.mem_append,zhx,not_or]
 constructor
 · rintro⟨⟨h1,h2⟩,h3⟩;exact⟨h1,h2,h3⟩
 · rintro⟨h1,h2,h3⟩;exact⟨⟨h1,h2⟩,h3⟩
section
variable {w:World} {own imm:Nat->Prop} {tb mb:Nat} {cl:Value} {t:Tr} {H:Nat->Prop} {L:Int->Prop}
theorem qf4 {id:Int} {x:It} (h:getK id t.items=some x):getK id (t.items.map fun p=>(p.1,gP p.2.blk))=some (gP x.blk):=by
 have:∀m:List (Int×It),getK id (m.map fun p=>(p.1,gP p.2.blk))=(getK id m).map fun y=>gP y.blk:=by
  intro m
  induction m with
  | nil=>rfl
  | cons p r ih=>
    rw [zdy,qet,qet,ih]
    split<;>rfl
 rw [this,h]
 rfl
theorem qnz {id:Int} (h:getK id t.items=none):getK id (t.items.map fun p=>(p.1,gP p.2.blk))=none:=by
 have:∀m:List (Int×It),getK id (m.map fun p=>(p.1,gP p.2.blk))=(getK id m).map fun y=>gP y.blk:=by
  intro m
  induction m with
  | nil=>rfl
  | cons p r ih=>
    rw [zdy,qet,qet,ih]
    split<;>rfl
 rw [this,h]
 rfl
theorem Tryz.zeroItG (w:World):(zeroValue 89).run Tryz.prog w=.ok (.pointer none) w:=by kernel_rfl
theorem qls (h:Lay w own imm tb mb cl t H L) {n:Nat} (hn:t.lv n=some 0) (es:List En) (v:Value) (hrow:w.ownsRow 0 104 3 v es.length (qav true es))
 (hv:∀g,v.ownBlock=some g->own g/\∀b' l',t.lv b' =some l' ->b' ≠n->¬ H b' ->(t.sl b').ownBlock≠some g) (hkey:∀e∈es,qcx w imm e.kv e.kb)
 (hid:∀e∈es,(∃x,getK e.id t.items=some x)/\ -9223372036854775808<=e.id/\e.id<=9223372036854775807) (hes:es.length<=1000000):
 C9 67 #[gP tb,gP n,v] w fun e w' =>e=.returned (.tuple #[])/\Lay w' own imm tb mb cl (qd4 t n es v es.length) (fun x=>H x/\x≠n) (fun i=>L i/\i ∉ es.map En.id)/\TurnF own w w' :=by
 obtain⟨n0,n1,n2,nlt⟩:=h.n0 hn;have fN:=(h.nd n 0 hn).frozen;obtain⟨A,c,rfl,hnc,hAn,hAb⟩:=qar hrow;have h1:=h.setRow hn hrow hv hkey;have HI:=hdQ hid;have ho:=h.oN n 0 hn;have HOwn:=hdQ ho;generalize hl:es.length=m at*;clear hrow hv hkey h hid hnc hAn hAb ho
 try simp only [gP] at*
 go_enter Tryz.func67,Tryz.ntmps67
 go_wp2_with fail;refine qdp (fun w2=>Lay w2 own imm tb mb cl (qd4 t n es (.slice A m c) 0) (fun x=>H x/\x≠n) (fun i=>L i/\i ∉ (es.take 0).map En.id)/\TurnF own w w2) ⟨?_,(TurnF.refl own w).set_ (p:=⟨n,2,none⟩) (.inl HOwn.out) _⟩ ?_
 · have e:qd4 t n es (.slice A m c) 0={t with es:=updT t.es n es,sl:=updT t.sl n (.slice A m c)}:=by simp [qd4]
   rw [e]
   exact h1.less (fun _ q=>q) (fun i q=>⟨q,by simp⟩)
 clear h1 n0 n1 n2 nlt fN;rintro w2 ⟨h2,ht2⟩
 go_loopw [14] (fun vi wr=>∃k:Nat,k<=m/\vi=.int .i64 k/\Lay wr own imm tb mb cl (qd4 t n es (.slice A m c) k) (fun x=>H x/\x≠n) (fun i=>L i/\i ∉ (es.take k).map En.id)/\TurnF own w wr) (fun vi _=>m-(Go.RowKit.intOf vi).toNat)
 case atStart=>exact ⟨0,zly _,rfl,h2,ht2⟩
 case round=>
  clear h2 ht2;obtain⟨k,hk,rfl,hL,ht⟩:=hrel
  by_cases hlt:k<m
  case neg=>
   obtain rfl:m=k:=oQ
   have HL:=hdQ hL;have HT:=hdQ ht;clear hL ht;go_wp2_with fail
   go_end0
   have hx:Lay _ own imm tb mb cl _ _ _:=HL.out;refine⟨rfl,?_,HT.out⟩;refine hx.less (fun _ q=>q) fun i q=> ?_
   rw [zmy oQ] at q
   exact q
  have hk0:(k:Int)<(m:Int):=oQ
  obtain⟨x,hx⟩:∃x,es[k]? =some x:=⟨es[k]'oQ,zby _⟩
  obtain⟨⟨it,hit⟩,hi0,hi1⟩:=HI.out x (zjy hx);have hsl:(qd4 t n es (.slice A m c) k).sl n=.slice A m c:=qal;have hes' :(qd4 t n es (.slice A m c) k).es n=es:=qal;have hr:=hL.row n 0 hn (fun q=>q.2 rfl)
  rw [hsl,hes'] at hr;obtain⟨g,c',hv,hgl,r0,r1,r2⟩:=qed hr hx;rw [hl] at hv;injection hv with hv1 hv2 hv3
  subst hv1 hv3;simp only [decide_true,if_true] at r2;obtain⟨t0,t1,t2,t3,tlt⟩:=hL.c0;obtain⟨n0,n1,n2,nlt⟩:=hL.n0 hn;obtain⟨z,hB,_⟩:=hL.it x.id it hit;have hm:=hL.mp;have hg2:getK x.id ((qd4 t n es (.slice (some ⟨g,0,none⟩) m c) k).items.map fun p=>(p.1,gP p.2.blk))=some (gP it.blk):=qf4 hit
  have hkx:=hL.ekey n 0 x hn (by rw [hes'];exact zjy hx)
  have hsz:=ht.size;have i3:=hB.cell 3;simp only [lAq] at i3;have hBl:=hB.lt;have fI:=hB.frozen;have HL:=hdQ hL;have HT:=hdQ ht;have HX:=hdQ hx;have HM:=hdQ hm;have HIt:=hdQ hit;have HG:=hdQ hg2;have HOI:=hdQ (hL.oI x.id it hit);clear hL ht hr hv2 hsl hes' hB hm hx hit hg2;obtain⟨_,_,Ak,ck,ek,_⟩:=hkx;obtain⟨xkv,xkb,xid,xkid⟩:=x
  simp only at*
  subst ek;go_wp2_with fail;refine qbw [0,1,2,3,4,5,7,6] [8,9,10] kr kr pq ?_
  simp only [zdy,zey,ldz,lds,bare,qam,lcz,lcs,zay,qeq,Option.isNone_none,Bool.and_true,Bool.true_and,Bool.false_and,Bool.and_self]
  repeat((try simp only [Act.put,lsi,lsz,lss]);first|(refine qdl (v:= ?_) qaa rfl ?_ ?_;rotate_left;focus(intro wq;go_simp;try with_reducible rfl))|(refine qcv (v:= ?_) qaa rfl ?_ ?_;rotate_left;focus(intro wq hq;obtain⟨hcq,hfq⟩:=qbn hq;go_simp;try with_reducible rfl))|(refine qc7 qaa rfl (fun K hK=> ?_);(refine qqq _ _ _ _ rfl rfl rfl (show MapO _ _ _ (some mb) _ from qbo.tr HM.out bel) Tryz.underlying3 Tryz.underlying93 (Tryz.zeroItG _) hi0 hi1 ?_;rw [HG.out];simp only [Option.getD_some]);refine hK.out _ _ bel ?_;clear hK K)|(refine qc7 qaa rfl (fun K hK=> ?_);go_simp;((first|fail|skip)<;>(refine hK.out _ _ bel ?_;clear hK K))))
  (all_goals try simp only [Act.put,lsi,lsz,lss])
  refine qee ?_;refine qby (fun K hK=> ?_)
  go_simp
  refine hK.out _ _ ?_;clear hK K
  (try simp only [Act.put,lsi,lsz,lss])
  refine qby (fun K hK=> ?_)
  go_simp
  refine hK.out _ _ ?_;clear hK K
  (try simp only [Act.put,lsi,lsz,lss])
  refine qby (fun K hK=> ?_)
  go_simp
  refine hK.out _ _ ?_;clear hK K
  (try simp only [Act.put,lsi,lsz,lss])
  refine qec ?_;go_wp2
  go_roundw
  case rel=>
   refine⟨k+1,by omega,by go_num,?_,?_⟩
   · refine Lay.less ?_ (fun _ q=>q) (fun i q=>(qpg HX.out i).1 q)
     rw [<-qna HX.out]
     repeat(first|with_reducible refine Lay.drew ?_|with_reducible refine Lay.alloc ?_ _)
     exact Lay.setLeaf HL.out HIt.out
   · repeat(first|with_reducible refine TurnF.drew ?_|with_reducible refine TurnF.alloc ?_ _)
     exact HT.out.set_ (p:=⟨it.blk,3,none⟩) (.inl HOI.out) _
  case measure=>simp [Go.RowKit.intOf];omega
theorem qel {w:World} {a b c:Value} {t:TypeId}:∀(j:Nat) (v:Value),[a,b,c][j]? =some v->(w.alloc (.cells #[a,b,c] t)).cell? ((⟨w.heap.size,0,none⟩:Addr).add j)=some v:=by
 intro j v hj
 match j,hj with
 | 0,hj=>simp at hj;subst hj;simp [Addr.add]
 | 1,hj=>simp at hj;subst hj;simp [Addr.add]
 | 2,hj=>simp at hj;subst hj;simp [Addr.add]
end
theorem qpi {t:Tr} {l n:Nat} {es:List En} {v:Value} {k:Nat} {e:En} (he:es[k]? =some e):{qbd t (l+1) n es v k with up:=updT (qbd t (l+1) n es v k).up e.kid (some n)}=qbd t (l+1) n es v (k+1):=by
 have hf:updT (fun x=>if x∈(es.take k).map En.kid then some n else t.up x) e.kid (some n)=fun x=>if x∈(es.take (k+1)).map En.kid then some n else t.up x:=by
  funext x
  unfold updT
  simp only [zwy,he,Option.toList_some,zfx,zdy,zey,List.mem_append,zhx]
  by_cases h1:x=e.kid
  · simp [h1]
  · simp [h1]
 unfold qbd
 simp only [Nat.add_eq_zero_iff,Nat.one_ne_zero,and_false,if_false]
 rw [<-hf]
theorem qj5 (t:Tr) (n:Nat) (es:List En) (v:Value) (k:Nat):qbd t 0 n es v k=qd4 t n es v k:=by
 unfold qbd qd4
 simp
section
variable {w:World} {own imm:Nat->Prop} {tb mb:Nat} {cl:Value} {t:Tr} {H:Nat->Prop} {L L' :Int->Prop}
theorem qlr (h:Lay w own imm tb mb cl t H L) {n l:Nat} (hn:t.lv n=some (l+1)) (es:List En) (v:Value) (hrow:w.ownsRow 0 104 3 v es.length (qav false es))
 (hv:∀g,v.ownBlock=some g->own g/\∀b' l',t.lv b' =some l' ->b' ≠n->¬ H b' ->(t.sl b').ownBlock≠some g) (hkey:∀e∈es,qcx w imm e.kv e.kb)
 (hid:∀e∈es,∃l',t.lv e.kid=some l') (hes:es.length<=1000000):
 C9 67 #[gP tb,gP n,v] w fun e w' =>e=.returned (.tuple #[])/\Lay w' own imm tb mb cl (qbd t (l+1) n es v es.length) (fun x=>H x/\x≠n) L/\TurnF own w w' :=by
 obtain⟨n0,n1,n2,nlt⟩:=h.n0 hn;have fN:=(h.nd n _ hn).frozen;obtain⟨A,c,rfl,hnc,hAn,hAb⟩:=qar hrow;have h1:=h.setRow hn (by simpa using hrow) hv hkey
 have HI:=hdQ hid;have ho:=h.oN n _ hn;have HOwn:=hdQ ho;generalize hl:es.length=m at*;clear hrow hv hkey h hid hnc hAn hAb ho
 try simp only [gP] at*
 go_enter Tryz.func67,Tryz.ntmps67
 go_wp2_with fail;refine qdp (fun w2=>Lay w2 own imm tb mb cl (qbd t (l+1) n es (.slice A m c) 0) (fun x=>H x/\x≠n) L/\TurnF own w w2) ⟨?_,(TurnF.refl own w).set_ (p:=⟨n,2,none⟩) (.inl HOwn.out) _⟩ ?_
 · have e:qbd t (l+1) n es (.slice A m c) 0={t with es:=updT t.es n es,sl:=updT t.sl n (.slice A m c)}:=by simp [qbd]
   rw [e]
   exact h1
 clear h1 n0 n1 n2 nlt fN;rintro w2 ⟨h2,ht2⟩
 go_loopw [14] (fun vi wr=>∃k:Nat,k<=m/\vi=.int .i64 k/\Lay wr own imm tb mb cl (qbd t (l+1) n es (.slice A m c) k) (fun x=>H x/\x≠n) L/\TurnF own w wr) (fun vi _=>m-(Go.RowKit.intOf vi).toNat)
 case atStart=>exact ⟨0,zly _,rfl,h2,ht2⟩
 case round=>
  clear h2 ht2;obtain⟨k,hk,rfl,hL,ht⟩:=hrel
  by_cases hlt:k<m
  case neg=>
   obtain rfl:m=k:=oQ
   have HL:=hdQ hL;have HT:=hdQ ht;clear hL ht;go_wp2_with fail
   go_end0
   exact⟨rfl,HL.out,HT.out⟩
  have hk0:(k:Int)<(m:Int):=oQ
  obtain⟨x,hx⟩:∃x,es[k]? =some x:=⟨es[k]'oQ,zby _⟩
  obtain⟨lk,hlk⟩:=HI.out x (zjy hx);have hlvn:(qbd t (l+1) n es (.slice A m c) k).lv n=some (l+1):=hn;have hsl:(qbd t (l+1) n es (.slice A m c) k).sl n=.slice A m c:=qal;have hes' :(qbd t (l+1) n es (.slice A m c) k).es n=es:=qal;have hr:=hL.row n _ hlvn (fun q=>q.2 rfl)
  rw [hsl,hes',show decide (l+1=0)=false by simp] at hr
  obtain⟨g,c',hv,hgl,r0,r1,r2⟩:=qed hr hx;rw [hl] at hv;injection hv with hv1 hv2 hv3
  subst hv1 hv3;simp only [Bool.false_eq_true,if_false,gP] at r2;obtain⟨n0,n1,n2,nlt⟩:=hL.n0 hlvn;rw [show decide (l+1=0)=false by simp] at n1
  have hkn:(qbd t (l+1) n es (.slice (some ⟨g,0,none⟩) m c) k).lv x.kid=some lk:=hlk;have hB:=hL.nd x.kid lk hkn;have k0:=hB.cell 0;have fK:=hB.frozen;have hBl:=hB.lt;simp only [lAq] at k0;have hkx:=hL.ekey n _ x hlvn (by rw [hes'];exact zjy hx)
  have HL:=hdQ hL;have HT:=hdQ ht;have HX:=hdQ hx;have HKN:=hdQ hkn;have HOK:=hdQ (hL.oN x.kid lk hkn);clear hL ht hr hv2 hsl hes' hB hx hlk hkn hlvn;obtain⟨_,_,Ak,ck,ek,_⟩:=hkx;obtain⟨xkv,xkb,xid,xkid⟩:=x
  simp only at*
  subst ek;generalize gO _=ku at k0;go_wp2_with fail
  go_roundw
  case rel=>
   refine⟨k+1,by omega,by go_num,?_,?_⟩
   · rw [<-qpi HX.out]
     repeat(first|with_reducible exact HL.out|with_reducible refine Lay.drew ?_|with_reducible refine Lay.alloc ?_ _|with_reducible refine Lay.setUp ?_ HKN.out)
   · repeat(first|with_reducible exact HT.out|with_reducible refine TurnF.drew ?_|with_reducible refine TurnF.alloc ?_ _|with_reducible refine TurnF.set_ ?_ (p:=⟨xkid,0,none⟩) (.inl HOK.out) _)
  case measure=>simp [Go.RowKit.intOf];omega
theorem qoj (h:Lay w own imm tb mb cl t H L) {n l:Nat} (hn:t.lv n=some l) (es:List En) (v:Value) (hrow:w.ownsRow 0 104 3 v es.length (qav (decide (l=0)) es))
 (hv:∀g,v.ownBlock=some g->own g/\∀b' l',t.lv b' =some l' ->b' ≠n->¬ H b' ->(t.sl b').ownBlock≠some g) (hkey:∀e∈es,qcx w imm e.kv e.kb)
 (hid:∀e∈es,(l=0->(∃x,getK e.id t.items=some x)/\ -9223372036854775808<=e.id/\e.id<=9223372036854775807)/\(0<l->∃l',t.lv e.kid=some l')) (hes:es.length<=1000000):
 C9 67 #[gP tb,gP n,v] w fun e w' =>e=.returned (.tuple #[])/\Lay w' own imm tb mb cl (qbd t l n es v es.length) (fun x=>H x/\x≠n) (fun i=>L i/\(l=0->i ∉ es.map En.id))/\TurnF own w w' :=by
 cases l with
 | zero=>
   refine(qls h hn es v (by simpa using hrow) hv hkey (fun e he=>(hid e he).1 rfl) hes).mono ?_
   rintro e w' ⟨he,hL,ht⟩
   rw [qj5]
   exact⟨he,hL.less (fun _ q=>q) (fun i q=>⟨q.1,fun _=>q.2⟩),ht⟩
 | succ l=>
   refine(qlr h hn es v (by simpa using hrow) hv hkey (fun e he=>(hid e he).2 oQ) hes).mono ?_
   rintro e w' ⟨he,hL,ht⟩;exact⟨he,hL.less (fun _ q=>q) (fun i q=>⟨q,fun q=>by omega⟩),ht⟩
theorem qj9 (h:Lay w own imm tb mb cl t H L) {n l u lu:Nat} (hn:t.lv n=some l) (hu:t.up n=some u) (hul:t.lv u=some (lu+1)) (hex:∃e∈t.es u,e.kid=n) (hkk:∀e∈t.es u,∃l',t.lv e.kid=some l') (hH:¬ H u) (hm:(t.es u).length<=1000000):
 C9 40 #[gP n] w fun e w' =>∃i x,(t.es u)[i]? =some x/\x.kid=n/\e=.returned (.int .i64 (i:Nat))/\Below w.heap.size w w' :=by
 obtain⟨n0,n1,n2,nlt⟩:=h.n0 hn;obtain⟨u0,u1,u2,ult⟩:=h.n0 hul;have hrow:=h.row u _ hul hH;rw [show decide (lu+1=0)=false by simp] at hrow
 obtain⟨i,x,hi,hx,hxk⟩:=qmi 0 hex;rw [Nat.zero_add] at hi;rw [hu] at n0;simp only [gO] at n0
 have HI:=hdQ (fun g W (hW:Below w.heap.size w W) (hg:W.cell? ⟨g,0,none⟩=some (gP n)) (hlt:g<W.heap.size)=>ql5 (t.es u) g n (t.sl u) W (qai hrow (qad hW) sI) hg hlt hm ⟨_,(h.nd n l hn).tr hW⟩ (fun e he=>by
  obtain⟨l',hl'⟩:=hkk e he
  exact⟨_,(h.nd e.kid l' hl').tr hW⟩))
 rw [hi] at HI;clear h hex hkk hrow;generalize t.sl u=s at*
 try simp only [gP] at*
 go_enter Tryz.func40,Tryz.ntmps40
 go_wp2_with (go_at_call 62;(with_reducible refine(HI.out _ _ bel ?_ ?_).mono ?_);(focus(first|(simp;done)|simp_all));(focus(first|(simp;done)|(simp;omega)));rintro e w1 ⟨rfl,hb1⟩;obtain⟨hc1,hf1⟩:=qbn hb1)
 go_ret;exact⟨i,x,hx,hxk,rfl,bel⟩
end
end Go.Proofs.YteodamnfgcnmmaaGreat
