/-gist-/
import Derived.Test.YtjopdlmbgidigaaGreatAGisB
set_option linter.unusedVariables false
set_option linter.unusedSimpArgs false
set_option maxHeartbeats 4000000
set_option maxRecDepth 20000
namespace Go.Proofs.YtjopdlmbgidigaaGreat
open Go Go.RowKit Pg
def entG (x:It) (id:Int):En:=⟨x.kv,x.kb,id,0⟩
def qcs (t:Tr) (n:Nat) (es:List En) (v:Value) (k:Nat):Tr:={t with es:=updT t.es n es,sl:=updT t.sl n v,leaf:=fun i=>if i∈(es.take k).map En.id then n else t.leaf i}
theorem qsm {t:Tr} {n:Nat} {es:List En} {v:Value} {k:Nat} {e:En} (he:es[k]? =some e):{qcs t n es v k with leaf:=updT (qcs t n es v k).leaf e.id n}=qcs t n es v (k+1):=by
 have hf:updT (fun i=>if i∈(es.take k).map En.id then n else t.leaf i) e.id n=fun i=>if i∈(es.take (k+1)).map En.id then n else t.leaf i:=by
  funext i
  unfold updT
  simp only [zwy,he,Option.toList_some,zfx,zdy,zey,List.mem_append,zhx]
  by_cases h1:i=e.id
  · simp [h1]
  · simp [h1]
 unfold qcs
 rw [<-hf]
theorem qwc {L:Int->Prop} {es:List En} {k:Nat} {e:En} (he:es[k]? =some e) (i:Int):((L i/\i ∉ (es.take k).map En.id)/\i≠e.id)↔(L i/\i ∉ (es.take (k+1)).map En.id):=by
 simp only [zwy,he,Option.toList_some,zfx,zdy,zey,List.mem_append,zhx,not_or]
 constructor
 · rintro⟨⟨h1,h2⟩,h3⟩;exact⟨h1,h2,h3⟩
 · rintro⟨h1,h2,h3⟩;exact⟨⟨h1,h2⟩,h3⟩
section
variable {w:World} {own imm:Nat->Prop} {tb mb:Nat} {cl:Value} {t:Tr} {H:Nat->Prop} {L:Int->Prop}
theorem qdn {id:Int} {x:It} (h:getK id t.items=some x):getK id (t.items.map fun p=>(p.1,gP p.2.blk))=some (gP x.blk):=by
 have:∀m:List (Int×It),getK id (m.map fun p=>(p.1,gP p.2.blk))=(getK id m).map fun y=>gP y.blk:=by
  intro m
  induction m with
  | nil=>rfl
  | cons p r ih=>
    rw [zdy,qgi,qgi,ih]
    split<;>rfl
 rw [this,h]
 rfl
theorem qg1 {id:Int} (h:getK id t.items=none):getK id (t.items.map fun p=>(p.1,gP p.2.blk))=none:=by
 have:∀m:List (Int×It),getK id (m.map fun p=>(p.1,gP p.2.blk))=(getK id m).map fun y=>gP y.blk:=by
  intro m
  induction m with
  | nil=>rfl
  | cons p r ih=>
    rw [zdy,qgi,qgi,ih]
    split<;>rfl
 rw [this,h]
 rfl
theorem Tryz.zeroItG (w:World):(zeroValue 89).run Tryz.prog w=.ok (.pointer none) w:=by kernel_rfl
theorem qkj (h:Lay w own imm tb mb cl t H L) {n:Nat} (hn:t.lv n=some 0) (es:List En) (v:Value) (hrow:w.ownsRow 0 84 3 v es.length (qaq true es))
 (hv:∀g,v.ownBlock=some g->own g/\∀b' l',t.lv b' =some l' ->b' ≠n->¬ H b' ->(t.sl b').ownBlock≠some g) (hkey:∀e∈es,qdz w imm e.kv e.kb)
 (hid:∀e∈es,(∃x,getK e.id t.items=some x)/\ -9223372036854775808<=e.id/\e.id<=9223372036854775807) (hes:es.length<=1000000):
 C9 80 #[gP tb,gP n,v] w fun e w' =>e=.returned (.tuple #[])/\Lay w' own imm tb mb cl (qcs t n es v es.length) (fun x=>H x/\x≠n) (fun i=>L i/\i ∉ es.map En.id)/\TurnF own w w' :=by
 obtain⟨n0,n1,n2,nlt⟩:=h.n0 hn;have fN:=(h.nd n 0 hn).frozen;obtain⟨A,c,rfl,hnc,hAn,hAb⟩:=qat hrow;have h1:=h.setRow hn hrow hv hkey;have HI:=hdQ hid;have ho:=h.oN n 0 hn;have HOwn:=hdQ ho;generalize hl:es.length=m at*;clear hrow hv hkey h hid hnc hAn hAb ho
 try simp only [gP] at*
 go_enter Tryz.func80,Tryz.ntmps80
 go_wp2_with fail;refine qdt (fun w2=>Lay w2 own imm tb mb cl (qcs t n es (.slice A m c) 0) (fun x=>H x/\x≠n) (fun i=>L i/\i ∉ (es.take 0).map En.id)/\TurnF own w w2) ⟨?_,(TurnF.refl own w).set_ (p:=⟨n,2,none⟩) (.inl HOwn.out) _⟩ ?_
 · have e:qcs t n es (.slice A m c) 0={t with es:=updT t.es n es,sl:=updT t.sl n (.slice A m c)}:=by simp [qcs]
   rw [e]
   exact h1.less (fun _ q=>q) (fun i q=>⟨q,by simp⟩)
 clear h1 n0 n1 n2 nlt fN;rintro w2 ⟨h2,ht2⟩
 go_loopw [14] (fun vi wr=>∃k:Nat,k<=m/\vi=.int .i64 k/\Lay wr own imm tb mb cl (qcs t n es (.slice A m c) k) (fun x=>H x/\x≠n) (fun i=>L i/\i ∉ (es.take k).map En.id)/\TurnF own w wr) (fun vi _=>m-(Go.RowKit.intOf vi).toNat)
 case atStart=>exact ⟨0,zly _,rfl,h2,ht2⟩
 case round=>
  clear h2 ht2;obtain⟨k,hk,rfl,hL,ht⟩:=hrel
  by_cases hlt:k<m
  case neg=>
   obtain rfl:m=k:=oQ
   have HL:=hdQ hL;have HT:=hdQ ht;clear hL ht;go_wp2_with fail
   go_end0
   have hx:Lay _ own imm tb mb cl _ _ _:=HL.out;refine⟨rfl,?_,HT.out⟩;refine hx.less (fun _ q=>q) fun i q=> ?_
   rw [zmy oQ] at q
   exact q
  have hk0:(k:Int)<(m:Int):=oQ
  obtain⟨x,hx⟩:∃x,es[k]? =some x:=⟨es[k]'oQ,zby _⟩
  obtain⟨⟨it,hit⟩,hi0,hi1⟩:=HI.out x (zjy hx);have hsl:(qcs t n es (.slice A m c) k).sl n=.slice A m c:=qah;have hes' :(qcs t n es (.slice A m c) k).es n=es:=qah;have hr:=hL.row n 0 hn (fun q=>q.2 rfl)
  rw [hsl,hes'] at hr;obtain⟨g,c',hv,hgl,r0,r1,r2⟩:=qcx hr hx;rw [hl] at hv;injection hv with hv1 hv2 hv3
  subst hv1 hv3;simp only [decide_true,if_true] at r2;obtain⟨t0,t1,t2,t3,tlt⟩:=hL.c0;obtain⟨n0,n1,n2,nlt⟩:=hL.n0 hn;obtain⟨z,hB,_⟩:=hL.it x.id it hit;have hm:=hL.mp;have hg2:getK x.id ((qcs t n es (.slice (some ⟨g,0,none⟩) m c) k).items.map fun p=>(p.1,gP p.2.blk))=some (gP it.blk):=qdn hit
  have hkx:=hL.ekey n 0 x hn (by rw [hes'];exact zjy hx)
  have hsz:=ht.size;have i3:=hB.cell 3;simp only [lAq] at i3;have hBl:=hB.lt;have fI:=hB.frozen;have HL:=hdQ hL;have HT:=hdQ ht;have HX:=hdQ hx;have HM:=hdQ hm;have HIt:=hdQ hit;have HG:=hdQ hg2;have HOI:=hdQ (hL.oI x.id it hit);clear hL ht hr hv2 hsl hes' hB hm hx hit hg2;obtain⟨_,_,Ak,ck,ek,_⟩:=hkx;obtain⟨xkv,xkb,xid,xkid⟩:=x
  simp only at*
  subst ek;go_wp2_with fail;refine qay [0,1,2,3,4,5,7,6] [8,9,10] kr kr pq ?_
  simp only [zdy,zey,ldz,lds,bare,qal,lcz,lcs,zay,qdr,Option.isNone_none,Bool.and_true,Bool.true_and,Bool.false_and,Bool.and_self]
  repeat((try simp only [Act.put,lsi,lsz,lss]);first|(refine qbo (v:= ?_) qaa rfl ?_ ?_;rotate_left;focus(intro wq;go_simp;try with_reducible rfl))|(refine qbf (v:= ?_) qaa rfl ?_ ?_;rotate_left;focus(intro wq hq;obtain⟨hcq,hfq⟩:=qbb hq;go_simp;try with_reducible rfl))|(refine qbh qaa rfl (fun K hK=> ?_);(refine qe8 _ _ _ _ rfl rfl rfl (show MapO _ _ _ (some mb) _ from qbj.tr HM.out bel) Tryz.underlying3 Tryz.underlying75 (Tryz.zeroItG _) hi0 hi1 ?_;rw [HG.out];simp only [Option.getD_some]);refine hK.out _ _ bel ?_;clear hK K)|(refine qbh qaa rfl (fun K hK=> ?_);go_simp;((first|fail|skip)<;>(refine hK.out _ _ bel ?_;clear hK K))))
  (all_goals try simp only [Act.put,lsi,lsz,lss])
  refine qb6 ?_;refine qas (fun K hK=> ?_)
  go_simp
  refine hK.out _ _ ?_;clear hK K
  (try simp only [Act.put,lsi,lsz,lss])
  refine qas (fun K hK=> ?_)
  go_simp
  refine hK.out _ _ ?_;clear hK K
  (try simp only [Act.put,lsi,lsz,lss])
  refine qas (fun K hK=> ?_)
  go_simp
  refine hK.out _ _ ?_;clear hK K
  (try simp only [Act.put,lsi,lsz,lss])
  refine qb5 ?_;go_wp2
  go_roundw
  case rel=>
   refine⟨k+1,by omega,by go_num,?_,?_⟩
   · refine Lay.less ?_ (fun _ q=>q) (fun i q=>(qwc HX.out i).1 q)
     rw [<-qsm HX.out]
     repeat(first|with_reducible refine Lay.drew ?_|with_reducible refine Lay.alloc ?_ _)
     exact Lay.setLeaf HL.out HIt.out
   · repeat(first|with_reducible refine TurnF.drew ?_|with_reducible refine TurnF.alloc ?_ _)
     exact HT.out.set_ (p:=⟨it.blk,3,none⟩) (.inl HOI.out) _
  case measure=>simp [Go.RowKit.intOf];omega
theorem qno (h:Lay w own imm tb mb cl t H L) (hr:t.lv t.root=some 0) (A:Option Addr) (n c:Nat):C9 79 #[gP tb,.slice A n c] w (Ret w (gP t.root)):=by
 obtain⟨t0,t1,t2,t3,tlt⟩:=h.c0;obtain⟨n0,n1,n2,nlt⟩:=h.n0 hr;simp only [decide_true] at n1;clear h
 try simp only [gP] at*
 go_enter Tryz.func79,Tryz.ntmps79
 go_wp2;refine wp_loop_rounds 1 ?_
 rw [rounds_succ]
 go_wp2;go_ret;exact⟨rfl,bel⟩
theorem qhh (h:Lay w own imm tb mb cl t H L) {n l:Nat} (hn:t.lv n=some l) (hu:t.up n=none):C9 81 #[gP tb,gP n] w (Ret w (.tuple #[])):=by
 obtain⟨n0,n1,n2,nlt⟩:=h.n0 hn;rw [hu] at n0;simp only [gO] at n0;clear h
 try simp only [gP] at*
 go_enter Tryz.func81,Tryz.ntmps81
 go_wp2;refine wp_loop_rounds 1 ?_
 rw [rounds_succ]
 go_wp2
 go_end0
 exact⟨rfl,bel⟩
theorem qng (h:Lay w own imm tb mb cl t H L) {n l:Nat} (hn:t.lv n=some l) (hu:t.up n=none) (hH:¬ H n) (hf:(t.es n).length<=t.fan):C9 82 #[gP tb,gP n] w (Ret w (.tuple #[])):=by
 obtain⟨t0,t1,t2,t3,tlt⟩:=h.c0;obtain⟨n0,n1,n2,nlt⟩:=h.n0 hn;have HR:=hdQ (fun W (hW:Below w.heap.size w W)=>qhh (h.tr hW) hn hu)
 obtain⟨A,c,hs,_⟩:=qat (h.row n l hn hH);rw [hs] at n2;have hf' :¬ ((t.fan:Nat):Int)<(((t.es n).length:Nat):Int):=oQ
 rw [hu] at n0;simp only [gO] at n0;clear h hs;generalize (t.es n).length=m at*;generalize t.fan=f at*
 try simp only [gP] at*
 go_enter Tryz.func82,Tryz.ntmps82
 go_wp2;refine wp_loop_rounds 1 ?_
 rw [rounds_succ]
 go_wp2_with fail;refine qac kr kr pq ?_
 simp only [zdy,zey,ldz,lds,bare,qal,lcz,lcs,zay]
 repeat' ((try simp only [Act.put,lsi,lsz,lss]);first|(refine lqx ?_)|(refine qab qaa rfl (fun K hK=> ?_);go_simp;((first|fail|skip)<;>(refine hK.out _ _ bel ?_;clear hK K))))
 (all_goals try simp only [Act.put,lsi,lsz,lss]);all_goals(refine qaf ?_)
 go_wp2_with (go_at_call 81;(with_reducible refine(HR.out _ bel).monoR ?_);rintro w1 hb1 hc1 hf1 hz1;(try simp at hz1))
 go_end0
 exact⟨rfl,bel⟩
theorem qf5 {w:World} {a b c:Value} {t:TypeId}:∀(j:Nat) (v:Value),[a,b,c][j]? =some v->(w.alloc (.cells #[a,b,c] t)).cell? ((⟨w.heap.size,0,none⟩:Addr).add j)=some v:=by
 intro j v hj
 match j,hj with
 | 0,hj=>simp at hj;subst hj;simp [Addr.add]
 | 1,hj=>simp at hj;subst hj;simp [Addr.add]
 | 2,hj=>simp at hj;subst hj;simp [Addr.add]
theorem quk (h:Lay w own imm tb mb cl t (fun _=>False) L) (hr:t.lv t.root=some 0) (hup:t.up t.root=none) (hroom:(t.es t.root).length<t.fan) (hfan:t.fan<=1000) {id:Int} {x:It} (hx:getK id t.items=some x)
 (h0: -9223372036854775808<=id) (h1:id<=9223372036854775807) (hids:∀e∈t.es t.root,(∃x,getK e.id t.items=some x)/\ -9223372036854775808<=e.id/\e.id<=9223372036854775807):
 C9 50 #[gP tb,.int .i64 id] w fun e w' =>e=.returned (.tuple #[])/\∃v own',Lay w' own' imm tb mb cl (qcs t t.root (t.es t.root++ [entG x id]) v (t.es t.root++ [entG x id]).length) (fun _=>False) (fun i=>L i/\i ∉ (t.es t.root++ [entG x id]).map En.id)/\Grow w w' own imm own' imm:=by
 obtain⟨i0,hi,iz0,iz1,iz2⟩:=info_parts Tryz.infoEnG;obtain⟨t0,t1,t2,t3,tlt⟩:=h.c0;obtain⟨n0,n1,n2,nlt⟩:=h.n0 hr;obtain⟨z,hB,_⟩:=h.it id x hx;have x2:=hB.cell 2;simp only [lAq] at x2;have hBl:=hB.lt;have hk:=(h.ikey id x hx).1;obtain⟨_,_,Ak,ck,ek,_,_,_⟩:=hk;have HG:=hdQ (qdn hx);have HM:=hdQ h.mp;have hrow:=h.row t.root 0 hr (fun q=>q)
 simp only [decide_true] at hrow;obtain⟨A,c,hs,hnc,hAn,hAb⟩:=qat hrow;have HROW:=hdQ (fun W (hW:Below w.heap.size w W)=>qak hrow (qad hW) sI)
 have HCh:=hdQ (fun W (hW:Below w.heap.size w W) A n c=>qno (h.tr hW) hr A n c)
 -- take,behind the append
 have HTk:Hid (∀(W:World) (w1:World) (v:Value),Below w.heap.size w W->w1.ownsRow 0 84 3 v ((t.es t.root).length+1) (qaq true (t.es t.root)++ [x.kv,.int .i64 id,.pointer none])->W.grownBy w1 (t.sl t.root).ownBlock->(v.ownBlock=(t.sl t.root).ownBlock\/v.ownBlock=some W.heap.size)->
  C9 80 #[gP tb,gP t.root,v] w1 fun e w' =>e=.returned (.tuple #[])/\∃own',Lay w' own' imm tb mb cl (qcs t t.root (t.es t.root++ [entG x id]) v (t.es t.root++ [entG x id]).length) (fun _=>False) (fun i=>L i/\i ∉ (t.es t.root++ [entG x id]).map En.id)/\Grow w w' own imm own' imm):=fun W w1 v hW hv hg hwh=>by
  have hLW:=h.tr hW;have hsz:=hW.size;have hL1:=hLW.rowLost hr (fun q=>q) hg
  have hlim:=h.lim
  have hL2:Lay w1 (fun k=>own k\/v.ownBlock=some k) imm tb mb cl t (fun b=>False\/b=t.root) L:=by
   refine hL1.more (fun b q=> .inl q) (fun _ q=>q) ?_ ?_
   · intro b hb hi
     rcases hb with q|q
     · exact h.sep b q hi
     · rcases hwh with e|e
       · rw [e] at q
         exact h.sep b (h.oR t.root 0 b hr (fun q=>q) q) hi
       · rw [e] at q
         cases q
         have:=hlim _ (.inr hi)
         omega
   · intro b hb
     rcases hb with (q|q)|q
     · exact hL1.lim b (.inl q)
     · exact(hv.lt b q).2
     · exact hL1.lim b (.inr q)
  have hlen:(t.es t.root++ [entG x id]).length=(t.es t.root).length+1:=sI
  refine(qkj hL2 hr (t.es t.root++ [entG x id]) v (by rw [hlen,qcr];exact hv) ?_ ?_ ?_ (by rw [hlen];omega)).mono ?_
  · intro g hg'
    refine⟨.inr hg',fun b' l' hb' hne hH q=> ?_⟩
    rcases hwh with e|e
    · rw [e] at hg'
      exact hne (h.apR b' t.root l' 0 g hb' hr (fun q=>q) (fun q=>q) q hg')
    · rw [e] at hg'
      cases hg'
      have:=(hLW.row b' l' hb' (fun q=>q)).lt _ q
      omega
  · intro e he
    rcases List.mem_append.1 he with q|q
    · exact hL1.ekey t.root 0 e hr q
    · rw [zhx.1 q]
      exact(hL1.ikey id x hx).1
  · intro e he
    rcases List.mem_append.1 he with q|q
    · exact hids e q
    · rw [zhx.1 q]
      exact⟨⟨x,hx⟩,h0,h1⟩
  · rintro e w' ⟨rfl,hL',ht'⟩
    refine⟨rfl,_,hL'.less (fun b q=> ?_) (fun _ q=>q),?_⟩
    · rcases q.1 with q1|q1
      · exact q1
      · exact q.2 q1
    · have ht1:TurnF own w w1:=((TurnF.refl own w).below hW).grown hg (fun k e=> .inl (h.oR t.root 0 k hr (fun q=>q) e))
      have hsz1:=ht1.size
      have hoo:∀b,(own b\/v.ownBlock=some b)->own b\/w.heap.size<=b:=fun b q=>by
       rcases q with q|q
       · exact .inl q
       · rcases hwh with e|e
         · rw [e] at q
           exact .inl (h.oR t.root 0 b hr (fun q=>q) q)
         · rw [e] at q
           cases q
           exact .inr hsz
      exact⟨ht1.trans ht' hoo,hoo,fun b q=> .inl q,fun b q=> .inl q,fun b q=>q⟩
 have HRf:=hdQ (fun W own' v (hL:Lay W own' imm tb mb cl (qcs t t.root (t.es t.root++ [entG x id]) v (t.es t.root++ [entG x id]).length) (fun _=>False) (fun i=>L i/\i ∉ (t.es t.root++ [entG x id]).map En.id))=>qhh hL hr hup)
 have HSp:=hdQ (fun W own' v (hL:Lay W own' imm tb mb cl (qcs t t.root (t.es t.root++ [entG x id]) v (t.es t.root++ [entG x id]).length) (fun _=>False) (fun i=>L i/\i ∉ (t.es t.root++ [entG x id]).map En.id))=>qng hL hr hup (fun q=>q) (by
  show ((updT t.es t.root _) t.root).length<=t.fan
  rw [qah]
  simp
  omega))
 rw [ek] at x2 HTk;clear h hB hrow hids ek;generalize (t.es t.root).length=m at*;generalize qaq true (t.es t.root)=cells at*;generalize hts:t.sl t.root=ts at*;subst hs;generalize htr:t.root=tr at*;obtain⟨xblk,xob,xov,xkv,xkb⟩:=x
 simp only at*
 try simp only [gP] at*
 go_enter Tryz.func50,Tryz.ntmps50
 go_wp2_with (first|(at_lookup;go_must (refine qd0 _ rfl _ _ _ rfl rfl rfl (show MapO _ _ _ (some mb) _ from qbj.tr HM.out bel) Tryz.underlying3 Tryz.underlying75 (Tryz.zeroItG _) h0 h1 ?_;rw [HG.out];simp only [Option.getD_some]))|(go_at_call 79;(with_reducible refine(HCh.out _ bel _ _ _).monoR ?_);rintro w1 hb1 hc1 hf1 hz1;(try simp at hz1);have n2' :=(hc1 _ 2 nlt).trans n2;have x2' :=(hc1 _ 2 hBl).trans x2;have nlt1:=zky nlt hz1;have xlt1:=zky hBl hz1;clear n0 n1 n2 x2 t0 t1 t2 t3 tlt hc1 hf1))
 refine qay [0,1,2,3,4,5,6,7,8,9,10,11,12] [13,14] kr kr pq ?_
 simp only [zdy,zey,ldz,lds,bare,qal,lcz,lcs,zay,qdr,Option.isNone_none,Bool.and_true,Bool.true_and,Bool.false_and,Bool.and_self]
 repeat((try simp only [Act.put,lsi,lsz,lss]);first|(refine qbo (v:= ?_) qaa rfl ?_ ?_;rotate_left;focus(intro wq;go_simp;try with_reducible rfl))|(refine qbf (v:= ?_) qaa rfl ?_ ?_;rotate_left;focus(intro wq hq;obtain⟨hcq,hfq⟩:=qbb hq;go_simp;try with_reducible rfl))|(refine qbh qaa rfl (fun K hK=> ?_);go_simp;((first|fail|skip)<;>(refine hK.out _ _ bel ?_;clear hK K))))
 (all_goals try simp only [Act.put,lsi,lsz,lss])
 refine qb6 ?_;refine qas (fun K hK=> ?_)
 (refine qc0 _ _ _ 72 rfl 84 i0 (.agg #[.slice none 0 0,.int .i64 0,.pointer none]) 3 40 Tryz.underlying72 hi iz0 iz1 iz2 rfl dE (.slice A m c) m cells rfl (HROW.out _ bel) ⟨w1.heap.size,0,none⟩ 1 1 [.slice Ak xkb.length ck,.int .i64 id,.pointer none] rfl rfl ?_ ?_ ?_ ?_ ?_ ?_);(focus(exact qf5));(focus(simp [Value.oneCell']));(focus(unfold maxLen;omega));(focus omega);(focus(decide));intro v' w3 hown' hgrow hwh
 refine hK.out _ _ ?_;clear hK K
 (try simp only [Act.put,lsi,lsz,lss])
 refine qas (fun K hK=> ?_)
 go_simp
 go_at_call 80;(refine(HTk.out _ _ _ (show Below w.heap.size w ((w1.alloc (.cells #[.slice Ak xkb.length ck,.int .i64 id,.pointer none] 84)).drew) from bel) hown' hgrow hwh).mono ?_);rintro e w5 ⟨rfl,own5,hL5,hg5⟩;have HL5:=hdQ hL5;clear hL5
 refine hK.out _ _ ?_;clear hK K
 (try simp only [Act.put,lsi,lsz,lss])
 refine qb5 ?_
 go_wp2_with (first|(go_at_call 81;(refine(HRf.out _ _ _ HL5.out).mono ?_);rintro e w6 ⟨rfl,hb6⟩;have HL6:=hdQ (HL5.out.tr hb6))|(go_at_call 82;(refine(HSp.out _ _ _ HL6.out).mono ?_);rintro e w7 ⟨rfl,hb7⟩;have HL7:=hdQ (HL6.out.tr hb7)))
 go_end0
 exact⟨rfl,_,_,HL7.out,hg5.trans ((Grow.of_below hb6).trans (Grow.of_below hb7))⟩
end
theorem qwe {t:Tr} {l n:Nat} {es:List En} {v:Value} {k:Nat} {e:En} (he:es[k]? =some e):{qbt t (l+1) n es v k with up:=updT (qbt t (l+1) n es v k).up e.kid (some n)}=qbt t (l+1) n es v (k+1):=by
 have hf:updT (fun x=>if x∈(es.take k).map En.kid then some n else t.up x) e.kid (some n)=fun x=>if x∈(es.take (k+1)).map En.kid then some n else t.up x:=by
  funext x
  unfold updT
  simp only [zwy,he,Option.toList_some,zfx,zdy,zey,List.mem_append,zhx]
  by_cases h1:x=e.kid
  · simp [h1]
  · simp [h1]
 unfold qbt
 simp only [Nat.add_eq_zero_iff,Nat.one_ne_zero,and_false,if_false]
 rw [<-hf]
theorem qnt (t:Tr) (n:Nat) (es:List En) (v:Value) (k:Nat):qbt t 0 n es v k=qcs t n es v k:=by
 unfold qbt qcs
 simp
section
variable {w:World} {own imm:Nat->Prop} {tb mb:Nat} {cl:Value} {t:Tr} {H:Nat->Prop} {L L' :Int->Prop}
theorem qqi (h:Lay w own imm tb mb cl t H L) {n l:Nat} (hn:t.lv n=some (l+1)) (es:List En) (v:Value) (hrow:w.ownsRow 0 84 3 v es.length (qaq false es))
 (hv:∀g,v.ownBlock=some g->own g/\∀b' l',t.lv b' =some l' ->b' ≠n->¬ H b' ->(t.sl b').ownBlock≠some g) (hkey:∀e∈es,qdz w imm e.kv e.kb)
 (hid:∀e∈es,∃l',t.lv e.kid=some l') (hes:es.length<=1000000):
 C9 80 #[gP tb,gP n,v] w fun e w' =>e=.returned (.tuple #[])/\Lay w' own imm tb mb cl (qbt t (l+1) n es v es.length) (fun x=>H x/\x≠n) L/\TurnF own w w' :=by
 obtain⟨n0,n1,n2,nlt⟩:=h.n0 hn;have fN:=(h.nd n _ hn).frozen;obtain⟨A,c,rfl,hnc,hAn,hAb⟩:=qat hrow;have h1:=h.setRow hn (by simpa using hrow) hv hkey
 have HI:=hdQ hid;have ho:=h.oN n _ hn;have HOwn:=hdQ ho;generalize hl:es.length=m at*;clear hrow hv hkey h hid hnc hAn hAb ho
 try simp only [gP] at*
 go_enter Tryz.func80,Tryz.ntmps80
 go_wp2_with fail;refine qdt (fun w2=>Lay w2 own imm tb mb cl (qbt t (l+1) n es (.slice A m c) 0) (fun x=>H x/\x≠n) L/\TurnF own w w2) ⟨?_,(TurnF.refl own w).set_ (p:=⟨n,2,none⟩) (.inl HOwn.out) _⟩ ?_
 · have e:qbt t (l+1) n es (.slice A m c) 0={t with es:=updT t.es n es,sl:=updT t.sl n (.slice A m c)}:=by simp [qbt]
   rw [e]
   exact h1
 clear h1 n0 n1 n2 nlt fN;rintro w2 ⟨h2,ht2⟩
 go_loopw [14] (fun vi wr=>∃k:Nat,k<=m/\vi=.int .i64 k/\Lay wr own imm tb mb cl (qbt t (l+1) n es (.slice A m c) k) (fun x=>H x/\x≠n) L/\TurnF own w wr) (fun vi _=>m-(Go.RowKit.intOf vi).toNat)
 case atStart=>exact ⟨0,zly _,rfl,h2,ht2⟩
 case round=>
  clear h2 ht2;obtain⟨k,hk,rfl,hL,ht⟩:=hrel
  by_cases hlt:k<m
  case neg=>
   obtain rfl:m=k:=oQ
   have HL:=hdQ hL;have HT:=hdQ ht;clear hL ht;go_wp2_with fail
   go_end0
   exact⟨rfl,HL.out,HT.out⟩
  have hk0:(k:Int)<(m:Int):=oQ
  obtain⟨x,hx⟩:∃x,es[k]? =some x:=⟨es[k]'oQ,zby _⟩
  obtain⟨lk,hlk⟩:=HI.out x (zjy hx);have hlvn:(qbt t (l+1) n es (.slice A m c) k).lv n=some (l+1):=hn;have hsl:(qbt t (l+1) n es (.slice A m c) k).sl n=.slice A m c:=qah;have hes' :(qbt t (l+1) n es (.slice A m c) k).es n=es:=qah;have hr:=hL.row n _ hlvn (fun q=>q.2 rfl)
  rw [hsl,hes',show decide (l+1=0)=false by simp] at hr
  obtain⟨g,c',hv,hgl,r0,r1,r2⟩:=qcx hr hx;rw [hl] at hv;injection hv with hv1 hv2 hv3
  subst hv1 hv3;simp only [Bool.false_eq_true,if_false,gP] at r2;obtain⟨n0,n1,n2,nlt⟩:=hL.n0 hlvn;rw [show decide (l+1=0)=false by simp] at n1
  have hkn:(qbt t (l+1) n es (.slice (some ⟨g,0,none⟩) m c) k).lv x.kid=some lk:=hlk;have hB:=hL.nd x.kid lk hkn;have k0:=hB.cell 0;have fK:=hB.frozen;have hBl:=hB.lt;simp only [lAq] at k0;have hkx:=hL.ekey n _ x hlvn (by rw [hes'];exact zjy hx)
  have HL:=hdQ hL;have HT:=hdQ ht;have HX:=hdQ hx;have HKN:=hdQ hkn;have HOK:=hdQ (hL.oN x.kid lk hkn);clear hL ht hr hv2 hsl hes' hB hx hlk hkn hlvn;obtain⟨_,_,Ak,ck,ek,_⟩:=hkx;obtain⟨xkv,xkb,xid,xkid⟩:=x
  simp only at*
  subst ek;generalize gO _=ku at k0;go_wp2_with fail
  go_roundw
  case rel=>
   refine⟨k+1,by omega,by go_num,?_,?_⟩
   · rw [<-qwe HX.out]
     repeat(first|with_reducible exact HL.out|with_reducible refine Lay.drew ?_|with_reducible refine Lay.alloc ?_ _|with_reducible refine Lay.setUp ?_ HKN.out)
   · repeat(first|with_reducible exact HT.out|with_reducible refine TurnF.drew ?_|with_reducible refine TurnF.alloc ?_ _|with_reducible refine TurnF.set_ ?_ (p:=⟨xkid,0,none⟩) (.inl HOK.out) _)
  case measure=>simp [Go.RowKit.intOf];omega
theorem qut (h:Lay w own imm tb mb cl t H L) {n l:Nat} (hn:t.lv n=some l) (es:List En) (v:Value) (hrow:w.ownsRow 0 84 3 v es.length (qaq (decide (l=0)) es))
 (hv:∀g,v.ownBlock=some g->own g/\∀b' l',t.lv b' =some l' ->b' ≠n->¬ H b' ->(t.sl b').ownBlock≠some g) (hkey:∀e∈es,qdz w imm e.kv e.kb)
 (hid:∀e∈es,(l=0->(∃x,getK e.id t.items=some x)/\ -9223372036854775808<=e.id/\e.id<=9223372036854775807)/\(0<l->∃l',t.lv e.kid=some l')) (hes:es.length<=1000000):
 C9 80 #[gP tb,gP n,v] w fun e w' =>e=.returned (.tuple #[])/\Lay w' own imm tb mb cl (qbt t l n es v es.length) (fun x=>H x/\x≠n) (fun i=>L i/\(l=0->i ∉ es.map En.id))/\TurnF own w w' :=by
 cases l with
 | zero=>
   refine(qkj h hn es v (by simpa using hrow) hv hkey (fun e he=>(hid e he).1 rfl) hes).mono ?_
   rintro e w' ⟨he,hL,ht⟩
   rw [qnt]
   exact⟨he,hL.less (fun _ q=>q) (fun i q=>⟨q.1,fun _=>q.2⟩),ht⟩
 | succ l=>
   refine(qqi h hn es v (by simpa using hrow) hv hkey (fun e he=>(hid e he).2 oQ) hes).mono ?_
   rintro e w' ⟨he,hL,ht⟩;exact⟨he,hL.less (fun _ q=>q) (fun i q=>⟨q,fun q=>by omega⟩),ht⟩
theorem qj3 (h:Lay w own imm tb mb cl t H L) {n l u lu:Nat} (hn:t.lv n=some l) (hu:t.up n=some u) (hul:t.lv u=some (lu+1)) (hex:∃e∈t.es u,e.kid=n) (hkk:∀e∈t.es u,∃l',t.lv e.kid=some l') (hH:¬ H u) (hm:(t.es u).length<=1000000):
 C9 47 #[gP n] w fun e w' =>∃i x,(t.es u)[i]? =some x/\x.kid=n/\e=.returned (.int .i64 (i:Nat))/\Below w.heap.size w w' :=by
 obtain⟨n0,n1,n2,nlt⟩:=h.n0 hn;obtain⟨u0,u1,u2,ult⟩:=h.n0 hul;have hrow:=h.row u _ hul hH;rw [show decide (lu+1=0)=false by simp] at hrow
 obtain⟨i,x,hi,hx,hxk⟩:=qrk 0 hex;rw [Nat.zero_add] at hi;rw [hu] at n0;simp only [gO] at n0
 have HI:=hdQ (fun g W (hW:Below w.heap.size w W) (hg:W.cell? ⟨g,0,none⟩=some (gP n)) (hlt:g<W.heap.size)=>qq0 (t.es u) g n (t.sl u) W (qak hrow (qad hW) sI) hg hlt hm ⟨_,(h.nd n l hn).tr hW⟩ (fun e he=>by
  obtain⟨l',hl'⟩:=hkk e he
  exact⟨_,(h.nd e.kid l' hl').tr hW⟩))
 rw [hi] at HI;clear h hex hkk hrow;generalize t.sl u=s at*
 try simp only [gP] at*
 go_enter Tryz.func47,Tryz.ntmps47
 go_wp2_with (go_at_call 76;(with_reducible refine(HI.out _ _ bel ?_ ?_).mono ?_);(focus(first|(simp;done)|simp_all));(focus(first|(simp;done)|(simp;omega)));rintro e w1 ⟨rfl,hb1⟩;obtain⟨hc1,hf1⟩:=qbb hb1)
 go_ret;exact⟨i,x,hx,hxk,rfl,bel⟩
end
end Go.Proofs.YtjopdlmbgidigaaGreat
