/-gist-/
import Derived.Test.YtfnhnjbkkggbeaaGreatKGisB
import Derived.Test.YtfnhnjbkkggbeaaGreatKLawsM
set_option linter.unusedVariables false
set_option linter.unusedSimpArgs false
set_option maxHeartbeats 4000000
set_option maxRecDepth 20000
namespace Go.Proofs.YtfnhnjbkkggbeaaGreat
open Go Go.RowKit Pg
def entG (x:It) (id:Int):En:=⟨x.kv,x.kb,id,0⟩
def qce (t:Tr) (n:Nat) (es:List En) (v:Value) (k:Nat):Tr:={t with es:=updT t.es n es,sl:=updT t.sl n v,leaf:=fun i=>if i∈(es.take k).map En.id then n else t.leaf i}
theorem qpr {t:Tr} {n:Nat} {es:List En} {v:Value} {k:Nat} {e:En} (he:es[k]? =some e):{qce t n es v k with leaf:=updT (qce t n es v k).leaf e.id n}=qce t n es v (k+1):=by
 have hf:updT (fun i=>if i∈(es.take k).map En.id then n else t.leaf i) e.id n=fun i=>if i∈(es.take (k+1)).map En.id then n else t.leaf i:=by
  funext i
  unfold updT
  simp only [zwy,he,Option.toList_some,zfx,zdy,zey,List.mem_append,zhx]
  by_cases h1:i=e.id
  · simp [h1]
  · simp [h1]
 unfold qce
 rw [<-hf]
theorem qs1 {L:Int->Prop} {es:List En} {k:Nat} {e:En} (he:es[k]? =some e) (i:Int):((L i/\i ∉ (es.take k).map En.id)/\i≠e.id)↔(L i/\i ∉ (es.take (k+1)).map En.id):=by
 simp only [zwy,he,Option.toList_some,zfx,zdy,zey,List.mem_append,zhx,not_or]
 constructor
 · rintro⟨⟨h1,h2⟩,h3⟩;exact⟨h1,h2,h3⟩
 · rintro⟨h1,h2,h3⟩;exact⟨⟨h1,h2⟩,h3⟩
section
variable {w:World} {own imm:Nat->Prop} {tb mb:Nat} {cl:Value} {t:Tr} {H:Nat->Prop} {L:Int->Prop}
theorem qcy {id:Int} {x:It} (h:getK id t.items=some x):getK id (t.items.map fun p=>(p.1,gP p.2.blk))=some (gP x.blk):=by
 have:∀m:List (Int×It),getK id (m.map fun p=>(p.1,gP p.2.blk))=(getK id m).map fun y=>gP y.blk:=by
  intro m
  induction m with
  | nil=>rfl
  | cons p r ih=>
    rw [zdy,qfk,qfk,ih]
    split<;>rfl
 rw [this,h]
 rfl
theorem qhe {id:Int} (h:getK id t.items=none):getK id (t.items.map fun p=>(p.1,gP p.2.blk))=none:=by
 have:∀m:List (Int×It),getK id (m.map fun p=>(p.1,gP p.2.blk))=(getK id m).map fun y=>gP y.blk:=by
  intro m
  induction m with
  | nil=>rfl
  | cons p r ih=>
    rw [zdy,qfk,qfk,ih]
    split<;>rfl
 rw [this,h]
 rfl
theorem Tryz.zeroItG (w:World):(zeroValue 101).run Tryz.prog w=.ok (.pointer none) w:=by kernel_rfl
theorem qiw (h:Lay w own imm tb mb cl t H L) {n:Nat} (hn:t.lv n=some 0) (es:List En) (v:Value) (hrow:w.ownsRow 0 96 3 v es.length (qam true es))
 (hv:∀g,v.ownBlock=some g->own g/\∀b' l',t.lv b' =some l' ->b' ≠n->¬ H b' ->(t.sl b').ownBlock≠some g) (hkey:∀e∈es,qdf w imm e.kv e.kb)
 (hid:∀e∈es,(∃x,getK e.id t.items=some x)/\ -9223372036854775808<=e.id/\e.id<=9223372036854775807) (hes:es.length<=1000000):
 C9 74 #[gP tb,gP n,v] w fun e w' =>e=.returned (.tuple #[])/\Lay w' own imm tb mb cl (qce t n es v es.length) (fun x=>H x/\x≠n) (fun i=>L i/\i ∉ es.map En.id)/\TurnF own w w' :=by
 obtain⟨n0,n1,n2,nlt⟩:=h.n0 hn;have fN:=(h.nd n 0 hn).frozen;obtain⟨A,c,rfl,hnc,hAn,hAb⟩:=qas hrow;have h1:=h.setRow hn hrow hv hkey;have HI:=hdQ hid;have ho:=h.oN n 0 hn;have HOwn:=hdQ ho;generalize hl:es.length=m at*;clear hrow hv hkey h hid hnc hAn hAb ho
 try simp only [gP] at*
 go_enter Tryz.func74,Tryz.ntmps74
 go_wp2_with fail;refine qck (fun w2=>Lay w2 own imm tb mb cl (qce t n es (.slice A m c) 0) (fun x=>H x/\x≠n) (fun i=>L i/\i ∉ (es.take 0).map En.id)/\TurnF own w w2) ⟨?_,(TurnF.refl own w).set_ (p:=⟨n,2,none⟩) (.inl HOwn.out) _⟩ ?_
 · have e:qce t n es (.slice A m c) 0={t with es:=updT t.es n es,sl:=updT t.sl n (.slice A m c)}:=by simp [qce]
   rw [e]
   exact h1.less (fun _ q=>q) (fun i q=>⟨q,by simp⟩)
 clear h1 n0 n1 n2 nlt fN;rintro w2 ⟨h2,ht2⟩
 go_loopw [14] (fun vi wr=>∃k:Nat,k<=m/\vi=.int .i64 k/\Lay wr own imm tb mb cl (qce t n es (.slice A m c) k) (fun x=>H x/\x≠n) (fun i=>L i/\i ∉ (es.take k).map En.id)/\TurnF own w wr) (fun vi _=>m-(Go.RowKit.intOf vi).toNat)
 case atStart=>exact ⟨0,zly _,rfl,h2,ht2⟩
 case round=>
  clear h2 ht2;obtain⟨k,hk,rfl,hL,ht⟩:=hrel
  by_cases hlt:k<m
  case neg=>
   obtain rfl:m=k:=oQ
   have HL:=hdQ hL;have HT:=hdQ ht;clear hL ht;go_wp2_with fail
   go_end0
   have hx:Lay _ own imm tb mb cl _ _ _:=HL.out;refine⟨rfl,?_,HT.out⟩;refine hx.less (fun _ q=>q) fun i q=> ?_
   rw [zmy oQ] at q
   exact q
  have hk0:(k:Int)<(m:Int):=oQ
  obtain⟨x,hx⟩:∃x,es[k]? =some x:=⟨es[k]'oQ,zby _⟩
  obtain⟨⟨it,hit⟩,hi0,hi1⟩:=HI.out x (zjy hx);have hsl:(qce t n es (.slice A m c) k).sl n=.slice A m c:=qaf;have hes' :(qce t n es (.slice A m c) k).es n=es:=qaf;have hr:=hL.row n 0 hn (fun q=>q.2 rfl)
  rw [hsl,hes'] at hr;obtain⟨g,c',hv,hgl,r0,r1,r2⟩:=qcf hr hx;rw [hl] at hv;injection hv with hv1 hv2 hv3
  subst hv1 hv3;simp only [decide_true,if_true] at r2;obtain⟨t0,t1,t2,t3,tlt⟩:=hL.c0;obtain⟨n0,n1,n2,nlt⟩:=hL.n0 hn;obtain⟨z,hB,_⟩:=hL.it x.id it hit;have hm:=hL.mp;have hg2:getK x.id ((qce t n es (.slice (some ⟨g,0,none⟩) m c) k).items.map fun p=>(p.1,gP p.2.blk))=some (gP it.blk):=qcy hit
  have hkx:=hL.ekey n 0 x hn (by rw [hes'];exact zjy hx)
  have hsz:=ht.size;have i3:=hB.cell 3;simp only [lAq] at i3;have hBl:=hB.lt;have fI:=hB.frozen;have HL:=hdQ hL;have HT:=hdQ ht;have HX:=hdQ hx;have HM:=hdQ hm;have HIt:=hdQ hit;have HG:=hdQ hg2;have HOI:=hdQ (hL.oI x.id it hit);clear hL ht hr hv2 hsl hes' hB hm hx hit hg2;obtain⟨_,_,Ak,ck,ek,_⟩:=hkx;obtain⟨xkv,xkb,xid,xkid⟩:=x
  simp only at*
  subst ek;go_wp2_with fail;refine qax [0,1,2,3,4,5,7,6] [8,9,10] kr kr pq ?_
  simp only [zdy,zey,ldz,lds,bare,qak,lcz,lcs,zay,qc0,Option.isNone_none,Bool.and_true,Bool.true_and,Bool.false_and,Bool.and_self]
  repeat((try simp only [Act.put,lsi,lsz,lss]);first|(refine qbh (v:= ?_) qaa rfl ?_ ?_;rotate_left;focus(intro wq;go_simp;try with_reducible rfl))|(refine qa6 (v:= ?_) qaa rfl ?_ ?_;rotate_left;focus(intro wq hq;obtain⟨hcq,hfq⟩:=qa1 hq;go_simp;try with_reducible rfl))|(refine qa7 qaa rfl (fun K hK=> ?_);(refine qef _ _ _ _ rfl rfl rfl (show MapO _ _ _ (some mb) _ from qba.tr HM.out bel) Tryz.underlying3 Tryz.underlying80 (Tryz.zeroItG _) hi0 hi1 ?_;rw [HG.out];simp only [Option.getD_some]);refine hK.out _ _ bel ?_;clear hK K)|(refine qa7 qaa rfl (fun K hK=> ?_);go_simp;((first|fail|skip)<;>(refine hK.out _ _ bel ?_;clear hK K))))
  (all_goals try simp only [Act.put,lsi,lsz,lss])
  refine qbs ?_;refine qao (fun K hK=> ?_)
  go_simp
  refine hK.out _ _ ?_;clear hK K
  (try simp only [Act.put,lsi,lsz,lss])
  refine qao (fun K hK=> ?_)
  go_simp
  refine hK.out _ _ ?_;clear hK K
  (try simp only [Act.put,lsi,lsz,lss])
  refine qao (fun K hK=> ?_)
  go_simp
  refine hK.out _ _ ?_;clear hK K
  (try simp only [Act.put,lsi,lsz,lss])
  refine qbr ?_;go_wp2
  go_roundw
  case rel=>
   refine⟨k+1,by omega,by go_num,?_,?_⟩
   · refine Lay.less ?_ (fun _ q=>q) (fun i q=>(qs1 HX.out i).1 q)
     rw [<-qpr HX.out]
     repeat(first|with_reducible refine Lay.drew ?_|with_reducible refine Lay.alloc ?_ _)
     exact Lay.setLeaf HL.out HIt.out
   · repeat(first|with_reducible refine TurnF.drew ?_|with_reducible refine TurnF.alloc ?_ _)
     exact HT.out.set_ (p:=⟨it.blk,3,none⟩) (.inl HOI.out) _
  case measure=>simp [Go.RowKit.intOf];omega
theorem qlm (h:Lay w own imm tb mb cl t H L) (hr:t.lv t.root=some 0) (A:Option Addr) (n c:Nat):C9 73 #[gP tb,.slice A n c] w (Ret w (gP t.root)):=by
 obtain⟨t0,t1,t2,t3,tlt⟩:=h.c0;obtain⟨n0,n1,n2,nlt⟩:=h.n0 hr;simp only [decide_true] at n1;clear h
 try simp only [gP] at*
 go_enter Tryz.func73,Tryz.ntmps73
 go_wp2;refine wp_loop_rounds 1 ?_
 rw [rounds_succ]
 go_wp2;go_ret;exact⟨rfl,bel⟩
theorem qf9 (h:Lay w own imm tb mb cl t H L) {n l:Nat} (hn:t.lv n=some l) (hu:t.up n=none):C9 75 #[gP tb,gP n] w (Ret w (.tuple #[])):=by
 obtain⟨n0,n1,n2,nlt⟩:=h.n0 hn;rw [hu] at n0;simp only [gO] at n0;clear h
 try simp only [gP] at*
 go_enter Tryz.func75,Tryz.ntmps75
 go_wp2;refine wp_loop_rounds 1 ?_
 rw [rounds_succ]
 go_wp2
 go_end0
 exact⟨rfl,bel⟩
theorem qlg (h:Lay w own imm tb mb cl t H L) {n l:Nat} (hn:t.lv n=some l) (hu:t.up n=none) (hH:¬ H n) (hf:(t.es n).length<=t.fan):C9 76 #[gP tb,gP n] w (Ret w (.tuple #[])):=by
 obtain⟨t0,t1,t2,t3,tlt⟩:=h.c0;obtain⟨n0,n1,n2,nlt⟩:=h.n0 hn;have HR:=hdQ (fun W (hW:Below w.heap.size w W)=>qf9 (h.tr hW) hn hu)
 obtain⟨A,c,hs,_⟩:=qas (h.row n l hn hH);rw [hs] at n2;have hf' :¬ ((t.fan:Nat):Int)<(((t.es n).length:Nat):Int):=oQ
 rw [hu] at n0;simp only [gO] at n0;clear h hs;generalize (t.es n).length=m at*;generalize t.fan=f at*
 try simp only [gP] at*
 go_enter Tryz.func76,Tryz.ntmps76
 go_wp2;refine wp_loop_rounds 1 ?_
 rw [rounds_succ]
 go_wp2_with fail;refine qac kr kr pq ?_
 simp only [zdy,zey,ldz,lds,bare,qak,lcz,lcs,zay]
 repeat' ((try simp only [Act.put,lsi,lsz,lss]);first|(refine lqx ?_)|(refine qab qaa rfl (fun K hK=> ?_);go_simp;((first|fail|skip)<;>(refine hK.out _ _ bel ?_;clear hK K))))
 (all_goals try simp only [Act.put,lsi,lsz,lss]);all_goals(refine qad ?_)
 go_wp2_with (go_at_call 75;(with_reducible refine(HR.out _ bel).monoR ?_);rintro w1 hb1 hc1 hf1 hz1;(try simp at hz1))
 go_end0
 exact⟨rfl,bel⟩
theorem qfb {w:World} {a b c:Value} {t:TypeId}:∀(j:Nat) (v:Value),[a,b,c][j]? =some v->(w.alloc (.cells #[a,b,c] t)).cell? ((⟨w.heap.size,0,none⟩:Addr).add j)=some v:=by
 intro j v hj
 match j,hj with
 | 0,hj=>simp at hj;subst hj;simp [Addr.add]
 | 1,hj=>simp at hj;subst hj;simp [Addr.add]
 | 2,hj=>simp at hj;subst hj;simp [Addr.add]
theorem qri (h:Lay w own imm tb mb cl t (fun _=>False) L) (hr:t.lv t.root=some 0) (hup:t.up t.root=none) (hroom:(t.es t.root).length<t.fan) (hfan:t.fan<=1000) {id:Int} {x:It} (hx:getK id t.items=some x)
 (h0: -9223372036854775808<=id) (h1:id<=9223372036854775807) (hids:∀e∈t.es t.root,(∃x,getK e.id t.items=some x)/\ -9223372036854775808<=e.id/\e.id<=9223372036854775807):
 C9 49 #[gP tb,.int .i64 id] w fun e w' =>e=.returned (.tuple #[])/\∃v own',Lay w' own' imm tb mb cl (qce t t.root (t.es t.root++ [entG x id]) v (t.es t.root++ [entG x id]).length) (fun _=>False) (fun i=>L i/\i ∉ (t.es t.root++ [entG x id]).map En.id)/\Grow w w' own imm own' imm:=by
 obtain⟨i0,hi,iz0,iz1,iz2⟩:=info_parts Tryz.infoEnG;obtain⟨t0,t1,t2,t3,tlt⟩:=h.c0;obtain⟨n0,n1,n2,nlt⟩:=h.n0 hr;obtain⟨z,hB,_⟩:=h.it id x hx;have x2:=hB.cell 2;simp only [lAq] at x2;have hBl:=hB.lt;have hk:=(h.ikey id x hx).1;obtain⟨_,_,Ak,ck,ek,_,_,_⟩:=hk;have HG:=hdQ (qcy hx);have HM:=hdQ h.mp;have hrow:=h.row t.root 0 hr (fun q=>q)
 simp only [decide_true] at hrow;obtain⟨A,c,hs,hnc,hAn,hAb⟩:=qas hrow;have HROW:=hdQ (fun W (hW:Below w.heap.size w W)=>qaq hrow (qag hW) sI)
 have HCh:=hdQ (fun W (hW:Below w.heap.size w W) A n c=>qlm (h.tr hW) hr A n c)
 -- take,behind the append
 have HTk:Hid (∀(W:World) (w1:World) (v:Value),Below w.heap.size w W->w1.ownsRow 0 96 3 v ((t.es t.root).length+1) (qam true (t.es t.root)++ [x.kv,.int .i64 id,.pointer none])->W.grownBy w1 (t.sl t.root).ownBlock->(v.ownBlock=(t.sl t.root).ownBlock\/v.ownBlock=some W.heap.size)->
  C9 74 #[gP tb,gP t.root,v] w1 fun e w' =>e=.returned (.tuple #[])/\∃own',Lay w' own' imm tb mb cl (qce t t.root (t.es t.root++ [entG x id]) v (t.es t.root++ [entG x id]).length) (fun _=>False) (fun i=>L i/\i ∉ (t.es t.root++ [entG x id]).map En.id)/\Grow w w' own imm own' imm):=fun W w1 v hW hv hg hwh=>by
  have hLW:=h.tr hW;have hsz:=hW.size;have hL1:=hLW.rowLost hr (fun q=>q) hg
  have hlim:=h.lim
  have hL2:Lay w1 (fun k=>own k\/v.ownBlock=some k) imm tb mb cl t (fun b=>False\/b=t.root) L:=by
   refine hL1.more (fun b q=> .inl q) (fun _ q=>q) ?_ ?_
   · intro b hb hi
     rcases hb with q|q
     · exact h.sep b q hi
     · rcases hwh with e|e
       · rw [e] at q
         exact h.sep b (h.oR t.root 0 b hr (fun q=>q) q) hi
       · rw [e] at q
         cases q
         have:=hlim _ (.inr hi)
         omega
   · intro b hb
     rcases hb with (q|q)|q
     · exact hL1.lim b (.inl q)
     · exact(hv.lt b q).2
     · exact hL1.lim b (.inr q)
  have hlen:(t.es t.root++ [entG x id]).length=(t.es t.root).length+1:=sI
  refine(qiw hL2 hr (t.es t.root++ [entG x id]) v (by rw [hlen,qcc];exact hv) ?_ ?_ ?_ (by rw [hlen];omega)).mono ?_
  · intro g hg'
    refine⟨.inr hg',fun b' l' hb' hne hH q=> ?_⟩
    rcases hwh with e|e
    · rw [e] at hg'
      exact hne (h.apR b' t.root l' 0 g hb' hr (fun q=>q) (fun q=>q) q hg')
    · rw [e] at hg'
      cases hg'
      have:=(hLW.row b' l' hb' (fun q=>q)).lt _ q
      omega
  · intro e he
    rcases List.mem_append.1 he with q|q
    · exact hL1.ekey t.root 0 e hr q
    · rw [zhx.1 q]
      exact(hL1.ikey id x hx).1
  · intro e he
    rcases List.mem_append.1 he with q|q
    · exact hids e q
    · rw [zhx.1 q]
      exact⟨⟨x,hx⟩,h0,h1⟩
  · rintro e w' ⟨rfl,hL',ht'⟩
    refine⟨rfl,_,hL'.less (fun b q=> ?_) (fun _ q=>q),?_⟩
    · rcases q.1 with q1|q1
      · exact q1
      · exact q.2 q1
    · have ht1:TurnF own w w1:=((TurnF.refl own w).below hW).grown hg (fun k e=> .inl (h.oR t.root 0 k hr (fun q=>q) e))
      have hsz1:=ht1.size
      have hoo:∀b,(own b\/v.ownBlock=some b)->own b\/w.heap.size<=b:=fun b q=>by
       rcases q with q|q
       · exact .inl q
       · rcases hwh with e|e
         · rw [e] at q
           exact .inl (h.oR t.root 0 b hr (fun q=>q) q)
         · rw [e] at q
           cases q
           exact .inr hsz
      exact⟨ht1.trans ht' hoo,hoo,fun b q=> .inl q,fun b q=> .inl q,fun b q=>q⟩
 have HRf:=hdQ (fun W own' v (hL:Lay W own' imm tb mb cl (qce t t.root (t.es t.root++ [entG x id]) v (t.es t.root++ [entG x id]).length) (fun _=>False) (fun i=>L i/\i ∉ (t.es t.root++ [entG x id]).map En.id))=>qf9 hL hr hup)
 have HSp:=hdQ (fun W own' v (hL:Lay W own' imm tb mb cl (qce t t.root (t.es t.root++ [entG x id]) v (t.es t.root++ [entG x id]).length) (fun _=>False) (fun i=>L i/\i ∉ (t.es t.root++ [entG x id]).map En.id))=>qlg hL hr hup (fun q=>q) (by
  show ((updT t.es t.root _) t.root).length<=t.fan
  rw [qaf]
  simp
  omega))
 rw [ek] at x2 HTk;clear h hB hrow hids ek;generalize (t.es t.root).length=m at*;generalize qam true (t.es t.root)=cells at*;generalize hts:t.sl t.root=ts at*;subst hs;generalize htr:t.root=tr at*;obtain⟨xblk,xob,xov,xkv,xkb⟩:=x
 simp only at*
 try simp only [gP] at*
 go_enter Tryz.func49,Tryz.ntmps49
 go_wp2_with (first|(at_lookup;go_must (refine qdg _ rfl _ _ _ rfl rfl rfl (show MapO _ _ _ (some mb) _ from qba.tr HM.out bel) Tryz.underlying3 Tryz.underlying80 (Tryz.zeroItG _) h0 h1 ?_;rw [HG.out];simp only [Option.getD_some]))|(go_at_call 73;(with_reducible refine(HCh.out _ bel _ _ _).monoR ?_);rintro w1 hb1 hc1 hf1 hz1;(try simp at hz1);have n2' :=(hc1 _ 2 nlt).trans n2;have x2' :=(hc1 _ 2 hBl).trans x2;have nlt1:=zky nlt hz1;have xlt1:=zky hBl hz1;clear n0 n1 n2 x2 t0 t1 t2 t3 tlt hc1 hf1))
 refine qax [0,1,2,3,4,5,6,7,8,9,10,11,12] [13,14] kr kr pq ?_
 simp only [zdy,zey,ldz,lds,bare,qak,lcz,lcs,zay,qc0,Option.isNone_none,Bool.and_true,Bool.true_and,Bool.false_and,Bool.and_self]
 repeat((try simp only [Act.put,lsi,lsz,lss]);first|(refine qbh (v:= ?_) qaa rfl ?_ ?_;rotate_left;focus(intro wq;go_simp;try with_reducible rfl))|(refine qa6 (v:= ?_) qaa rfl ?_ ?_;rotate_left;focus(intro wq hq;obtain⟨hcq,hfq⟩:=qa1 hq;go_simp;try with_reducible rfl))|(refine qa7 qaa rfl (fun K hK=> ?_);go_simp;((first|fail|skip)<;>(refine hK.out _ _ bel ?_;clear hK K))))
 (all_goals try simp only [Act.put,lsi,lsz,lss])
 refine qbs ?_;refine qao (fun K hK=> ?_)
 (refine qcl _ _ _ 77 rfl 96 i0 (.agg #[.slice none 0 0,.int .i64 0,.pointer none]) 3 40 Tryz.underlying77 hi iz0 iz1 iz2 rfl dE (.slice A m c) m cells rfl (HROW.out _ bel) ⟨w1.heap.size,0,none⟩ 1 1 [.slice Ak xkb.length ck,.int .i64 id,.pointer none] rfl rfl ?_ ?_ ?_ ?_ ?_ ?_);(focus(exact qfb));(focus(simp [Value.oneCell']));(focus(unfold maxLen;omega));(focus omega);(focus(decide));intro v' w3 hown' hgrow hwh
 refine hK.out _ _ ?_;clear hK K
 (try simp only [Act.put,lsi,lsz,lss])
 refine qao (fun K hK=> ?_)
 go_simp
 go_at_call 74;(refine(HTk.out _ _ _ (show Below w.heap.size w ((w1.alloc (.cells #[.slice Ak xkb.length ck,.int .i64 id,.pointer none] 96)).drew) from bel) hown' hgrow hwh).mono ?_);rintro e w5 ⟨rfl,own5,hL5,hg5⟩;have HL5:=hdQ hL5;clear hL5
 refine hK.out _ _ ?_;clear hK K
 (try simp only [Act.put,lsi,lsz,lss])
 refine qbr ?_
 go_wp2_with (first|(go_at_call 75;(refine(HRf.out _ _ _ HL5.out).mono ?_);rintro e w6 ⟨rfl,hb6⟩;have HL6:=hdQ (HL5.out.tr hb6))|(go_at_call 76;(refine(HSp.out _ _ _ HL6.out).mono ?_);rintro e w7 ⟨rfl,hb7⟩;have HL7:=hdQ (HL6.out.tr hb7)))
 go_end0
 exact⟨rfl,_,_,HL7.out,hg5.trans ((Grow.of_below hb6).trans (Grow.of_below hb7))⟩
end
theorem Tryz.infoYsG:(Tryz.prog.info? 94).map (fun i=>(i.zero,i.size,i.bytes))=some (some (.slice none 0 0),1,24):=by kernel_rfl
theorem qzr {A:Option Addr} {n c:Nat}:∀v∈ [Value.slice A n c],v.oneCell' =true:=by simp [Value.oneCell']
theorem qsh (lf:Bool) (Z:Nat->Prop) (l:List En) (v:Value) (w:World) (h:w.ownsRow 0 96 3 v l.length (qam lf l)) (hk:∀e∈l,qdf w Z e.kv e.kb) (hn:l.length<=1000000):
 C9 72 #[v] w fun e w' =>∃s,e=.returned s/\qg3 w' w.heap.size s (l.map En.kb)/\Below w.heap.size w w' :=by
 obtain⟨i0,hi,iz0,iz1,iz2⟩:=info_parts Tryz.infoYsG;obtain⟨A,c,rfl,hnc,hAn,hAb⟩:=qas h;have HR:=hdQ h;have HK:=hdQ hk;clear h hk hnc hAn hAb;generalize hl:l.length=n at*
 try simp only [gP] at*
 go_enter Tryz.func72,Tryz.ntmps72
 go_wp2_with fail
 go_loopw [2,7] (fun vk vi wr=>∃k:Nat,k<=n/\vi=.int .i64 k/\qg3 wr w.heap.size vk ((l.take k).map En.kb)/\Below w.heap.size w wr) (fun _ vi _=>n-(Go.RowKit.intOf vi).toNat)
 case atStart=>exact ⟨0,by omega,rfl,qg3.nil _ _,bel⟩
 case round=>
  obtain⟨k,hkn,rfl,hK,hb⟩:=hrel
  by_cases hlt:k<n
  case neg=>
   obtain rfl:n=k:=oQ
   rw [zmy oQ] at hK
   have HKS:=hdQ hK;clear hK;go_wp2_with fail;go_ret;exact⟨_,rfl,HKS.out.below bel,bel⟩
  have hk0:(k:Int)<(n:Int):=oQ
  obtain⟨x,hx⟩:∃x,l[k]? =some x:=⟨l[k]'oQ,zby _⟩
  have hr:=HR.out;rw [<-hl] at hr;obtain⟨g,c',hv,hgl,r0,r1,r2⟩:=qcf hr hx;injection hv with hv1 hv2 hv3
  subst hv1 hv3;obtain⟨hc,hf,hz⟩:=bc3 hb;rw [<-hc g _ hgl] at r0 r1 r2;have hgw:g<wr.heap.size:=oQ
  obtain⟨Ak,ck,ekv,hkc,hAk,hBk⟩:=(HK.out x (zjy hx)).bys;have hxl:=(HK.out x (zjy hx)).2.1;rw [ekv] at r0;obtain⟨pz,hpz⟩:∃p,(if lf=true then Value.pointer none else gP x.kid)=.pointer p:=by cases lf<;>exact ⟨_,rfl⟩
  rw [hpz] at r2;clear hpz hc hf;have hBk2:=hBk.tr hb (zhy _);have HCl:=hdQ (fun W (hW:Below wr.heap.size wr W)=>qdd w.heap.size x.kb.length ck Ak x.kb W (hBk2.tr hW hz) (zcy hz hW.size) hxl hkc hAk)
  have HX:=hdQ hx;have HKS:=hdQ hK;have hlk:((l.take k).map En.kb).length=k:=by rw [zyy,List.length_take];omega
  have HLK:=hdQ hlk;clear hr hv2 hBk hBk2 hx hK ekv hkc hAk hlk;obtain⟨Lk,hLk⟩:∃L',(l.take k).map En.kb=L' :=⟨_,rfl⟩;have HLe:=hdQ hLk;rw [hLk] at HKS HLK;clear hLk
  go_wp2_with (first|(go_at_call 36;(with_reducible refine(HCl.out _ bel).mono ?_);rintro e w6 ⟨s6,rfl,ho6,hb6⟩;obtain⟨A6,c6,rfl,hB6,hl6,hn6,hm6⟩:=qa0 ho6;clear hB6 hl6 hn6 hm6;have hb6' :Below wr.heap.size wr w6:=bel;obtain⟨cs,hcs,hkk⟩:=HKS.out.below hb6';have hs6:=qc7 ho6 (show w.heap.size<=_ by(try simp);omega);have hz6:=hb6.size;(try simp at hz6);have hs7:Below w.heap.size w w6:=bel)|(at_builtin;go_must (refine wpList_append_own _ rfl _ _ 151 rfl w.heap.size 94 i0 (.slice none 0 0) 1 24 Tryz.underlying151 hi iz0 iz1 iz2 rfl dE _ _ _ rfl (hcs.alloc _) ⟨w6.heap.size,0,none⟩ 1 1 [.slice A6 x.kb.length c6] rfl rfl qoi ?c2 ?c3 ?c4 ?c5 ?_)))
  case c2=>exact qzr
  case c3=>rw [HLK.out];unfold maxLen;omega
  case c4=>rw [HLK.out];omega
  case c5=>simp;omega
  intro v' w7 hown' hgrow _
  have hKN:=qqn (hcs.alloc _) (fun j u hu=>by
   obtain⟨l',q1,q2⟩:=hkk j u hu
   exact⟨l',q1,q2.alloc _⟩) (hs6.alloc _) hown' hgrow
  have hnx1:Below w.heap.size w w7:=(hs7.alloc (by have:=hs7.size;omega) _).grown hgrow (by have:=hs7.size;simp;omega) (fun k hk=>(hcs.lt k hk).1)
  go_wp2
  go_roundw
  case rel=>
   refine⟨k+1,by omega,by go_num,?_,hnx1⟩
   rw [zwy,HX.out,zfx,HLe.out]
   exact hKN
  case measure=>simp [Go.RowKit.intOf];omega
section
variable {w:World} {own imm:Nat->Prop} {tb mb:Nat} {t:Tr} {H:Nat->Prop} {L:Int->Prop}
theorem qgk {C:Cl} {ct:TypeId} {cv:Value} {fM fC fD fU fS:Nat} (hC:ClAt ct cv C fM fC fD fU fS) (h:Lay w own imm tb mb (.iface ct cv) t H L) {n l:Nat} (hn:t.lv n=some l) (hH:¬ H n) (hm:(t.es n).length<=1000000):
 C9 48 #[gP tb,gP n] w (RetB w (C.un ((t.es n).map En.kb))):=by
 obtain⟨c0,c1,c2,c3,clt⟩:=h.c0;obtain⟨n0,n1,n2,nlt⟩:=h.n0 hn;have hrow:=h.row n l hn hH;have hk:∀e∈t.es n,qdf w imm e.kv e.kb:=fun e he=>h.ekey n l e hn he
 have h256:∀k∈(t.es n).map En.kb,(∀x∈k,x<256)/\k.length<=1000000:=fun k hk' =>by
  obtain⟨e,he,rfl⟩:=zty.1 hk';exact⟨(hk e he).1,(hk e he).2.1⟩
 have HK:=hdQ (fun W (hW:Below w.heap.size w W)=>qsh (decide (l=0)) imm (t.es n) (t.sl n) W (qaq hrow (qag hW) sI) (fun e he=>(hk e he).kept (qag hW) sI) hm)
 have hfU:=hC.formU _ (fun k hk=>(h256 k hk).1) fun k hk=>(h256 k hk).2
 have hlen:((t.es n).map En.kb).length=(t.es n).length:=zyy _;have HU:=hdQ (fun W (A:Option Addr) (c:Nat) (hR:qex W W.heap.size A ((t.es n).map En.kb).length ((t.es n).map En.kb))=>hC.un W W.heap.size c A _ hR (zhy _) (by rw [hlen];exact hm) (fun k hk=>(h256 k hk).1) fun k hk=>(h256 k hk).2)
 have HCl:=hdQ (fun W (A:Option Addr) (c:Nat) (hy:qbm W W.heap.size A (C.un ((t.es n).map En.kb)).length (C.un ((t.es n).map En.kb))) (h1:(C.un ((t.es n).map En.kb)).length<=c) (h2:A=none->c=0)=>qdd W.heap.size _ c A _ W hy (zhy _) hfU.2 h1 h2)
 have mU:=hC.mU;have eU:=hC.eU;clear h hrow hk h256 hlen hC hfU;generalize (t.es n).map En.kb=K at*;generalize C.un K=U at*;generalize t.sl n=s at*
 try simp only [gP] at*
 go_enter Tryz.func48,Tryz.ntmps48
 go_wp2_with fail;refine qah [0,1,2,3,4,5,6,7,9,10,8,11,12,13] kr kr pq ?_
 simp only [zdy,zey,ldz,lds,bare,qak,lcz,lcs,zay]
 repeat' ((try simp only [Act.put,lsi,lsz,lss]);first|(refine lqx ?_)|(refine qab qaa rfl (fun K hK=> ?_);go_simp;((first|(go_at_call 72;(with_reducible refine(HK.out _ bel).mono ?_);rintro e w1 ⟨s1,rfl,hK1,hb1⟩;obtain⟨A1,c1',rfl,hR1⟩:=qka hK1;clear hK1;obtain⟨hc1,hf1,hz1⟩:=bc3 hb1;(try simp at hz1))|((refine(HU.out _ _ _ (hR1.tr bel (zhy _))).mono ?_);rintro e w2 ⟨s2,rfl,ho2,hb2⟩;obtain⟨A2,c2',rfl,hy2,y2,y3,y4⟩:=qa0 ho2;clear ho2;obtain⟨hc2,hf2,hz2⟩:=bc3 hb2;(try simp at hz2))|(go_at_call 36;(with_reducible refine(HCl.out _ _ _ hy2 y4 y3).mono ?_);rintro e w3 ⟨s3,rfl,ho3,hb3⟩;have HO3:=hdQ ho3;clear ho3)|skip)<;>(refine hK.out _ _ bel ?_;clear hK K))))
 (all_goals try simp only [Act.put,lsi,lsz,lss]);all_goals(refine qad ?_)
 go_wp2;go_ret;exact⟨_,rfl,qbb HO3.out (by have:=hb1.size;have:=hb2.size;simp at*;omega),bel⟩
end
theorem qs3 {t:Tr} {l n:Nat} {es:List En} {v:Value} {k:Nat} {e:En} (he:es[k]? =some e):{qbl t (l+1) n es v k with up:=updT (qbl t (l+1) n es v k).up e.kid (some n)}=qbl t (l+1) n es v (k+1):=by
 have hf:updT (fun x=>if x∈(es.take k).map En.kid then some n else t.up x) e.kid (some n)=fun x=>if x∈(es.take (k+1)).map En.kid then some n else t.up x:=by
  funext x
  unfold updT
  simp only [zwy,he,Option.toList_some,zfx,zdy,zey,List.mem_append,zhx]
  by_cases h1:x=e.kid
  · simp [h1]
  · simp [h1]
 unfold qbl
 simp only [Nat.add_eq_zero_iff,Nat.one_ne_zero,and_false,if_false]
 rw [<-hf]
theorem qlu (t:Tr) (n:Nat) (es:List En) (v:Value) (k:Nat):qbl t 0 n es v k=qce t n es v k:=by
 unfold qbl qce
 simp
section
variable {w:World} {own imm:Nat->Prop} {tb mb:Nat} {cl:Value} {t:Tr} {H:Nat->Prop} {L L' :Int->Prop}
theorem qnz (h:Lay w own imm tb mb cl t H L) {n l:Nat} (hn:t.lv n=some (l+1)) (es:List En) (v:Value) (hrow:w.ownsRow 0 96 3 v es.length (qam false es))
 (hv:∀g,v.ownBlock=some g->own g/\∀b' l',t.lv b' =some l' ->b' ≠n->¬ H b' ->(t.sl b').ownBlock≠some g) (hkey:∀e∈es,qdf w imm e.kv e.kb)
 (hid:∀e∈es,∃l',t.lv e.kid=some l') (hes:es.length<=1000000):
 C9 74 #[gP tb,gP n,v] w fun e w' =>e=.returned (.tuple #[])/\Lay w' own imm tb mb cl (qbl t (l+1) n es v es.length) (fun x=>H x/\x≠n) L/\TurnF own w w' :=by
 obtain⟨n0,n1,n2,nlt⟩:=h.n0 hn;have fN:=(h.nd n _ hn).frozen;obtain⟨A,c,rfl,hnc,hAn,hAb⟩:=qas hrow;have h1:=h.setRow hn (by simpa using hrow) hv hkey
 have HI:=hdQ hid;have ho:=h.oN n _ hn;have HOwn:=hdQ ho;generalize hl:es.length=m at*;clear hrow hv hkey h hid hnc hAn hAb ho
 try simp only [gP] at*
 go_enter Tryz.func74,Tryz.ntmps74
 go_wp2_with fail;refine qck (fun w2=>Lay w2 own imm tb mb cl (qbl t (l+1) n es (.slice A m c) 0) (fun x=>H x/\x≠n) L/\TurnF own w w2) ⟨?_,(TurnF.refl own w).set_ (p:=⟨n,2,none⟩) (.inl HOwn.out) _⟩ ?_
 · have e:qbl t (l+1) n es (.slice A m c) 0={t with es:=updT t.es n es,sl:=updT t.sl n (.slice A m c)}:=by simp [qbl]
   rw [e]
   exact h1
 clear h1 n0 n1 n2 nlt fN;rintro w2 ⟨h2,ht2⟩
 go_loopw [14] (fun vi wr=>∃k:Nat,k<=m/\vi=.int .i64 k/\Lay wr own imm tb mb cl (qbl t (l+1) n es (.slice A m c) k) (fun x=>H x/\x≠n) L/\TurnF own w wr) (fun vi _=>m-(Go.RowKit.intOf vi).toNat)
 case atStart=>exact ⟨0,zly _,rfl,h2,ht2⟩
 case round=>
  clear h2 ht2;obtain⟨k,hk,rfl,hL,ht⟩:=hrel
  by_cases hlt:k<m
  case neg=>
   obtain rfl:m=k:=oQ
   have HL:=hdQ hL;have HT:=hdQ ht;clear hL ht;go_wp2_with fail
   go_end0
   exact⟨rfl,HL.out,HT.out⟩
  have hk0:(k:Int)<(m:Int):=oQ
  obtain⟨x,hx⟩:∃x,es[k]? =some x:=⟨es[k]'oQ,zby _⟩
  obtain⟨lk,hlk⟩:=HI.out x (zjy hx);have hlvn:(qbl t (l+1) n es (.slice A m c) k).lv n=some (l+1):=hn;have hsl:(qbl t (l+1) n es (.slice A m c) k).sl n=.slice A m c:=qaf;have hes' :(qbl t (l+1) n es (.slice A m c) k).es n=es:=qaf;have hr:=hL.row n _ hlvn (fun q=>q.2 rfl)
  rw [hsl,hes',show decide (l+1=0)=false by simp] at hr
  obtain⟨g,c',hv,hgl,r0,r1,r2⟩:=qcf hr hx;rw [hl] at hv;injection hv with hv1 hv2 hv3
  subst hv1 hv3;simp only [Bool.false_eq_true,if_false,gP] at r2;obtain⟨n0,n1,n2,nlt⟩:=hL.n0 hlvn;rw [show decide (l+1=0)=false by simp] at n1
  have hkn:(qbl t (l+1) n es (.slice (some ⟨g,0,none⟩) m c) k).lv x.kid=some lk:=hlk;have hB:=hL.nd x.kid lk hkn;have k0:=hB.cell 0;have fK:=hB.frozen;have hBl:=hB.lt;simp only [lAq] at k0;have hkx:=hL.ekey n _ x hlvn (by rw [hes'];exact zjy hx)
  have HL:=hdQ hL;have HT:=hdQ ht;have HX:=hdQ hx;have HKN:=hdQ hkn;have HOK:=hdQ (hL.oN x.kid lk hkn);clear hL ht hr hv2 hsl hes' hB hx hlk hkn hlvn;obtain⟨_,_,Ak,ck,ek,_⟩:=hkx;obtain⟨xkv,xkb,xid,xkid⟩:=x
  simp only at*
  subst ek;generalize gO _=ku at k0;go_wp2_with fail
  go_roundw
  case rel=>
   refine⟨k+1,by omega,by go_num,?_,?_⟩
   · rw [<-qs3 HX.out]
     repeat(first|with_reducible exact HL.out|with_reducible refine Lay.drew ?_|with_reducible refine Lay.alloc ?_ _|with_reducible refine Lay.setUp ?_ HKN.out)
   · repeat(first|with_reducible exact HT.out|with_reducible refine TurnF.drew ?_|with_reducible refine TurnF.alloc ?_ _|with_reducible refine TurnF.set_ ?_ (p:=⟨xkid,0,none⟩) (.inl HOK.out) _)
  case measure=>simp [Go.RowKit.intOf];omega
theorem qrr (h:Lay w own imm tb mb cl t H L) {n l:Nat} (hn:t.lv n=some l) (es:List En) (v:Value) (hrow:w.ownsRow 0 96 3 v es.length (qam (decide (l=0)) es))
 (hv:∀g,v.ownBlock=some g->own g/\∀b' l',t.lv b' =some l' ->b' ≠n->¬ H b' ->(t.sl b').ownBlock≠some g) (hkey:∀e∈es,qdf w imm e.kv e.kb)
 (hid:∀e∈es,(l=0->(∃x,getK e.id t.items=some x)/\ -9223372036854775808<=e.id/\e.id<=9223372036854775807)/\(0<l->∃l',t.lv e.kid=some l')) (hes:es.length<=1000000):
 C9 74 #[gP tb,gP n,v] w fun e w' =>e=.returned (.tuple #[])/\Lay w' own imm tb mb cl (qbl t l n es v es.length) (fun x=>H x/\x≠n) (fun i=>L i/\(l=0->i ∉ es.map En.id))/\TurnF own w w' :=by
 cases l with
 | zero=>
   refine(qiw h hn es v (by simpa using hrow) hv hkey (fun e he=>(hid e he).1 rfl) hes).mono ?_
   rintro e w' ⟨he,hL,ht⟩
   rw [qlu]
   exact⟨he,hL.less (fun _ q=>q) (fun i q=>⟨q.1,fun _=>q.2⟩),ht⟩
 | succ l=>
   refine(qnz h hn es v (by simpa using hrow) hv hkey (fun e he=>(hid e he).2 oQ) hes).mono ?_
   rintro e w' ⟨he,hL,ht⟩;exact⟨he,hL.less (fun _ q=>q) (fun i q=>⟨q,fun q=>by omega⟩),ht⟩
theorem qih (h:Lay w own imm tb mb cl t H L) {n l u lu:Nat} (hn:t.lv n=some l) (hu:t.up n=some u) (hul:t.lv u=some (lu+1)) (hex:∃e∈t.es u,e.kid=n) (hkk:∀e∈t.es u,∃l',t.lv e.kid=some l') (hH:¬ H u) (hm:(t.es u).length<=1000000):
 C9 46 #[gP n] w fun e w' =>∃i x,(t.es u)[i]? =some x/\x.kid=n/\e=.returned (.int .i64 (i:Nat))/\Below w.heap.size w w' :=by
 obtain⟨n0,n1,n2,nlt⟩:=h.n0 hn;obtain⟨u0,u1,u2,ult⟩:=h.n0 hul;have hrow:=h.row u _ hul hH;rw [show decide (lu+1=0)=false by simp] at hrow
 obtain⟨i,x,hi,hx,hxk⟩:=qor 0 hex;rw [Nat.zero_add] at hi;rw [hu] at n0;simp only [gO] at n0
 have HI:=hdQ (fun g W (hW:Below w.heap.size w W) (hg:W.cell? ⟨g,0,none⟩=some (gP n)) (hlt:g<W.heap.size)=>qoe (t.es u) g n (t.sl u) W (qaq hrow (qag hW) sI) hg hlt hm ⟨_,(h.nd n l hn).tr hW⟩ (fun e he=>by
  obtain⟨l',hl'⟩:=hkk e he
  exact⟨_,(h.nd e.kid l' hl').tr hW⟩))
 rw [hi] at HI;clear h hex hkk hrow;generalize t.sl u=s at*
 try simp only [gP] at*
 go_enter Tryz.func46,Tryz.ntmps46
 go_wp2_with (go_at_call 70;(with_reducible refine(HI.out _ _ bel ?_ ?_).mono ?_);(focus(first|(simp;done)|simp_all));(focus(first|(simp;done)|(simp;omega)));rintro e w1 ⟨rfl,hb1⟩;obtain⟨hc1,hf1⟩:=qa1 hb1)
 go_ret;exact⟨i,x,hx,hxk,rfl,bel⟩
end
structure PenAt (t:TypeId) (rv:Value) (fP:Nat):Prop where
 mP : ∀ w,(Go.method 408 t rv "Penalty").run Tryz.prog w = .ok (fP,rv) w
 eP:∀(args:Array Value) (w:World),(callFunc fP args).run Tryz.prog w=.ok (.enter fP args) w
 pen:∀(W:World) (B n c n2 c2:Nat) (A A2:Option Addr) (l l2:List Nat),qbm W B A n l->(∀x∈l,x<256)->qbm W B A2 n2 l2->(∀x∈l2,x<256)->B<=W.heap.size->n<=1000000->n<=c->n2<=1000000->n2<=c2->(A=none->c=0)->(A2=none->c2=0)->C9 fP #[rv,.slice A n c,.slice A2 n2 c2] W fun e w' =>∃k:Int,e=.returned (.int .i64 k)/\Below W.heap.size W w'
def lvOf (t:Tr):Value->Nat
 | .pointer (some a)=>(t.lv a.block).getD 0
 | _=>0
section
variable {w:World} {own imm:Nat->Prop} {tb mb:Nat} {t:Tr} {L L' :Int->Prop}
theorem quk {ct:TypeId} {cv:Value} {fP:Nat} (hP:PenAt ct cv fP) (h:Lay w own imm tb mb (.iface ct cv) t (fun _=>False) L) (hs:Shape t L') (hne:∀b l,t.lv b=some (l+1)->t.es b≠ []) (hlen:∀b l,t.lv b=some l->(t.es b).length<=1000) {kv:Value} {kb:List Nat} (hk:qdf w imm kv kb):
 C9 73 #[gP tb,kv] w fun e w' =>∃n,t.lv n=some 0/\e=.returned (gP n)/\Below w.heap.size w w' :=by
 obtain⟨c0,c1,c2,c3,clt⟩:=h.c0;have HL:=hdQ h;have HS:=hdQ hs;have HNE:=hdQ hne;have HLEN:=hdQ hlen;obtain⟨lr,hlr⟩:=Option.isSome_iff_exists.1 hs.root.1;have hkb:=hk.1;have hkl:=hk.2.1;obtain⟨Ak,ck,rfl,hkc,hAk,hyk⟩:=hk.bys;have HK:=hdQ hkb;have HKL:=hdQ hkl;have HClk:=hdQ (fun W (hW:Below w.heap.size w W)=>qdd w.heap.size kb.length ck Ak kb W (hyk.tr hW (zhy _)) hW.size hkl hkc hAk)
 have HPn:=hdQ hP.pen;have mP:=hP.mP;have eP:=hP.eP;clear h hs hne hlen hk hkb hkl hyk hkc hAk hP
 simp only [gP] at*
 go_enter Tryz.func73,Tryz.ntmps73
 go_wp2_with fail
 go_loopw [5] (fun vn wr=>∃n l,vn=.pointer (some ⟨n,0,none⟩)/\t.lv n=some l/\Below w.heap.size w wr) (fun vn _=>lvOf t vn)
 case atStart=>exact ⟨_,_,rfl,hlr,bel⟩
 case round=>
  obtain⟨n,l,rfl,hn,hb⟩:=hrel;obtain⟨n0,n1,n2,nlt⟩:=(HL.out.tr hb).n0 hn
  cases l with
  | zero=>
    simp only [decide_true] at n1;have HN:=hdQ hn;clear hn hlr;go_wp2_with fail;go_ret;exact⟨n,HN.out,rfl,bel⟩
  | succ l=>
    rw [show decide (l+1=0)=false by simp] at n1
    have hrow:=(HL.out.tr hb).row n (l+1) hn (fun q=>q)
    rw [show decide (l+1=0)=false by simp] at hrow
    have HROW:=hdQ (HL.out.row n (l+1) hn (fun q=>q))
    rw [show decide (l+1=0)=false by simp] at HROW
    obtain⟨A,c,hsl,hnc,hAn,hAb⟩:=qas hrow;rw [hsl] at n2;have hm:=HLEN.out n (l+1) hn;have hm0:0<(t.es n).length:=List.length_pos_iff.2 (HNE.out n l hn);have HN:=hdQ hn;have HSL:=hdQ hsl;clear hn hlr hrow hsl hnc hAn hAb;obtain⟨m,hmm⟩:∃m,(t.es n).length=m:=⟨_,rfl⟩;have HM:=hdQ hmm;rw [hmm] at n2 hm hm0 HROW;clear hmm;go_wp2_with fail;refine qck (fun w2=>Below w.heap.size w w2) bel ?_
    clear hb n0 n1 n2 nlt;rintro w2 hb2
    go_loopw [6,7,25] (fun vb vp vi wr=>∃(b k:Nat) (p:Int),vb=.int .i64 b/\vp=.int .i64 p/\vi=.int .i64 k/\k<=m/\(b<k\/b=0)/\Below w.heap.size w wr) (fun _ _ vi _=>m-(Go.RowKit.intOf vi).toNat)
    case atStart=>exact ⟨0,0,0,rfl,rfl,rfl,zly _,.inr rfl,bel⟩
    case round=>
     clear hb2;obtain⟨b,k,p,rfl,rfl,rfl,hkm,hbk,hb⟩:=hrel
     by_cases hlt:k<m
     case neg=>
      obtain rfl:m=k:=oQ
      obtain⟨n0,n1,n2,nlt⟩:=(HL.out.tr hb).n0 HN.out;rw [HSL.out,HM.out] at n2;obtain⟨x,hx⟩:∃x,(t.es n)[b]? =some x:=⟨(t.es n)[b]'(by rw [HM.out];omega),zby _⟩
      have hr:=HROW.out;rw [<-HM.out] at hr;obtain⟨g,c',hv,hgl,r0,r1,r2⟩:=qcf hr hx;rw [HSL.out] at hv;injection hv with hv1 hv2 hv3
      subst hv1 hv3;obtain⟨hc,hf,hz⟩:=bc3 hb;rw [<-hc g _ hgl] at r0 r1 r2;simp only [Bool.false_eq_true,if_false,gP] at r2;have hgw:g<wr.heap.size:=oQ
      have hbm:(b:Int)<(m:Int):=oQ
      have hkid:=(HS.out.kid n l x HN.out (zjy hx)).1;have HKD:=hdQ hkid;have hlv:lvOf t (.pointer (some ⟨n,0,none⟩))=l+1:=by simp [lvOf,HN.out]
      have HLV:=hdQ hlv;clear hr hv2 hx hkid hlv hc hf;go_wp2_with fail
      go_roundw
      case rel=>exact ⟨_,_,rfl,HKD.out,bel⟩
      case measure=>rw [HLV.out];simp [lvOf,HKD.out]
     have hk0:(k:Int)<(m:Int):=oQ
     obtain⟨x,hx⟩:∃x,(t.es n)[k]? =some x:=⟨(t.es n)[k]'(by rw [HM.out];omega),zby _⟩
     have hr:=HROW.out;rw [<-HM.out] at hr;obtain⟨g,c',hv,hgl,r0,r1,r2⟩:=qcf hr hx;rw [HSL.out] at hv;injection hv with hv1 hv2 hv3
     subst hv1 hv3;obtain⟨hc,hf,hz⟩:=bc3 hb;rw [<-hc g _ hgl] at r0 r1 r2;rw [<-hc tb _ clt] at c0;have clt' :tb<wr.heap.size:=oQ
     simp only [Bool.false_eq_true,if_false,gP] at r2;have hgw:g<wr.heap.size:=oQ
     have hKx:=HL.out.ekey n (l+1) x HN.out (zjy hx);have hx256:=hKx.1;have hxl:=hKx.2.1;obtain⟨Ax,cx,ekv,hxc,hAx,hyx⟩:=hKx.bys;rw [ekv] at r0;have HX2:=hdQ hx256;have HXL:=hdQ hxl;have HClx:=hdQ (fun W (hW:Below wr.heap.size wr W)=>qdd w.heap.size x.kb.length cx Ax x.kb W (hyx.tr (hb.trans (hW.mono hz)) (zhy _)) (zcy hz hW.size) hxl hxc hAx)
     clear hr hv2 hx hKx hx256 hxl ekv hxc hAx hyx hc hf;go_wp2_with fail;refine qah [0,1,2,3,4,5,7,9,10,6,8,11,12] kr kr pq ?_
     simp only [zdy,zey,ldz,lds,bare,qak,lcz,lcs,zay]
     repeat' ((try simp only [Act.put,lsi,lsz,lss]);first|(refine lqx ?_)|(refine qab qaa rfl (fun K hK=> ?_);go_simp;((first|(go_at_call 36;(with_reducible refine(HClx.out _ bel).mono ?_);rintro e w4 ⟨s4,rfl,ho4,hb4⟩;obtain⟨A4,c4,rfl,hy4,y42,y43,y44⟩:=qa0 ho4;clear ho4 y42;obtain⟨hc4,hf4,hz4⟩:=bc3 hb4;(try simp at hz4))|(go_at_call 36;(with_reducible refine(HClk.out _ bel).mono ?_);rintro e w5 ⟨s5,rfl,ho5,hb5⟩;obtain⟨A5,c5,rfl,hy5,y52,y53,y54⟩:=qa0 ho5;clear ho5 y52;obtain⟨hc5,hf5,hz5⟩:=bc3 hb5;(try simp at hz5))|((refine(HPn.out _ w5.heap.size _ _ _ _ _ _ _ _ ((hy4.tr bel (zhy _)).more oQ) HX2.out (hy5.tr bel (zhy _)) HK.out oQ HXL.out y44 HKL.out y54 y43 y53).mono ?_);rintro e w6 ⟨p',rfl,hb6⟩;obtain⟨hc6,hf6,hz6⟩:=bc3 hb6;(try simp at hz6))|skip)<;>(refine hK.out _ _ bel ?_;clear hK K))))
     (all_goals try simp only [Act.put,lsi,lsz,lss]);all_goals(refine qad ?_)
     have hbn:Below w.heap.size w w6:=bel;have hkm1:k+1<=m:=oQ
     by_cases hk1:(k:Int)=0
     · have hk2:((k:Int)==0)=true:=by rw [hk1];rfl
       have HK1:=hdQ hk1;clear hk1;go_wp2_with fail
       go_roundw
       case rel=>exact ⟨k,k+1,p',rfl,rfl,by go_num,hkm1,by omega,bel⟩
       case measure=>simp [Go.RowKit.intOf];omega
     · have hk2:((k:Int)==0)=false:=by rw [beq_eq_false_iff_ne];exact hk1
       by_cases hp:p' <p
       · go_wp2_with fail
         go_roundw
         case rel=>exact ⟨k,k+1,p',rfl,rfl,by go_num,hkm1,by omega,bel⟩
         case measure=>simp [Go.RowKit.intOf];omega
       · go_wp2_with fail
         go_roundw
         case rel=>exact ⟨b,k+1,p,rfl,rfl,by go_num,hkm1,by omega,bel⟩
         case measure=>simp [Go.RowKit.intOf];omega
end
end Go.Proofs.YtfnhnjbkkggbeaaGreat
