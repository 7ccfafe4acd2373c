/-gist: New;insert where the root is a leaf that has room.-/
import Derived.Test.YtfnhnjbkkggbeaaGreatKGisI
import Derived.Carry
set_option linter.unusedVariables false
set_option linter.unusedSimpArgs false
set_option maxHeartbeats 8000000
set_option maxRecDepth 20000
namespace Go.Proofs.YtfnhnjbkkggbeaaGreat
open Go Go.RowKit Pg
section
variable {w:World} {own imm:Nat->Prop} {tb mb:Nat} {cl:Value} {t:Tr}
theorem Lay.item (h:Lay w own imm tb mb cl t (fun _=>False) fun _=>False) (hs:Shape t fun _=>False) {W w9:World} (hW:Below w.heap.size w W) {id:Int} {o:Ob} {gi gp n c:Nat} {kv:Value} {kb:List Nat} {b1 b2:Nat} (hno:getK id t.items=none)
 (hB:Blk W gi 100 #[.int .i64 o.kind,.slice (some ⟨gp,0,none⟩) n c,kv,.pointer none]) (hgi:w.heap.size<=gi) (hp:W.ownsRow b1 46 2 (.slice (some ⟨gp,0,none⟩) n c) n (qbp o.pts)) (hb1:w.heap.size<=b1) (hn:n<=1000000)
 (hk:W.ownsRow b2 5 1 kv kb.length (qap kb)) (hb2:w.heap.size<=b2) (h256:∀x∈kb,x<256) (hkl:kb.length<=1000000)
 (hm:qba w9 Tryz.prog 3 mb (putK id (gP gi) (t.items.map fun p=>(p.1,gP p.2.blk)))) (hg:W.grownBy w9 (some mb)):
 ∃own1 imm1,Lay w9 own1 imm1 tb mb cl {t with items:=putK id ⟨gi,o,.slice (some ⟨gp,0,none⟩) n c,kv,kb⟩ t.items} (fun _=>False) (fun i=>i=id)/\Grow w w9 own imm own1 imm1:=by
 have hl:o.pts.length=n:=by have:=hp.1;rw [qb9] at this;omega
 have hpl:=hp.lt;have hkl2:=hk.lt;have hpi:(Value.slice (some ⟨gp,0,none⟩) n c).ownBlock≠some gi:=qe1 hp hB dE
 have hki:kv.ownBlock≠some gi:=qe1 hk hB dE
 have h1:=(h.tr hW)
 have h2:Lay W (fun k=>own k\/k=gi) (fun k=>imm k\/(Value.slice (some ⟨gp,0,none⟩) n c).ownBlock=some k\/kv.ownBlock=some k) tb mb cl t (fun _=>False) fun i=>i=id:=by
  refine(h1.less (fun _ q=>q) (fun i (q:False)=>q.elim)).more (fun b q=> .inl q) (fun b q=> .inl q) ?_ ?_
  · intro b hb hi
    rcases hb with q|q
    · have q3:=h.lim b (.inl q)
      rcases hi with r|r|r
      · exact h.sep b q r
      · have:=(hpl b r).1;omega
      · have:=(hkl2 b r).1;omega
    · subst q
      rcases hi with r|r|r
      · have:=h.lim _ (.inr r);omega
      · exact hpi r
      · exact hki r
  · intro b hb
    rcases hb with (q|q)|(q|q|q)
    · exact h1.lim b (.inl q)
    · rw [q];exact hB.lt
    · exact h1.lim b (.inr q)
    · exact(hpl b q).2
    · exact(hkl2 b q).2
 refine⟨_,_,Lay.put (x:=⟨gi,o,.slice (some ⟨gp,0,none⟩) n c,kv,kb⟩) h2 hs.rise hno hB (.inr rfl) ?_ (ql8 hk h256 hkl fun g q=> .inr (.inr q)) (qi1 (by rw [hl];exact hp) (show o.pts.length<=1000000 by omega) fun g q=> .inr (.inl q)) rfl hg hm,?_⟩
 · intro i y hy e
   have:=(h1.oI i y hy);have:=h.lim _ (.inl this)
   simp only at e
   omega
 · refine⟨((TurnF.refl own w).below hW).grown hg (fun k e=>by cases e;exact .inl h.oM),?_,?_,fun b q=> .inl q,fun b q=> .inl q⟩
   · intro b q
     rcases q with q|q
     · exact .inl q
     · exact .inr oQ
   · intro b q
     rcases q with q|q|q
     · exact .inl q
     · exact .inr (zcy hb1 (hpl b q).1)
     · exact .inr (zcy hb2 (hkl2 b q).1)
end
theorem qft {w:World} {base n:Nat} {v:Option Addr} {c:Nat} {l:List Pt} (h:w.ownsRow base 46 2 (.slice v n c) n (qbp l)) (hl:l.length=n) (hn:n<=1000000):qal w w.heap.size v n l:=by
 subst hl;obtain⟨A,c',e,_,_,hp⟩:=(qi1 (Z:=fun _=>True) h hn (fun _ _=>trivial)).pts
 injection e with e1 e2 e3
 rw [e1]
 exact hp
def newT (fan r:Nat):Tr:=⟨fan,r,fun b=>if b=r then some 0 else none,fun _=>none,fun _=> [],fun _=> .slice none 0 0,fun _=>0,[]⟩
theorem ql0 (fan r:Nat):Shape (newT fan r) fun _=>False:=Shape.empty (r:=r) rfl rfl rfl rfl List.Pairwise.nil (by simp [newT,qgr])
theorem qqe (ct:TypeId) (cv:Value) (fan:Nat) (h4:4<=fan) (h16:fan<=16) (w:World):
 C9 8 #[.iface ct cv,.int .i64 fan] w fun e w' =>∃tb mb r own,e=.returned (.tuple #[gP tb,.nilIface])/\Lay w' own (fun _=>False) tb mb (.iface ct cv) (newT fan r) (fun _=>False) (fun _=>False)/\(∀b,own b->w.heap.size<=b)/\Below w.heap.size w w' :=by
 have h1:¬ ((fan:Int)<4):=oQ
 have h2:¬ ((16:Int)<(fan:Int)):=oQ
 have hmk:∀W:World,(Instr.makeMap 80 none).run Tryz.prog W=.ok (.map (some W.heap.size)) (W.alloc (.map #[] 0)):=fun W=>run_makeMap _ W
 go_enter Tryz.func8,Tryz.ntmps8
 go_wp2
 go_ret2
 refine⟨w.heap.size+1+1,rfl,w.heap.size+1,w.heap.size,(fun b=>b=w.heap.size\/b=w.heap.size+1\/b=w.heap.size+1+1),?_,?_,bel⟩
 · have hin:∀{b l},(newT fan w.heap.size).lv b=some l->b=w.heap.size/\l=0:=fun {b l} hb=>by
    simp only [newT] at hb
    split at hb
    · rename_i e
      cases hb
      exact⟨e,rfl⟩
    · cases hb
   refine⟨?_,?_,?_,?_,?_,?_,?_,?_,?_,.inr (.inr rfl),.inr (.inl rfl),?_,?_,?_,fun _ _ h=>h,?_⟩
   · exact Blk.new sI rfl
   · have:=(qba.made (w.alloc (.cells #[Value.pointer none,Value.bool true,Value.slice none 0 0] 79)) Tryz.prog 3).alloc (.cells #[.iface ct cv,.int .i64 fan,gP w.heap.size,.map (some (w.heap.size+1))] 82)
     simpa [gP,newT] using this
   · intro b l hb
     obtain⟨rfl,rfl⟩:=hin hb;exact((Blk.new rfl rfl:Blk (w.alloc _) w.heap.size _ _).alloc _).alloc _
   · intro b l hb _
     exact World.ownsRow_nil _ _ _ _
   · intro id x hx
     simp [newT,qgr] at hx
   · intro id x hx
     simp [newT,qgr] at hx
   · intro b l e _ he
     simp [newT] at he
   · intro b b' l l' g hb hb' _ _ _ _
     rw [(hin hb).1,(hin hb').1]
   · intro i i' x x' hx
     simp [newT,qgr] at hx
   · intro b l hb
     exact .inl (hin hb).1
   · intro b l g _ _ hg
     simp [newT,Value.ownBlock] at hg
   · intro id x hx
     simp [newT,qgr] at hx
   · intro b hb
     rcases hb with hb|hb
     · simp;omega
     · exact hb.elim
 · intro b hb
   omega
theorem qlv (t:Tr) (l:List En) (v:Value) (n:Nat):qce t n l v l.length={t with es:=updT t.es n l,sl:=updT t.sl n v,leaf:=fun i=>if i∈l.map En.id then n else t.leaf i}:=by
 unfold qce
 rw [zmy (zhy _)]
theorem qlk {C:Cl} {ct:TypeId} {cv:Value} {fM:Nat} (hC:MkAt ct cv C fM) {w:World} {own imm:Nat->Prop} {tb mb:Nat} {t:Tr}
 (h:Lay w own imm tb mb (.iface ct cv) t (fun _=>False) fun _=>False) (hs:Shape t fun _=>False) (hr:t.lv t.root=some 0) (hroom:(t.es t.root).length<t.fan) (hfan:t.fan<=1000) (hrange:∀i x,getK i t.items=some x->0<=i/\i<=1099511627776) (hcount:t.items.length<=1000000)
 {id:Int} (h0:0<=id) (h1:id<=1099511627776) (hno:getK id t.items=none) (B n c:Nat) (k:Int) (A:Option Addr) (l:List Pt) (hl:qal w B A n l) (hB:B<=w.heap.size) (hn:0<n) (hn2:n<=1000000) (hck:ckOb ⟨k,l⟩=0) (hmk:(C.make ⟨k,l⟩).1=0):
 C9 26 #[gP tb,.int .i64 id,obV k A n c] w fun e w' =>e=.returned .nilIface/\∃own' imm' x v lf,x.ob=⟨k,l⟩/\x.kb=(C.make ⟨k,l⟩).2/\
  Lay w' own' imm' tb mb (.iface ct cv) {t with es:=updT t.es t.root (t.es t.root++ [entG x id]),sl:=updT t.sl t.root v,leaf:=lf,items:=putK id x t.items} (fun _=>False) (fun _=>False)/\
  Shape {t with es:=updT t.es t.root (t.es t.root++ [entG x id]),sl:=updT t.sl t.root v,leaf:=lf,items:=putK id x t.items} (fun _=>False)/\Grow w w' own imm own' imm' :=by
 obtain⟨t0,t1,t2,t3,tlt⟩:=h.c0;have mM:=hC.mM;have eM:=hC.eM;have HL:=hdQ hl;have HG:=hdQ (fun W (hW:Below w.heap.size w W)=>qc9 (h.tr hW))
 have HK:=hdQ (fun W (hW:Below w.heap.size w W)=>qgi B n c k A l W (hl.below (hW.mono hB)) (zcy hB hW.size) hn2)
 have HO:=hdQ (fun W (hW:Below w.heap.size w W)=>qv7 B n c k A l W (hl.below (hW.mono hB)) (zcy hB hW.size) hn hn2)
 have HMk:=hdQ (fun W A' m' c' (hp:qal W W.heap.size A' m' l) (hm:m' <=1000000)=>hC.make W W.heap.size m' c' k A' l hp (zhy _) hm)
 have hform:=hC.form ⟨k,l⟩;have HM:=hdQ h.mp;have HN:=hdQ (qhe hno);have HCNT:=hdQ hcount;have hlen:l.length=n:=hl.1
 -- what stands behind the store into the map
 have HIt:=hdQ (fun(W w9:World) (gi gp c' :Nat) (kv:Value) (b1 b2:Nat) (hW:Below w.heap.size w W) (hBi:Blk W gi 100 #[.int .i64 k,.slice (some ⟨gp,0,none⟩) n c',kv,.pointer none]) (hgi:w.heap.size<=gi) (hp:W.ownsRow b1 46 2 (.slice (some ⟨gp,0,none⟩) n c') n (qbp l)) (hb1:w.heap.size<=b1) (hk:W.ownsRow b2 5 1 kv (C.make ⟨k,l⟩).2.length (qap (C.make ⟨k,l⟩).2)) (hb2:w.heap.size<=b2) (hm:qba w9 Tryz.prog 3 mb (putK id (gP gi) (t.items.map fun p=>(p.1,gP p.2.blk)))) (hg:W.grownBy w9 (some mb))=>
  Lay.item (o:=⟨k,l⟩) h hs hW hno hBi hgi hp hb1 hn2 hk hb2 hform.1 hform.2 hm hg)
 have HAdd:Hid (∀(w9:World) (own1 imm1:Nat->Prop) (x:It),Lay w9 own1 imm1 tb mb (.iface ct cv) {t with items:=putK id x t.items} (fun _=>False) (fun i=>i=id)->
  C9 49 #[gP tb,.int .i64 id] w9 fun e w' =>e=.returned (.tuple #[])/\∃v own',Lay w' own' imm1 tb mb (.iface ct cv) (qce {t with items:=putK id x t.items} t.root (t.es t.root++ [entG x id]) v (t.es t.root++ [entG x id]).length) (fun _=>False) (fun i=>i=id/\i ∉ (t.es t.root++ [entG x id]).map En.id)/\Grow w9 w' own1 imm1 own' imm1):=fun w9 own1 imm1 x hL=>by
  have hget:∀i,getK i (putK id x t.items)=if i=id then some x else getK i t.items:=fun i=>get_put hs.rise id x i
  refine qri (t:={t with items:=putK id x t.items}) hL hr hs.root.2 hroom hfan (by simp [hget]) oQ oQ ?_
  intro e he;obtain⟨_,it,hit,_⟩:=hs.ent _ _ hr he;have hne:e.id≠id:=fun q=>by rw [q,hno] at hit;cases hit
  have:=hrange _ _ hit;exact⟨⟨it,by simp only [hget,if_neg hne];exact hit⟩,by omega,by omega⟩
 have HSh:Hid (∀(x:It) (v:Value),Shape (qce {t with items:=putK id x t.items} t.root (t.es t.root++ [entG x id]) v (t.es t.root++ [entG x id]).length) fun _=>False):=fun x v=>by
  have h1:=(hs.putItem x hno).less (L' :=fun i=>i=id) (fun i=>by simp)
  have h2:=h1.addLeaf (n:=t.root) (id:=id) (it:=x) (x:=entG x id) (v:=v) hr rfl (by simp [get_put hs.rise]) ⟨rfl,rfl,rfl⟩ rfl
  have e:qce {t with items:=putK id x t.items} t.root (t.es t.root++ [entG x id]) v (t.es t.root++ [entG x id]).length={t with items:=putK id x t.items,es:=updT t.es t.root (t.es t.root++ [entG x id]),sl:=updT t.sl t.root v,leaf:=fun i=>if i∈(t.es t.root++ [entG x id]).map En.id then t.root else t.leaf i}:=by
   unfold qce
   rw [zmy (zhy _)]
  rw [e]
  exact h2.less (fun i=>⟨fun q=>q.2 q.1,fun q=>q.elim⟩)
 rw [hck] at HK;have g1:¬ id<0:=oQ
 have g2:¬ (1099511627776:Int)<id:=oQ
 obtain⟨K,hK⟩:∃K,(C.make ⟨k,l⟩).2=K:=⟨_,rfl⟩
 rw [hK] at HIt ⊢
 have HMk2:Hid (∀W A' m' c' (hp:qal W W.heap.size A' m' l) (hm:m' <=1000000),C9 fM #[cv,obV k A' m' c'] W fun e w' =>∃s,e=.returned (.tuple #[s,.nilIface])/\w'.ownsRow W.heap.size 5 1 s K.length (qap K)/\Below W.heap.size W w'):=fun W A' m' c' hp hm=>(HMk.out W A' m' c' hp hm).mono fun e w' ⟨s,v,he,h1,h2,_,h4⟩=>by
  rw [hK] at h1;exact⟨s,by rw [he,h2 hmk],h1,h4⟩
 have hform2:=hform.2;rw [hK] at hform2;clear HMk hC h hl hform
 simp only [gP] at*
 go_enter Tryz.func26,Tryz.ntmps26
 go_wp2_with (first|(go_at_call 25;(refine(HG.out _ bel).monoR ?_);rintro w1 hb1 hc1 hf1 hz1;(try simp at hz1);have hy0:=ol1 w w1)|(go_at_call 50;(refine(HK.out _ bel).mono ?_);rintro e w2 ⟨v2,rfl,hE2,hb2⟩;obtain rfl:=ErrX.zero (ErrW.x hE2);clear hE2;obtain⟨hc2,hf2,hz2⟩:=bc3 hb2;(try simp at hz2);have hy2:=ol1 w w2))
 have hBx:Blk w2 w.heap.size 40 #[.int .i64 k,.slice A n c]:=blkA;have hW2:Below w.heap.size w w2:=bel;obtain⟨b0,b1⟩:=ce2 hBx;obtain⟨hcW,_⟩:=qa1 hW2;rw [<-hcW tb _ tlt] at t0 t1 t2 t3;have tlt2:tb<w2.heap.size:=oQ
 have hy2:w.heap.size<w2.heap.size:=hBx.lt;clear hc2 hf2 hb2 hcW hz2;refine qah [0,1,2,3,4,6,7,5,8,9,10,11,12,13] kr kr pq ?_
 simp only [zdy,zey,ldz,lds,bare,qak,lcz,lcs,zay]
 repeat' ((try simp only [Act.put,lsi,lsz,lss]);first|(refine lqx ?_)|(refine qab qaa rfl (fun K hK=> ?_);go_simp;((first|(go_at_call 40;(refine(HO.out _ bel).mono ?_);rintro e w3 ⟨g3,c3,rfl,ho3,hb3⟩;have hp3:qal w3 w3.heap.size (some ⟨g3,0,none⟩) n l:=qft ho3 hlen hn2;clear ho3;obtain⟨hc3,hf3,hz3⟩:=bc3 hb3;(try simp at hz3))|((refine(HMk2.out _ _ _ _ (hp3.tr bel (zhy _)) hn2).mono ?_);rintro e w4 ⟨s4,rfl,ho4,hb4⟩;have HO4:=hdQ ho4;clear ho4;obtain⟨hc4,hf4,hz4⟩:=bc3 hb4;(try simp at hz4))|skip)<;>(refine hK.out _ _ bel ?_;clear hK K))))
 (all_goals try simp only [Act.put,lsi,lsz,lss]);all_goals(refine qad ?_)
 have hW24:Below w2.heap.size w2 w4:=by clear hW2;exact bel
 have hW4:Below w.heap.size w w4:=by clear hW24;exact bel
 have hBx4:Blk w4 w.heap.size 40 #[.int .i64 k,.slice A n c]:=by clear hW4 hW2 hW24;exact blkA
 obtain⟨A4,c4,rfl,hy4,y2,y3,y4⟩:=qa0 HO4.out;obtain⟨b0,b1⟩:=ce2 hBx4;have hcW:=(qa1 hW24).1;rw [<-hcW tb _ tlt2] at t0 t1 t2 t3;have tlt4:tb<w4.heap.size:=oQ
 have hy4' :w.heap.size<w4.heap.size:=hBx4.lt;have HKl:Hid (K.length<=1000000):=hform2;have HCl:=hdQ (fun W A c (hy:qbm W W.heap.size A K.length K) (h1:K.length<=c) (h2:A=none->c=0)=>qdd W.heap.size K.length c A K W hy (zhy _) HKl.out h1 h2)
 have hz42:w.heap.size<=w4.heap.size:=hW4.size;clear hcW hc3 hf3 hb3 hz3 hc4 hf4 hb4 hz4 hW2 hW24 hp3
 go_wp2_with (at_lookup;go_must (refine qdg _ rfl _ _ _ rfl rfl rfl (show MapO _ _ _ (some mb) _ from qba.tr HM.out bel) Tryz.underlying3 Tryz.underlying80 (Tryz.zeroItG _) oQ oQ ?_;rw [HN.out];simp only [Option.getD_none]))
 refine qax [0,1,2,3,4,5,7,6,8,9,10] [11] kr kr pq ?_
 simp only [zdy,zey,ldz,lds,bare,qak,lcz,lcs,zay,qc0,Option.isNone_none,Bool.and_true,Bool.true_and,Bool.false_and,Bool.and_self]
 repeat((try simp only [Act.put,lsi,lsz,lss]);first|(refine qbh (v:= ?_) qaa rfl ?_ ?_;rotate_left;focus(intro wq;go_simp;try with_reducible rfl))|(refine qa6 (v:= ?_) qaa rfl ?_ ?_;rotate_left;focus(intro wq hq;obtain⟨hcq,hfq⟩:=qa1 hq;go_simp;try with_reducible rfl))|(refine qa7 qaa rfl (fun K hK=> ?_);go_simp;((first|(go_at_call 40;(refine(HO.out _ bel).mono ?_);rintro e w5 ⟨g5,c5,rfl,ho5,hb5⟩;have HO5:=hdQ ho5;clear ho5;obtain⟨hc5,hf5,hz5⟩:=bc3 hb5;(try simp at hz5))|(go_at_call 36;(refine(HCl.out _ _ _ ((hy4.tr bel (zhy _)).more hz5) y4 y3).mono ?_);rintro e w6 ⟨s6,rfl,ho6,hb6⟩;obtain⟨A6,c6,rfl,y62,y63,y64,y65⟩:=qa0 ho6;clear y62 y63 y64 y65;have HO6:=hdQ ho6;clear ho6;obtain⟨hc6,hf6,hz6⟩:=bc3 hb6;(try simp at hz6))|skip)<;>(refine hK.out _ _ bel ?_;clear hK K))))
 (all_goals try simp only [Act.put,lsi,lsz,lss])
 refine qbs ?_;refine qao (fun K hK=> ?_)
 (have p5:=qaq HO5.out (qag hb6) sI);(have p6:=HO6.out);(refine qnp _ _ _ _ _ rfl rfl rfl _ rfl (show qba _ _ _ mb _ from qba.tr HM.out bel) Tryz.underlying3 Tryz.underlying80 (by rw [zyy];exact zix HCNT.out dE) oQ oQ ?_);(intro w9 hm9 hg9);(obtain⟨own1,imm1,HL9,HG9⟩:=HIt.out _ w9 w6.heap.size g5 c5 _ _ _ bel blkA oQ (World.ownsRow.alloc p5 _) (by(try simp);omega) (World.ownsRow.alloc p6 _) (by(try simp);omega) hm9 hg9)
 refine hK.out _ _ ?_;clear hK K
 (try simp only [Act.put,lsi,lsz,lss])
 refine qbr ?_;clear hm9 hg9 p5 p6 hb6 hc6 hf6 hb5 hc5 hf5 HO5 HO6
 go_wp2_with (go_at_call 49;(refine(HAdd.out _ _ _ _ HL9).mono ?_);rintro e w10 ⟨rfl,v,own2,HL10,HG10⟩)
 go_ret
 have eL:(fun i=>i=id/\i ∉ (t.es t.root++ [entG ⟨w6.heap.size,⟨k,l⟩,.slice (some ⟨g5,0,none⟩) n c5,.slice A6 K.length c6,K⟩ id]).map En.id)=fun _=>False:=by
  funext i
  simp only [eq_iff_iff,iff_false]
  rintro⟨rfl,q⟩;exact q (by simp [entG])
 rw [qlv,eL] at HL10;refine⟨rfl,own2,imm1,_,v,_,rfl,rfl,HL10,?_,HG9.trans HG10⟩;have:=HSh.out ⟨w6.heap.size,⟨k,l⟩,.slice (some ⟨g5,0,none⟩) n c5,.slice A6 K.length c6,K⟩ v;rw [qlv] at this;exact this
def q0h (C:Cl) (w w' :World) (own imm:Nat->Prop) (tb mb:Nat) (cl:Value) (t:Tr) (id:Int) (k:Int) (l:List Pt):Prop:=
 ∃own' imm' x v lf,x.ob=⟨k,l⟩/\x.kb=(C.make ⟨k,l⟩).2/\
  Lay w' own' imm' tb mb cl {t with es:=updT t.es t.root (t.es t.root++ [entG x id]),sl:=updT t.sl t.root v,leaf:=lf,items:=putK id x t.items} (fun _=>False) (fun _=>False)/\
  Shape {t with es:=updT t.es t.root (t.es t.root++ [entG x id]),sl:=updT t.sl t.root v,leaf:=lf,items:=putK id x t.items} (fun _=>False)/\Grow w w' own imm own' imm'
theorem qkn {C:Cl} {ct:TypeId} {cv:Value} {fM:Nat} (hC:MkAt ct cv C fM) {w:World} {own imm:Nat->Prop} {tb mb:Nat} {t:Tr}
 (h:Lay w own imm tb mb (.iface ct cv) t (fun _=>False) fun _=>False) (hs:Shape t fun _=>False) (hr:t.lv t.root=some 0) (hroom:(t.es t.root).length<t.fan) (hfan:t.fan<=1000) (hrange:∀i x,getK i t.items=some x->0<=i/\i<=1099511627776) (hcount:t.items.length<=1000000)
 {id:Int} (h0:0<=id) (h1:id<=1099511627776) (hno:getK id t.items=none) (B n c:Nat) (k:Int) (A:Option Addr) (l:List Pt) (hl:qal w B A n l) (hB:B<=w.heap.size) (hn:0<n) (hn2:n<=1000000) (hck:ckOb ⟨k,l⟩=0) (hmk:(C.make ⟨k,l⟩).1=0):
 C9 12 #[gP tb,.int .i64 id,obV k A n c] w fun e w' =>e=.returned .nilIface/\q0h C w w' own imm tb mb (.iface ct cv) t id k l:=by
 have HI:=hdQ (fun W (hW:Below w.heap.size w W)=>qlk hC (h.tr hW) hs hr hroom hfan hrange hcount h0 h1 hno B n c k A l (hl.below (hW.mono hB)) (zcy hB hW.size) hn hn2 hck hmk)
 have HF:=hdQ (fun W=>qet ⟨#[105,110,115,101,114,116]⟩ id .nilIface 0 W (.inl ⟨rfl,rfl⟩))
 clear h hs hl
 simp only [gP] at*
 go_enter Tryz.func12,Tryz.ntmps12
 go_wp2_with (first|(go_at_call 26;(refine(HI.out _ bel).mono ?_);rintro e w1 ⟨rfl,own',imm',x,v,lf,ho,hk,hL,hS,hG⟩;have hW1:Below w.heap.size w (w.alloc (.cells #[.int .i64 k,.slice A n c] 40)):=bel;have HR:=hdQ (show q0h C w w1 own imm tb mb (.iface ct cv) t id k l from ⟨own',imm',x,v,lf,ho,hk,hL,hS,(Grow.of_below hW1).trans hG⟩);clear ho hk hL hS hG)|(go_at_call 24;(refine(HF.out _).mono ?_);rintro e w2 ⟨v',rfl,hE2,hb2⟩;obtain rfl:=ErrX.zero hE2;clear hE2;have HB2:=hdQ hb2;obtain⟨hc2,hf2⟩:=qa1 hb2))
 go_ret;obtain⟨own',imm',x,v,lf,ho,hk,hL,hS,hG⟩:=HR.out;exact⟨rfl,own',imm',x,v,lf,ho,hk,hL.tr HB2.out,hS,hG.trans (Grow.of_below HB2.out)⟩
structure MakeE (rv:Value) (C:Cl) (fM:Nat):Prop where
 make:∀(W:World) (B m c:Nat) (k:Int) (A:Option Addr) (l:List Pt),qal W B A m l->B<=W.heap.size->m<=1000000->ckOb ⟨k,l⟩=0->
  C9 fM #[rv,obV k A m c] W fun e w' =>∃s v,e=.returned (.tuple #[s,v])/\w'.ownsRow W.heap.size 5 1 s (C.make ⟨k,l⟩).2.length (qap (C.make ⟨k,l⟩).2)/\ErrY w' v (C.make ⟨k,l⟩).1/\Below W.heap.size W w'
def insE (C:Cl) (t:Tr) (id:Int) (o:Ob):Nat:=if ¬ (0<=id/\id<=1099511627776) then 1 else if ckOb o≠0 then ckOb o else if (C.make o).1≠0 then(C.make o).1 else if (getK id t.items).isSome then 6 else 0
structure GAt (C:Cl) (cl:Value) (w:World) (own imm:Nat->Prop) (tb mb:Nat) (t:Tr):Prop where
 lay:Lay w own imm tb mb cl t (fun _=>False) fun _=>False
 shape:Shape t fun _=>False
 fill:Fill t fun _=>False
 keyed:Keyed C.un t fun _=>False
 fan4:4<=t.fan
 fan16:t.fan<=16
 its:∀id x,getK id t.items=some x->(0<=id/\id<=1099511627776)/\ckOb x.ob=0/\(C.make x.ob).1=0/\x.kb=(C.make x.ob).2
theorem GAt.tr {C:Cl} {cl:Value} {w w' :World} {own imm:Nat->Prop} {tb mb:Nat} {t:Tr} (h:GAt C cl w own imm tb mb t) (hb:Below w.heap.size w w'):GAt C cl w' own imm tb mb t:=⟨h.lay.tr hb,h.shape,h.fill,h.keyed,h.fan4,h.fan16,h.its⟩
def InsG (C:Cl) (cl:Value) (w w' :World) (own imm:Nat->Prop) (tb mb:Nat) (t:Tr) (id:Int) (o:Ob):Prop:=
 ∃t' own' imm',GAt C cl w' own' imm' tb mb t' /\Grow w w' own imm own' imm' /\t'.fan=t.fan/\(insE C t id o≠0->t' =t)/\(insE C t id o=0->∃x,x.ob=o/\t'.items=putK id x t.items)
theorem InsG.same {C:Cl} {cl:Value} {w w' :World} {own imm:Nat->Prop} {tb mb:Nat} {t:Tr} {id:Int} {o:Ob} (h:GAt C cl w own imm tb mb t) (hb:Below w.heap.size w w') (he:insE C t id o≠0):InsG C cl w w' own imm tb mb t id o:=
 ⟨t,own,imm,h.tr hb,Grow.of_below hb,rfl,fun _=>rfl,fun q=>absurd q he⟩
theorem q3i {k:Int} {l:List Pt} (h:ckOb ⟨k,l⟩=0):0<l.length:=by
 cases l with
 | nil=>
   have hr:qbn []≠0:=by decide
   simp [ckOb] at h
   exfalso
   repeat' split at h
   all_goals first|(cases h;done)|exact hr h
 | cons a r=>simp
section
variable {w:World} {own imm:Nat->Prop} {tb mb:Nat} {t:Tr}
theorem qma {C:Cl} {ct:TypeId} {cv:Value} {fM fC fD fU fS fP:Nat} (hC:ClAt ct cv C fM fC fD fU fS) (hP:PenAt ct cv fP) (hE:MakeE cv C fM) (h:GAt C (.iface ct cv) w own imm tb mb t) (hcount:t.items.length<=1000000) (id:Int) (B n c:Nat) (k:Int) (A:Option Addr) (l:List Pt) (hl:qal w B A n l) (hB:B<=w.heap.size) (hn2:n<=1000000):
 C9 26 #[gP tb,.int .i64 id,obV k A n c] w fun e w' =>∃v,e=.returned v/\ErrY w' v (insE C t id ⟨k,l⟩)/\InsG C (.iface ct cv) w w' own imm tb mb t id ⟨k,l⟩:=by
 obtain⟨t0,t1,t2,t3,tlt⟩:=h.lay.c0;have mM:=hC.mM;have eM:=hC.eM;have HL:=hdQ hl;have HH:=hdQ h;have HG:=hdQ (fun W (hW:Below w.heap.size w W)=>qc9 (h.lay.tr hW))
 have HK:=hdQ (fun W (hW:Below w.heap.size w W)=>qgi B n c k A l W (hl.below (hW.mono hB)) (zcy hB hW.size) hn2)
 have hlen:l.length=n:=hl.1;have HLEN:=hdQ hlen
 by_cases hr:0<=id/\id<=1099511627776
 case neg=>
  have he:insE C t id ⟨k,l⟩=1:=by unfold insE;rw [if_pos hr]
  have HSm:=hdQ (fun w' (hb:Below w.heap.size w w')=>InsG.same (id:=id) (o:=⟨k,l⟩) h hb (by rw [he];decide))
  have HE:=hdQ he;clear h hC hP hE hl he hlen
  by_cases h0:id<0
  · simp only [gP] at*
    go_enter Tryz.func26,Tryz.ntmps26
    go_wp2_with (go_at_call 25;(refine(HG.out _ bel).monoR ?_);rintro w1 hb1 hc1 hf1 hz1;(try simp at hz1);have hy0:=ol1 w w1)
    go_ret;exact⟨_,rfl,by rw [HE.out];exact .inr ⟨by decide,0,rfl⟩,HSm.out _ bel⟩
  · have h1:(1099511627776:Int)<id:=oQ
    simp only [gP] at*
    go_enter Tryz.func26,Tryz.ntmps26
    go_wp2_with (go_at_call 25;(refine(HG.out _ bel).monoR ?_);rintro w1 hb1 hc1 hf1 hz1;(try simp at hz1);have hy0:=ol1 w w1)
    go_ret;exact⟨_,rfl,by rw [HE.out];exact .inr ⟨by decide,0,rfl⟩,HSm.out _ bel⟩
 have g1:¬ id<0:=oQ
 have g2:¬ (1099511627776:Int)<id:=oQ
 have h0: -9223372036854775808<=id:=oQ
 have h1:id<=9223372036854775807:=oQ
 by_cases hck:ckOb ⟨k,l⟩=0
 case neg=>
  have he:insE C t id ⟨k,l⟩=ckOb ⟨k,l⟩:=by unfold insE;rw [if_neg (by simpa using hr),if_pos hck]
  have HSm:=hdQ (fun w' (hb:Below w.heap.size w w')=>InsG.same (id:=id) (o:=⟨k,l⟩) h hb (by rw [he];exact hck))
  have HE:=hdQ he;have HCK:=hdQ hck;clear h hC hP hE hl he hlen hr hck
  simp only [gP] at*
  go_enter Tryz.func26,Tryz.ntmps26
  go_wp2_with (first|(go_at_call 25;(refine(HG.out _ bel).monoR ?_);rintro w1 hb1 hc1 hf1 hz1;(try simp at hz1);have hy0:=ol1 w w1)|(go_at_call 50;(refine(HK.out _ bel).mono ?_);rintro e w2 ⟨v2,rfl,hE2,hb2⟩;obtain⟨te,ue,rfl⟩:=ErrX.succ (ErrW.x hE2) HCK.out;have HE2:=hdQ (ErrX.y (ErrW.x hE2));clear hE2;obtain⟨hc2,hf2⟩:=qa1 hb2))
  go_ret;exact⟨_,rfl,by rw [HE.out];exact HE2.out,HSm.out _ bel⟩
 have hn:0<n:=by rw [<-hlen];exact q3i hck
 have HO:=hdQ (fun W (hW:Below w.heap.size w W)=>qv7 B n c k A l W (hl.below (hW.mono hB)) (zcy hB hW.size) hn hn2)
 have HMk:=hdQ (fun W A' m' c' (hp:qal W W.heap.size A' m' l) (hm:m' <=1000000)=>hE.make W W.heap.size m' c' k A' l hp (zhy _) hm hck)
 rw [hck] at HK;have HNoE:Hid (ckOb ⟨k,l⟩=0/\(0<=id/\id<=1099511627776)):=⟨hck,hr⟩;have HM:=hdQ h.lay.mp;have HCNT:=hdQ hcount;obtain⟨K,hK⟩:∃K,(C.make ⟨k,l⟩).2=K:=⟨_,rfl⟩;have hform:=hC.form ⟨k,l⟩;have HCC:=hdQ hC;have HPP:=hdQ hP;rw [hK] at hform HMk;have HK2:=hdQ hK;clear hC hP hE hl h
 by_cases hmk:(C.make ⟨k,l⟩).1=0
 case neg=>
  have he:insE C t id ⟨k,l⟩=(C.make ⟨k,l⟩).1:=by unfold insE;rw [if_neg (by simpa using hr),if_neg (by simpa using hck),if_pos hmk]
  have HSm:=hdQ (fun w' (hb:Below w.heap.size w w')=>InsG.same (id:=id) (o:=⟨k,l⟩) HH.out hb (by rw [he];exact hmk))
  have HE:=hdQ he;have HMK:=hdQ hmk;clear he hlen hr hck hmk hK hform
  simp only [gP] at*
  go_enter Tryz.func26,Tryz.ntmps26
  go_wp2_with (first|(go_at_call 25;(refine(HG.out _ bel).monoR ?_);rintro w1 hb1 hc1 hf1 hz1;(try simp at hz1);have hy0:=ol1 w w1)|(go_at_call 50;(refine(HK.out _ bel).mono ?_);rintro e w2 ⟨v2,rfl,hE2,hb2⟩;obtain rfl:=ErrX.zero (ErrW.x hE2);clear hE2;obtain⟨hc2,hf2,hz2⟩:=bc3 hb2;(try simp at hz2);have hy2:=ol1 w w2))
  have hBx:Blk w2 w.heap.size 40 #[.int .i64 k,.slice A n c]:=blkA;have hW2:Below w.heap.size w w2:=bel;obtain⟨b0,b1⟩:=ce2 hBx;obtain⟨hcW,_⟩:=qa1 hW2;rw [<-hcW tb _ tlt] at t0 t1 t2 t3;have tlt2:tb<w2.heap.size:=oQ
  have hy2:w.heap.size<w2.heap.size:=hBx.lt;clear hc2 hf2 hb2 hcW hz2;refine qah [0,1,2,3,4,6,7,5,8,9,10,11,12,13] kr kr pq ?_
  simp only [zdy,zey,ldz,lds,bare,qak,lcz,lcs,zay]
  repeat' ((try simp only [Act.put,lsi,lsz,lss]);first|(refine lqx ?_)|(refine qab qaa rfl (fun K hK=> ?_);go_simp;((first|(go_at_call 40;(refine(HO.out _ bel).mono ?_);rintro e w3 ⟨g3,c3,rfl,ho3,hb3⟩;have hp3:qal w3 w3.heap.size (some ⟨g3,0,none⟩) n l:=qft ho3 HLEN.out hn2;clear ho3;obtain⟨hc3,hf3,hz3⟩:=bc3 hb3;(try simp at hz3))|((refine(HMk.out _ _ _ _ (hp3.tr bel (zhy _)) hn2).mono ?_);rintro e w4 ⟨s4,v4,rfl,ho4,hE4,hb4⟩;obtain⟨te,ue,rfl⟩:=ErrY.succ hE4 HMK.out;have HE4:=hdQ hE4;clear ho4 hE4;obtain⟨hc4,hf4,hz4⟩:=bc3 hb4;(try simp at hz4))|skip)<;>(refine hK.out _ _ bel ?_;clear hK K))))
  (all_goals try simp only [Act.put,lsi,lsz,lss]);all_goals(refine qad ?_)
  go_wp2_with fail;go_ret;exact⟨_,rfl,by rw [HE.out];exact HE4.out.tr bel,HSm.out _ bel⟩
 rw [hmk] at HMk;have HMk2:Hid (∀W A' m' c' (hp:qal W W.heap.size A' m' l) (hm:m' <=1000000),C9 fM #[cv,obV k A' m' c'] W fun e w' =>∃s,e=.returned (.tuple #[s,.nilIface])/\w'.ownsRow W.heap.size 5 1 s K.length (qap K)/\Below W.heap.size W w'):=fun W A' m' c' hp hm=>(HMk.out W A' m' c' hp hm).mono fun e w' ⟨s,v,he,h1,h2,h4⟩=>⟨s,by rw [he,ErrY.zero h2],h1,h4⟩
 clear HMk
 cases hgt:getK id t.items with
 | some x=>
   have he:insE C t id ⟨k,l⟩=6:=by unfold insE;rw [if_neg (by simpa using hr),if_neg (by simpa using hck),if_neg (by simpa using hmk),hgt];rfl
   have HSm:=hdQ (fun w' (hb:Below w.heap.size w w')=>InsG.same (id:=id) (o:=⟨k,l⟩) HH.out hb (by rw [he];decide))
   have HE:=hdQ he;have HN:=hdQ (qcy hgt);clear he hlen hr hck hmk hK hform hgt
   simp only [gP] at*
   go_enter Tryz.func26,Tryz.ntmps26
   go_wp2_with (first|(go_at_call 25;(refine(HG.out _ bel).monoR ?_);rintro w1 hb1 hc1 hf1 hz1;(try simp at hz1);have hy0:=ol1 w w1)|(go_at_call 50;(refine(HK.out _ bel).mono ?_);rintro e w2 ⟨v2,rfl,hE2,hb2⟩;obtain rfl:=ErrX.zero (ErrW.x hE2);clear hE2;obtain⟨hc2,hf2,hz2⟩:=bc3 hb2;(try simp at hz2);have hy2:=ol1 w w2))
   have hBx:Blk w2 w.heap.size 40 #[.int .i64 k,.slice A n c]:=blkA;have hW2:Below w.heap.size w w2:=bel;obtain⟨b0,b1⟩:=ce2 hBx;obtain⟨hcW,_⟩:=qa1 hW2;rw [<-hcW tb _ tlt] at t0 t1 t2 t3;have tlt2:tb<w2.heap.size:=oQ
   have hy2:w.heap.size<w2.heap.size:=hBx.lt;clear hc2 hf2 hb2 hcW hz2;refine qah [0,1,2,3,4,6,7,5,8,9,10,11,12,13] kr kr pq ?_
   simp only [zdy,zey,ldz,lds,bare,qak,lcz,lcs,zay]
   repeat' ((try simp only [Act.put,lsi,lsz,lss]);first|(refine lqx ?_)|(refine qab qaa rfl (fun K hK=> ?_);go_simp;((first|(go_at_call 40;(refine(HO.out _ bel).mono ?_);rintro e w3 ⟨g3,c3,rfl,ho3,hb3⟩;have hp3:qal w3 w3.heap.size (some ⟨g3,0,none⟩) n l:=qft ho3 HLEN.out hn2;clear ho3;obtain⟨hc3,hf3,hz3⟩:=bc3 hb3;(try simp at hz3))|((refine(HMk2.out _ _ _ _ (hp3.tr bel (zhy _)) hn2).mono ?_);rintro e w4 ⟨s4,rfl,ho4,hb4⟩;clear ho4;obtain⟨hc4,hf4,hz4⟩:=bc3 hb4;(try simp at hz4))|skip)<;>(refine hK.out _ _ bel ?_;clear hK K))))
   (all_goals try simp only [Act.put,lsi,lsz,lss]);all_goals(refine qad ?_)
   have hW24:Below w2.heap.size w2 w4:=by clear hW2;exact bel
   have hW4:Below w.heap.size w w4:=by clear hW24;exact bel
   have hBx4:Blk w4 w.heap.size 40 #[.int .i64 k,.slice A n c]:=by clear hW4 hW2 hW24;exact blkA
   obtain⟨b0,b1⟩:=ce2 hBx4;have hcW:=(qa1 hW24).1;rw [<-hcW tb _ tlt2] at t0 t1 t2 t3;have tlt4:tb<w4.heap.size:=oQ
   have hy4' :w.heap.size<w4.heap.size:=hBx4.lt;have hz42:w.heap.size<=w4.heap.size:=hW4.size;clear hcW hc3 hf3 hb3 hz3 hc4 hf4 hb4 hz4 hW2 hW24 hp3
   go_wp2_with (at_lookup;go_must (refine qdg _ rfl _ _ _ rfl rfl rfl (show MapO _ _ _ (some mb) _ from qba.tr HM.out bel) Tryz.underlying3 Tryz.underlying80 (Tryz.zeroItG _) oQ oQ ?_;rw [HN.out];simp only [Option.getD_some]))
   go_ret;exact⟨_,rfl,by rw [HE.out];exact .inr ⟨by decide,0,rfl⟩,HSm.out _ bel⟩
 | none=>
   have he:insE C t id ⟨k,l⟩=0:=by unfold insE;rw [if_neg (by simpa using hr),if_neg (by simpa using hck),if_neg (by simpa using hmk),hgt];rfl
   have HAdd:Hid (∀(w9:World) (own1 imm1:Nat->Prop) (x:It),x.ob=⟨k,l⟩->x.kb=K->Lay w9 own1 imm1 tb mb (.iface ct cv) {t with items:=putK id x t.items} (fun _=>False) (fun i=>i=id)->C9 49 #[gP tb,.int .i64 id] w9 fun e w' =>e=.returned (.tuple #[])/\∃t' own' imm',GAt C (.iface ct cv) w' own' imm' tb mb t' /\Grow w9 w' own1 imm1 own' imm' /\t'.fan=t.fan/\t'.items=putK id x t.items):=fun w9 own1 imm1 x hob hkb hL=>by
    have hget:∀i,getK i (putK id x t.items)=if i=id then some x else getK i t.items:=fun i=>get_put HH.out.shape.rise id x i
    have hrg:∀i y,getK i (putK id x t.items)=some y->(0<=i/\i<=1099511627776)/\ckOb y.ob=0/\(C.make y.ob).1=0/\y.kb=(C.make y.ob).2:=fun i y hy=>by
     rw [hget] at hy
     split at hy
     · rename_i e
       cases hy
       rw [e,hob]
       exact⟨HNoE.out.2,HNoE.out.1,hmk,by rw [hkb,HK2.out]⟩
     · exact HH.out.its i y hy
    refine(qx0 (t:={t with items:=putK id x t.items}) (L:=fun i=>i=id) (id:=id) (x:=x) HCC.out HPP.out hL ((HH.out.shape.putItem x hgt).less fun i=>by simp) HH.out.fill HH.out.keyed HH.out.fan4 HH.out.fan16 (fun i y hy=>(hrg i y hy).1) (by simp [hget]) rfl).mono ?_
    rintro e w' ⟨rfl,t',own',imm',hL',hS',hF',hK',hi',hf',hG'⟩;refine⟨rfl,t',own',imm',⟨hL'.less (fun _ q=>q) (fun i q=>q.2 q.1),hS'.less (fun i=>⟨fun q=>q.2 q.1,fun q=>q.elim⟩),hF',hK',by rw [hf'];exact HH.out.fan4,by rw [hf'];exact HH.out.fan16,fun i y hy=>by rw [hi'] at hy;exact hrg i y hy⟩,hG',hf',hi'⟩
   have HE:=hdQ he;have HN:=hdQ (qhe hgt)
   have HIt:=hdQ (fun(W w9:World) (gi gp c' :Nat) (kv:Value) (b1 b2:Nat) (hW:Below w.heap.size w W) (hBi:Blk W gi 100 #[.int .i64 k,.slice (some ⟨gp,0,none⟩) n c',kv,.pointer none]) (hgi:w.heap.size<=gi) (hp:W.ownsRow b1 46 2 (.slice (some ⟨gp,0,none⟩) n c') n (qbp l)) (hb1:w.heap.size<=b1) (hk:W.ownsRow b2 5 1 kv K.length (qap K)) (hb2:w.heap.size<=b2) (hm:qba w9 Tryz.prog 3 mb (putK id (gP gi) (t.items.map fun p=>(p.1,gP p.2.blk)))) (hg:W.grownBy w9 (some mb))=>
    Lay.item (o:=⟨k,l⟩) HH.out.lay HH.out.shape hW hgt hBi hgi hp hb1 hn2 hk hb2 hform.1 hform.2 hm hg)
   have hform2:=hform.2;have HKl:Hid (K.length<=1000000):=hform2;have HCl:=hdQ (fun W A c (hy:qbm W W.heap.size A K.length K) (h1:K.length<=c) (h2:A=none->c=0)=>qdd W.heap.size K.length c A K W hy (zhy _) HKl.out h1 h2)
   clear he hlen hr hck hmk hK hform hform2 hgt
   simp only [gP] at*
   go_enter Tryz.func26,Tryz.ntmps26
   go_wp2_with (first|(go_at_call 25;(refine(HG.out _ bel).monoR ?_);rintro w1 hb1 hc1 hf1 hz1;(try simp at hz1);have hy0:=ol1 w w1)|(go_at_call 50;(refine(HK.out _ bel).mono ?_);rintro e w2 ⟨v2,rfl,hE2,hb2⟩;obtain rfl:=ErrX.zero (ErrW.x hE2);clear hE2;obtain⟨hc2,hf2,hz2⟩:=bc3 hb2;(try simp at hz2);have hy2:=ol1 w w2))
   have hBx:Blk w2 w.heap.size 40 #[.int .i64 k,.slice A n c]:=blkA;have hW2:Below w.heap.size w w2:=bel;obtain⟨b0,b1⟩:=ce2 hBx;obtain⟨hcW,_⟩:=qa1 hW2;rw [<-hcW tb _ tlt] at t0 t1 t2 t3;have tlt2:tb<w2.heap.size:=oQ
   have hy2:w.heap.size<w2.heap.size:=hBx.lt;clear hc2 hf2 hb2 hcW hz2;refine qah [0,1,2,3,4,6,7,5,8,9,10,11,12,13] kr kr pq ?_
   simp only [zdy,zey,ldz,lds,bare,qak,lcz,lcs,zay]
   repeat' ((try simp only [Act.put,lsi,lsz,lss]);first|(refine lqx ?_)|(refine qab qaa rfl (fun K hK=> ?_);go_simp;((first|(go_at_call 40;(refine(HO.out _ bel).mono ?_);rintro e w3 ⟨g3,c3,rfl,ho3,hb3⟩;have hp3:qal w3 w3.heap.size (some ⟨g3,0,none⟩) n l:=qft ho3 HLEN.out hn2;clear ho3;obtain⟨hc3,hf3,hz3⟩:=bc3 hb3;(try simp at hz3))|((refine(HMk2.out _ _ _ _ (hp3.tr bel (zhy _)) hn2).mono ?_);rintro e w4 ⟨s4,rfl,ho4,hb4⟩;have HO4:=hdQ ho4;clear ho4;obtain⟨hc4,hf4,hz4⟩:=bc3 hb4;(try simp at hz4))|skip)<;>(refine hK.out _ _ bel ?_;clear hK K))))
   (all_goals try simp only [Act.put,lsi,lsz,lss]);all_goals(refine qad ?_)
   have hW24:Below w2.heap.size w2 w4:=by clear hW2;exact bel
   have hW4:Below w.heap.size w w4:=by clear hW24;exact bel
   have hBx4:Blk w4 w.heap.size 40 #[.int .i64 k,.slice A n c]:=by clear hW4 hW2 hW24;exact blkA
   obtain⟨A4,c4,rfl,hy4,y2,y3,y4⟩:=qa0 HO4.out;obtain⟨b0,b1⟩:=ce2 hBx4;have hcW:=(qa1 hW24).1;rw [<-hcW tb _ tlt2] at t0 t1 t2 t3;have tlt4:tb<w4.heap.size:=oQ
   have hy4' :w.heap.size<w4.heap.size:=hBx4.lt;have hz42:w.heap.size<=w4.heap.size:=hW4.size;clear hcW hc3 hf3 hb3 hz3 hc4 hf4 hb4 hz4 hW2 hW24 hp3
   go_wp2_with (at_lookup;go_must (refine qdg _ rfl _ _ _ rfl rfl rfl (show MapO _ _ _ (some mb) _ from qba.tr HM.out bel) Tryz.underlying3 Tryz.underlying80 (Tryz.zeroItG _) oQ oQ ?_;rw [HN.out];simp only [Option.getD_none]))
   refine qax [0,1,2,3,4,5,7,6,8,9,10] [11] kr kr pq ?_
   simp only [zdy,zey,ldz,lds,bare,qak,lcz,lcs,zay,qc0,Option.isNone_none,Bool.and_true,Bool.true_and,Bool.false_and,Bool.and_self]
   repeat((try simp only [Act.put,lsi,lsz,lss]);first|(refine qbh (v:= ?_) qaa rfl ?_ ?_;rotate_left;focus(intro wq;go_simp;try with_reducible rfl))|(refine qa6 (v:= ?_) qaa rfl ?_ ?_;rotate_left;focus(intro wq hq;obtain⟨hcq,hfq⟩:=qa1 hq;go_simp;try with_reducible rfl))|(refine qa7 qaa rfl (fun K hK=> ?_);go_simp;((first|(go_at_call 40;(refine(HO.out _ bel).mono ?_);rintro e w5 ⟨g5,c5,rfl,ho5,hb5⟩;have HO5:=hdQ ho5;clear ho5;obtain⟨hc5,hf5,hz5⟩:=bc3 hb5;(try simp at hz5))|(go_at_call 36;(refine(HCl.out _ _ _ ((hy4.tr bel (zhy _)).more hz5) y4 y3).mono ?_);rintro e w6 ⟨s6,rfl,ho6,hb6⟩;obtain⟨A6,c6,rfl,y62,y63,y64,y65⟩:=qa0 ho6;clear y62 y63 y64 y65;have HO6:=hdQ ho6;clear ho6;obtain⟨hc6,hf6,hz6⟩:=bc3 hb6;(try simp at hz6))|skip)<;>(refine hK.out _ _ bel ?_;clear hK K))))
   (all_goals try simp only [Act.put,lsi,lsz,lss])
   refine qbs ?_;refine qao (fun K hK=> ?_)
   (have p5:=qaq HO5.out (qag hb6) sI);(have p6:=HO6.out);(refine qnp _ _ _ _ _ rfl rfl rfl _ rfl (show qba _ _ _ mb _ from qba.tr HM.out bel) Tryz.underlying3 Tryz.underlying80 (by rw [zyy];exact zix HCNT.out dE) oQ oQ ?_);(intro w9 hm9 hg9);(obtain⟨own1,imm1,HL9,HG9⟩:=HIt.out _ w9 w6.heap.size g5 c5 _ _ _ bel blkA oQ (World.ownsRow.alloc p5 _) (by(try simp);omega) (World.ownsRow.alloc p6 _) (by(try simp);omega) hm9 hg9)
   refine hK.out _ _ ?_;clear hK K
   (try simp only [Act.put,lsi,lsz,lss])
   refine qbr ?_;clear hm9 hg9 p5 p6 hb6 hc6 hf6 hb5 hc5 hf5 HO5 HO6
   go_wp2_with (go_at_call 49;(refine(HAdd.out _ _ _ _ rfl rfl HL9).mono ?_);rintro e w10 ⟨rfl,t10,own2,imm2,HA10,HG10,HF10,HI10⟩)
   go_ret;exact⟨_,rfl,by rw [HE.out];exact .inl ⟨rfl,rfl⟩,t10,own2,imm2,HA10,HG9.trans HG10,HF10,fun q=>absurd HE.out q,fun _=>⟨_,rfl,HI10⟩⟩
theorem quw {C:Cl} {ct:TypeId} {cv:Value} {fM fC fD fU fS fP:Nat} (hC:ClAt ct cv C fM fC fD fU fS) (hP:PenAt ct cv fP) (hE:MakeE cv C fM) (h:GAt C (.iface ct cv) w own imm tb mb t) (hcount:t.items.length<=1000000) (id:Int) (B n c:Nat) (k:Int) (A:Option Addr) (l:List Pt) (hl:qal w B A n l) (hB:B<=w.heap.size) (hn2:n<=1000000):
 C9 12 #[gP tb,.int .i64 id,obV k A n c] w fun e w' =>∃v,e=.returned v/\ErrX w' v (insE C t id ⟨k,l⟩) ⟨#[105,110,115,101,114,116]⟩ id/\InsG C (.iface ct cv) w w' own imm tb mb t id ⟨k,l⟩:=by
 have HI:=hdQ (fun W (hW:Below w.heap.size w W)=>qma hC hP hE (h.tr hW) hcount id B n c k A l (hl.below (hW.mono hB)) (zcy hB hW.size) hn2)
 have HF:=hdQ (fun v (hv:ErrY w v 0->True) W k' (h:ErrY W v k')=>qet ⟨#[105,110,115,101,114,116]⟩ id v k' W h)
 clear h hl hC hP hE;obtain⟨ie,hie⟩:∃x,insE C t id ⟨k,l⟩=x:=⟨_,rfl⟩
 rw [hie] at HI ⊢
 clear hie
 simp only [gP] at*
 go_enter Tryz.func12,Tryz.ntmps12
 go_wp2_with (first|(go_at_call 26;(refine(HI.out _ bel).mono ?_);rintro e w1 ⟨v1,rfl,hy1,t1,own1,imm1,hA1,hG1,hf1,hs1⟩;have hW1:Below w.heap.size w (w.alloc (.cells #[.int .i64 k,.slice A n c] 40)):=bel;have HR:=hdQ (show InsG C (.iface ct cv) w w1 own imm tb mb t id ⟨k,l⟩ from ⟨t1,own1,imm1,hA1,(Grow.of_below hW1).trans hG1,hf1,hs1⟩);have HY:=hdQ hy1;clear hA1 hG1 hf1 hs1 hy1)|(go_at_call 24;(refine(HF.out _ (fun _=>trivial) _ _ HY.out).mono ?_);rintro e w2 ⟨v',rfl,hE2,hb2⟩;have HE2:=hdQ hE2;clear hE2;have HB2:=hdQ hb2;obtain⟨hc2,hf2⟩:=qa1 hb2))
 go_ret;obtain⟨t1,own1,imm1,hA1,hG1,hf1,hs1⟩:=HR.out;exact⟨_,rfl,HE2.out,t1,own1,imm1,hA1.tr HB2.out,hG1.trans (Grow.of_below HB2.out),hf1,hs1⟩
end
end Go.Proofs.YtfnhnjbkkggbeaaGreat
