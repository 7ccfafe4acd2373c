/-gist-/
import Derived.Test.YtjopdlmbgidigaaGreatDoorAAlkI
import Derived.Test.YtjopdlmbgidigaaGreatDoorASndC
set_option linter.unusedVariables false
set_option linter.unusedSimpArgs false
set_option maxHeartbeats 2000000
set_option maxRecDepth 20000
namespace Go.Proofs.YtjopdlmbgidigaaGreatDoor
open Go Go.RowKit Pg
section
variable {w:World} {own imm:Nat->Prop} {tb mb:Nat} {t:Tr}
theorem qsu {C:Cl} {ct:TypeId} {cv:Value} (h:GAt C (.iface ct cv) w own imm tb mb t) (id:Int) (h0: -9223372036854775808<=id) (h1:id<=9223372036854775807) (hg:getK id t.items=none):
 C9 15 #[gP tb,.int .i64 id] w (Ret w (.tuple #[.agg #[.int .i64 0,.slice none 0 0],.bool false])):=by
 have HM:=hdQ h.lay.mp;obtain⟨t0,t1,t2,t3,tl⟩:=h.lay.c0;have HG:=hdQ (fun W (hW:Below w.heap.size w W)=>qdm (h.lay.tr hW))
 have HN:=hdQ (qgg hg)
 have HLk:=hdQ (fun W (hW:Below w.heap.size w W)=>show (Instr.lookup 70 (.map (some mb)) (.int .i64 id) false).run Tryz.prog W=.ok (.pointer none) W from by
  have:=MapO.look (show MapO _ _ _ (some mb) _ from qa8.tr HM.out hW) Tryz.underlying3 Tryz.underlying70 (Tryz.zeroItG _) h0 h1
  rw [HN.out] at this
  exact this)
 clear h hg
 simp only [gP] at*
 go_enter Tryz.func15,Tryz.ntmps15
 go_wp2_with (first
  | (go_at_call 23;(refine(HG.out _ bel).monoR ?_);rintro w1 hb1 hc1 hf1 hz1;(try simp at hz1);have hlk:=HLk.out w1 bel))
 refine qah (R:=fun w2=>Blk w2 (w.heap.size) 25 #[.int .i64 0,.slice none 0 0]/\Below w.heap.size w w2) ⟨?_,bel⟩ ?_
 · repeat(first|with_reducible exact qct (x:=.int .i64 0) (y:=.slice none 0 0) blkA|(with_reducible refine Blk.new ?_ rfl;focus(simp;done))|with_reducible refine Blk.alloc ?_ _|with_reducible refine Blk.drew ?_)
 rintro w2 ⟨HR,hb2⟩;obtain⟨r0,r1⟩:=ce2 HR;exact bodyPost_ret (v:=.tuple #[.agg #[.int .i64 0,.slice none 0 0],.bool false]) (by simp [results,Tryz.results15,go_sem,r0,r1]) rfl ⟨rfl,hb2⟩
theorem qst {C:Cl} {ct:TypeId} {cv:Value} (h:GAt C (.iface ct cv) w own imm tb mb t) (id:Int) (x:It) (hg:getK id t.items=some x):
 C9 15 #[gP tb,.int .i64 id] w fun e w' =>∃k A n c,e=.returned (.tuple #[.agg #[.int .i64 k,.slice A n c],.bool true])/\Below w.heap.size w w' :=by
 have HM:=hdQ h.lay.mp;obtain⟨t0,t1,t2,t3,tl⟩:=h.lay.c0;have HG:=hdQ (fun W (hW:Below w.heap.size w W)=>qdm (h.lay.tr hW))
 obtain⟨hid,hck,_⟩:=h.its id x hg;have HN:=hdQ (qdg hg);obtain⟨z,hBi,_⟩:=h.lay.it id x hg;have ilt:=hBi.lt;obtain⟨Ap,cp,ep,_,_,hpts⟩:=(h.lay.ikey id x hg).2.pts;have hpl:0<x.ob.pts.length:=q0j (k:=x.ob.kind) (l:=x.ob.pts) hck;have hpm:x.ob.pts.length<=1000000:=by have:=(h.lay.ikey id x hg).2.1;exact this
 have HOw:=hdQ (fun W (hW:Below w.heap.size w W)=>qol w.heap.size x.ob.pts.length cp x.ob.kind Ap x.ob.pts W (hpts.below hW) hW.size hpl hpm)
 have i0' :=hBi.cell 0;have i1' :=hBi.cell 1
 simp only [lAq] at i0' i1'
 rw [ep] at i1'
 have h0: -9223372036854775808<=id:=oQ
 have h1:id<=9223372036854775807:=oQ
 have HLk:=hdQ (fun W (hW:Below w.heap.size w W)=>show (Instr.lookup 70 (.map (some mb)) (.int .i64 id) false).run Tryz.prog W=.ok (.pointer (some ⟨x.blk,0,none⟩)) W from by
  have:=MapO.look (show MapO _ _ _ (some mb) _ from qa8.tr HM.out hW) Tryz.underlying3 Tryz.underlying70 (Tryz.zeroItG _) h0 h1
  rw [HN.out] at this
  exact this)
 clear h hg hck hBi ep hpts hpl hid
 simp only [gP,obV] at*
 go_enter Tryz.func15,Tryz.ntmps15
 go_wp2_with (first
  | (go_at_call 23;(refine(HG.out _ bel).monoR ?_);rintro w1 hb1 hc1 hf1 hz1;(try simp at hz1);have hy0:=ol1 w w1;have hlk:=HLk.out w1 bel)
  | (go_at_call 27;(refine(HOw.out _ bel).mono ?_);rintro e w4 ⟨g4,c4,rfl,_,hb4⟩;have hB4:Blk w4 w.heap.size 25 #[.int .i64 0,.slice none 0 0]:=blkA;have k0:=hB4.cell 0;have k1:=hB4.cell 1;have kf:=hB4.frozen;have kl:=hB4.lt;(simp only [lAq] at k0 k1);have HB4:=hdQ (And.intro hB4 (show Below w.heap.size w w4 from bel));clear hB4 hb4))
 refine qah (R:=fun w2=>Blk w2 w.heap.size 25 #[.int .i64 x.ob.kind,.slice (some ⟨g4,0,none⟩) x.ob.pts.length c4]/\Below w.heap.size w w2) ⟨qct HB4.out.1,(HB4.out.2.setCell (zhy _) _).setCell (zhy _) _⟩ ?_
 rintro w2 ⟨HR,hb2⟩;obtain⟨r0,r1⟩:=ce2 HR;exact bodyPost_ret (v:=.tuple #[.agg #[.int .i64 x.ob.kind,.slice (some ⟨g4,0,none⟩) x.ob.pts.length c4],.bool true]) (by simp [results,Tryz.results15,go_sem,r0,r1]) rfl ⟨_,_,_,_,rfl,hb2⟩
theorem q6d {C:Cl} {ct:TypeId} {cv:Value} (h:GAt C (.iface ct cv) w own imm tb mb t) (id:Int) (h0: -9223372036854775808<=id) (h1:id<=9223372036854775807):
 C9 15 #[gP tb,.int .i64 id] w fun e w' =>∃k A n c,e=.returned (.tuple #[.agg #[.int .i64 k,.slice A n c],.bool (getK id t.items).isSome])/\Below w.heap.size w w' :=by
 cases hg:getK id t.items with
 | none=>exact (qsu h id h0 h1 hg).mono fun e w' ⟨he,hb⟩=>⟨_,_,_,_,he,hb⟩
 | some x=>exact qst h id x hg
end
theorem qy4 (id:Int) (m:List (Int×It)):obsT (delK id m)=delK id (obsT m):=by
 unfold obsT delK
 rw [List.filter_map]
 rfl
theorem q2p (id:Int) (x:It) (m:List (Int×It)):obsT (putK id x m)=putK id x.ob (obsT m):=(qt8 (fun x:It=>x.ob) id x m).symm
theorem qgd (m:List (Int×It)):(obsT m).length=m.length:=by unfold obsT;rw [zyy]
theorem quh (id:Int) (m:List (Int×It)):getK id (obsT m)=(getK id m).map It.ob:=by unfold obsT;rw [quy]
structure ClOk (ct:TypeId) (cv:Value) (C:Cl) (fM fC fD fU fS fP:Nat):Prop where
 c:ClAt ct cv C fM fC fD fU fS
 p:PenAt ct cv fP
 e:MakeE cv C fM
def TreS (C:Cl) (cl:Value) (B:Nat) (F:Nat->Prop) (w:World) (tb fan:Nat) (I:List (Int×Ob)):Prop:=
 ∃own imm mb t,GAt C cl w own imm tb mb t/\t.fan=fan/\obsT t.items=I/\∀b,own b\/imm b->B<=b/\¬ F b
section
variable {C:Cl} {ct:TypeId} {cv cl:Value} {B:Nat} {F F' :Nat->Prop} {w w' :World} {tb fan:Nat} {I:List (Int×Ob)} {fM fC fD fU fS fP:Nat} {cov:List Nat->Ob->Prop} {good:List Nat->Prop}
theorem TreS.tr (h:TreS C cl B F w tb fan I) (hb:Below w.heap.size w w'):TreS C cl B F w' tb fan I:=by
 obtain⟨own,imm,mb,t,hG,hf,ho,hs⟩:=h;exact⟨own,imm,mb,t,hG.tr hb,hf,ho,hs⟩
theorem TreS.more (h:TreS C cl B F w tb fan I) (hF:∀b,F' b->F b\/w.heap.size<=b):TreS C cl B F' w tb fan I:=by
 obtain⟨own,imm,mb,t,hG,hf,ho,hs⟩:=h;refine⟨own,imm,mb,t,hG,hf,ho,fun b hb=>⟨(hs b hb).1,fun q=> ?_⟩⟩
 rcases hF b q with k|k
 · exact(hs b hb).2 k
 · have:=hG.lay.lim b hb
   omega
theorem TreS.rise (h:TreS C cl B F w tb fan I):qb5 I:=by
 obtain⟨own,imm,mb,t,hG,hf,rfl,hs⟩:=h;unfold obsT qb5
 rw [List.pairwise_map]
 exact hG.shape.rise
theorem TreS.len (h:TreS C (.iface ct cv) B F w tb fan I):∀W,Below w.heap.size w W->C9 9 #[gP tb] W (Ret W (.int .i64 (I.length:Nat))):=fun W hW=>by
 obtain⟨own,imm,mb,t,hG,hf,rfl,hs⟩:=h
 rw [qgd]
 exact q5a (hG.tr hW).lay
theorem TreS.get (h:TreS C (.iface ct cv) B F w tb fan I) (id:Int) (h0: -9223372036854775808<=id) (h1:id<=9223372036854775807):∀W,Below w.heap.size w W->C9 15 #[gP tb,.int .i64 id] W fun e w' =>∃k A n c,e=.returned (.tuple #[.agg #[.int .i64 k,.slice A n c],.bool (getK id I).isSome])/\Below W.heap.size W w' :=fun W hW=>by
 obtain⟨own,imm,mb,t,hG,hf,rfl,hs⟩:=h
 rw [quh,Option.isSome_map]
 exact q6d (hG.tr hW) id h0 h1
theorem TreS.turn {own imm own' imm' :Nat->Prop} {a:World} (hg:Grow a w' own imm own' imm') (hs:∀b,own b\/imm b->B<=b/\¬ F b) (hF:∀b,F b->b<a.heap.size) (hB:B<=a.heap.size):(∀b,own' b\/imm' b->B<=b/\¬ F b)/\TurnF (fun b=>B<=b/\¬ F b) a w' :=by
 constructor
 · intro b hb
   have:(own b\/imm b)\/a.heap.size<=b:=by
    rcases hb with q|q
    · exact(hg.oo b q).imp .inl id
    · exact(hg.ii b q).imp .inr id
   rcases this with q|q
   · exact hs b q
   · exact⟨by omega,fun k=>by have:=hF b k;omega⟩
 · have h:=hg.turn
   exact⟨h.os,h.tape,h.output,h.size,fun k hk hn=>h.block k hk fun q=>hn (hs k (.inl q))⟩
theorem TreS.ins (h:TreS C (.iface ct cv) B F w tb fan I) (hC:ClOk ct cv C fM fC fD fU fS fP) (hI:I.length<=1000000) (hF:∀b,F b->b<w.heap.size) (hB:B<=w.heap.size) (id:Int) (B2 n c:Nat) (k:Int) (A:Option Addr) (l:List Pt) (hl:qan w B2 A n l) (hB2:B2<=w.heap.size) (hn2:n<=1000000):
 C9 11 #[gP tb,.int .i64 id,obV k A n c] w fun e w' =>∃v,e=.returned v/\ErrX w' v (insO C I id ⟨k,l⟩) ⟨#[105,110,115,101,114,116]⟩ id/\TreS C (.iface ct cv) B F w' tb fan (if insO C I id ⟨k,l⟩=0 then putK id ⟨k,l⟩ I else I)/\TurnF (fun b=>B<=b/\¬ F b) w w' :=by
 obtain⟨own,imm,mb,t,hG,hf,rfl,hs⟩:=h;refine(qxj hC.c hC.p hC.e hG (by rw [<-qgd];exact hI) id B2 n c k A l hl hB2 hn2).mono ?_
 rintro e w' ⟨v,rfl,hx,t',own',imm',hG',hgr,hf',h1,h2⟩;rw [quw] at hx h1 h2;obtain⟨h3,h4⟩:=TreS.turn hgr hs hF hB;refine⟨v,rfl,hx,⟨own',imm',mb,t',hG',hf'.trans hf,?_,h3⟩,h4⟩
 split
 · rename_i h0
   obtain⟨x,hx2,hit⟩:=h2 h0
   rw [hit,q2p,hx2]
 · rename_i h0
   rw [h1 h0]
theorem TreS.del (h:TreS C (.iface ct cv) B F w tb fan I) (hC:ClOk ct cv C fM fC fD fU fS fP) (hI:I.length<=100000) (hF:∀b,F b->b<w.heap.size) (hB:B<=w.heap.size) (id:Int) (hid: -9223372036854775808<=id/\id<=9223372036854775807):
 C9 12 #[gP tb,.int .i64 id] w fun e w' =>∃v,e=.returned v/\ErrX w' v (if (getK id I).isSome then 0 else 7) ⟨#[100,101,108,101,116,101]⟩ id/\TreS C (.iface ct cv) B F w' tb fan (delK id I)/\TurnF (fun b=>B<=b/\¬ F b) w w' :=by
 obtain⟨own,imm,mb,t,hG,hf,rfl,hs⟩:=h;refine(qxk hC.c hC.p hG (by rw [<-qgd];exact hI) id hid).mono ?_
 rintro e w' ⟨v,rfl,hx,t',own',imm',hG',hgr,hf',hit⟩;obtain⟨h3,h4⟩:=TreS.turn hgr hs hF hB;refine⟨v,rfl,?_,⟨own',imm',mb,t',hG',hf'.trans hf,by rw [hit,qy4],h3⟩,h4⟩
 rw [quh,Option.isSome_map]
 exact hx
def bldO (C:Cl) (I l:List (Int×Ob)):Nat×Int:=if I.length=0 then bldR C [] l else(1,0)
theorem TreS.bld (h:TreS C (.iface ct cv) B F w tb fan I) (hC:ClOk ct cv C fM fC fD fU fS fP) (hI:I.length<=100000) (hF:∀b,F b->b<w.heap.size) (hB:B<=w.heap.size) (B2 n c:Nat) (A:Option Addr) (l:List (Int×Ob)) (hl:qeo w B2 A n l) (hB2:B2<=w.heap.size) (hn:n<=100000) (hpts:∀p∈l,p.2.pts.length<=1000000):
 C9 8 #[gP tb,.slice A n c] w fun e w' =>∃v,e=.returned v/\ErrX w' v (bldO C I l).1 ⟨#[98,117,105,108,100]⟩ (bldO C I l).2/\TreS C (.iface ct cv) B F w' tb fan (if (bldO C I l).1=0 then bldM l else I)/\TurnF (fun b=>B<=b/\¬ F b) w w' :=by
 obtain⟨own,imm,mb,t,hG,hf,rfl,hs⟩:=h;have he:bldO C (obsT t.items) l=bldE C t l:=by unfold bldO bldE;rw [qgd]
 rw [he]
 refine(q08 hC.c hC.p hC.e hG (by rw [<-qgd];exact hI) B2 n c A l hl hB2 hn hpts).mono ?_
 rintro e w' ⟨v,rfl,hx,t',own',imm',mb',hG',hgr,hf',h1,h2⟩;obtain⟨h3,h4⟩:=TreS.turn hgr hs hF hB;refine⟨v,rfl,hx,⟨own',imm',mb',t',hG',hf'.trans hf,?_,h3⟩,h4⟩
 split
 · rename_i h0
   exact h2 h0
 · rename_i h0
   rw [h1 h0]
theorem TreS.its (h:TreS C (.iface ct cv) B F w tb fan I) (hI:I.length<=100000) {n:Nat} (hn:I.length=n):∀W,Below w.heap.size w W->C9 10 #[gP tb] W fun e w' =>∃A c L,e=.returned (.slice A n c)/\obsM L=I/\L.length=n/\MisZ w' (fun b=>w.heap.size<=b/\b<w'.heap.size) (.slice A n c) L/\Below W.heap.size W w' :=fun W hW=>by
 obtain⟨own,imm,mb,t,hG,hf,rfl,hs⟩:=h;rw [qgd] at hn hI;exact qxi hG hI hn W hW
theorem TreS.snd (h:TreS C (.iface ct cv) B F w tb fan I) (hC:ClAt ct cv C fM fC fD fU fS) (hLw:Lawful C cov good) (hI:I.length<=100000):∀W,Below w.heap.size w W->C9 16 #[gP tb] W (Ret W (.bool true)):=fun W hW=>by
 obtain⟨own,imm,mb,t,hG,hf,rfl,hs⟩:=h;exact q06 hC hLw W (hG.tr hW) (by rw [<-qgd];exact hI)
theorem TreS.new {own:Nat->Prop} {mb r:Nat} (hL:Lay w own (fun _=>False) tb mb cl (newT fan r) (fun _=>False) fun _=>False) (h4:4<=fan) (h16:fan<=16) (ho:∀b,own b->B<=b):TreS C cl B (fun _=>False) w tb fan []:=
 ⟨own,fun _=>False,mb,newT fan r,qzx hL h4 h16,rfl,rfl,fun b hb=>⟨by rcases hb with q|q;exact ho b q;exact q.elim,fun q=>q⟩⟩
end
theorem qqz {w:World} {v:Value} {k:Nat} {s:ByteArray} {id:Int} (h:ErrX w v k s id):(k=0/\v=.nilIface)\/(k≠0/\∃t u,v=.iface t u):=by
 rcases h with h|⟨h0,g,d,inner,hv,_,_⟩
 · exact .inl h
 · exact .inr ⟨h0,_,_,hv⟩
theorem qu7 (kd:Int) (bits:Nat) (one:Bool) (brk:Int) (hb:bits<=20):∃fM fC fD fU fS fP,ClOk 34 (clV kd bits one brk) (clsC kd bits one brk) fM fC fD fU fS fP:=⟨_,_,_,_,_,_,qu8 kd bits one brk hb,qys kd bits one brk,qzl kd bits one brk hb⟩
def cl17:Value:=.iface 34 (clV 3 0 false 0)
theorem qeq {B:Nat} {F:Nat->Prop} {w W W' :World} (hW:Below w.heap.size w W) (ht:TurnF (fun b=>B<=b/\¬ F b) W W') (hB:w.heap.size<=B):Below w.heap.size w W' :=hW.trans (qh6 ht (fun k q=>zcy hB q.1) hW.size)
end Go.Proofs.YtjopdlmbgidigaaGreatDoor
