/-gist-/
import Derived.Test.YtfnhnjbkkggbeaaGreatKGisX
import Derived.Test.YtfnhnjbkkggbeaaGreatKGisZ
import Derived.Test.YtfnhnjbkkggbeaaGreatKSndC
set_option linter.unusedVariables false
set_option linter.unusedSimpArgs false
set_option maxHeartbeats 2000000
namespace Go.Proofs.YtfnhnjbkkggbeaaGreat
open Go Go.RowKit Pg
section
variable {w:World} {own imm:Nat->Prop} {tb mb:Nat} {t:Tr}
theorem qmu {C:Cl} {ct:TypeId} {cv:Value} (h:GAt C (.iface ct cv) w own imm tb mb t) (q:Qu) (hq:ckQu q≠0) (A:Option Addr) (m c:Nat) (hm:m<=1000000) (hr:qal w w.heap.size A m q.ring):
 C9 13 #[gP tb,quV q.kind q.box A m c] w (Ret w (.slice none 0 0)):=by
 obtain⟨k,hk⟩:∃k,ckQu q=k:=⟨_,rfl⟩;have HG:=hdQ (fun W (hW:Below w.heap.size w W)=>qc9 (h.lay.tr hW))
 have HCQ:=hdQ (fun W (hW:Below w.heap.size w W)=>show C9 27 #[quV q.kind q.box A m c] W (RetW W k ⟨#[113,117,101,114,121]⟩ q.kind) from by
  have:=qg4 w.heap.size m c q.kind q.box A q.ring W (hr.below hW) hW.size hm;rw [show (⟨q.kind,q.box,q.ring⟩:Qu)=q from rfl,hk] at this
  exact this)
 rw [hk] at hq;have HK:=hdQ hq;clear hr hk hq h;obtain⟨qk,⟨⟨x0,y0⟩,x1,y1⟩,ring⟩:=q
 simp only [gP,quV] at*
 go_enter Tryz.func13,Tryz.ntmps13
 go_wp2_with (first|(go_at_call 25;(refine(HG.out _ bel).monoR ?_);rintro wp hbp hcp hfp hzp;(try simp at hzp);have hyp0:=ol1 w wp)|(go_at_call 27;((refine(HCQ.out _ bel).mono ?_);rintro e w2 ⟨v2,rfl,hv2,hb2⟩;obtain⟨te,ue,rfl⟩:=ErrX.succ (ErrW.x hv2) HK.out;clear hv2;obtain⟨hc2,hf2,hz2⟩:=bc3 hb2;(try simp at hz2))))
 go_ret;exact⟨rfl,bel⟩
theorem qlh {C:Cl} {ct:TypeId} {cv:Value} (h:GAt C (.iface ct cv) w own imm tb mb t) (x y:Int) (hp:okPt ⟨x,y⟩=false) (k:Int):
 C9 15 #[gP tb,ptV x y,.int .i64 k] w (Ret w (.slice none 0 0)):=by
 have HG:=hdQ (fun W (hW:Below w.heap.size w W)=>qc9 (h.lay.tr hW))
 have HCP:Hid (∀W,C9 32 #[ptV x y] W (Ret W (.iface 75 (.int .i64 2)))):=fun W=>by
  have:=qay x y W;rw [hp] at this;exact this
 clear hp h
 simp only [gP,ptV] at*
 go_enter Tryz.func15,Tryz.ntmps15
 go_wp2_with (first|(go_at_call 25;(refine(HG.out _ bel).monoR ?_);rintro wg hbg hcg hfg hzg;(try simp at hzg);have hyg0:=ol1 w wg)|(go_at_call 32;(refine(HCP.out _).monoR ?_);rintro wp hbp hcp hfp hzp;(try simp at hzp);have hyp0:=ol1 w wp))
 go_ret;exact⟨rfl,bel⟩
end
theorem qwj (id:Int) (m:List (Int×It)):obsT (delK id m)=delK id (obsT m):=by
 unfold obsT delK
 rw [List.filter_map]
 rfl
theorem qzg (id:Int) (x:It) (m:List (Int×It)):obsT (putK id x m)=putK id x.ob (obsT m):=(qry (fun x:It=>x.ob) id x m).symm
theorem qfu (m:List (Int×It)):(obsT m).length=m.length:=by unfold obsT;rw [zyy]
theorem qzh (id:Int) (m:List (Int×It)):getK id (obsT m)=(getK id m).map It.ob:=by unfold obsT;rw [qsl]
structure ClOk (ct:TypeId) (cv:Value) (C:Cl) (fM fC fD fU fS fP:Nat):Prop where
 c:ClAt ct cv C fM fC fD fU fS
 p:PenAt ct cv fP
 e:MakeE cv C fM
def TreS (C:Cl) (cl:Value) (B:Nat) (F:Nat->Prop) (w:World) (tb fan:Nat) (I:List (Int×Ob)):Prop:=
 ∃own imm mb t,GAt C cl w own imm tb mb t/\t.fan=fan/\obsT t.items=I/\∀b,own b\/imm b->B<=b/\¬ F b
section
variable {C:Cl} {ct:TypeId} {cv cl:Value} {B:Nat} {F F' :Nat->Prop} {w w' :World} {tb fan:Nat} {I:List (Int×Ob)} {fM fC fD fU fS fP:Nat} {cov:List Nat->Ob->Prop} {good:List Nat->Prop}
theorem TreS.tr (h:TreS C cl B F w tb fan I) (hb:Below w.heap.size w w'):TreS C cl B F w' tb fan I:=by
 obtain⟨own,imm,mb,t,hG,hf,ho,hs⟩:=h;exact⟨own,imm,mb,t,hG.tr hb,hf,ho,hs⟩
theorem TreS.turn {own imm own' imm' :Nat->Prop} {a:World} (hg:Grow a w' own imm own' imm') (hs:∀b,own b\/imm b->B<=b/\¬ F b) (hF:∀b,F b->b<a.heap.size) (hB:B<=a.heap.size):(∀b,own' b\/imm' b->B<=b/\¬ F b)/\TurnF (fun b=>B<=b/\¬ F b) a w' :=by
 constructor
 · intro b hb
   have:(own b\/imm b)\/a.heap.size<=b:=by
    rcases hb with q|q
    · exact(hg.oo b q).imp .inl id
    · exact(hg.ii b q).imp .inr id
   rcases this with q|q
   · exact hs b q
   · exact⟨by omega,fun k=>by have:=hF b k;omega⟩
 · have h:=hg.turn
   exact⟨h.os,h.tape,h.output,h.size,fun k hk hn=>h.block k hk fun q=>hn (hs k (.inl q))⟩
theorem TreS.ins (h:TreS C (.iface ct cv) B F w tb fan I) (hC:ClOk ct cv C fM fC fD fU fS fP) (hI:I.length<=1000000) (hF:∀b,F b->b<w.heap.size) (hB:B<=w.heap.size) (id:Int) (B2 n c:Nat) (k:Int) (A:Option Addr) (l:List Pt) (hl:qal w B2 A n l) (hB2:B2<=w.heap.size) (hn2:n<=1000000):
 C9 12 #[gP tb,.int .i64 id,obV k A n c] w fun e w' =>∃v,e=.returned v/\ErrX w' v (insO C I id ⟨k,l⟩) ⟨#[105,110,115,101,114,116]⟩ id/\TreS C (.iface ct cv) B F w' tb fan (if insO C I id ⟨k,l⟩=0 then putK id ⟨k,l⟩ I else I)/\TurnF (fun b=>B<=b/\¬ F b) w w' :=by
 obtain⟨own,imm,mb,t,hG,hf,rfl,hs⟩:=h;refine(quw hC.c hC.p hC.e hG (by rw [<-qfu];exact hI) id B2 n c k A l hl hB2 hn2).mono ?_
 rintro e w' ⟨v,rfl,hx,t',own',imm',hG',hgr,hf',h1,h2⟩;rw [qsj] at hx h1 h2;obtain⟨h3,h4⟩:=TreS.turn hgr hs hF hB;refine⟨v,rfl,hx,⟨own',imm',mb,t',hG',hf'.trans hf,?_,h3⟩,h4⟩
 split
 · rename_i h0
   obtain⟨x,hx2,hit⟩:=h2 h0
   rw [hit,qzg,hx2]
 · rename_i h0
   rw [h1 h0]
theorem TreS.del (h:TreS C (.iface ct cv) B F w tb fan I) (hC:ClOk ct cv C fM fC fD fU fS fP) (hI:I.length<=100000) (hF:∀b,F b->b<w.heap.size) (hB:B<=w.heap.size) (id:Int) (hid: -9223372036854775808<=id/\id<=9223372036854775807):
 C9 21 #[gP tb,.int .i64 id] w fun e w' =>∃v,e=.returned v/\ErrX w' v (if (getK id I).isSome then 0 else 7) ⟨#[100,101,108,101,116,101]⟩ id/\TreS C (.iface ct cv) B F w' tb fan (delK id I)/\TurnF (fun b=>B<=b/\¬ F b) w w' :=by
 obtain⟨own,imm,mb,t,hG,hf,rfl,hs⟩:=h;refine(qux hC.c hC.p hG (by rw [<-qfu];exact hI) id hid).mono ?_
 rintro e w' ⟨v,rfl,hx,t',own',imm',hG',hgr,hf',hit⟩;obtain⟨h3,h4⟩:=TreS.turn hgr hs hF hB;refine⟨v,rfl,?_,⟨own',imm',mb,t',hG',hf'.trans hf,by rw [hit,qwj],h3⟩,h4⟩
 rw [qzh,Option.isSome_map]
 exact hx
def bldO (C:Cl) (I l:List (Int×Ob)):Nat×Int:=if I.length=0 then bldR C [] l else(1,0)
theorem TreS.bld (h:TreS C (.iface ct cv) B F w tb fan I) (hC:ClOk ct cv C fM fC fD fU fS fP) (hI:I.length<=100000) (hF:∀b,F b->b<w.heap.size) (hB:B<=w.heap.size) (B2 n c:Nat) (A:Option Addr) (l:List (Int×Ob)) (hl:qe4 w B2 A n l) (hB2:B2<=w.heap.size) (hn:n<=100000) (hpts:∀p∈l,p.2.pts.length<=1000000):
 C9 9 #[gP tb,.slice A n c] w fun e w' =>∃v,e=.returned v/\ErrX w' v (bldO C I l).1 ⟨#[98,117,105,108,100]⟩ (bldO C I l).2/\TreS C (.iface ct cv) B F w' tb fan (if (bldO C I l).1=0 then bldM l else I)/\TurnF (fun b=>B<=b/\¬ F b) w w' :=by
 obtain⟨own,imm,mb,t,hG,hf,rfl,hs⟩:=h;have he:bldO C (obsT t.items) l=bldE C t l:=by unfold bldO bldE;rw [qfu]
 rw [he]
 refine(qx2 hC.c hC.p hC.e hG (by rw [<-qfu];exact hI) B2 n c A l hl hB2 hn hpts).mono ?_
 rintro e w' ⟨v,rfl,hx,t',own',imm',mb',hG',hgr,hf',h1,h2⟩;obtain⟨h3,h4⟩:=TreS.turn hgr hs hF hB;refine⟨v,rfl,hx,⟨own',imm',mb',t',hG',hf'.trans hf,?_,h3⟩,h4⟩
 split
 · rename_i h0
   exact h2 h0
 · rename_i h0
   rw [h1 h0]
theorem TreS.new {own:Nat->Prop} {mb r:Nat} (hL:Lay w own (fun _=>False) tb mb cl (newT fan r) (fun _=>False) fun _=>False) (h4:4<=fan) (h16:fan<=16) (ho:∀b,own b->B<=b):TreS C cl B (fun _=>False) w tb fan []:=
 ⟨own,fun _=>False,mb,newT fan r,qw8 hL h4 h16,rfl,rfl,fun b hb=>⟨by rcases hb with q|q;exact ho b q;exact q.elim,fun q=>q⟩⟩
end
theorem qz9 (kd:Int) (bits:Nat) (one:Bool) (brk:Int) (hb:bits<=20):∃fM fC fD fU fS fP,ClOk 34 (clV kd bits one brk) (clsC kd bits one brk) fM fC fD fU fS fP:=⟨_,_,_,_,_,_,qss kd bits one brk hb,qv1 kd bits one brk,qwv kd bits one brk hb⟩
section
variable {C:Cl} {ct:TypeId} {cv cl:Value} {B:Nat} {F:Nat->Prop} {w:World} {tb fan:Nat} {I:List (Int×Ob)} {fM fC fD fU fS:Nat}
theorem TreS.srchE (h:TreS C (.iface ct cv) B F w tb fan I) (hC:ClAt ct cv C fM fC fD fU fS) (hI:I.length<=40000):∀W,Below w.heap.size w W->∀(q:Qu) (A:Option Addr) (m c:Nat),m<=1000000->qal W W.heap.size A m q.ring->C9 13 #[gP tb,quV q.kind q.box A m c] W fun e w' =>∃v,e=.returned v/\Below W.heap.size W w' :=fun W hW q A m c hm hr=>by
 obtain⟨own,imm,mb,t,hG,hf,rfl,hs⟩:=h;rw [qfu] at hI
 by_cases hq:ckQu q=0
 · obtain⟨lr,hlr⟩:=Option.isSome_iff_exists.1 hG.shape.root.1
   exact(quv hC W (hG.tr hW) oQ q hq A m c hm hr hlr).mono fun e w' ⟨v,he,_,hb⟩=>⟨v,he,hb⟩
 · exact(qmu (hG.tr hW) q hq A m c hm hr).mono fun e w' ⟨he,hb⟩=>⟨_,he,hb⟩
theorem TreS.nearE (h:TreS C (.iface ct cv) B F w tb fan I) (hC:ClAt ct cv C fM fC fD fU fS) (hI:I.length<=40000):∀W,Below w.heap.size w W->∀(x y k:Int),C9 15 #[gP tb,ptV x y,.int .i64 k] W fun e w' =>∃v,e=.returned v/\Below W.heap.size W w' :=fun W hW x y k=>by
 obtain⟨own,imm,mb,t,hG,hf,rfl,hs⟩:=h;rw [qfu] at hI
 cases hp:okPt ⟨x,y⟩ with
 | true=>exact qwo hC (hG.tr hW) hI x y hp k
 | false=>exact (qlh (hG.tr hW) x y hp k).mono fun e w' ⟨he,hb⟩=>⟨_,he,hb⟩
theorem TreS.sndE (h:TreS C (.iface ct cv) B F w tb fan I) (hC:ClAt ct cv C fM fC fD fU fS) (hI:I.length<=40000):∀W,Below w.heap.size w W->C9 19 #[gP tb] W fun e w' =>∃v,e=.returned v/\Below W.heap.size W w' :=fun W hW=>by
 obtain⟨own,imm,mb,t,hG,hf,rfl,hs⟩:=h;rw [qfu] at hI;obtain⟨lr,hlr⟩:=Option.isSome_iff_exists.1 hG.shape.root.1;exact(quu hC W (hG.tr hW) oQ hlr).mono fun e w' ⟨he,hb⟩=>⟨_,he,hb⟩
end
end Go.Proofs.YtfnhnjbkkggbeaaGreat
