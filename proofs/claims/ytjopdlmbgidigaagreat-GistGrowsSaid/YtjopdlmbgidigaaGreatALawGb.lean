/-gist-/
import Derived.Test.YtjopdlmbgidigaaGreatAPlainGg
import Derived.Test.YtjopdlmbgidigaaGreatADelE
import Derived.Test.YtjopdlmbgidigaaGreatALawGn
set_option linter.unusedVariables false
set_option linter.unusedSimpArgs false
namespace Go.Proofs.YtjopdlmbgidigaaGreat
open Go Go.RowKit Pg
theorem qzp (id:Int) (m:List (Int×It)):obsT (delK id m)=delK id (obsT m):=by
 unfold obsT delK
 rw [List.filter_map]
 rfl
theorem q2x (id:Int) (x:It) (m:List (Int×It)):obsT (putK id x m)=putK id x.ob (obsT m):=(qu2 (fun x:It=>x.ob) id x m).symm
theorem qi7 (m:List (Int×It)):(obsT m).length=m.length:=by unfold obsT;rw [zyy]
theorem qvd (id:Int) (m:List (Int×It)):getK id (obsT m)=(getK id m).map It.ob:=by unfold obsT;rw [qvv]
structure ClOk (ct:TypeId) (cv:Value) (C:Cl) (fM fC fD fU fS fP:Nat):Prop where
 c:ClAt ct cv C fM fC fD fU fS
 p:PenAt ct cv fP
 e:MakeE cv C fM
def TreS (C:Cl) (cl:Value) (B:Nat) (F:Nat->Prop) (w:World) (tb fan:Nat) (I:List (Int×Ob)):Prop:=
 ∃own imm mb t,GAt C cl w own imm tb mb t/\t.fan=fan/\obsT t.items=I/\∀b,own b\/imm b->B<=b/\¬ F b
section
variable {C:Cl} {ct:TypeId} {cv cl:Value} {B:Nat} {F F' :Nat->Prop} {w w' :World} {tb fan:Nat} {I:List (Int×Ob)} {fM fC fD fU fS fP:Nat} {cov:List Nat->Ob->Prop} {good:List Nat->Prop}
theorem TreS.tr (h:TreS C cl B F w tb fan I) (hb:Below w.heap.size w w'):TreS C cl B F w' tb fan I:=by
 obtain⟨own,imm,mb,t,hG,hf,ho,hs⟩:=h;exact⟨own,imm,mb,t,hG.tr hb,hf,ho,hs⟩
theorem TreS.more (h:TreS C cl B F w tb fan I) (hF:∀b,F' b->F b\/w.heap.size<=b):TreS C cl B F' w tb fan I:=by
 obtain⟨own,imm,mb,t,hG,hf,ho,hs⟩:=h;refine⟨own,imm,mb,t,hG,hf,ho,fun b hb=>⟨(hs b hb).1,fun q=> ?_⟩⟩
 rcases hF b q with k|k
 · exact(hs b hb).2 k
 · have:=hG.lay.lim b hb
   omega
theorem TreS.rise (h:TreS C cl B F w tb fan I):qb3 I:=by
 obtain⟨own,imm,mb,t,hG,hf,rfl,hs⟩:=h;unfold obsT qb3
 rw [List.pairwise_map]
 exact hG.shape.rise
theorem TreS.ans (h:TreS C (.iface ct cv) B F w tb fan I) (hC:ClAt ct cv C fM fC fD fU fS) (hLw:Lawful C cov good) (hI:I.length<=40000):AnsT w tb I:=by
 obtain⟨own,imm,mb,t,hG,hf,rfl,hs⟩:=h;exact ansT hC hLw hG (by rw [<-qi7];exact hI)
theorem TreS.get (h:TreS C (.iface ct cv) B F w tb fan I) (id:Int) (h0: -9223372036854775808<=id) (h1:id<=9223372036854775807):∀W,Below w.heap.size w W->C9 14 #[gP tb,.int .i64 id] W fun e w' =>∃k A n c,e=.returned (.tuple #[.agg #[.int .i64 k,.slice A n c],.bool (getK id I).isSome])/\Below W.heap.size W w' :=fun W hW=>by
 obtain⟨own,imm,mb,t,hG,hf,rfl,hs⟩:=h
 rw [qvd,Option.isSome_map]
 exact q54 (hG.tr hW) id h0 h1
theorem TreS.turn {own imm own' imm' :Nat->Prop} {a:World} (hg:Grow a w' own imm own' imm') (hs:∀b,own b\/imm b->B<=b/\¬ F b) (hF:∀b,F b->b<a.heap.size) (hB:B<=a.heap.size):(∀b,own' b\/imm' b->B<=b/\¬ F b)/\TurnF (fun b=>B<=b/\¬ F b) a w' :=by
 constructor
 · intro b hb
   have:(own b\/imm b)\/a.heap.size<=b:=by
    rcases hb with q|q
    · exact(hg.oo b q).imp .inl id
    · exact(hg.ii b q).imp .inr id
   rcases this with q|q
   · exact hs b q
   · exact⟨by omega,fun k=>by have:=hF b k;omega⟩
 · have h:=hg.turn
   exact⟨h.os,h.tape,h.output,h.size,fun k hk hn=>h.block k hk fun q=>hn (hs k (.inl q))⟩
theorem TreS.ins (h:TreS C (.iface ct cv) B F w tb fan I) (hC:ClOk ct cv C fM fC fD fU fS fP) (hI:I.length<=1000000) (hF:∀b,F b->b<w.heap.size) (hB:B<=w.heap.size) (id:Int) (B2 n c:Nat) (k:Int) (A:Option Addr) (l:List Pt) (hl:qao w B2 A n l) (hB2:B2<=w.heap.size) (hn2:n<=1000000):
 C9 15 #[gP tb,.int .i64 id,obV k A n c] w fun e w' =>∃v,e=.returned v/\ErrX w' v (insO C I id ⟨k,l⟩) ⟨#[105,110,115,101,114,116]⟩ id/\TreS C (.iface ct cv) B F w' tb fan (if insO C I id ⟨k,l⟩=0 then putK id ⟨k,l⟩ I else I)/\TurnF (fun b=>B<=b/\¬ F b) w w' :=by
 obtain⟨own,imm,mb,t,hG,hf,rfl,hs⟩:=h;refine(qx5 hC.c hC.p hC.e hG (by rw [<-qi7];exact hI) id B2 n c k A l hl hB2 hn2).mono ?_
 rintro e w' ⟨v,rfl,hx,t',own',imm',hG',hgr,hf',h1,h2⟩;rw [qvt] at hx h1 h2;obtain⟨h3,h4⟩:=TreS.turn hgr hs hF hB;refine⟨v,rfl,hx,⟨own',imm',mb,t',hG',hf'.trans hf,?_,h3⟩,h4⟩
 split
 · rename_i h0
   obtain⟨x,hx2,hit⟩:=h2 h0
   rw [hit,q2x,hx2]
 · rename_i h0
   rw [h1 h0]
theorem TreS.del (h:TreS C (.iface ct cv) B F w tb fan I) (hC:ClOk ct cv C fM fC fD fU fS fP) (hI:I.length<=100000) (hF:∀b,F b->b<w.heap.size) (hB:B<=w.heap.size) (id:Int) (hid: -9223372036854775808<=id/\id<=9223372036854775807):
 C9 18 #[gP tb,.int .i64 id] w fun e w' =>∃v,e=.returned v/\ErrX w' v (if (getK id I).isSome then 0 else 7) ⟨#[100,101,108,101,116,101]⟩ id/\TreS C (.iface ct cv) B F w' tb fan (delK id I)/\TurnF (fun b=>B<=b/\¬ F b) w w' :=by
 obtain⟨own,imm,mb,t,hG,hf,rfl,hs⟩:=h;refine(qx6 hC.c hC.p hG (by rw [<-qi7];exact hI) id hid).mono ?_
 rintro e w' ⟨v,rfl,hx,t',own',imm',hG',hgr,hf',hit⟩;obtain⟨h3,h4⟩:=TreS.turn hgr hs hF hB;refine⟨v,rfl,?_,⟨own',imm',mb,t',hG',hf'.trans hf,by rw [hit,qzp],h3⟩,h4⟩
 rw [qvd,Option.isSome_map]
 exact hx
def bldO (C:Cl) (I l:List (Int×Ob)):Nat×Int:=if I.length=0 then bldR C [] l else(1,0)
theorem TreS.bld (h:TreS C (.iface ct cv) B F w tb fan I) (hC:ClOk ct cv C fM fC fD fU fS fP) (hI:I.length<=100000) (hF:∀b,F b->b<w.heap.size) (hB:B<=w.heap.size) (B2 n c:Nat) (A:Option Addr) (l:List (Int×Ob)) (hl:qew w B2 A n l) (hB2:B2<=w.heap.size) (hn:n<=100000) (hpts:∀p∈l,p.2.pts.length<=1000000):
 C9 9 #[gP tb,.slice A n c] w fun e w' =>∃v,e=.returned v/\ErrX w' v (bldO C I l).1 ⟨#[98,117,105,108,100]⟩ (bldO C I l).2/\TreS C (.iface ct cv) B F w' tb fan (if (bldO C I l).1=0 then bldM l else I)/\TurnF (fun b=>B<=b/\¬ F b) w w' :=by
 obtain⟨own,imm,mb,t,hG,hf,rfl,hs⟩:=h;have he:bldO C (obsT t.items) l=bldE C t l:=by unfold bldO bldE;rw [qi7]
 rw [he]
 refine(qsi hC.c hC.p hC.e hG (by rw [<-qi7];exact hI) B2 n c A l hl hB2 hn hpts).mono ?_
 rintro e w' ⟨v,rfl,hx,t',own',imm',mb',hG',hgr,hf',h1,h2⟩;obtain⟨h3,h4⟩:=TreS.turn hgr hs hF hB;refine⟨v,rfl,hx,⟨own',imm',mb',t',hG',hf'.trans hf,?_,h3⟩,h4⟩
 split
 · rename_i h0
   exact h2 h0
 · rename_i h0
   rw [h1 h0]
theorem TreS.new {own:Nat->Prop} {mb r:Nat} (hL:Lay w own (fun _=>False) tb mb cl (newT fan r) (fun _=>False) fun _=>False) (h4:4<=fan) (h16:fan<=16) (ho:∀b,own b->B<=b):TreS C cl B (fun _=>False) w tb fan []:=
 ⟨own,fun _=>False,mb,newT fan r,qtr hL h4 h16,rfl,rfl,fun b hb=>⟨by rcases hb with q|q;exact ho b q;exact q.elim,fun q=>q⟩⟩
end
theorem q0o {w:World} {v:Value} {k:Nat} {s:ByteArray} {id:Int} (h:ErrX w v k s id):(k=0/\v=.nilIface)\/(k≠0/\∃t u,v=.iface t u):=by
 rcases h with h|⟨h0,g,d,inner,hv,_,_⟩
 · exact .inl h
 · exact .inr ⟨h0,_,_,hv⟩
theorem q3q (kd:Int) (bits:Nat) (one:Bool) (brk:Int) (hb:bits<=20):∃fM fC fD fU fS fP,ClOk 34 (clV kd bits one brk) (clsC kd bits one brk) fM fC fD fU fS fP:=⟨_,_,_,_,_,_,qjp kd bits one brk hb,qq1 kd bits one brk,qrf kd bits one brk hb⟩
theorem q1r {B:Nat} {F:Nat->Prop} {w W W' :World} (hW:Below w.heap.size w W) (ht:TurnF (fun b=>B<=b/\¬ F b) W W') (hB:w.heap.size<=B):Below w.heap.size w W' :=hW.trans (qgo ht (fun k q=>zcy hB q.1) hW.size)
end Go.Proofs.YtjopdlmbgidigaaGreat
