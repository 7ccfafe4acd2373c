/-gist-/
import Derived.Test.YtfnhnjbkkggbeaaGreatHLawGb
set_option linter.unusedVariables false
set_option linter.unusedSimpArgs false
namespace Go.Proofs.YtfnhnjbkkggbeaaGreat
open Go Go.RowKit Pg
theorem qjc {w w' :World} {Z F:Nat->Prop} {A:Option Addr} {cs:List Value} (h:qbl w Z A cs) (ht:TurnF F w w') (hF:∀b,Z b->¬ F b):qbl w' Z A cs:=fun hn=>by
 obtain⟨b,off,ea,hz,hb,hc⟩:=h hn;exact⟨b,off,ea,hz,zky hb ht.size,fun k u hk=>(ht.cell (p:=⟨b,off+k,none⟩) hb (hF b hz)).trans (hc k u hk)⟩
theorem qsm {w w' :World} {P:Program} {k:TypeId} {b:Nat} {V:List (Int×Value)} {F:Nat->Prop} (h:qbk w P k b V) (ht:TurnF F w w') (hx:¬ F b):qbk w' P k b V:=by
 have hlt:=h.lt;obtain⟨es,clock,hb,r⟩:=h;exact⟨es,clock,(ht.block b hlt hx).trans hb,r⟩
theorem ql1 {w w' :World} {Z F:Nat->Prop} {v:Value} {kb:List Nat} (h:qdp w Z v kb) (ht:TurnF F w w') (hF:∀b,Z b->¬ F b):qdp w' Z v kb:=by
 obtain⟨h1,h2,A,c,e,h3,h4,h5⟩:=h;exact⟨h1,h2,A,c,e,h3,h4,qjc h5 ht hF⟩
theorem qr8 {w w' :World} {Z F:Nat->Prop} {v:Value} {l:List Pt} (h:qj0 w Z v l) (ht:TurnF F w w') (hF:∀b,Z b->¬ F b):qj0 w' Z v l:=by
 obtain⟨h2,A,c,e,h3,h4,h5⟩:=h;exact⟨h2,A,c,e,h3,h4,qjc h5 ht hF⟩
theorem qzr {w w' :World} {own imm F:Nat->Prop} {tb mb:Nat} {cl:Value} {t:Tr} {H:Nat->Prop} {L:Int->Prop} (h:Lay w own imm tb mb cl t H L) (ht:TurnF F w w') (hF:∀b,own b\/imm b->¬ F b):Lay w' own imm tb mb cl t H L where
 hd:=ht.blk h.hd (hF _ (.inl h.oT))
 mp:=qsm h.mp ht (hF _ (.inl h.oM))
 nd b l hb:=ht.blk (h.nd b l hb) (hF _ (.inl (h.oN b l hb)))
 row b l hb hH:=qiw (h.row b l hb hH) ht fun g e=>hF _ (.inl (h.oR b l g hb hH e))
 it id x hx:=by
  obtain⟨z,h1,h2⟩:=h.it id x hx;exact⟨z,ht.blk h1 (hF _ (.inl (h.oI id x hx))),h2⟩
 ikey id x hx:=⟨ql1 (h.ikey id x hx).1 ht fun b q=>hF b (.inr q),qr8 (h.ikey id x hx).2 ht fun b q=>hF b (.inr q)⟩
 ekey b l e hb he:=ql1 (h.ekey b l e hb he) ht fun b q=>hF b (.inr q)
 apR:=h.apR
 apI:=h.apI
 oT:=h.oT
 oM:=h.oM
 oN:=h.oN
 oR:=h.oR
 oI:=h.oI
 sep:=h.sep
 lim b hb:=zky (h.lim b hb) ht.size
def TreU (C:Cl) (cl:Value) (Z:Nat->Prop) (w:World) (tb fan:Nat) (I:List (Int×Ob)):Prop:=
 ∃own imm mb t,GAt C cl w own imm tb mb t/\t.fan=fan/\obsT t.items=I/\∀b,own b\/imm b↔Z b
section
variable {C:Cl} {ct:TypeId} {cv cl:Value} {Z F:Nat->Prop} {w w' :World} {tb fan:Nat} {I:List (Int×Ob)} {fM fC fD fU fS fP:Nat}
theorem TreU.lim (h:TreU C cl Z w tb fan I) {b:Nat} (hb:Z b):b<w.heap.size:=by
 obtain⟨own,imm,mb,t,hG,_,_,hZ⟩:=h;exact hG.lay.lim b ((hZ b).2 hb)
theorem TreU.turn (h:TreU C cl Z w tb fan I) (ht:TurnF F w w') (hF:∀b,Z b->¬ F b):TreU C cl Z w' tb fan I:=by
 obtain⟨own,imm,mb,t,hG,hf,ho,hZ⟩:=h;exact⟨own,imm,mb,t,{hG with lay:=qzr hG.lay ht fun b q=>hF b ((hZ b).1 q)},hf,ho,hZ⟩
theorem TreU.tr (h:TreU C cl Z w tb fan I) (hb:Below w.heap.size w w'):TreU C cl Z w' tb fan I:=by
 obtain⟨own,imm,mb,t,hG,hf,ho,hZ⟩:=h;exact⟨own,imm,mb,t,hG.tr hb,hf,ho,hZ⟩
theorem TreU.tre (h:TreU C cl Z w tb fan I) {B:Nat} (hB:∀b,Z b->B<=b) (hF:∀b,F b->¬ Z b):TreS C cl B F w tb fan I:=by
 obtain⟨own,imm,mb,t,hG,hf,ho,hZ⟩:=h;exact⟨own,imm,mb,t,hG,hf,ho,fun b q=>⟨hB b ((hZ b).1 q),fun k=>hF b k ((hZ b).1 q)⟩⟩
theorem TreU.new {own:Nat->Prop} {mb r:Nat} (hL:Lay w own (fun _=>False) tb mb cl (newT fan r) (fun _=>False) fun _=>False) (h4:4<=fan) (h16:fan<=16):TreU C cl own w tb fan []:=
 ⟨own,fun _=>False,mb,newT fan r,qz3 hL h4 h16,rfl,rfl,fun b=>⟨fun q=>by rcases q with q|q;exact q;exact q.elim,.inl⟩⟩
theorem TreU.ins (h:TreU C (.iface ct cv) Z w tb fan I) (hC:ClOk ct cv C fM fC fD fU fS fP) (hI:I.length<=1000000) (id:Int) (B2 n c:Nat) (k:Int) (A:Option Addr) (l:List Pt) (hl:qak w B2 A n l) (hB2:B2<=w.heap.size) (hn2:n<=1000000):
 C9 12 #[gP tb,.int .i64 id,obV k A n c] w fun e w' =>∃v Z',e=.returned v/\ErrX w' v (insO C I id ⟨k,l⟩) ⟨#[105,110,115,101,114,116]⟩ id/\TreU C (.iface ct cv) Z' w' tb fan (if insO C I id ⟨k,l⟩=0 then putK id ⟨k,l⟩ I else I)/\TurnF Z w w' /\(∀b,Z' b->Z b\/w.heap.size<=b):=by
 obtain⟨own,imm,mb,t,hG,hf,rfl,hZ⟩:=h;refine(qxj hC.c hC.p hC.e hG (by rw [<-qge];exact hI) id B2 n c k A l hl hB2 hn2).mono ?_
 rintro e w' ⟨v,rfl,hx,t',own',imm',hG',hgr,hf',h1,h2⟩;rw [qux] at hx h1 h2;have ht:=hgr.turn;refine⟨v,fun b=>own' b\/imm' b,rfl,hx,⟨own',imm',mb,t',hG',hf'.trans hf,?_,fun b=>Iff.rfl⟩,⟨ht.os,ht.tape,ht.output,ht.size,fun k hk hn=>ht.block k hk fun q=>hn ((hZ k).1 (.inl q))⟩,fun b hb=> ?_⟩
 · split
   · rename_i h0
     obtain⟨x,hx2,hit⟩:=h2 h0
     rw [hit,q2o,hx2]
   · rename_i h0
     rw [h1 h0]
 · rcases hb with q|q
   · exact(hgr.oo b q).imp (fun z=>(hZ b).1 (.inl z)) fun z=>z
   · exact(hgr.ii b q).imp (fun z=>(hZ b).1 (.inr z)) fun z=>z
theorem TreU.bld (h:TreU C (.iface ct cv) Z w tb fan I) (hC:ClOk ct cv C fM fC fD fU fS fP) (hI:I.length<=100000) (B2 n c:Nat) (A:Option Addr) (l:List (Int×Ob)) (hl:qeo w B2 A n l) (hB2:B2<=w.heap.size) (hn:n<=100000) (hpts:∀p∈l,p.2.pts.length<=1000000):
 C9 9 #[gP tb,.slice A n c] w fun e w' =>∃v Z',e=.returned v/\ErrX w' v (bldO C I l).1 ⟨#[98,117,105,108,100]⟩ (bldO C I l).2/\TreU C (.iface ct cv) Z' w' tb fan (if (bldO C I l).1=0 then bldM l else I)/\TurnF Z w w' /\(∀b,Z' b->Z b\/w.heap.size<=b):=by
 obtain⟨own,imm,mb,t,hG,hf,rfl,hZ⟩:=h;have he:bldO C (obsT t.items) l=bldE C t l:=by unfold bldO bldE;rw [qge]
 rw [he]
 refine(q06 hC.c hC.p hC.e hG (by rw [<-qge];exact hI) B2 n c A l hl hB2 hn hpts).mono ?_
 rintro e w' ⟨v,rfl,hx,t',own',imm',mb',hG',hgr,hf',h1,h2⟩;have ht:=hgr.turn;refine⟨v,fun b=>own' b\/imm' b,rfl,hx,⟨own',imm',mb',t',hG',hf'.trans hf,?_,fun b=>Iff.rfl⟩,⟨ht.os,ht.tape,ht.output,ht.size,fun k hk hn=>ht.block k hk fun q=>hn ((hZ k).1 (.inl q))⟩,fun b hb=> ?_⟩
 · split
   · rename_i h0
     exact h2 h0
   · rename_i h0
     rw [h1 h0]
 · rcases hb with q|q
   · exact(hgr.oo b q).imp (fun z=>(hZ b).1 (.inl z)) fun z=>z
   · exact(hgr.ii b q).imp (fun z=>(hZ b).1 (.inr z)) fun z=>z
end
def okI (C:Cl) (p:Int×Ob):Prop:=(0<=p.1/\p.1<=1099511627776)/\ckOb p.2=0/\(C.make p.2).1=0
theorem qql {C:Cl} {m:List (Int×Ob)} {p:Int×Ob}:insO C m p.1 p.2=0↔okI C p/\getK p.1 m=none:=by
 unfold insO okI
 constructor
 · intro h
   split at h
   · cases h
   · rename_i h1
     split at h
     · contradiction
     · rename_i h2
       split at h
       · contradiction
       · rename_i h3
         cases hg:getK p.1 m with
         | none=>exact ⟨⟨Decidable.not_not.1 h1,Decidable.not_not.1 h2,Decidable.not_not.1 h3⟩,rfl⟩
         | some x=>rw [hg] at h;cases h
 · rintro⟨⟨h1,h2,h3⟩,h4⟩
   rw [if_neg (fun q=>q h1),if_neg (fun q=>q h2),if_neg (fun q=>q h3),h4]
   rfl
theorem q0v (l:List (Int×Ob)) (p:Int×Ob):bldM (l++ [p])=putK p.1 p.2 (bldM l):=by unfold bldM;rw [List.foldl_append];rfl
theorem qrc (l:List (Int×Ob)):qcq (bldM l):=by
 unfold bldM
 suffices ∀m:List (Int×Ob),qcq m->qcq (l.foldl (fun m p=>putK p.1 p.2 m) m) from this [] List.Pairwise.nil
 induction l with
 | nil=>intro m h;exact h
 | cons a r ih=>intro m h;exact ih _ (h.put a.1 a.2)
theorem qo6 {l:List (Int×Ob)} (hn:(l.map (·.1)).Nodup) {p:Int×Ob}:p∈bldM l↔p∈l:=by
 unfold bldM
 suffices ∀m:List (Int×Ob),(∀q∈m,∀a∈l,q.1≠a.1)->(p∈l.foldl (fun m p=>putK p.1 p.2 m) m↔p∈m\/p∈l) by simpa using this [] sI
 induction l with
 | nil=>intro m _;simp
 | cons a r ih=>
   intro m h;rw [zdy,List.nodup_cons] at hn
   rw [List.foldl_cons,ih hn.2]
   · rw [qfj,List.mem_cons]
     constructor
     · rintro((rfl|⟨h1,_⟩)|h1)
       · exact .inr (.inl rfl)
       · exact .inl h1
       · exact .inr (.inr h1)
     · rintro(h1|rfl|h1)
       · exact .inl (.inr ⟨h1,h p h1 a sI⟩)
       · exact .inl (.inl rfl)
       · exact .inr h1
   · intro q hq b hb
     rcases qfj.1 hq with rfl|⟨h1,_⟩
     · exact fun e=>hn.1 (zty.2 ⟨b,hb,e.symm⟩)
     · exact h q h1 b (by simp [hb])
theorem qvc {C:Cl}:∀{l m:List (Int×Ob)},(bldR C m l).1=0->(∀p∈l,okI C p)/\(l.map (·.1)).Nodup/\∀p∈l,getK p.1 m=none
 | [],m,_=>⟨by simp,List.nodup_nil,by simp⟩
 | a::r,m,h=>by
   unfold bldR at h
   by_cases e:insO C m a.1 a.2=0
   · rw [if_pos e] at h
     obtain⟨h1,h2⟩:=qql.1 e;obtain⟨h3,h4,h5⟩:=qvc h;refine⟨fun p hp=> ?_,?_,fun p hp=> ?_⟩
     · rcases List.mem_cons.1 hp with rfl|hp
       · exact h1
       · exact h3 p hp
     · rw [zdy,List.nodup_cons]
       refine⟨fun hm=> ?_,h4⟩
       obtain⟨q,hq,e2⟩:=zty.1 hm;have:=qeh.1 (h5 q hq) (a.1,a.2) (qfj.2 (.inl rfl));exact this e2.symm
     · rcases List.mem_cons.1 hp with rfl|hp
       · exact h2
       · refine qeh.2 fun q hq=> ?_
         by_cases eq:q.1=a.1
         · have:=qeh.1 (h5 p hp) (a.1,a.2) (qfj.2 (.inl rfl))
           rw [eq]
           exact this
         · exact qeh.1 (h5 p hp) q (qfj.2 (.inr ⟨hq,eq⟩))
   · rw [if_neg e] at h
     exact absurd h e
theorem qtt {C:Cl} {l m:List (Int×Ob)} (hp:m.Perm l) (hok:∀p∈l,okI C p) (hn:(l.map (·.1)).Nodup) {i:Nat} {p:Int×Ob} (hi:m[i]? =some p):insO C (bldM (m.take i)) p.1 p.2=0/\putK p.1 p.2 (bldM (m.take i))=bldM (m.take (i+1)):=by
 have hnm:(m.map (·.1)).Nodup:=(hp.map _).nodup_iff.2 hn
 constructor
 · refine qql.2 ⟨hok p (hp.mem_iff.1 (zjy hi)),qeh.2 fun q hq e=> ?_⟩
   have h1:(m.take (i+1)).map (·.1)=(m.take i).map (·.1)++ [p.1]:=by rw [zwy,hi];simp
   have h2:((m.take (i+1)).map (·.1)).Nodup:=by rw [List.map_take];exact hnm.sublist (List.take_sublist _ _)
   have h3:((m.take i).map (·.1)).Nodup:=by rw [List.map_take];exact hnm.sublist (List.take_sublist _ _)
   rw [h1] at h2;have h4:=(List.nodup_append.1 h2).2.2 q.1 (zty.2 ⟨q,(qo6 h3).1 hq,rfl⟩) p.1 sI
   exact h4 e
 · rw [zwy,hi,Option.toList_some,q0v]
theorem qpg {l m:List (Int×Ob)} (hp:m.Perm l) (hn:(l.map (·.1)).Nodup):bldM m=bldM l:=by
 have hnm:(m.map (·.1)).Nodup:=(hp.map _).nodup_iff.2 hn
 refine qvz (qrc m) (qrc l) fun p=> ?_
 rw [qo6 hnm,qo6 hn,hp.mem_iff]
theorem q1t {α:Type} (l:List α) (k:Nat):(l.drop k++l.take k).Perm l:=by
 have:=List.perm_append_comm (l₁:=l.drop k) (l₂:=l.take k)
 rwa [List.take_append_drop] at this
theorem q28 {w:World} {B n:Nat} {A:Option Addr} {l:List (Int×Ob)} (h:qeo w B A n l) (hB:B<=w.heap.size) (hp:∀p∈l,p.2.pts.length<=1000000):
 ∃L:List (Int×Mi),obsM L=l/\qbl w (fun b=>b<B) A (qa2 L)/\∀p∈L,PtsZ w (fun b=>b<B) p.2.ov p.2.ob.pts:=by
 suffices key:∀k,k<=n->∃L:List (Int×Mi),obsM L=l.take k/\L.length=k/\(∀b off,A=some ⟨b,off,none⟩->∀j u,(qa2 L)[j]? =some u->w.cell? ⟨b,off+j,none⟩=some u)/\∀p∈L,PtsZ w (fun b=>b<B) p.2.ov p.2.ob.pts by
  obtain⟨L,h1,h2,h3,h4⟩:=key n (zhy _);refine⟨L,by rw [h1,zmy (by rw [h.1];exact zhy _)],fun hn=> ?_,h4⟩
  rw [qci] at hn;obtain⟨b,off,e,hb⟩:=h.2.1 oQ
  exact⟨b,off,e,hb,zky hb hB,h3 b off e⟩
 intro k
 induction k with
 | zero=>intro _;exact⟨[],by simp [obsM],rfl,fun b off _ j u hj=>by simp [qa2] at hj,by simp⟩
 | succ k ih=>
   intro hk;obtain⟨L,h1,h2,h3,h4⟩:=ih oQ
   obtain⟨b0,off0,p,A',n',c',e0,hb0,hpk,q0,q1,q2,hpt⟩:=h.at_ (show k<n by omega)
   refine⟨L++ [(p.1,⟨p.2,.slice A' n' c'⟩)],?_,by simp [h2],fun b off e j u hj=> ?_,fun x hx=> ?_⟩
   · rw [zwy,hpk,<-h1]
     unfold obsM
     rw [zfx]
     rfl
   · have e' :=e
     rw [e0] at e'
     injection e' with e'
     injection e' with e1 e2
     subst e1 e2;rw [qdi] at hj
     rcases zry j (qa2 L).length with hlt|hge
     · rw [zex hlt] at hj
       exact h3 _ _ e j u hj
     · rw [zdx hge,qci,h2] at hj
       rw [qci,h2] at hge;obtain⟨r,rfl⟩:∃r,j=k*3+r:=⟨j-k*3,by omega⟩
       rw [show k*3+r-k*3=r by omega] at hj
       match r,hj with
       | 0,hj=>simp [qa2,qke] at hj;subst hj;exact q0
       | 1,hj=>simp [qa2,qke] at hj;subst hj;exact q1
       | 2,hj=>simp [qa2,qke] at hj;subst hj;exact q2
       | r+3,hj=>simp [qa2,qke] at hj
   · rcases List.mem_append.1 hx with hx|hx
     · exact h4 x hx
     · rw [zhx.1 hx]
       exact q43 hpt hB (by rw [<-hpt.1];exact hp p (zjy hpk))
theorem qsk (l:List (Int×Mi)) (k:Nat):(qa2 l).drop (k*3)=qa2 (l.drop k):=by
 rcases zry l.length k with h|h
 · rw [List.drop_of_length_le (by rw [qci];omega),List.drop_of_length_le oQ];rfl
 · have e:qa2 l=qa2 (l.take k)++qa2 (l.drop k):=by rw [<-qdi,List.take_append_drop]
   have e2:(qa2 (l.take k)).length=k*3:=by rw [qci,List.length_take,Nat.min_eq_left h]
   rw [e,<-e2,List.drop_left]
theorem qsj (l:List (Int×Mi)) (k:Nat):(qa2 l).take (k*3)=qa2 (l.take k):=by
 rcases zry l.length k with h|h
 · rw [zmy (by rw [qci];omega),zmy oQ]
 · have e:qa2 l=qa2 (l.take k)++qa2 (l.drop k):=by rw [<-qdi,List.take_append_drop]
   have e2:(qa2 (l.take k)).length=k*3:=by rw [qci,List.length_take,Nat.min_eq_left h]
   rw [e,<-e2,List.take_left]
theorem q02 (b off x:Nat):(⟨b,off,none⟩:Addr).add x=⟨b,off+x,none⟩:=by unfold Addr.add;split<;>simp_all
theorem q2u {w:World} {Z:Nat->Prop} {A:Option Addr} {c k j:Nat} {L:List (Int×Mi)} (hCs:qbl w Z A (qa2 L)) (hSc:L.length<=c) (hj:k+j<=L.length):qbl w Z (if c=k then A else Option.map (fun x=>x.add (k*3)) A) (qa2 ((L.drop k).take j)):=by
 intro hn;rw [qci,List.length_take,List.length_drop] at hn;have hck:¬ c=k:=oQ
 obtain⟨b,off,rfl,hz,hb,hcell⟩:=hCs (by rw [qci];omega)
 rw [if_neg hck]
 refine⟨b,off+k*3,by simp only [Option.map_some,q02],hz,hb,fun i u hu=> ?_⟩
 have hlen:i<j*3:=by
  have:=(zsy.1 hu).1;rw [qci,List.length_take,List.length_drop] at this
  omega
 have e:(qa2 L)[k*3+i]? =some u:=by
  rw [<-qsj,List.getElem?_take_of_lt hlen,<-qsk,List.getElem?_drop] at hu;exact hu
 have:=hcell _ _ e
 rw [show off+k*3+i=off+(k*3+i) by omega]
 exact this
def cc17:Value:=.iface 34 (clV 1 4 false 0)
def T3 (B:Nat) (R:Nat->Prop) (w:World) (ta tb tc fan:Nat) (Ia Ib Ic:List (Int×Ob)):Prop:=
 ∃Za Zb Zc:Nat->Prop,TreU (clsC 3 0 false 0) cl17 Za w ta 4 Ia/\TreU (clsC 3 0 false 0) cl17 Zb w tb fan Ib/\TreU (clsC 1 4 false 0) cc17 Zc w tc 5 Ic/\(∀b,Za b\/Zb b\/Zc b->B<=b/\¬ R b)/\(∀b,Za b->¬ Zb b/\¬ Zc b)/\(∀b,Zb b->¬ Zc b)/\∀b,R b->b<w.heap.size
section
variable {B ta tb tc fan:Nat} {R R' :Nat->Prop} {w W:World} {Ia Ib Ic:List (Int×Ob)}
theorem T3.tr (h:T3 B R w ta tb tc fan Ia Ib Ic) (hb:Below w.heap.size w W):T3 B R W ta tb tc fan Ia Ib Ic:=by
 obtain⟨Za,Zb,Zc,h1,h2,h3,h4,h5,h6,h7⟩:=h;exact⟨Za,Zb,Zc,h1.tr hb,h2.tr hb,h3.tr hb,h4,h5,h6,fun b q=>zky (h7 b q) hb.size⟩
theorem T3.row (h:T3 B R w ta tb tc fan Ia Ib Ic) (hb:Below w.heap.size w W) (hR:∀b,R' b->w.heap.size<=b/\b<W.heap.size):T3 B R' W ta tb tc fan Ia Ib Ic:=by
 obtain⟨Za,Zb,Zc,h1,h2,h3,h4,h5,h6,h7⟩:=h;refine⟨Za,Zb,Zc,h1.tr hb,h2.tr hb,h3.tr hb,fun b q=>⟨(h4 b q).1,fun k=> ?_⟩,h5,h6,fun b q=>(hR b q).2⟩
 have:=(hR b k).1
 have:b<w.heap.size:=by
  rcases q with q|q|q
  · exact h1.lim q
  · exact h2.lim q
  · exact h3.lim q
 omega
theorem T3.a (h:T3 B R w ta tb tc fan Ia Ib Ic):TreS (clsC 3 0 false 0) cl17 B R w ta 4 Ia:=by
 obtain⟨Za,Zb,Zc,h1,h2,h3,h4,h5,h6,h7⟩:=h;exact h1.tre (fun b q=>(h4 b (.inl q)).1) fun b q k=>(h4 b (.inl k)).2 q
theorem T3.b (h:T3 B R w ta tb tc fan Ia Ib Ic):TreS (clsC 3 0 false 0) cl17 B R w tb fan Ib:=by
 obtain⟨Za,Zb,Zc,h1,h2,h3,h4,h5,h6,h7⟩:=h;exact h2.tre (fun b q=>(h4 b (.inr (.inl q))).1) fun b q k=>(h4 b (.inr (.inl k))).2 q
theorem T3.c (h:T3 B R w ta tb tc fan Ia Ib Ic):TreS (clsC 1 4 false 0) cc17 B R w tc 5 Ic:=by
 obtain⟨Za,Zb,Zc,h1,h2,h3,h4,h5,h6,h7⟩:=h;exact h3.tre (fun b q=>(h4 b (.inr (.inr q))).1) fun b q k=>(h4 b (.inr (.inr k))).2 q
theorem qjh {F F' :Nat->Prop} {a w:World} (h:TurnF F a w) (hF:∀b,F b->F' b):TurnF F' a w:=⟨h.os,h.tape,h.output,h.size,fun k hk hn=>h.block k hk fun q=>hn (hF k q)⟩
variable {fM fC fD fU fS fP:Nat}
theorem T3.bldA (h:T3 B R w ta tb tc fan [] Ib Ic) (hC:ClOk 34 (clV 3 0 false 0) (clsC 3 0 false 0) fM fC fD fU fS fP) (hB:B<=w.heap.size) (B2 n c:Nat) (A:Option Addr) (l:List (Int×Ob)) (hl:qeo w B2 A n l) (hB2:B2<=w.heap.size) (hn:n<=100000) (hpts:∀p∈l,p.2.pts.length<=1000000):
 C9 9 #[gP ta,.slice A n c] w fun e w' =>∃v,e=.returned v/\ErrX w' v (bldR (clsC 3 0 false 0) [] l).1 ⟨#[98,117,105,108,100]⟩ (bldR (clsC 3 0 false 0) [] l).2/\T3 B R w' ta tb tc fan (if (bldR (clsC 3 0 false 0) [] l).1=0 then bldM l else []) Ib Ic/\TurnF (fun b=>B<=b/\¬ R b) w w' :=by
 obtain⟨Za,Zb,Zc,h1,h2,h3,h4,h5,h6,h7⟩:=h;refine(TreU.bld h1 hC dE B2 n c A l hl hB2 hn hpts).mono ?_
 rintro e w' ⟨v,Z',rfl,hx,hT,ht,hZ⟩
 rw [show bldO (clsC 3 0 false 0) [] l=bldR (clsC 3 0 false 0) [] l from by unfold bldO;rw [if_pos (show ([]:List (Int×Ob)).length=0 from rfl)]] at hx hT
 refine⟨v,rfl,hx,⟨Z',Zb,Zc,hT,h2.turn ht fun b q k=>(h5 b k).1 q,h3.turn ht fun b q k=>(h5 b k).2 q,fun b q=> ?_,fun b q=> ?_,h6,fun b q=>zky (h7 b q) ht.size⟩,qjh ht fun b q=>h4 b (.inl q)⟩
 · rcases q with q|q
   · rcases hZ b q with k|k
     · exact h4 b (.inl k)
     · exact⟨by omega,fun j=>by have:=h7 b j;omega⟩
   · exact h4 b (.inr q)
 · rcases hZ b q with k|k
   · exact h5 b k
   · exact⟨fun j=>by have:=h2.lim j;omega,fun j=>by have:=h3.lim j;omega⟩
theorem T3.insB (h:T3 B R w ta tb tc fan Ia Ib Ic) (hC:ClOk 34 (clV 3 0 false 0) (clsC 3 0 false 0) fM fC fD fU fS fP) (hB:B<=w.heap.size) (hI:Ib.length<=1000000) (id:Int) (B2 n c:Nat) (k:Int) (A:Option Addr) (l:List Pt) (hl:qak w B2 A n l) (hB2:B2<=w.heap.size) (hn2:n<=1000000) (h0:insO (clsC 3 0 false 0) Ib id ⟨k,l⟩=0):
 C9 12 #[gP tb,.int .i64 id,obV k A n c] w fun e w' =>e=.returned .nilIface/\T3 B R w' ta tb tc fan Ia (putK id ⟨k,l⟩ Ib) Ic/\TurnF (fun b=>B<=b/\¬ R b) w w' :=by
 obtain⟨Za,Zb,Zc,h1,h2,h3,h4,h5,h6,h7⟩:=h;refine(TreU.ins h2 hC hI id B2 n c k A l hl hB2 hn2).mono ?_;rintro e w' ⟨v,Z',rfl,hx,hT,ht,hZ⟩;rw [h0] at hx hT;rw [if_pos rfl] at hT;obtain rfl:=ErrX.zero hx;refine⟨rfl,⟨Za,Z',Zc,h1.turn ht fun b q k=>(h5 b q).1 k,hT,h3.turn ht fun b q k=>h6 b k q,fun b q=> ?_,fun b q=>⟨fun k=> ?_,(h5 b q).2⟩,fun b q k=> ?_,fun b q=>zky (h7 b q) ht.size⟩,qjh ht fun b q=>h4 b (.inr (.inl q))⟩
 · rcases q with q|q|q
   · exact h4 b (.inl q)
   · rcases hZ b q with k|k
     · exact h4 b (.inr (.inl k))
     · exact⟨by omega,fun j=>by have:=h7 b j;omega⟩
   · exact h4 b (.inr (.inr q))
 · rcases hZ b k with j|j
   · exact(h5 b q).1 j
   · have:=h1.lim q;omega
 · rcases hZ b q with j|j
   · exact h6 b j k
   · have:=h3.lim k;omega
theorem T3.insC (h:T3 B R w ta tb tc fan Ia Ib Ic) (hC:ClOk 34 (clV 1 4 false 0) (clsC 1 4 false 0) fM fC fD fU fS fP) (hB:B<=w.heap.size) (hI:Ic.length<=1000000) (id:Int) (B2 n c:Nat) (k:Int) (A:Option Addr) (l:List Pt) (hl:qak w B2 A n l) (hB2:B2<=w.heap.size) (hn2:n<=1000000) (h0:insO (clsC 1 4 false 0) Ic id ⟨k,l⟩=0):
 C9 12 #[gP tc,.int .i64 id,obV k A n c] w fun e w' =>e=.returned .nilIface/\T3 B R w' ta tb tc fan Ia Ib (putK id ⟨k,l⟩ Ic)/\TurnF (fun b=>B<=b/\¬ R b) w w' :=by
 obtain⟨Za,Zb,Zc,h1,h2,h3,h4,h5,h6,h7⟩:=h;refine(TreU.ins h3 hC hI id B2 n c k A l hl hB2 hn2).mono ?_;rintro e w' ⟨v,Z',rfl,hx,hT,ht,hZ⟩;rw [h0] at hx hT;rw [if_pos rfl] at hT;obtain rfl:=ErrX.zero hx;refine⟨rfl,⟨Za,Zb,Z',h1.turn ht fun b q k=>(h5 b q).2 k,h2.turn ht fun b q k=>h6 b q k,hT,fun b q=> ?_,fun b q=>⟨(h5 b q).1,fun k=> ?_⟩,fun b q k=> ?_,fun b q=>zky (h7 b q) ht.size⟩,qjh ht fun b q=>h4 b (.inr (.inr q))⟩
 · rcases q with q|q|q
   · exact h4 b (.inl q)
   · exact h4 b (.inr (.inl q))
   · rcases hZ b q with k|k
     · exact h4 b (.inr (.inr k))
     · exact⟨by omega,fun j=>by have:=h7 b j;omega⟩
 · rcases hZ b k with j|j
   · exact(h5 b q).2 j
   · have:=h1.lim q;omega
 · rcases hZ b k with j|j
   · exact h6 b q j
   · have:=h2.lim q;omega
end
theorem qze {w:World} {Z:Nat->Prop} {L:List (Int×Mi)} (h:∀p∈L,PtsZ w Z p.2.ov p.2.ob.pts):∀u∈qa2 L,u.oneCell' =true:=by
 intro u hu;unfold qa2 at hu;obtain⟨p,hp,hu⟩:=List.mem_flatMap.1 hu;obtain⟨_,A,c,e,_⟩:=h p hp;simp only [qke,List.mem_cons,List.not_mem_nil,or_false] at hu
 rcases hu with rfl|rfl|rfl
 · rfl
 · rfl
 · rw [e];rfl
theorem q6v {w:World} {g B sz:Nat} {t:TypeId} (h:Blk w g t #[]) (hB:B<=g):w.ownsRow B t sz (.slice (some ⟨g,0,none⟩) 0 0) 0 []:=
 ⟨by simp,.inr ⟨g,0,#[],rfl,hB,h,zhy _,zly _,by simp,by simp⟩⟩
theorem q01 (b off k:Nat):(⟨b,off,none⟩:Addr).add k=⟨b,off+k,none⟩:=by unfold Addr.add;split<;>simp_all
theorem qw7 {w:World} {Z:Nat->Prop} {A:Option Addr} {xs ys r:List Value} (h:qbl w Z A xs) (e:xs=ys++r):qbl w Z A ys:=fun hn=>by
 obtain⟨b,off,e1,hZ,hb,hc⟩:=h (by rw [e,zny];omega)
 exact⟨b,off,e1,hZ,hb,fun k u hu=>hc k u (by rw [e,zex (zsy.1 hu).1];exact hu)⟩
theorem q2v {w:World} {Z:Nat->Prop} {A:Option Addr} {c k:Nat} {L:List (Int×Mi)} (hCs:qbl w Z A (qa2 L)) (hSc:L.length<=c) (hk:k<=L.length):qbl w Z (if c=k then A else Option.map (fun x=>x.add (k*3)) A) (qa2 (L.drop k)):=by
 have:=q2u (k:=k) (j:=L.length-k) hCs hSc oQ
 rwa [zmy (by rw [List.length_drop];exact zhy _)] at this
theorem q2t {w:World} {Z:Nat->Prop} {A:Option Addr} {k:Nat} {L:List (Int×Mi)} (hCs:qbl w Z A (qa2 L)):qbl w Z A (qa2 (L.take k)):=
 qw7 hCs (r:=qa2 (L.drop k)) (by rw [<-qdi,List.take_append_drop])
theorem q0y {o:Oper} {a:Act} {w:World} {K:Act->World->Prop} {Q:Exit->Act->World->Prop} (s x:Operand) (base n m c:Nat) (v:Value) (A:Option Addr) (Z:Nat->Prop) (L L2:List (Int×Mi))
 (ho:o.op=.call {callee:=.builtin .append,args:= #[s,x],argTypes:= #[22,22]})
 (hs:a.eval s=v) (hown:w.ownsRow base 42 3 v n (qa2 L)) (hx:a.eval x=.slice A m c) (hm:L2.length=m) (hAc:A=none->c=0) (hc:qbl w Z A (qa2 L2)) (h1:∀u∈qa2 L2,u.oneCell' =true) (hB:base<=w.heap.size) (hnm:n+m<=1000000)
 (h:∀v' w',w'.ownsRow base 42 3 v' (n+m) (qa2 (L++L2))->Below base w w' ->K (a.put o.dst v') w'):o.wp Tryz.prog a w K Q:=by
 obtain⟨i0,hi,iz0,iz1,iz2⟩:=info_parts Tryz.infoMiM
 cases A with
 | none=>
   have hm0:L2= []:=by
    rcases Nat.eq_zero_or_pos L2.length with q|q
    · exact zbx q
    · obtain⟨b,off,e,_⟩:=hc (by rw [qci];omega)
      cases e
   subst hm0;obtain rfl:m=0:=hm.symm;obtain rfl:=hAc rfl;have hrun:=run_append_owned_none (P:=Tryz.prog) (w:=w) base 22 o.type 42 i0 i0.size Tryz.underlying22 hi v n (qa2 L) (by rw [iz1];exact hown)
   unfold Oper.wp
   simp [execOp,ho,resolve,invoke,builtin,hs,hx,hrun,Result.andThen]
   exact h v w (by rw [List.append_nil];exact hown) (Below.refl _ _)
 | some ad=>
   refine wp_append_own w s x 22 ho base 42 i0 (.agg #[.int .i64 0,.int .i64 0,.slice none 0 0]) 3 40 Tryz.underlying22 hi iz0 iz1 iz2 rfl dE v n _ hs hown ad m c (qa2 L2) hx (by rw [qci,hm]) (fun j u hu=> ?_) h1 (by unfold maxLen;omega) oQ hB ?_
   · obtain⟨b,off,e,_,_,hcell⟩:=hc (zix (zly _) (zsy.1 hu).1)
     obtain rfl:ad=⟨b,off,none⟩:=zjx e
     rw [q01]
     exact hcell j u hu
   · intro v' w' hown' hgr _
     rw [<-qdi] at hown'
     exact h v' w' hown' ((Below.refl _ _).grown hgr hB (fun k hk=>(hown.lt k hk).1))
end Go.Proofs.YtfnhnjbkkggbeaaGreat
