/-Classes that keep the laws-/
import Derived.Test.YtildgbhliaonnaaGreatRClsA
set_option linter.unusedVariables false
set_option linter.unusedSimpArgs false
namespace Go.Proofs.YtildgbhliaonnaaGreat
open Go.RowKit Pg
structure Lawful (C:Cl) (cv:List Nat->Ob->Prop) (good:List Nat->Prop):Prop where
 made:∀o,(C.make o).1=0->ckOb o=0/\good (C.make o).2/\cv (C.make o).2 o
 un:∀K,K≠ []->(∀k∈K,good k)->good (C.un K)/\∀k∈K,∀o,cv k o->cv (C.un K) o
 cons:∀k o q,cv k o->qba o q=true->C.cons k q=true
 far:∀k o p,cv k o->ckOb o=0->okPt p=true->cmpF (C.far k p) (qbm o p)<=0
def q2e (k:List Nat):Prop:=∃b,k=keyL b/\okBx b=true
def cvB (k:List Nat) (o:Ob):Prop:=∃b,k=keyL b/\okBx b=true/\inB b (qa2 o)
theorem q63 {K:List (List Nat)} (h:∀k∈K,q2e k):∃l:List Bx,K=l.map keyL/\∀b∈l,okBx b=true:=by
 induction K with
 | nil=>exact ⟨[],rfl,by simp⟩
 | cons k r ih=>
   obtain⟨l,e,hl⟩:=ih fun x hx=>h x (by simp [hx])
   obtain⟨b,hb,ok⟩:=h k sI
   refine⟨b::l,by rw [e,hb];rfl,?_⟩
   intro x hx
   rcases List.mem_cons.1 hx with q|q
   · rw [q];exact ok
   · exact hl x q
theorem q2b {a b:Bx} (ha:okBx a=true) (hb:okBx b=true) (h:keyL a=keyL b):a=b:=by
 have h1:=qgy (qgq ha);have h2:=qgy (qgq hb);rw [if_pos ha] at h1;rw [if_pos hb,<-h,h1] at h2;injection h2
theorem q0u {K:List (List Nat)} (hK:K≠ []) (h:∀k∈K,q2e k):q2e (qew K)/\∀k∈K,∀o,cvB k o->cvB (qew K) o:=by
 obtain⟨l,rfl,hl⟩:=q63 h;have hne:l≠ []:=by simpa using hK
 have hu:=qir hne hl
 rw [qrn hne hl]
 refine⟨⟨_,rfl,hu.2.1⟩,?_⟩;rintro k hk o ⟨b,rfl,ok,hin⟩;obtain⟨b',hb',e⟩:=zty.1 hk;have:=q2b (hl b' hb') ok e;subst this;exact⟨_,rfl,hu.2.1,qzo (hu.2.2 _ hb') hin⟩
theorem q4t {k:List Nat} {o:Ob} {q:Qu} (h:cvB k o) (hm:qba o q=true):qms k q=true:=by
 obtain⟨b,rfl,ok,hin⟩:=h;have hk:qbu (keyL b)=some b:=by rw [qgy (qgq ok),if_pos ok]
 rw [qnj hk]
 exact qw2 ok (qb6 (quf hm).1) hin (qwa hm)
theorem q57 {k:List Nat} {o:Ob} {p:Pt} (h:cvB k o) (ho:ckOb o=0) (hp:okPt p=true):cmpF (farS k p) (qbm o p)<=0:=by
 obtain⟨b,rfl,ok,hin⟩:=h;have hk:qbu (keyL b)=some b:=by rw [qgy (qgq ok),if_pos ok]
 unfold farS
 rw [hk]
 exact q2q ho hp ok hin
theorem qnc (kd:Int) (bits:Nat) (one:Bool):Lawful (clsC kd bits one 0) (fun k o=>kd=0\/cvB k o) fun k=>kd=0\/q2e k:=by
 by_cases hk:kd=0
 · subst hk
   refine⟨fun o h=>⟨h,.inl rfl,.inl rfl⟩,fun K _ _=>⟨.inl rfl,fun _ _ _ _=> .inl rfl⟩,fun k o q _ _=>by simp [clsC],fun k o p _ ho hp=> ?_⟩
   have:(clsC 0 bits one 0).far k p=⟨0,1⟩:=by simp [clsC]
   rw [this]
   exact qz8 ho hp
 · have ec:(clsC kd bits one 0).cons=qms:=by funext Y x;simp [clsC,hk]
   have ef:(clsC kd bits one 0).far=farS:=by funext Y x;simp [clsC,hk]
   have eu:∀T:List (List Nat),T≠ []->(clsC kd bits one 0).un T=qew T:=fun T h=>by simp [clsC,hk,h]
   refine⟨fun o h=> ?_,fun K hK h=> ?_,fun k o q h hm=> ?_,fun k o p h ho hp=> ?_⟩
   · have h0:ckOb o=0:=h
     have hb:=qmd (kd:=kd) (bits:=bits) (qb6 h0);have e:((clsC kd bits one 0).make o).2=keyL (qeq kd bits (qa2 o)):=by simp [clsC,h0,hk]
     rw [e]
     exact⟨h0,.inr ⟨_,rfl,hb.1⟩,.inr ⟨_,rfl,hb.1,hb.2⟩⟩
   · obtain⟨h1,h2⟩:=q0u hK fun k hk' =>(h k hk').resolve_left hk
     rw [eu K hK]
     exact⟨.inr h1,fun k hk' o ho=> .inr (h2 k hk' o (ho.resolve_left hk))⟩
   · rw [ec];exact q4t (h.resolve_left hk) hm
   · rw [ef];exact q57 (h.resolve_left hk) ho hp
end Go.Proofs.YtildgbhliaonnaaGreat
