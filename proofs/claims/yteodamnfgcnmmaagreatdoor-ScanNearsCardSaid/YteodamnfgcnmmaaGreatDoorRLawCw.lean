/-Classes that keep the laws-/
import Derived.Test.YteodamnfgcnmmaaGreatDoorRClsA
set_option linter.unusedVariables false
set_option linter.unusedSimpArgs false
namespace Go.Proofs.YteodamnfgcnmmaaGreatDoor
open Go.RowKit Pg
structure Lawful (C:Cl) (cv:List Nat->Ob->Prop) (good:List Nat->Prop):Prop where
 made:∀o,(C.make o).1=0->ckOb o=0/\good (C.make o).2/\cv (C.make o).2 o
 un:∀K,K≠ []->(∀k∈K,good k)->good (C.un K)/\∀k∈K,∀o,cv k o->cv (C.un K) o
 cons:∀k o q,cv k o->qdq o q=true->C.cons k q=true
 far:∀k o p,cv k o->ckOb o=0->okPt p=true->cmpF (C.far k p) (qbj o p)<=0
def q24 (k:List Nat):Prop:=∃b,k=keyL b/\okBx b=true
def cvB (k:List Nat) (o:Ob):Prop:=∃b,k=keyL b/\okBx b=true/\inB b (qbb o)
theorem q7y {K:List (List Nat)} (h:∀k∈K,q24 k):∃l:List Bx,K=l.map keyL/\∀b∈l,okBx b=true:=by
 induction K with
 | nil=>exact ⟨[],rfl,by simp⟩
 | cons k r ih=>
   obtain⟨l,e,hl⟩:=ih fun x hx=>h x (by simp [hx])
   obtain⟨b,hb,ok⟩:=h k sI
   refine⟨b::l,by rw [e,hb];rfl,?_⟩
   intro x hx
   rcases List.mem_cons.1 hx with q|q
   · rw [q];exact ok
   · exact hl x q
theorem q2w {a b:Bx} (ha:okBx a=true) (hb:okBx b=true) (h:keyL a=keyL b):a=b:=by
 have h1:=qgq (qgj ha);have h2:=qgq (qgj hb);rw [if_pos ha] at h1;rw [if_pos hb,<-h,h1] at h2;injection h2
theorem q08 {K:List (List Nat)} (hK:K≠ []) (h:∀k∈K,q24 k):q24 (qeq K)/\∀k∈K,∀o,cvB k o->cvB (qeq K) o:=by
 obtain⟨l,rfl,hl⟩:=q7y h;have hne:l≠ []:=by simpa using hK
 have hu:=qie hne hl
 rw [qrx hne hl]
 refine⟨⟨_,rfl,hu.2.1⟩,?_⟩;rintro k hk o ⟨b,rfl,ok,hin⟩;obtain⟨b',hb',e⟩:=zty.1 hk;have:=q2w (hl b' hb') ok e;subst this;exact⟨_,rfl,hu.2.1,qzp (hu.2.2 _ hb') hin⟩
theorem q5n {k:List Nat} {o:Ob} {q:Qu} (h:cvB k o) (hm:qdq o q=true):qmv k q=true:=by
 obtain⟨b,rfl,ok,hin⟩:=h;have hk:qbr (keyL b)=some b:=by rw [qgq (qgj ok),if_pos ok]
 rw [qnl hk]
 exact qw2 ok (qb8 (qum hm).1) hin (qwc hm)
theorem q6z {k:List Nat} {o:Ob} {p:Pt} (h:cvB k o) (ho:ckOb o=0) (hp:okPt p=true):cmpF (farS k p) (qbj o p)<=0:=by
 obtain⟨b,rfl,ok,hin⟩:=h;have hk:qbr (keyL b)=some b:=by rw [qgq (qgj ok),if_pos ok]
 unfold farS
 rw [hk]
 exact q3f ho hp ok hin
theorem qwl (kd:Int) (bits:Nat) (one:Bool):Lawful (clsC kd bits one 0) (fun k o=>kd=0\/cvB k o) fun k=>kd=0\/q24 k:=by
 by_cases hk:kd=0
 · subst hk
   refine⟨fun o h=>⟨h,.inl rfl,.inl rfl⟩,fun K _ _=>⟨.inl rfl,fun _ _ _ _=> .inl rfl⟩,fun k o q _ _=>by simp [clsC],fun k o p _ ho hp=> ?_⟩
   have:(clsC 0 bits one 0).far k p=⟨0,1⟩:=by simp [clsC]
   rw [this]
   exact q0e ho hp
 · have ec:(clsC kd bits one 0).cons=qmv:=by funext Y x;simp [clsC,hk]
   have ef:(clsC kd bits one 0).far=farS:=by funext Y x;simp [clsC,hk]
   have eu:∀T:List (List Nat),T≠ []->(clsC kd bits one 0).un T=qeq T:=fun T h=>by simp [clsC,hk,h]
   refine⟨fun o h=> ?_,fun K hK h=> ?_,fun k o q h hm=> ?_,fun k o p h ho hp=> ?_⟩
   · have h0:ckOb o=0:=h
     have hb:=qmd (kd:=kd) (bits:=bits) (qb8 h0);have e:((clsC kd bits one 0).make o).2=keyL (qel kd bits (qbb o)):=by simp [clsC,h0,hk]
     rw [e]
     exact⟨h0,.inr ⟨_,rfl,hb.1⟩,.inr ⟨_,rfl,hb.1,hb.2⟩⟩
   · obtain⟨h1,h2⟩:=q08 hK fun k hk' =>(h k hk').resolve_left hk
     rw [eu K hK]
     exact⟨.inr h1,fun k hk' o ho=> .inr (h2 k hk' o (ho.resolve_left hk))⟩
   · rw [ec];exact q5n (h.resolve_left hk) hm
   · rw [ef];exact q6z (h.resolve_left hk) ho hp
end Go.Proofs.YteodamnfgcnmmaaGreatDoor
