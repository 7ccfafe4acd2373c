/-Classes that keep the laws-/
import Derived.Test.YtfnhnjbkkggbeaaGreatHClsA
import Derived.Test.YtfnhnjbkkggbeaaGreatHGisJ
import Derived.Test.YtfnhnjbkkggbeaaGreatHRefN
set_option linter.unusedVariables false
set_option linter.unusedSimpArgs false
set_option maxRecDepth 20000
namespace Go.Proofs.YtfnhnjbkkggbeaaGreat
open Go.RowKit Pg
structure Lawful (C:Cl) (cv:List Nat->Ob->Prop) (good:List Nat->Prop):Prop where
 made:∀o,(C.make o).1=0->ckOb o=0/\good (C.make o).2/\cv (C.make o).2 o
 un:∀K,K≠ []->(∀k∈K,good k)->good (C.un K)/\∀k∈K,∀o,cv k o->cv (C.un K) o
 cons:∀k o q,cv k o->qbu o q=true->C.cons k q=true
 far:∀k o p,cv k o->ckOb o=0->okPt p=true->cmpF (C.far k p) (qcf o p)<=0
def q3d (k:List Nat):Prop:=∃b,k=keyL b/\okBx b=true
def cvB (k:List Nat) (o:Ob):Prop:=∃b,k=keyL b/\okBx b=true/\inB b (qas o)
theorem q75 {K:List (List Nat)} (h:∀k∈K,q3d k):∃l:List Bx,K=l.map keyL/\∀b∈l,okBx b=true:=by
 induction K with
 | nil=>exact ⟨[],rfl,by simp⟩
 | cons k r ih=>
   obtain⟨l,e,hl⟩:=ih fun x hx=>h x (by simp [hx])
   obtain⟨b,hb,ok⟩:=h k sI
   refine⟨b::l,by rw [e,hb];rfl,?_⟩
   intro x hx
   rcases List.mem_cons.1 hx with q|q
   · rw [q];exact ok
   · exact hl x q
theorem q25 {a b:Bx} (ha:okBx a=true) (hb:okBx b=true) (h:keyL a=keyL b):a=b:=by
 have h1:=qgn (qe9 ha);have h2:=qgn (qe9 hb);rw [if_pos ha] at h1;rw [if_pos hb,<-h,h1] at h2;injection h2
theorem q1e {K:List (List Nat)} (hK:K≠ []) (h:∀k∈K,q3d k):q3d (qem K)/\∀k∈K,∀o,cvB k o->cvB (qem K) o:=by
 obtain⟨l,rfl,hl⟩:=q75 h;have hne:l≠ []:=by simpa using hK
 have hu:=qim hne hl
 rw [qrl hne hl]
 refine⟨⟨_,rfl,hu.2.1⟩,?_⟩;rintro k hk o ⟨b,rfl,ok,hin⟩;obtain⟨b',hb',e⟩:=zty.1 hk;have:=q25 (hl b' hb') ok e;subst this;exact⟨_,rfl,hu.2.1,qzv (hu.2.2 _ hb') hin⟩
theorem q5w {k:List Nat} {o:Ob} {q:Qu} (h:cvB k o) (hm:qbu o q=true):qmy k q=true:=by
 obtain⟨b,rfl,ok,hin⟩:=h;have hk:qbw (keyL b)=some b:=by rw [qgn (qe9 ok),if_pos ok]
 rw [qnq hk]
 exact qw2 ok (qb4 (qun hm).1) hin (qwd hm)
theorem q7e {k:List Nat} {o:Ob} {p:Pt} (h:cvB k o) (ho:ckOb o=0) (hp:okPt p=true):cmpF (farS k p) (qcf o p)<=0:=by
 obtain⟨b,rfl,ok,hin⟩:=h;have hk:qbw (keyL b)=some b:=by rw [qgn (qe9 ok),if_pos ok]
 unfold farS
 rw [hk]
 exact q3o ho hp ok hin
open Go
theorem q7m (v : Value) (w : World) : (Go.method 408 34 v "Penalty").run Tryz.prog w = .ok (180,v) w := by kernel_rfl
theorem q8c (args:Array Value) (w:World):(callFunc 180 args).run Tryz.prog w=.ok (.enter 180 args) w:=by kernel_rfl
theorem qyr (kd:Int) (bits:Nat) (one:Bool) (brk:Int):PenAt 34 (clV kd bits one brk) 180 where
 mP:=q7m _
 eP:=q8c
 pen:=by
  intro W B n c n2 c2 A A2 l l2 hl h256 hl2 h2562 hB hn hnc hn2 hnc2 hA hA2;have HP:=hdQ (fun W' (hW:Below W.heap.size W W')=>q1x B n c n2 c2 A A2 l l2 W' (hl.tr hW hB) h256 (hl2.tr hW hB) h2562 (zcy hB hW.size) hn hnc hn2 hnc2 hA hA2)
  clear hl h256 hl2 h2562
  by_cases h0:kd=0
  · subst h0
    go_enter Tryz.func180,Tryz.ntmps180
    go_wp2;go_ret;exact⟨_,rfl,bel⟩
  · have h0' :(kd==0)=false:=by rw [beq_eq_false_iff_ne];exact h0
    clear h0
    go_enter Tryz.func180,Tryz.ntmps180
    go_wp2_with (go_at_call 188;(refine(HP.out _ bel).monoR ?_);rintro w1 hb1 hc1 hf1 hz1;(try simp at hz1))
    go_ret;exact⟨_,rfl,bel⟩
theorem qzm (kd:Int) (bits:Nat) (one:Bool) (brk:Int) (hb:bits<=20):MakeE (clV kd bits one brk) (clsC kd bits one brk) 178 where
 make:=by
  intro W B m c k A l hl hB hm hck;refine((qu8 kd bits one brk hb).make W B m c k A l hl hB hm).mono ?_;rintro e w' ⟨s,v,rfl,h1,h2,_,h4⟩;have h0:((clsC kd bits one brk).make ⟨k,l⟩).1=0:=hck;exact⟨s,v,rfl,h1,by rw [h0,h2 h0];exact .inl ⟨rfl,rfl⟩,h4⟩
def qeo (w:World) (B:Nat) (A:Option Addr) (n:Nat) (l:List (Int×Ob)):Prop:=
 l.length=n/\(0<n->∃b off,A=some ⟨b,off,none⟩/\b<B)/\∀(b off k:Nat) (p:Int×Ob),A=some ⟨b,off,none⟩->l[k]? =some p->∃A' n' c',w.cell? ⟨b,off+k*3,none⟩=some (.int .i64 p.1)/\w.cell? ⟨b,off+k*3+1,none⟩=some (.int .i64 p.2.kind)/\w.cell? ⟨b,off+k*3+2,none⟩=some (.slice A' n' c')/\qak w B A' n' p.2.pts
theorem qeo.below {w w' :World} {B n:Nat} {A:Option Addr} {l:List (Int×Ob)} (h:qeo w B A n l) (hb:Below B w w'):qeo w' B A n l:=by
 refine⟨h.1,h.2.1,fun b off k p hA hp=> ?_⟩
 obtain⟨A',n',c',h1,h2,h3,h4⟩:=h.2.2 b off k p hA hp;have hk:k<l.length:=(zsy.1 hp).1;obtain⟨b0,off0,e,hb0⟩:=h.2.1 (by rw [<-h.1];omega)
 rw [hA] at e;injection e with e
 injection e with e1 e2
 subst e1;exact⟨A',n',c',(hb.cell (p:=⟨b,off+k*3,none⟩) hb0).trans h1,(hb.cell (p:=⟨b,off+k*3+1,none⟩) hb0).trans h2,(hb.cell (p:=⟨b,off+k*3+2,none⟩) hb0).trans h3,h4.below hb⟩
theorem qeo.at_ {w:World} {B n:Nat} {A:Option Addr} {l:List (Int×Ob)} (h:qeo w B A n l) {k:Nat} (hk:k<n):∃b off p A' n' c',A=some ⟨b,off,none⟩/\b<B/\l[k]? =some p/\w.cell? ⟨b,off+k*3,none⟩=some (.int .i64 p.1)/\w.cell? ⟨b,off+k*3+1,none⟩=some (.int .i64 p.2.kind)/\w.cell? ⟨b,off+k*3+2,none⟩=some (.slice A' n' c')/\qak w B A' n' p.2.pts:=by
 obtain⟨b,off,e,hb⟩:=h.2.1 oQ
 have hk' :k<l.length:=by rw [h.1];exact hk
 obtain⟨A',n',c',h1,h2,h3,h4⟩:=h.2.2 b off k _ e (zby hk');exact⟨b,off,_,A',n',c',e,hb,zby hk',h1,h2,h3,h4⟩
theorem InsG.from {C:Cl} {cl:Value} {w W w' :World} {own imm:Nat->Prop} {tb mb:Nat} {t:Tr} {id:Int} {o:Ob} (h:InsG C cl W w' own imm tb mb t id o) (hW:Below w.heap.size w W):InsG C cl w w' own imm tb mb t id o:=by
 obtain⟨t',own',imm',hA,hG,h3⟩:=h;exact⟨t',own',imm',hA,(Grow.of_below hW).trans hG,h3⟩
theorem q43 {w:World} {B n c:Nat} {A:Option Addr} {l:List Pt} (h:qak w B A n l) (hB:B<=w.heap.size) (hn:n<=1000000):PtsZ w (fun b=>b<B) (.slice A n c) l:=by
 refine⟨by rw [h.1];exact hn,A,c,by rw [h.1],fun hp=> ?_⟩
 have hn0:0<n:=by rw [qcb,h.1] at hp;omega
 obtain⟨b,off,rfl,hb,hc⟩:=h.2 hn0;refine⟨b,off,rfl,hb,zky hb hB,fun k u hk=> ?_⟩
 have:=qp2 h hn0 k u hk
 rwa [show ((⟨b,off,none⟩:Addr).add k)=⟨b,off+k,none⟩ by unfold Addr.add;split<;>simp_all] at this
def obsT (m:List (Int×It)):List (Int×Ob):=m.map fun p=>(p.1,p.2.ob)
def obsM (m:List (Int×Mi)):List (Int×Ob):=m.map fun p=>(p.1,p.2.ob)
theorem q3k {α β:Type} (f:α->β) (id:Int) (m:List (Int×α)):delK id (m.map fun p=>(p.1,f p.2))=(delK id m).map fun p=>(p.1,f p.2):=by
 unfold delK
 rw [List.filter_map]
 rfl
theorem qt9 {α β:Type} (f:α->β) (id:Int) (v:α) (m:List (Int×α)):putK id (f v) (m.map fun p=>(p.1,f p.2))=(putK id v m).map fun p=>(p.1,f p.2):=by
 unfold putK
 rw [q3k,qox]
theorem q3e {α β:Type} (f:α->β) (id:Int) (m:List (Int×α)):getK id (m.map fun p=>(p.1,f p.2))=(getK id m).map f:=by
 induction m with
 | nil=>rfl
 | cons p r ih=>
   rw [zdy,qfy,qfy,ih]
   split<;>rfl
theorem qh0 {F:Nat->Prop} {a b:World} {B:Nat} (h:TurnF F a b) (hF:∀k,F k->B<=k) (hB:B<=a.heap.size):Below B a b:=
 ⟨h.os,h.tape,h.output,h.size,fun k hk=>h.block k (zky hk hB) fun q=>by have:=hF k q;omega⟩
theorem qz3 {C:Cl} {cl:Value} {w:World} {own imm:Nat->Prop} {tb mb fan r:Nat} (h:Lay w own imm tb mb cl (newT fan r) (fun _=>False) fun _=>False) (h4:4<=fan) (h16:fan<=16):GAt C cl w own imm tb mb (newT fan r):=by
 refine⟨h,qne fan r,?_,?_,h4,h16,?_⟩
 · intro b l hb _
   simp only [newT] at hb ⊢
   split at hb
   · rename_i e
     cases hb
     exact⟨by simp,fun q=>absurd e q,fun _ q=>by omega⟩
   · cases hb
 · intro b l u e hb hu
   simp [newT] at hu
 · intro id x hx
   simp [newT,qhj] at hx
end Go.Proofs.YtfnhnjbkkggbeaaGreat
namespace Go.Proofs.YtfnhnjbkkggbeaaGreat
open Go.RowKit Pg
theorem qex (kd:Int) (bits:Nat) (one:Bool):Lawful (clsC kd bits one 0) (fun k o=>kd=0\/cvB k o) fun k=>kd=0\/q3d k:=by
 by_cases hk:kd=0
 · subst hk
   refine⟨fun o h=>⟨h,.inl rfl,.inl rfl⟩,fun K _ _=>⟨.inl rfl,fun _ _ _ _=> .inl rfl⟩,fun k o q _ _=>by simp [clsC],fun k o p _ ho hp=> ?_⟩
   have:(clsC 0 bits one 0).far k p=⟨0,1⟩:=by simp [clsC]
   rw [this]
   exact q0i ho hp
 · have ec:(clsC kd bits one 0).cons=qmy:=by funext Y x;simp [clsC,hk]
   have ef:(clsC kd bits one 0).far=farS:=by funext Y x;simp [clsC,hk]
   have eu:∀T:List (List Nat),T≠ []->(clsC kd bits one 0).un T=qem T:=fun T h=>by simp [clsC,hk,h]
   refine⟨fun o h=> ?_,fun K hK h=> ?_,fun k o q h hm=> ?_,fun k o p h ho hp=> ?_⟩
   · have h0:ckOb o=0:=h
     have hb:=qme (kd:=kd) (bits:=bits) (qb4 h0);have e:((clsC kd bits one 0).make o).2=keyL (qei kd bits (qas o)):=by simp [clsC,h0,hk]
     rw [e]
     exact⟨h0,.inr ⟨_,rfl,hb.1⟩,.inr ⟨_,rfl,hb.1,hb.2⟩⟩
   · obtain⟨h1,h2⟩:=q1e hK fun k hk' =>(h k hk').resolve_left hk
     rw [eu K hK]
     exact⟨.inr h1,fun k hk' o ho=> .inr (h2 k hk' o (ho.resolve_left hk))⟩
   · rw [ec];exact q5w (h.resolve_left hk) hm
   · rw [ef];exact q7e (h.resolve_left hk) ho hp
end Go.Proofs.YtfnhnjbkkggbeaaGreat
