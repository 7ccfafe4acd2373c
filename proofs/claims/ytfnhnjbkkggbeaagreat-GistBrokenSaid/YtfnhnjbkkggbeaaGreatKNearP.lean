/-Maps from numbers to objects-/
import Derived.Test.YtfnhnjbkkggbeaaGreatKPlainSplit
import Derived.Lib.SlKeysI
import Derived.Maps.OwnSet
set_option linter.unusedVariables false
set_option linter.unusedSimpArgs false
namespace Pg
open Go Go.RowKit Go.Maps
section
variable {α β:Type}
def qdo (m:List (Int×α)):Prop:=m.Pairwise fun p q=>p.1<q.1
def insK (id:Int) (v:α):List (Int×α)->List (Int×α)
 | []=> [(id,v)]
 | p::r=>if id<p.1 then(id,v)::p::r else p::insK id v r
def delK (id:Int) (m:List (Int×α)):List (Int×α):=m.filter fun p=> !decide (p.1=id)
def putK (id:Int) (v:α) (m:List (Int×α)):List (Int×α):=insK id v (delK id m)
def getK (id:Int) (m:List (Int×α)):Option α:=(m.find? fun p=>decide (p.1=id)).map (·.2)
theorem qgr (id:Int):getK id ([]:List (Int×α))=none:=rfl
theorem qfk (id:Int) (p:Int×α) (m:List (Int×α)):getK id (p::m)=if p.1=id then some p.2 else getK id m:=by
 unfold getK
 rw [List.find?_cons]
 by_cases h:p.1=id
 · simp [h]
 · simp [h]
theorem qm6 {id:Int} {v:α} {p:Int×α}:∀{m:List (Int×α)},p∈insK id v m↔p=(id,v)\/p∈m
 | []=>by simp [insK]
 | q::r=>by
   unfold insK
   split
   · simp
   · simp only [List.mem_cons,qm6 (m:=r)]
     constructor
     · rintro(h|h|h)<;>simp [h]
     · rintro(h|h|h)<;>simp [h]
theorem qhy {id:Int} {p:Int×α} {m:List (Int×α)}:p∈delK id m↔p∈m/\p.1≠id:=by simp [delK]
theorem qm5 {id:Int} {v:α} {p:Int×α} {m:List (Int×α)}:p∈putK id v m↔p=(id,v)\/(p∈m/\p.1≠id):=by
 unfold putK
 rw [qm6,qhy]
theorem qdo.del {m:List (Int×α)} (h:qdo m) (id:Int):qdo (delK id m):=h.sublist List.filter_sublist
theorem qko {id:Int} {v:α}:∀{m:List (Int×α)},qdo m->(∀p∈m,p.1≠id)->qdo (insK id v m)
 | [],_,_=>by simp [insK,qdo]
 | q::r,h,hne=>by
   obtain⟨h1,h2⟩:=List.pairwise_cons.1 h;unfold insK
   split
   · rename_i hlt
     refine List.pairwise_cons.2 ⟨fun p hp=> ?_,h⟩
     rcases List.mem_cons.1 hp with rfl|hp
     · exact hlt
     · exact Int.lt_trans hlt (h1 p hp)
   · rename_i hlt
     have hq:=hne q sI
     refine List.pairwise_cons.2 ⟨fun p hp=> ?_,qko h2 fun p hp=>hne p (by simp [hp])⟩
     rcases qm6.1 hp with rfl|hp
     · show q.1<id
       omega
     · exact h1 p hp
theorem qdo.put {m:List (Int×α)} (h:qdo m) (id:Int) (v:α):qdo (putK id v m):=qko (h.del id) fun p hp=>(qhy.1 hp).2
theorem qfj {m:List (Int×α)} {id:Int} {v:α} (h:getK id m=some v):(id,v)∈m:=by
 unfold getK at h;rw [Option.map_eq_some_iff] at h;obtain⟨p,hp,rfl⟩:=h;have h1:=List.find?_some hp;have h2:=List.mem_of_find?_eq_some hp;have:p.1=id:=by simpa using h1
 subst this;exact h2
theorem qes {m:List (Int×α)} {id:Int}:getK id m=none↔∀p∈m,p.1≠id:=by
 unfold getK
 rw [Option.map_eq_none_iff,List.find?_eq_none]
 simp
theorem qdo.uniq {m:List (Int×α)} (h:qdo m) {p q:Int×α} (hp:p∈m) (hq:q∈m) (e:p.1=q.1):p=q:=by
 induction m with
 | nil=>cases hp
 | cons x r ih=>
   obtain⟨h1,h2⟩:=List.pairwise_cons.1 h
   rcases List.mem_cons.1 hp with e1|hp<;>rcases List.mem_cons.1 hq with e2|hq
   · rw [e1,e2]
   · have:=h1 q hq;rw [e1] at e;omega
   · have:=h1 p hp;rw [e2] at e;omega
   · exact ih h2 hp hq
theorem qgs {m:List (Int×α)} (h:qdo m) {id:Int} {v:α} (hm:(id,v)∈m):getK id m=some v:=by
 cases hg:getK id m with
 | none=>exact absurd rfl (qes.1 hg _ hm)
 | some u=>
   have:=h.uniq (qfj hg) hm rfl;injection this with _ e
   rw [e]
theorem get_put {m:List (Int×α)} (hm:qdo m) (id:Int) (v:α) (i:Int):getK i (putK id v m)=if i=id then some v else getK i m:=by
 split
 · rename_i h
   subst h;exact qgs (hm.put i v) (qm5.2 (.inl rfl))
 · rename_i h
   cases hg:getK i m with
   | none=>
     rw [qes] at hg ⊢
     intro p hp
     rcases qm5.1 hp with rfl|⟨hp,_⟩
     · exact fun e=>h e.symm
     · exact hg p hp
   | some u=>exact qgs (hm.put id v) (qm5.2 (.inr ⟨qfj hg,h⟩))
theorem qkq {m:List (Int×α)} (hm:qdo m) (id i:Int):getK i (delK id m)=if i=id then none else getK i m:=by
 split
 · rename_i h
   subst h;exact qes.2 fun p hp=>(qhy.1 hp).2
 · rename_i h
   cases hg:getK i m with
   | none=>exact qes.2 fun p hp=>qes.1 hg p (qhy.1 hp).1
   | some u=>exact qgs (hm.del id) (qhy.2 ⟨qfj hg,h⟩)
theorem qnc (f:α->β) (id:Int) (v:α):∀m:List (Int×α),insK id (f v) (m.map fun p=>(p.1,f p.2))=(insK id v m).map fun p=>(p.1,f p.2)
 | []=>rfl
 | p::r=>by
   rw [zdy]
   unfold insK
   split
   · rfl
   · rw [zdy,qnc f id v r]
theorem qnd (id:Int) (v:α):∀m:List (Int×α),(insK id v m).length=m.length+1
 | []=>rfl
 | p::r=>by
   unfold insK
   split
   · rfl
   · rw [zax,qnd id v r,zax]
theorem qjj (id:Int) (m:List (Int×α)):(delK id m).length<=m.length:=List.length_filter_le _ _
theorem qrz (id:Int) (v:α) (m:List (Int×α)):(putK id v m).length<=m.length+1:=by
 unfold putK
 rw [qnd]
 have:=qjj id m
 omega
end
def RV (v:Value):Option (DataW Value×List MemPlace):=some (.held v,[])
def toD (V:List (Int×Value)):DataW Value:=.map (V.map fun p=>(Lit.int .i64 p.1,.held p.2))
theorem qj7 (a b:Int):(Lit.int .i64 a).sameKey (.int .i64 b)=decide (a=b):=by simp [Lit.sameKey]
theorem qls (id:Int) (v:Value):∀V:List (Int×Value),DataW.insert (Lit.int .i64 id,.held v) (V.map fun p=>(Lit.int .i64 p.1,DataW.held p.2))=(insK id v V).map fun p=>(Lit.int .i64 p.1,DataW.held p.2)
 | []=>rfl
 | p::r=>by
   rw [zdy]
   unfold DataW.insert insK
   simp only [Lit.before,decide_eq_true_eq]
   split
   · rfl
   · rw [zdy,qls id v r]
theorem qia (id:Int):∀V:List (Int×Value),(V.map fun p=>(Lit.int .i64 p.1,(DataW.held p.2:DataW Value))).filter (fun p=> !p.1.sameKey (.int .i64 id))=(delK id V).map fun p=>(Lit.int .i64 p.1,DataW.held p.2)
 | []=>rfl
 | p::r=>by
   unfold delK
   rw [zdy,List.filter_cons,List.filter_cons,qj7,qia id r]
   unfold delK
   split<;>simp_all
theorem q01 (id:Int) (v:Value) (V:List (Int×Value)):(toD V).put (.int .i64 id) (.held v)=toD (putK id v V):=by
 unfold toD DataW.put putK
 simp only
 rw [qia,qls]
theorem q02 (id:Int) (V:List (Int×Value)):(toD V).del (.int .i64 id)=toD (delK id V):=by
 unfold toD DataW.del
 simp only
 rw [qia]
theorem qrp (id:Int):∀V:List (Int×Value),(V.map fun p=>(Lit.int .i64 p.1,(DataW.held p.2:DataW Value))).find? (fun p=>p.1.sameKey (.int .i64 id))=(V.find? fun p=>decide (p.1=id)).map fun p=>(Lit.int .i64 p.1,DataW.held p.2)
 | []=>rfl
 | p::r=>by
   rw [zdy,List.find?_cons,List.find?_cons,qj7,qrp id r]
   split<;>rfl
theorem q2k (id:Int) (z:Value) (V:List (Int×Value)):(toD V).atKey (.int .i64 id) (.held z)=.held ((getK id V).getD z):=by
 unfold toD DataW.atKey getK
 simp only
 rw [qrp]
 cases V.find? fun p=>decide (p.1=id)<;>rfl
theorem qjb (V:List (Int×Value)):Maps.size (toD V)=V.length:=by unfold toD;rw [Maps.size_eq,zyy]
end Pg
namespace Pg
open Go Go.RowKit
structure En where
 kv:Value
 kb:List Nat
 id:Int
 kid:Nat
structure It where
 blk:Nat
 ob:Ob
 ov:Value
 kv:Value
 kb:List Nat
structure Tr where
 fan:Nat
 root:Nat
 lv:Nat->Option Nat
 up:Nat->Option Nat
 es:Nat->List En
 sl:Nat->Value
 leaf:Int->Nat
 items:List (Int×It)
def updT {α β:Type} [DecidableEq α] (f:α->β) (a:α) (v:β):α->β:=fun x=>if x=a then v else f x
section
variable {α β:Type} [DecidableEq α] {f:α->β} {a b:α} {v:β}
theorem qaf:updT f a v a=v:=by simp [updT]
theorem qai (h:b≠a):updT f a v b=f b:=by simp [updT,h]
end
inductive Und (up:Nat->Option Nat) (n:Nat):Nat->Prop
 | refl:Und up n n
 | step {b u:Nat}:up b=some u->Und up n u->Und up n b
theorem Und.trans {up:Nat->Option Nat} {n m b:Nat} (h:Und up n m) (k:Und up m b):Und up n b:=by
 induction k with
 | refl=>exact h
 | step e _ ih=>exact .step e ih
structure Shape (t:Tr) (L:Int->Prop):Prop where
 root:(t.lv t.root).isSome/\t.up t.root=none
 one:∀b l,t.lv b=some l->t.up b=none->b=t.root
 up:∀b l u,t.lv b=some l->t.up b=some u->t.lv u=some (l+1)/\∃e∈t.es u,e.kid=b
 kid:∀u l e,t.lv u=some (l+1)->e∈t.es u->t.lv e.kid=some l/\t.up e.kid=some u
 kids:∀u l,t.lv u=some (l+1)->((t.es u).map En.kid).Nodup
 ent:∀b e,t.lv b=some 0->e∈t.es b->t.leaf e.id=b/\∃it,getK e.id t.items=some it/\e.kv=it.kv/\e.kb=it.kb
 itm:∀id it,getK id t.items=some it->¬ L id->t.lv (t.leaf id)=some 0/\∃e∈t.es (t.leaf id),e.id=id
 ids:∀b,t.lv b=some 0->((t.es b).map En.id).Nodup
 lost:∀b e,t.lv b=some 0->e∈t.es b->¬ L e.id
 deep:∃D,∀b l,t.lv b=some l->l<=D
 rise:qdo t.items
def Fill (t:Tr) (X:Nat->Prop):Prop:=∀b l,t.lv b=some l->¬ X b->(t.es b).length<=t.fan/\(b≠t.root->t.fan/2<=(t.es b).length)/\(b=t.root->0<l->2<=(t.es b).length)
def Keyed (U:List (List Nat)->List Nat) (t:Tr) (X:Nat->Prop):Prop:=∀b l u e,t.lv b=some l->t.up b=some u->¬ X b->e∈t.es u->e.kid=b->e.kb=U ((t.es b).map En.kb)
section
variable {t:Tr} {L:Int->Prop}
theorem Shape.und_lv (h:Shape t L) {n b l:Nat} (hb:t.lv b=some l) (hu:Und t.up n b):∃m,l<=m/\t.lv n=some m/\(m=l->b=n):=by
 induction hu generalizing l with
 | refl=>exact ⟨l,zhy _,hb,fun _=>rfl⟩
 | step e _ ih=>
   obtain⟨m,h1,h2,h3⟩:=ih (h.up _ _ _ hb e).1;exact⟨m,by omega,h2,fun hm=>by omega⟩
theorem Shape.under (h:Shape t L):∀{b l:Nat},t.lv b=some l->Und t.up t.root b:=by
 obtain⟨D,hD⟩:=h.deep
 suffices ∀k b l,D-l<=k->t.lv b=some l->Und t.up t.root b from fun{b l} hb=>this _ b l (zhy _) hb
 intro k
 induction k with
 | zero=>
   intro b l hk hb
   cases hu:t.up b with
   | none=>rw [h.one _ _ hb hu];exact .refl
   | some u=>
     have h1:=hD _ _ (h.up _ _ _ hb hu).1;have:=hD _ _ hb
     omega
 | succ k ih=>
   intro b l hk hb
   cases hu:t.up b with
   | none=>rw [h.one _ _ hb hu];exact .refl
   | some u=>exact .step hu (ih u (l+1) oQ (h.up _ _ _ hb hu).1)
def below (t:Tr):Nat->Nat->List Int
 | 0,n=>(t.es n).map En.id
 | l+1,n=>(t.es n).flatMap fun e=>below t l e.kid
theorem Shape.mem_below (h:Shape t L) {id:Int}:∀{l n:Nat},t.lv n=some l->(id∈below t l n↔∃b,t.lv b=some 0/\Und t.up n b/\∃e∈t.es b,e.id=id):=by
 intro l
 induction l with
 | zero=>
   intro n hn
   simp only [below,zty]
   constructor
   · rintro⟨e,he,rfl⟩
     exact⟨n,hn,.refl,e,he,rfl⟩
   · rintro⟨b,hb,hu,e,he,rfl⟩
     obtain⟨m,h1,h2,h3⟩:=h.und_lv hb hu;rw [hn] at h2
     cases h2
     obtain rfl:=h3 rfl;exact⟨e,he,rfl⟩
 | succ l ih=>
   intro n hn
   simp only [below,List.mem_flatMap]
   constructor
   · rintro⟨e,he,hid⟩
     obtain⟨h1,h2⟩:=h.kid _ _ _ hn he;obtain⟨b,hb,hu,x⟩:=(ih h1).1 hid;exact⟨b,hb,(Und.step h2 .refl:Und t.up n e.kid).trans hu,x⟩
   · rintro⟨b,hb,hu,x⟩
     -- the node under n on the way to b
     have key:∀b,Und t.up n b->∀m,t.lv b=some m->m<l+1->∃e∈t.es n,Und t.up e.kid b:=by
      intro b hu
      induction hu with
      | refl=>intro m hm hl;rw [hn] at hm;cases hm;omega
      | @step b u e hk ih2=>
        intro m hm hl;have h4:=h.up _ _ _ hm e
        rcases zry (m+1) (l+1) with hlt|hge
        · obtain⟨e1,he1,hu1⟩:=ih2 _ h4.1 hlt
          exact⟨e1,he1,.step e hu1⟩
        · have hml:m+1=l+1:=oQ
          obtain⟨q,hq1,hq2,hq3⟩:=h.und_lv h4.1 hk;rw [hn] at hq2
          cases hq2
          obtain rfl:=hq3 hml.symm;obtain⟨e1,he1,rfl⟩:=h4.2;exact⟨e1,he1,.refl⟩
     obtain⟨e,he,hu2⟩:=key b hu 0 hb oQ
     obtain⟨h1,h2⟩:=h.kid _ _ _ hn he;exact⟨e,he,(ih h1).2 ⟨b,hb,hu2,x⟩⟩
theorem q0z {up:Nat->Option Nat} {n m b:Nat} (h:Und up n b) (k:Und up m b):Und up n m\/Und up m n:=by
 induction h with
 | refl=>exact .inr k
 | step e h ih=>
   cases k with
   | refl=>exact .inl (.step e h)
   | step e' k=>rw [e] at e';cases e';exact ih k
theorem qgz {α β:Type} {f:α->List β}:∀{l:List α},l.Nodup->(∀a∈l,(f a).Nodup)->(∀a∈l,∀b∈l,a≠b->∀x∈f a,x ∉ f b)->(l.flatMap f).Nodup
 | [],_,_,_=>List.nodup_nil
 | a::r,hn,h1,h2=>by
   rw [zvy,List.nodup_append]
   rw [List.nodup_cons] at hn;refine⟨h1 a sI,qgz hn.2 (fun b hb=>h1 b (by simp [hb])) (fun b hb c hc=>h2 b (by simp [hb]) c (by simp [hc])),?_⟩
   intro x hx y hy e;subst e;obtain⟨b,hb,hxb⟩:=List.mem_flatMap.1 hy;exact h2 a sI b (by simp [hb]) (fun e=>hn.1 (e ▸ hb)) x hx hxb
theorem qoj {α β:Type} {f:α->β} {l:List α} (h:(l.map f).Nodup):l.Nodup:=by
 unfold List.Nodup at h ⊢;rw [List.pairwise_map] at h;exact h.imp fun hab e=>hab (by rw [e])
theorem qi3 {α β:Type} {f:α->β}:∀{l:List α},(l.map f).Nodup->∀{a b:α},a∈l->b∈l->f a=f b->a=b
 | [],_,_,_,ha,_,_=>by cases ha
 | c::r,h,a,b,ha,hb,e=>by
   rw [zdy,List.nodup_cons] at h
   rcases List.mem_cons.1 ha with h1|h1
   · rcases List.mem_cons.1 hb with h2|h2
     · rw [h1,h2]
     · exact absurd (zty.2 ⟨b,h2,by rw [<-e,h1]⟩) h.1
   · rcases List.mem_cons.1 hb with h2|h2
     · exact absurd (zty.2 ⟨a,h1,by rw [e,h2]⟩) h.1
     · exact qi3 h.2 h1 h2 e
theorem Shape.below_nodup (h:Shape t L):∀{l n:Nat},t.lv n=some l->(below t l n).Nodup:=by
 intro l
 induction l with
 | zero=>intro n hn;exact h.ids n hn
 | succ l ih=>
   intro n hn;have hk:=h.kids _ _ hn;refine qgz (qoj hk) (fun e he=>ih (h.kid _ _ _ hn he).1) ?_
   intro e he e' he' hne x hx hx';obtain⟨b,hb,hu,y,hy,hyx⟩:=(h.mem_below (h.kid _ _ _ hn he).1).1 hx;obtain⟨b',hb',hu',y',hy',hyx'⟩:=(h.mem_below (h.kid _ _ _ hn he').1).1 hx';have e1:=(h.ent _ _ hb hy).1;have e2:=(h.ent _ _ hb' hy').1;rw [hyx] at e1;rw [hyx'] at e2;have:b=b' :=e1.symm.trans e2;subst this
   have hh:e.kid=e'.kid:=by
    rcases q0z hu hu' with q|q
    · obtain⟨m,_,h2,h3⟩:=h.und_lv (h.kid _ _ _ hn he').1 q
      rw [(h.kid _ _ _ hn he).1] at h2
      cases h2
      exact(h3 rfl).symm
    · obtain⟨m,_,h2,h3⟩:=h.und_lv (h.kid _ _ _ hn he).1 q
      rw [(h.kid _ _ _ hn he').1] at h2
      cases h2
      exact h3 rfl
   exact hne (qi3 hk he he' hh)
theorem Shape.mem_root (h:Shape t L) {l:Nat} (hl:t.lv t.root=some l) {id:Int}:id∈below t l t.root↔¬ L id/\∃it,getK id t.items=some it:=by
 rw [h.mem_below hl]
 constructor
 · rintro⟨b,hb,_,e,he,rfl⟩
   obtain⟨_,it,hit,_⟩:=h.ent _ _ hb he;exact⟨h.lost _ _ hb he,it,hit⟩
 · rintro⟨hL,it,hit⟩
   obtain⟨h1,e,he,hid⟩:=h.itm _ _ hit hL;exact⟨_,h1,h.under h1,e,he,hid⟩
end
structure Alike (t t' :Tr):Prop where
 fan:t'.fan=t.fan
 root:t'.root=t.root
 lv:t'.lv=t.lv
 up:t'.up=t.up
 leaf:t'.leaf=t.leaf
 items:t'.items=t.items
 es:∀b,(t'.es b).map (fun e=>(e.id,e.kid))=(t.es b).map fun e=>(e.id,e.kid)
 low:∀b,t.lv b=some 0->t'.es b=t.es b
theorem Alike.refl (t:Tr):Alike t t:=⟨rfl,rfl,rfl,rfl,rfl,rfl,fun _=>rfl,fun _ _=>rfl⟩
theorem Alike.trans {t t' t'' :Tr} (h:Alike t t') (k:Alike t' t''):Alike t t'' :=
 ⟨k.fan.trans h.fan,k.root.trans h.root,k.lv.trans h.lv,k.up.trans h.up,k.leaf.trans h.leaf,k.items.trans h.items,fun b=>(k.es b).trans (h.es b),fun b hb=>(k.low b (by rw [h.lv];exact hb)).trans (h.low b hb)⟩
section
variable {t t' :Tr} {L:Int->Prop} {X:Nat->Prop} {U:List (List Nat)->List Nat}
theorem Alike.len (h:Alike t t') (b:Nat):(t'.es b).length=(t.es b).length:=by
 have:=congrArg List.length (h.es b)
 simpa using this
theorem Alike.kids (h:Alike t t') (b:Nat):(t'.es b).map En.kid=(t.es b).map En.kid:=by
 have:=congrArg (List.map Prod.snd) (h.es b);rw [List.map_map,List.map_map] at this;exact this
theorem Alike.back (h:Alike t t') {b:Nat} {e:En} (he:e∈t'.es b):∃e0∈t.es b,e0.kid=e.kid/\e0.id=e.id:=by
 have:(e.id,e.kid)∈(t.es b).map fun e=>(e.id,e.kid):=by rw [<-h.es];exact zty.2 ⟨e,he,rfl⟩
 obtain⟨e0,h0,h1⟩:=zty.1 this;simp only [Prod.mk.injEq] at h1;exact⟨e0,h0,h1.2,h1.1⟩
theorem Alike.on (h:Alike t t') {b:Nat} {e:En} (he:e∈t.es b):∃e0∈t'.es b,e0.kid=e.kid/\e0.id=e.id:=by
 have:(e.id,e.kid)∈(t'.es b).map fun e=>(e.id,e.kid):=by rw [h.es];exact zty.2 ⟨e,he,rfl⟩
 obtain⟨e0,h0,h1⟩:=zty.1 this;simp only [Prod.mk.injEq] at h1;exact⟨e0,h0,h1.2,h1.1⟩
theorem Shape.alike (h:Shape t L) (a:Alike t t'):Shape t' L where
 root:=by rw [a.root,a.lv,a.up];exact h.root
 one:=by rw [a.root,a.lv,a.up];exact h.one
 up:=by
  intro b l u hb hu
  rw [a.lv] at hb ⊢
  rw [a.up] at hu;obtain⟨h1,e,he,hk⟩:=h.up b l u hb hu;obtain⟨e',he',hk',_⟩:=a.on he;exact⟨h1,e',he',hk'.trans hk⟩
 kid:=by
  intro u l e hu he
  rw [a.lv] at hu ⊢
  rw [a.up]
  obtain⟨e0,h0,hk,_⟩:=a.back he
  rw [<-hk]
  exact h.kid u l e0 hu h0
 kids:=by
  intro u l hu;rw [a.lv] at hu
  rw [a.kids]
  exact h.kids u l hu
 ent:=by
  intro b e hb he;rw [a.lv] at hb;rw [a.low b hb] at he
  rw [a.leaf,a.items]
  exact h.ent b e hb he
 itm:=by
  intro id it hit hL;rw [a.items] at hit
  rw [a.leaf,a.lv]
  obtain⟨h1,h2⟩:=h.itm id it hit hL;exact⟨h1,by rw [a.low _ h1];exact h2⟩
 ids:=by
  intro b hb;rw [a.lv] at hb
  rw [a.low b hb]
  exact h.ids b hb
 lost:=by
  intro b e hb he;rw [a.lv] at hb;rw [a.low b hb] at he;exact h.lost b e hb he
 deep:=by rw [a.lv];exact h.deep
 rise:=by rw [a.items];exact h.rise
theorem Fill.alike (h:Fill t X) (a:Alike t t'):Fill t' X:=by
 intro b l hb hX;rw [a.lv] at hb
 rw [a.len,a.fan,a.root]
 exact h b l hb hX
def qdc (t:Tr) (u i:Nat) (kv:Value) (kb:List Nat):Tr:={t with es:=updT t.es u ((t.es u).modify i fun e=>{e with kv:=kv,kb:=kb})}
theorem qgq {α β:Type} (g:α->β) (f:α->α) (hf:∀a,g (f a)=g a) (l:List α) (i:Nat):(l.modify i f).map g=l.map g:=by
 apply List.ext_getElem?
 intro j
 rw [zpx,zpx,List.getElem?_modify]
 split
 · cases l[j]? with
   | none=>rfl
   | some x=>simp [hf]
 · simp
theorem qi7 {u l i:Nat} (kv:Value) (kb:List Nat) (hu:t.lv u=some (l+1)):Alike t (qdc t u i kv kb) where
 fan:=rfl
 root:=rfl
 lv:=rfl
 up:=rfl
 leaf:=rfl
 items:=rfl
 es:=by
  intro b;unfold qdc updT
  simp only
  split
  · rename_i e
    subst e;exact qgq (fun e:En=>(e.id,e.kid)) (fun e:En=>{e with kv:=kv,kb:=kb}) (fun _=>rfl) _ _
  · rfl
 low:=by
  intro b hb;unfold qdc updT
  simp only
  split
  · rename_i e
    subst e;rw [hu] at hb
    cases hb
  · rfl
theorem mem_modify {α:Type} {f:α->α} {l:List α} {i:Nat} {x:α} (h:x∈l.modify i f):(∃y,l[i]? =some y/\x=f y)\/∃j,j≠i/\l[j]? =some x:=by
 obtain⟨j,hj⟩:=List.mem_iff_getElem?.1 h;rw [List.getElem?_modify] at hj
 by_cases e:i=j
 · subst e
   cases hl:l[i]? with
   | none=>rw [hl] at hj;cases hj
   | some y=>rw [hl] at hj;simp at hj;exact .inl ⟨y,rfl,hj.symm⟩
 · cases hl:l[j]? with
   | none=>rw [hl] at hj;cases hj
   | some y=>rw [hl] at hj;simp [e] at hj;exact .inr ⟨j,fun h=>e h.symm,by rw [hl,hj]⟩
theorem qm3 {α β:Type} {f:α->β} {l:List α} (h:(l.map f).Nodup) {i j:Nat} {x y:α} (hi:l[i]? =some x) (hj:l[j]? =some y) (e:f x=f y):i=j:=by
 have h1:(l.map f)[i]? =some (f x):=by rw [zpx,hi];rfl
 have h2:(l.map f)[j]? =some (f x):=by rw [zpx,hj,e];rfl
 have hi' :i<(l.map f).length:=by
  rcases zry i (l.map f).length with q|q
  · exact q
  · rw [zoy q] at h1;cases h1
 exact(List.getElem?_inj hi' h).1 (h1.trans h2.symm)
theorem ql6 (h:Shape t L) {n u l i:Nat} {e:En} (hk:Keyed U t (· =n)) (kv:Value) (hn:t.lv n=some l) (hu:t.up n=some u) (hi:(t.es u)[i]? =some e) (he:e.kid=n):
 Keyed U (qdc t u i kv (U ((t.es n).map En.kb))) (· =u):=by
 have hul:=(h.up _ _ _ hn hu).1;intro b l' u' e' hb hu' hX he' hek;have hb:t.lv b=some l' :=hb;have hu' :t.up b=some u' :=hu';have hbu:(qdc t u i kv (U ((t.es n).map En.kb))).es b=t.es b:=qai hX
 rw [hbu]
 by_cases huu:u' =u
 · subst huu
   have he' :e' ∈(t.es u').modify i fun e=>{e with kv:=kv,kb:=U ((t.es n).map En.kb)}:=by
    have:(qdc t u' i kv (U ((t.es n).map En.kb))).es u' =(t.es u').modify i fun e=>{e with kv:=kv,kb:=U ((t.es n).map En.kb)}:=qaf
    rwa [this] at he'
   rcases mem_modify he' with ⟨y,hy,rfl⟩|⟨j,hj,hj'⟩
   · rw [hi] at hy
     cases hy
     simp only at hek ⊢
     rw [<-hek,he]
   · refine hk b l' u' e' hb hu' ?_ (zjy hj') hek
     intro e1;exact hj (qm3 (h.kids _ _ hul) hj' hi (by rw [hek,he,e1]))
 · rw [show (qdc t u i kv (U ((t.es n).map En.kb))).es u' =t.es u' from qai huu] at he'
   refine hk b l' u' e' hb hu' ?_ he' hek;intro e1;subst e1;have q:t.up b=some u' :=hu';rw [hu] at q
   cases q
   exact huu rfl
theorem ql7 (h:Shape t L) {n:Nat} (hk:Keyed U t (· =n)) (hn:t.up n=none):Keyed U t fun _=>False:=by
 intro b l u e hb hu _ he hek;refine hk b l u e hb hu ?_ he hek;rintro rfl;rw [hn] at hu
 cases hu
theorem Shape.addLeaf (h:Shape t L) {n:Nat} {id:Int} {it:It} {x:En} {v:Value} (hn:t.lv n=some 0) (hid:L id) (hit:getK id t.items=some it) (hx:x.id=id/\x.kv=it.kv/\x.kb=it.kb) (ht:t' ={t with es:=updT t.es n (t.es n++ [x]),sl:=updT t.sl n v,leaf:=fun i=>if i∈(t.es n++ [x]).map En.id then n else t.leaf i}):
 Shape t' fun i=>L i/\i≠id:=by
 subst ht;have hne:∀u l,t.lv u=some (l+1)->u≠n:=fun u l hu e=>by rw [e,hn] at hu;cases hu
 have hes:∀b,b≠n->updT t.es n (t.es n++ [x]) b=t.es b:=fun b hb=>qai hb
 have hsame:updT t.es n (t.es n++ [x]) n=t.es n++ [x]:=qaf;have hfresh:∀b e,t.lv b=some 0->e∈t.es b->e.id≠id:=fun b e hb he hh=>h.lost b e hb he (hh ▸ hid)
 refine⟨h.root,h.one,?_,?_,?_,?_,?_,?_,?_,h.deep,h.rise⟩
 · intro b l u hb hu
   simp only at hb hu ⊢
   obtain⟨h1,h2⟩:=h.up b l u hb hu
   rw [hes u (hne u l h1)]
   exact⟨h1,h2⟩
 · intro u l e hu he
   simp only at hu he ⊢
   rw [hes u (hne u l hu)] at he;exact h.kid u l e hu he
 · intro u l hu
   simp only at hu ⊢
   rw [hes u (hne u l hu)]
   exact h.kids u l hu
 · intro b e hb he
   simp only at hb he ⊢
   by_cases hbn:b=n
   · subst hbn
     rw [hsame] at he;refine⟨if_pos (zty.2 ⟨e,he,rfl⟩),?_⟩
     rcases List.mem_append.1 he with h1|h1
     · exact(h.ent _ _ hb h1).2
     · rw [zhx.1 h1,hx.1]
       exact⟨it,hit,hx.2⟩
   · rw [hes b hbn] at he
     obtain⟨h1,h2⟩:=h.ent b e hb he;refine⟨?_,h2⟩
     rw [if_neg]
     · exact h1
     · intro hm
       obtain⟨y,hy,hyi⟩:=zty.1 hm
       rcases List.mem_append.1 hy with q|q
       · have:=(h.ent _ _ hn q).1
         rw [hyi,h1] at this;exact hbn this
       · rw [zhx.1 q,hx.1] at hyi
         exact hfresh b e hb he hyi.symm
 · intro i j hi hL
   simp only at hi ⊢
   by_cases hm:i∈(t.es n++ [x]).map En.id
   · rw [if_pos hm,hsame]
     obtain⟨y,hy,hyi⟩:=zty.1 hm;exact⟨hn,y,hy,hyi⟩
   · have hi' :i≠id:=fun e=>hm (by rw [zfx,List.mem_append];exact .inr (by simp [hx.1,e]))
     obtain⟨h1,e,he,hei⟩:=h.itm i j hi (fun hl=>hL ⟨hl,hi'⟩)
     rw [if_neg hm]
     have:t.leaf i≠n:=fun e1=>hm (by rw [zfx,List.mem_append];exact .inl (zty.2 ⟨e,e1 ▸ he,hei⟩))
     rw [hes _ this]
     exact⟨h1,e,he,hei⟩
 · intro b hb
   simp only at hb ⊢
   by_cases hbn:b=n
   · subst hbn
     rw [hsame,zfx,List.nodup_append]
     refine⟨h.ids _ hb,by simp,?_⟩
     intro y hy z hz e;obtain⟨q,hq,rfl⟩:=zty.1 hy
     simp at hz
     exact hfresh _ q hb hq (by rw [e,hz,hx.1])
   · rw [hes b hbn]
     exact h.ids b hb
 · rintro b e hb he ⟨hl,hne'⟩
   simp only at hb he
   by_cases hbn:b=n
   · subst hbn
     rw [hsame] at he
     rcases List.mem_append.1 he with q|q
     · exact h.lost _ _ hb q hl
     · rw [zhx.1 q] at hne'
       exact hne' hx.1
   · rw [hes b hbn] at he
     exact h.lost b e hb he hl
end
section
variable {t t' :Tr} {L:Int->Prop} {X:Nat->Prop} {U:List (List Nat)->List Nat}
structure Cut (t t' :Tr) (n o u l:Nat) (a b:List En):Prop where
 hn:t.lv n=some l
 hu:t.up n=some u
 ho:t.lv o=none
 perm:(a++b).Perm (t.es n)
 lv:t'.lv=updT t.lv o (some l)
 root:t'.root=t.root
 items:t'.items=t.items
 fan:t'.fan=t.fan
 esn:t'.es n=a
 eso:t'.es o=b
 esu:(t'.es u).map (fun e=>(e.id,e.kid))=(t.es u).map (fun e=>(e.id,e.kid))++ [(0,o)]
 es:∀x,x≠n->x≠o->x≠u->t'.es x=t.es x
 upo:t'.up o=some u
 up:∀x m,t.lv x=some m->t'.up x=if 0<l/\x∈b.map En.kid then some o else t.up x
 leaf:∀i,t'.leaf i=if l=0/\i∈b.map En.id then o else t.leaf i
theorem Cut.shape {n o u l:Nat} {a b:List En} (c:Cut t t' n o u l a b) (h:Shape t L):Shape t' L:=by
 have hul:t.lv u=some (l+1):=(h.up _ _ _ c.hn c.hu).1;have hno:n≠o:=fun e=>by have:=c.hn;rw [e,c.ho] at this;cases this
 have huo:u≠o:=fun e=>by rw [e,c.ho] at hul;cases hul
 have hnu:n≠u:=fun e=>by have:=c.hn;rw [e,hul] at this;injection this with this;omega
 have hlo:t'.lv o=some l:=by rw [c.lv];exact qaf
 have hlv:∀x,x≠o->t'.lv x=t.lv x:=fun x hx=>by rw [c.lv];exact qai hx
 have hal:∀x m,t.lv x=some m->x≠o:=fun x m hx e=>by rw [e,c.ho] at hx;cases hx
 have hma:∀e∈a,e∈t.es n:=fun e he=>c.perm.mem_iff.1 (List.mem_append.2 (.inl he))
 have hmb:∀e∈b,e∈t.es n:=fun e he=>c.perm.mem_iff.1 (List.mem_append.2 (.inr he))
 have hab:∀e∈t.es n,e∈a\/e∈b:=fun e he=>List.mem_append.1 (c.perm.mem_iff.2 he)
 have hnd:∀{m},l=m+1->((a++b).map En.kid).Nodup:=fun {m} hm=>((c.perm.map En.kid).nodup_iff).2 (h.kids n m (by rw [c.hn,hm]))
 have hnd0:l=0->((a++b).map En.id).Nodup:=fun hm=>((c.perm.map En.id).nodup_iff).2 (h.ids n (by rw [c.hn,hm]))
 have hbk:∀x,0<l->x∈b.map En.kid->t.up x=some n/\t.lv x=some (l-1):=by
  intro x hl hx;obtain⟨e,he,rfl⟩:=zty.1 hx;have:=h.kid n (l-1) e (by rw [c.hn,Nat.sub_add_cancel hl]) (hmb e he)
  exact⟨this.2,this.1⟩
 have hbi:∀i,l=0->i∈b.map En.id->t.leaf i=n:=by
  intro i hl hi;obtain⟨e,he,rfl⟩:=zty.1 hi;exact(h.ent n e (by rw [c.hn,hl]) (hmb e he)).1
 have hu' :∀{e},e∈t'.es u->e.kid=o\/∃e0∈t.es u,e0.kid=e.kid:=by
  intro e he;have:(e.id,e.kid)∈(t.es u).map (fun e=>(e.id,e.kid))++ [(0,o)]:=by rw [<-c.esu];exact zty.2 ⟨e,he,rfl⟩
  rcases List.mem_append.1 this with q|q
  · obtain⟨e0,h0,h1⟩:=zty.1 q
    simp only [Prod.mk.injEq] at h1;exact .inr ⟨e0,h0,h1.2⟩
  · simp only [zhx,Prod.mk.injEq] at q
    exact .inl q.2
 have hu2:∀{e},e∈t.es u->∃e0∈t'.es u,e0.kid=e.kid:=by
  intro e he;have:(e.id,e.kid)∈(t'.es u).map (fun e=>(e.id,e.kid)):=by rw [c.esu];exact List.mem_append.2 (.inl (zty.2 ⟨e,he,rfl⟩))
  obtain⟨e0,h0,h1⟩:=zty.1 this;simp only [Prod.mk.injEq] at h1;exact⟨e0,h0,h1.2⟩
 have hu3:∃e0∈t'.es u,e0.kid=o:=by
  have:(0,o)∈(t'.es u).map (fun e=>(e.id,e.kid)):=by rw [c.esu];simp
  obtain⟨e0,h0,h1⟩:=zty.1 this;simp only [Prod.mk.injEq] at h1;exact⟨e0,h0,h1.2⟩
 refine⟨?_,?_,?_,?_,?_,?_,?_,?_,?_,?_,by rw [c.items];exact h.rise⟩
 · obtain⟨h1,h2⟩:=h.root
   obtain⟨m,hm⟩:=Option.isSome_iff_exists.1 h1
   rw [c.root,hlv _ (hal _ _ hm)]
   refine⟨h1,?_⟩
   rw [c.up _ _ hm,if_neg]
   · exact h2
   · rintro⟨q1,q2⟩
     rw [(hbk _ q1 q2).1] at h2
     cases h2
 · intro x m hx hup
   by_cases hxo:x=o
   · rw [hxo,c.upo] at hup;cases hup
   rw [hlv _ hxo] at hx;rw [c.up _ _ hx] at hup
   split at hup
   · cases hup
   · rw [c.root];exact h.one x m hx hup
 · intro x m v hx hup
   by_cases hxo:x=o
   · subst hxo
     rw [hlo] at hx
     cases hx
     rw [c.upo] at hup
     cases hup
     exact⟨by rw [hlv _ huo];exact hul,hu3⟩
   · rw [hlv _ hxo] at hx
     rw [c.up _ _ hx] at hup
     split at hup
     · rename_i hb
       cases hup
       obtain⟨q1,q2⟩:=hbk x hb.1 hb.2;rw [hx] at q2
       cases q2
       refine⟨by rw [hlo];congr 1;have:=hb.1;omega,?_⟩
       rw [c.eso]
       exact zty.1 hb.2
     · rename_i hb
       obtain⟨q1,e,he,hk⟩:=h.up x m v hx hup
       rw [hlv _ (hal _ _ q1)]
       refine⟨q1,?_⟩
       by_cases hvn:v=n
       · subst hvn
         have hlm:l=m+1:=by have:=c.hn;rw [q1] at this;cases this;rfl
         rw [c.esn]
         rcases hab e he with h1|h1
         · exact⟨e,h1,hk⟩
         · exact absurd ⟨by omega,zty.2 ⟨e,h1,hk⟩⟩ hb
       · by_cases hvu:v=u
         · subst hvu
           obtain⟨e0,h0,h1⟩:=hu2 he;exact⟨e0,h0,h1.trans hk⟩
         · rw [c.es v hvn (hal _ _ q1) hvu]
           exact⟨e,he,hk⟩
 · intro v m e hv he
   by_cases hvo:v=o
   · subst hvo
     rw [hlo] at hv
     cases hv
     rw [c.eso] at he;have hk:=h.kid n m e c.hn (hmb e he);refine⟨by rw [hlv _ (hal _ _ hk.1)];exact hk.1,?_⟩
     rw [c.up _ _ hk.1,if_pos ⟨by omega,zty.2 ⟨e,he,rfl⟩⟩]
   · rw [hlv _ hvo] at hv
     by_cases hvn:v=n
     · subst hvn
       have hlm:l=m+1:=by have:=c.hn;rw [hv] at this;cases this;rfl
       rw [c.esn] at he;have hk:=h.kid v m e hv (hma e he);refine⟨by rw [hlv _ (hal _ _ hk.1)];exact hk.1,?_⟩
       rw [c.up _ _ hk.1,if_neg]
       · exact hk.2
       · rintro⟨_,q⟩
         have:=hnd hlm;rw [zfx,List.nodup_append] at this;exact this.2.2 _ (zty.2 ⟨e,he,rfl⟩) _ q rfl
     · by_cases hvu:v=u
       · subst hvu
         rw [hul] at hv
         cases hv
         rcases hu' he with q|⟨e0,h0,h1⟩
         · rw [q];exact⟨hlo,c.upo⟩
         · rw [<-h1]
           have hk:=h.kid v l e0 hul h0;refine⟨by rw [hlv _ (hal _ _ hk.1)];exact hk.1,?_⟩
           rw [c.up _ _ hk.1,if_neg]
           · exact hk.2
           · rintro⟨q1,q2⟩
             have:=(hbk _ q1 q2).2;rw [hk.1] at this;injection this with this
             omega
       · rw [c.es v hvn hvo hvu] at he
         have hk:=h.kid v m e hv he;refine⟨by rw [hlv _ (hal _ _ hk.1)];exact hk.1,?_⟩
         rw [c.up _ _ hk.1,if_neg]
         · exact hk.2
         · rintro⟨q1,q2⟩
           have:=(hbk _ q1 q2).1;rw [hk.2] at this
           cases this
           exact hvn rfl
 · intro v m hv
   by_cases hvo:v=o
   · subst hvo
     rw [hlo] at hv
     cases hv
     rw [c.eso]
     have:=hnd rfl;rw [zfx,List.nodup_append] at this;exact this.2.1
   · rw [hlv _ hvo] at hv
     by_cases hvn:v=n
     · subst hvn
       have hlm:l=m+1:=by have:=c.hn;rw [hv] at this;cases this;rfl
       rw [c.esn]
       have:=hnd hlm;rw [zfx,List.nodup_append] at this;exact this.1
     · by_cases hvu:v=u
       · subst hvu
         rw [hul] at hv
         cases hv
         have e1:=congrArg (List.map Prod.snd) c.esu;rw [List.map_map,zfx,List.map_map] at e1
         rw [show (t'.es v).map En.kid=(t.es v).map En.kid++ [o] from e1,List.nodup_append]
         refine⟨h.kids _ _ hul,by simp,?_⟩
         intro y hy z hz e;obtain⟨q,hq,rfl⟩:=zty.1 hy;rw [zhx.1 hz] at e;exact hal _ _ (h.kid _ _ _ hul hq).1 e
       · rw [c.es v hvn hvo hvu]
         exact h.kids v m hv
 · intro x e hx he
   rw [c.leaf,c.items]
   by_cases hxo:x=o
   · subst hxo
     rw [hlo] at hx
     cases hx
     rw [c.eso] at he;exact⟨if_pos ⟨rfl,zty.2 ⟨e,he,rfl⟩⟩,(h.ent n e c.hn (hmb e he)).2⟩
   · rw [hlv _ hxo] at hx
     by_cases hxn:x=n
     · subst hxn
       have hl0:l=0:=by have:=c.hn;rw [hx] at this;cases this;rfl
       rw [c.esn] at he;have he2:=h.ent x e hx (hma e he);refine⟨?_,he2.2⟩
       rw [if_neg]
       · exact he2.1
       · rintro⟨_,q⟩
         have:=hnd0 hl0;rw [zfx,List.nodup_append] at this;exact this.2.2 _ (zty.2 ⟨e,he,rfl⟩) _ q rfl
     · have hxu:x≠u:=fun e=>by rw [e,hul] at hx;cases hx
       rw [c.es x hxn hxo hxu] at he;have he2:=h.ent x e hx he;refine⟨?_,he2.2⟩
       rw [if_neg]
       · exact he2.1
       · rintro⟨q1,q2⟩
         have:=hbi _ q1 q2;rw [he2.1] at this;exact hxn this
 · intro i it hi hL
   rw [c.items] at hi;obtain⟨h1,e,he,hei⟩:=h.itm i it hi hL
   rw [c.leaf]
   by_cases hb:l=0/\i∈b.map En.id
   · rw [if_pos hb,hlo,hb.1,c.eso]
     exact⟨rfl,zty.1 hb.2⟩
   · rw [if_neg hb,hlv _ (hal _ _ h1)]
     refine⟨h1,?_⟩;have hxu:t.leaf i≠u:=fun e=>by rw [e,hul] at h1;cases h1
     by_cases hxn:t.leaf i=n
     · rw [hxn] at he h1 ⊢
       have hl0:l=0:=by have:=c.hn;rw [h1] at this;cases this;rfl
       rw [c.esn]
       rcases hab e he with q|q
       · exact⟨e,q,hei⟩
       · exact absurd ⟨hl0,zty.2 ⟨e,q,hei⟩⟩ hb
     · rw [c.es _ hxn (hal _ _ h1) hxu]
       exact⟨e,he,hei⟩
 · intro x hx
   by_cases hxo:x=o
   · subst hxo
     rw [hlo] at hx
     cases hx
     rw [c.eso]
     have:=hnd0 rfl;rw [zfx,List.nodup_append] at this;exact this.2.1
   · rw [hlv _ hxo] at hx
     by_cases hxn:x=n
     · subst hxn
       have hl0:l=0:=by have:=c.hn;rw [hx] at this;cases this;rfl
       rw [c.esn]
       have:=hnd0 hl0;rw [zfx,List.nodup_append] at this;exact this.1
     · have hxu:x≠u:=fun e=>by rw [e,hul] at hx;cases hx
       rw [c.es x hxn hxo hxu]
       exact h.ids x hx
 · intro x e hx he
   by_cases hxo:x=o
   · subst hxo
     rw [hlo] at hx
     cases hx
     rw [c.eso] at he;exact h.lost n e c.hn (hmb e he)
   · rw [hlv _ hxo] at hx
     by_cases hxn:x=n
     · subst hxn
       rw [c.esn] at he;exact h.lost _ e hx (hma e he)
     · have hxu:x≠u:=fun e=>by rw [e,hul] at hx;cases hx
       rw [c.es x hxn hxo hxu] at he;exact h.lost x e hx he
 · obtain⟨D,hD⟩:=h.deep
   refine⟨D,fun x m hx=> ?_⟩
   by_cases hxo:x=o
   · rw [hxo,hlo] at hx
     cases hx
     exact hD n _ c.hn
   · rw [hlv _ hxo] at hx
     exact hD x m hx
theorem Cut.fill {n o u l:Nat} {a b:List En} (c:Cut t t' n o u l a b) (h:Shape t L) (hf:Fill t X) (ha:a.length<=t.fan/\t.fan/2<=a.length) (hb:b.length<=t.fan/\t.fan/2<=b.length):Fill t' fun x=>x=u\/(X x/\x≠n):=by
 have hul:t.lv u=some (l+1):=(h.up _ _ _ c.hn c.hu).1;intro x m hx hX
 rw [c.fan,c.root]
 have hroot:∀z,t.lv z=none->z≠t.root:=fun z hz e=>by have:=h.root.1;rw [<-e,hz] at this;cases this
 by_cases hxo:x=o
 · subst hxo
   rw [c.eso]
   exact⟨hb.1,fun _=>hb.2,fun e=>absurd e (hroot _ c.ho)⟩
 · have hxu:x≠u:=fun e=>hX (.inl e)
   by_cases hxn:x=n
   · subst hxn
     rw [c.esn]
     refine⟨ha.1,fun _=>ha.2,fun e=> ?_⟩
     have:=h.root.2;rw [<-e,c.hu] at this
     cases this
   · rw [c.es x hxn hxo hxu]
     rw [c.lv,qai hxo] at hx;exact hf x m hx fun hx=>hX (.inr ⟨hx,hxn⟩)
theorem Cut.keyed {n o u l:Nat} {a b:List En} (c:Cut t t' n o u l a b) (h:Shape t L) (hk:Keyed U t (· =n))
 (hu:∀e∈t'.es u,(e.kid=n/\e.kb=U (a.map En.kb))\/(e.kid=o/\e.kb=U (b.map En.kb))\/(e∈t.es u/\e.kid≠n)):Keyed U t' (· =u):=by
 have hul:t.lv u=some (l+1):=(h.up _ _ _ c.hn c.hu).1;have hno:n≠o:=fun e=>by have:=c.hn;rw [e,c.ho] at this;cases this
 have hal:∀x m,t.lv x=some m->x≠o:=fun x m hx e=>by rw [e,c.ho] at hx;cases hx
 intro x m v e hx hup hX he hek
 by_cases hxo:x=o
 · subst hxo
   rw [c.upo] at hup
   cases hup
   rcases hu e he with q|q|q
   · exact absurd (q.1.symm.trans hek) hno
   · rw [c.eso];exact q.2
   · have:=(h.kid _ _ _ hul q.1).1
     rw [hek,c.ho] at this
     cases this
 · rw [c.lv,qai hxo] at hx
   rw [c.up _ _ hx] at hup
   split at hup
   · rename_i hb
     cases hup
     rw [c.eso] at he;have hen:e∈t.es n:=c.perm.mem_iff.1 (List.mem_append.2 (.inr he));have hln:t.lv n=some (l-1+1):=by rw [c.hn];congr 1;have:=hb.1;omega
     have hkk:=h.kid n _ e hln hen;rw [hek] at hkk;have hxn:x≠n:=fun e1=>by rw [e1,c.hn] at hkk;have:=hb.1;have:=hkk.1;simp at this;omega
     rw [c.es x hxn hxo (fun e1=>hX e1)]
     exact hk x m n e hx hkk.2 hxn hen hek
   · by_cases hxn:x=n
     · subst hxn
       rw [c.hu] at hup
       cases hup
       rw [c.esn]
       rcases hu e he with q|q|q
       · exact q.2
       · exact absurd (hek.symm.trans q.1) hno
       · exact absurd hek q.2
     · rw [c.es x hxn hxo (fun e1=>hX e1)]
       have hv:=(h.up _ _ _ hx hup).1
       by_cases hvn:v=n
       · subst hvn
         rw [c.esn] at he;exact hk x m v e hx hup hxn (c.perm.mem_iff.1 (List.mem_append.2 (.inl he))) hek
       · by_cases hvu:v=u
         · subst hvu
           rcases hu e he with q|q|q
           · exact absurd (hek.symm.trans q.1) hxn
           · exact absurd (hek.symm.trans q.1) hxo
           · exact hk x m v e hx hup hxn q.1 hek
         · rw [c.es v hvn (hal _ _ hv) hvu] at he
           exact hk x m v e hx hup hxn he hek
end
section
variable {t t' :Tr} {L:Int->Prop} {X:Nat->Prop} {U:List (List Nat)->List Nat}
structure Grown (t t' :Tr) (r l:Nat) (x:En):Prop where
 hn:t.lv t.root=some l
 hr:t.lv r=none
 hx:x.kid=t.root
 lv:t'.lv=updT t.lv r (some (l+1))
 root:t'.root=r
 items:t'.items=t.items
 fan:t'.fan=t.fan
 esr:t'.es r= [x]
 es:∀y,y≠r->t'.es y=t.es y
 upr:t'.up r=none
 up:∀y,y≠r->t'.up y=if y=t.root then some r else t.up y
 leaf:t'.leaf=t.leaf
theorem Grown.shape {r l:Nat} {x:En} (c:Grown t t' r l x) (h:Shape t L):Shape t' L:=by
 have hal:∀x m,t.lv x=some m->x≠r:=fun x m hx e=>by rw [e,c.hr] at hx;cases hx
 have hlr:t'.lv r=some (l+1):=by rw [c.lv];exact qaf
 have hlv:∀x,x≠r->t'.lv x=t.lv x:=fun x hx=>by rw [c.lv];exact qai hx
 refine⟨?_,?_,?_,?_,?_,?_,?_,?_,?_,?_,by rw [c.items];exact h.rise⟩
 · rw [c.root,hlr];exact⟨rfl,c.upr⟩
 · intro y m hy hup
   rw [c.root]
   by_cases hyr:y=r
   · exact hyr
   · rw [hlv _ hyr] at hy
     rw [c.up _ hyr] at hup
     split at hup
     · cases hup
     · rename_i hne
       exact absurd (h.one _ _ hy hup) hne
 · intro y m v hy hup
   by_cases hyr:y=r
   · rw [hyr,c.upr] at hup;cases hup
   · rw [hlv _ hyr] at hy
     rw [c.up _ hyr] at hup
     split at hup
     · rename_i e
       cases hup
       rw [e,c.hn] at hy
       cases hy
       exact⟨hlr,x,by rw [c.esr];simp,by rw [c.hx,e]⟩
     · obtain⟨h1,h2⟩:=h.up _ _ _ hy hup
       rw [hlv _ (hal _ _ h1),c.es _ (hal _ _ h1)]
       exact⟨h1,h2⟩
 · intro v m e hv he
   by_cases hvr:v=r
   · subst hvr
     rw [hlr] at hv
     cases hv
     rw [c.esr] at he
     rw [zhx.1 he,c.hx,hlv _ (hal _ _ c.hn),c.up _ (hal _ _ c.hn),if_pos rfl]
     exact⟨c.hn,rfl⟩
   · rw [hlv _ hvr] at hv
     rw [c.es _ hvr] at he;obtain⟨h1,h2⟩:=h.kid _ _ _ hv he
     rw [hlv _ (hal _ _ h1),c.up _ (hal _ _ h1),if_neg]
     · exact⟨h1,h2⟩
     · intro e1
       rw [e1,h.root.2] at h2
       cases h2
 · intro v m hv
   by_cases hvr:v=r
   · subst hvr;rw [c.esr];simp
   · rw [hlv _ hvr] at hv
     rw [c.es _ hvr]
     exact h.kids _ _ hv
 · intro y e hy he
   have hyr:y≠r:=fun e=>by rw [e,hlr] at hy;cases hy
   rw [hlv _ hyr] at hy;rw [c.es _ hyr] at he
   rw [c.leaf,c.items]
   exact h.ent _ _ hy he
 · intro i it hi hL
   rw [c.items] at hi;obtain⟨h1,h2⟩:=h.itm i it hi hL
   rw [c.leaf,hlv _ (hal _ _ h1),c.es _ (hal _ _ h1)]
   exact⟨h1,h2⟩
 · intro y hy
   have hyr:y≠r:=fun e=>by rw [e,hlr] at hy;cases hy
   rw [hlv _ hyr] at hy
   rw [c.es _ hyr]
   exact h.ids _ hy
 · intro y e hy he
   have hyr:y≠r:=fun e=>by rw [e,hlr] at hy;cases hy
   rw [hlv _ hyr] at hy;rw [c.es _ hyr] at he;exact h.lost _ _ hy he
 · obtain⟨D,hD⟩:=h.deep
   refine⟨D+1,fun y m hy=> ?_⟩
   by_cases hyr:y=r
   · rw [hyr,hlr] at hy
     cases hy
     have:=hD _ _ c.hn
     omega
   · rw [hlv _ hyr] at hy
     have:=hD _ _ hy
     omega
theorem Grown.fill {r l:Nat} {x:En} (c:Grown t t' r l x) (h:Shape t L) (hf:Fill t X):Fill t' fun y=>y=r\/y=t.root\/X y:=by
 intro y m hy hX;have hyr:y≠r:=fun e=>hX (.inl e)
 rw [c.lv,qai hyr] at hy
 rw [c.es _ hyr,c.fan,c.root]
 obtain⟨h1,h2,h3⟩:=hf y m hy fun hx=>hX (.inr (.inr hx))
 exact⟨h1,fun _=>h2 fun e=>hX (.inr (.inl e)),fun e=>absurd e hyr⟩
theorem Grown.keyed {r l:Nat} {x:En} (c:Grown t t' r l x) (h:Shape t L) {Y:Nat->Prop} (hk:Keyed U t Y):Keyed U t' fun y=>y=t.root\/Y y:=by
 have hal:∀x m,t.lv x=some m->x≠r:=fun x m hx e=>by rw [e,c.hr] at hx;cases hx
 intro y m v e hy hup hX he hek
 by_cases hyr:y=r
 · rw [hyr,c.upr] at hup;cases hup
 · rw [c.lv,qai hyr] at hy
   rw [c.up _ hyr,if_neg (fun e=>hX (.inl e))] at hup
   rw [c.es _ hyr]
   rw [c.es _ (hal _ _ (h.up _ _ _ hy hup).1)] at he;exact hk y m v e hy hup (fun q=>hX (.inr q)) he hek
theorem Shape.cutLeaf (h:Shape t L) {n:Nat} {id:Int} {v:Value} (hn:t.lv n=some 0) (hid:t.leaf id=n) (ht:t' ={t with es:=updT t.es n ((t.es n).filter fun e=> !decide (e.id=id)),sl:=updT t.sl n v,items:=delK id t.items}):Shape t' L:=by
 subst ht;have hne:∀u l,t.lv u=some (l+1)->u≠n:=fun u l hu e=>by rw [e,hn] at hu;cases hu
 have hmem:∀b e,t.lv b=some 0->e∈updT t.es n ((t.es n).filter fun e=> !decide (e.id=id)) b->e∈t.es b/\e.id≠id:=by
  intro b e hb he
  by_cases hbn:b=n
  · subst hbn
    rw [qaf,List.mem_filter] at he;exact⟨he.1,by simpa using he.2⟩
  · rw [qai hbn] at he
    refine⟨he,fun e1=>hbn ?_⟩
    have:=(h.ent _ _ hb he).1;rw [e1,hid] at this;exact this.symm
 refine⟨h.root,h.one,?_,?_,?_,?_,?_,?_,?_,h.deep,h.rise.del id⟩
 · intro b l u hb hu
   simp only at hb hu ⊢
   obtain⟨h1,h2⟩:=h.up b l u hb hu
   rw [qai (hne u l h1)]
   exact⟨h1,h2⟩
 · intro u l e hu he
   simp only at hu he ⊢
   rw [qai (hne u l hu)] at he;exact h.kid u l e hu he
 · intro u l hu
   simp only at hu ⊢
   rw [qai (hne u l hu)]
   exact h.kids u l hu
 · intro b e hb he
   simp only at hb he ⊢
   obtain⟨h1,h2⟩:=hmem b e hb he;obtain⟨h3,it,h4,h5⟩:=h.ent b e hb h1;refine⟨h3,it,?_,h5⟩
   rw [qkq h.rise,if_neg h2]
   exact h4
 · intro i it hi hL
   simp only at hi ⊢
   rw [qkq h.rise] at hi
   split at hi
   · cases hi
   · rename_i hne2
     obtain⟨h1,e,he,hei⟩:=h.itm i it hi hL;refine⟨h1,e,?_,hei⟩
     by_cases hbn:t.leaf i=n
     · rw [hbn,qaf,List.mem_filter]
       rw [hbn] at he;exact⟨he,by simp [hei,hne2]⟩
     · rw [qai hbn]
       exact he
 · intro b hb
   simp only at hb ⊢
   by_cases hbn:b=n
   · subst hbn
     rw [qaf]
     exact(List.filter_sublist.map En.id).nodup (h.ids _ hb)
   · rw [qai hbn]
     exact h.ids b hb
 · intro b e hb he
   simp only at hb he
   exact h.lost b e hb (hmem b e hb he).1
open Classical in
theorem Shape.drop (h:Shape t L) {n u l:Nat} {v:Value} {es' :List En} (hn:t.lv n=some l) (hu:t.up n=some u) (hes:∀e,e∈es' ↔e∈t.es u/\e.kid≠n) (hnd:(es'.map En.kid).Nodup)
 (ht:t' ={t with es:=updT t.es u es',sl:=updT t.sl u v,lv:=fun b=>if Und t.up n b then none else t.lv b}):Shape t' fun i=>L i\/i∈below t l n:=by
 subst ht;have hul:t.lv u=some (l+1):=(h.up _ _ _ hn hu).1
 have hout:∀{b m},(if Und t.up n b then none else t.lv b)=some m->¬ Und t.up n b/\t.lv b=some m:=by
  intro b m hb
  split at hb
  · cases hb
  · rename_i hq
    exact⟨hq,hb⟩
 have hin:∀{b m},¬ Und t.up n b->t.lv b=some m->(if Und t.up n b then none else t.lv b)=some m:=by
  intro b m hq hb
  rw [if_neg hq,hb]
 have hroot:¬ Und t.up n t.root:=by
  intro hq
  cases hq with
  | refl=>have:=h.root.2;rw [hu] at this;cases this
  | step e _=>rw [h.root.2] at e;cases e
 have hupn:¬ Und t.up n u:=by
  intro hq;obtain⟨m,h1,h2,_⟩:=h.und_lv hul hq;rw [hn] at h2
  cases h2
  omega
 have hmem:∀b e,e∈updT t.es u es' b->e∈t.es b/\(b=u->e.kid≠n):=by
  intro b e he
  by_cases hbu:b=u
  · subst hbu
    rw [qaf,hes] at he;exact⟨he.1,fun _=>he.2⟩
  · rw [qai hbu] at he
    exact⟨he,fun e=>absurd e hbu⟩
 refine⟨?_,?_,?_,?_,?_,?_,?_,?_,?_,?_,h.rise⟩
 · obtain⟨h1,h2⟩:=h.root
   simp only
   rw [if_neg hroot]
   exact⟨h1,h2⟩
 · intro b m hb hup
   exact h.one b m (hout hb).2 hup
 · intro b m v hb hup
   simp only at hb hup ⊢
   obtain⟨h1,h2⟩:=hout hb;obtain⟨h3,e,he,hek⟩:=h.up b m v h2 hup;have hv:¬ Und t.up n v:=fun q=>h1 (.step hup q)
   refine⟨hin hv h3,e,?_,hek⟩
   by_cases hvu:v=u
   · subst hvu
     rw [qaf,hes]
     refine⟨he,fun e1=>h1 ?_⟩
     rw [<-hek,e1]
     exact .refl
   · rw [qai hvu]
     exact he
 · intro v m e hv he
   simp only at hv he ⊢
   obtain⟨h1,h2⟩:=hout hv;obtain⟨h3,h4⟩:=hmem v e he;obtain⟨h5,h6⟩:=h.kid v m e h2 h3;refine⟨hin (fun q=> ?_) h5,h6⟩
   have:∀b,Und t.up n b->b=e.kid->False:=by
    intro b hb hbe
    cases hb with
    | refl=>
      rw [<-hbe,hu] at h6
      cases h6
      exact h4 rfl hbe.symm
    | step e1 q2=>
      rw [hbe,h6] at e1
      cases e1
      exact h1 q2
   exact this _ q rfl
 · intro v m hv
   simp only at hv ⊢
   by_cases hvu:v=u
   · subst hvu;rw [qaf];exact hnd
   · rw [qai hvu];exact h.kids v m (hout hv).2
 · intro b e hb he
   simp only at hb he ⊢
   exact h.ent b e (hout hb).2 (hmem b e he).1
 · intro i it hi hL
   simp only at hi ⊢
   obtain⟨h1,e,he,hei⟩:=h.itm i it hi fun q=>hL (.inl q)
   have hq:¬ Und t.up n (t.leaf i):=fun q=>hL (.inr ((h.mem_below hn).2 ⟨_,h1,q,e,he,hei⟩))
   refine⟨hin hq h1,e,?_,hei⟩;have:t.leaf i≠u:=fun e=>by rw [e,hul] at h1;cases h1
   rw [qai this]
   exact he
 · intro b hb
   simp only at hb ⊢
   have hb:=(hout hb).2;have:b≠u:=fun e=>by rw [e,hul] at hb;cases hb
   rw [qai this]
   exact h.ids b hb
 · intro b e hb he hL
   simp only at hb he
   obtain⟨h1,h2⟩:=hout hb;have he:=(hmem b e he).1
   rcases hL with q|q
   · exact h.lost b e h2 he q
   · obtain⟨b',hb',hub,e',he',hid⟩:=(h.mem_below hn).1 q
     have q1:=(h.ent b e h2 he).1;have q2:=(h.ent b' e' hb' he').1;rw [hid,q1] at q2;subst q2;exact h1 hub
 · obtain⟨D,hD⟩:=h.deep
   exact⟨D,fun b m hb=>hD b m (hout hb).2⟩
theorem Shape.sink (h:Shape t L) {l:Nat} {x:En} (hn:t.lv t.root=some (l+1)) (hes:t.es t.root= [x])
 (ht:t' ={t with root:=x.kid,lv:=updT t.lv t.root none,up:=updT t.up x.kid none}):Shape t' L:=by
 subst ht;obtain⟨hk1,hk2⟩:=h.kid _ _ x hn (by rw [hes];simp)
 have hkr:x.kid≠t.root:=fun e=>by rw [e,hn] at hk1;injection hk1 with hk1;omega
 have hout:∀{b m},updT t.lv t.root none b=some m->b≠t.root/\t.lv b=some m:=by
  intro b m hb
  by_cases e:b=t.root
  · rw [e,qaf] at hb;cases hb
  · rw [qai e] at hb;exact⟨e,hb⟩
 have hupk:∀b v m,t.lv b=some m->t.up b=some v->b≠x.kid->v≠t.root:=by
  intro b v m hb hv hbk e;obtain⟨_,e',he',hk⟩:=h.up _ _ _ hb hv
  rw [e,hes,zhx] at he'
  exact hbk (by rw [<-hk,he'])
 refine⟨?_,?_,?_,?_,?_,?_,?_,?_,?_,?_,h.rise⟩
 · simp only
   rw [qai hkr,hk1,qaf]
   exact⟨rfl,rfl⟩
 · intro b m hb hup
   simp only at hb hup ⊢
   obtain⟨h1,h2⟩:=hout hb
   by_cases e:b=x.kid
   · exact e
   · rw [qai e] at hup
     exact absurd (h.one b m h2 hup) h1
 · intro b m v hb hup
   simp only at hb hup ⊢
   obtain⟨h1,h2⟩:=hout hb
   by_cases e:b=x.kid
   · rw [e,qaf] at hup;cases hup
   · rw [qai e] at hup
     obtain⟨h3,h4⟩:=h.up _ _ _ h2 hup
     rw [qai (hupk _ _ _ h2 hup e)]
     exact⟨h3,h4⟩
 · intro v m e hv he
   simp only at hv he ⊢
   obtain⟨h1,h2⟩:=hout hv;obtain⟨h3,h4⟩:=h.kid _ _ _ h2 he;have e1:e.kid≠t.root:=fun e1=>by rw [e1,h.root.2] at h4;cases h4
   have e2:e.kid≠x.kid:=fun e2=>by rw [e2,hk2] at h4;cases h4;exact h1 rfl
   rw [qai e1,qai e2]
   exact⟨h3,h4⟩
 · intro v m hv
   exact h.kids v m (hout hv).2
 · intro b e hb he
   exact h.ent b e (hout hb).2 he
 · intro i it hi hL
   simp only at hi ⊢
   obtain⟨h1,h2⟩:=h.itm i it hi hL;have:t.leaf i≠t.root:=fun e=>by rw [e,hn] at h1;cases h1
   rw [qai this]
   exact⟨h1,h2⟩
 · intro b hb
   exact h.ids b (hout hb).2
 · intro b e hb he
   exact h.lost b e (hout hb).2 he
 · obtain⟨D,hD⟩:=h.deep
   exact⟨D,fun b m hb=>hD b m (hout hb).2⟩
theorem Shape.empty {r:Nat} (hlv:t.lv=fun b=>if b=r then some 0 else none) (hroot:t.root=r) (hup:t.up r=none) (hes:t.es r= []) (hr:qdo t.items) (hL:∀i it,getK i t.items=some it->L i):Shape t L:=by
 have hin:∀{b m},t.lv b=some m->b=r/\m=0:=by
  intro b m hb;rw [hlv] at hb
  simp only at hb
  split at hb
  · rename_i e
    cases hb
    exact⟨e,rfl⟩
  · cases hb
 have hr0:t.lv r=some 0:=by rw [hlv];simp
 refine⟨by rw [hroot,hr0];exact⟨rfl,hup⟩,fun b m hb _=>by rw [hroot];exact(hin hb).1,?_,?_,?_,?_,?_,?_,?_,⟨0,fun b m hb=>by rw [(hin hb).2];exact zhy 0⟩,hr⟩
 · intro b m v hb hv
   rw [(hin hb).1,hup] at hv
   cases hv
 · intro u m e hu _
   exact absurd (hin hu).2 oQ
 · intro u m hu
   exact absurd (hin hu).2 oQ
 · intro b e hb he
   rw [(hin hb).1,hes] at he
   cases he
 · intro i it hi hL'
   exact absurd (hL i it hi) hL'
 · intro b hb
   rw [(hin hb).1,hes]
   exact List.nodup_nil
 · intro b e hb he
   rw [(hin hb).1,hes] at he
   cases he
end
section
variable {t t' :Tr} {L:Int->Prop} {X:Nat->Prop} {U:List (List Nat)->List Nat}
theorem Fill.more {Y:Nat->Prop} (h:Fill t X) (hXY:∀b,X b->Y b):Fill t Y:=fun b l hb hY=>h b l hb fun hx=>hY (hXY b hx)
theorem Keyed.more {Y:Nat->Prop} (h:Keyed U t X) (hXY:∀b,X b->Y b):Keyed U t Y:=fun b l u e hb hu hY=>h b l u e hb hu fun hx=>hY (hXY b hx)
theorem Fill.mend (h:Fill t X) {n:Nat} (hn:∀l,t.lv n=some l->(t.es n).length<=t.fan/\(n≠t.root->t.fan/2<=(t.es n).length)/\(n=t.root->0<l->2<=(t.es n).length)):Fill t fun b=>X b/\b≠n:=by
 intro b l hb hX
 by_cases e:b=n
 · subst e;exact hn l hb
 · exact h b l hb fun hx=>hX ⟨hx,e⟩
theorem qhw {α:Type} [DecidableEq α]:∀{l m:List α},l.Nodup->(∀x∈l,x∈m)->l.length<=m.length
 | [],m,_,_=>zly _
 | a::r,m,hn,hs=>by
   rw [List.nodup_cons] at hn;have h1:=qhw (l:=r) (m:=m.erase a) hn.2 fun x hx=>(List.mem_erase_of_ne fun e=>hn.1 (by rw [<-e];exact hx)).2 (hs x (by simp [hx]))
   have h2:=List.length_erase_of_mem (hs a sI)
   have h3:0<m.length:=List.length_pos_of_mem (hs a sI)
   rw [zax]
   omega
theorem Shape.below_len (h:Shape t L) {l n:Nat} (hn:t.lv n=some l):(below t l n).length<=t.items.length:=by
 have:=qhw (h.below_nodup hn) (m:=t.items.map (·.1)) fun i hi=>by
  obtain⟨b,hb,_,e,he,rfl⟩:=(h.mem_below hn).1 hi;obtain⟨_,it,hit,_⟩:=h.ent b e hb he;exact zty.2 ⟨_,qfj hit,rfl⟩
 simpa using this
theorem cover {cv:List Nat->Ob->Prop} (h:Shape t L) (hk:Keyed U t fun _=>False) (h0:∀id it,getK id t.items=some it->cv it.kb it.ob)
 (hU:∀n l,t.lv n=some l->∀e∈t.es n,∀o,cv e.kb o->cv (U ((t.es n).map En.kb)) o):
 ∀{l u:Nat} {e:En} {id:Int} {it:It},t.lv u=some l->e∈t.es u->(id=e.id/\l=0\/∃m,l=m+1/\id∈below t m e.kid)->getK id t.items=some it->cv e.kb it.ob:=by
 intro l
 induction l with
 | zero=>
   intro u e id it hu he hid hit
   rcases hid with ⟨q,_⟩|⟨m,q,_⟩
   · subst q
     obtain⟨_,it',hit',_,hkb⟩:=h.ent u e hu he
     rw [hit] at hit'
     cases hit'
     rw [hkb]
     exact h0 _ _ hit
   · omega
 | succ l ih=>
   intro u e id it hu he hid hit
   rcases hid with ⟨_,q⟩|⟨m,q,hm⟩
   · omega
   · cases q
     obtain⟨h1,h2⟩:=h.kid _ _ _ hu he;have hke:=hk e.kid l u e h1 h2 (fun q=>q) he rfl
     rw [hke]
     cases l with
     | zero=>
       obtain⟨e',he',hei⟩:=zty.1 hm;exact hU _ _ h1 e' he' _ (ih h1 he' (.inl ⟨hei.symm,rfl⟩) hit)
     | succ l=>
       obtain⟨e',he',hei⟩:=List.mem_flatMap.1 hm;exact hU _ _ h1 e' he' _ (ih h1 he' (.inr ⟨l,rfl,hei⟩) hit)
def qcm (t:Tr) (cons:List Nat->Bool) (mt:Int->Bool):Nat->Nat->List Int
 | 0,n=>((t.es n).filter fun e=>cons e.kb&&mt e.id).map En.id
 | l+1,n=>((t.es n).filter fun e=>cons e.kb).flatMap fun e=>qcm t cons mt l e.kid
theorem qg9 (t:Tr) (cons:List Nat->Bool) (mt:Int->Bool):∀l n,(qcm t cons mt l n).Sublist (below t l n)
 | 0,n=>(List.filter_sublist (l:=t.es n)).map En.id
 | l+1,n=>by
   simp only [qcm,below]
   induction t.es n with
   | nil=>exact List.Sublist.refl _
   | cons e r ih=>
     rw [List.filter_cons]
     split
     · rw [zvy,zvy]
       exact(qg9 t cons mt l e.kid).append ih
     · rw [zvy]
       exact ih.trans (List.sublist_append_right _ _)
end
section
variable {t t' :Tr} {L:Int->Prop}
def qg0 (t:Tr):Nat->Nat->Nat
 | 0,_=>1
 | l+1,n=>1+((t.es n).map fun e=>qg0 t l e.kid).sum
theorem qjz {α β:Type} (f:α->Nat) (g:α->List β):∀{l:List α},(∀a∈l,f a+1<=(g a).length)->(l.map f).sum+l.length<=(l.flatMap g).length
 | [],_=>by simp
 | a::r,h=>by
   have h1:=h a sI
   have h2:=qjz f g (l:=r) fun b hb=>h b (by simp [hb])
   simp only [zdy,List.sum_cons,zax,zvy,zny]
   omega
theorem Shape.few (h:Shape t L) (hf:Fill t fun _=>False) (h4:4<=t.fan):∀{l n:Nat},t.lv n=some l->(n≠t.root->qg0 t l n+1<=(below t l n).length)/\qg0 t l n<=(below t l n).length+1:=by
 intro l
 induction l with
 | zero=>
   intro n hn;have q:=(hf n 0 hn (fun q=>q)).2.1
   simp only [below,qg0,zyy]
   exact⟨fun hr=>by have:=q hr;omega,by omega⟩
 | succ l ih=>
   intro n hn;have h1:=hf n _ hn (fun q=>q)
   have h2:2<=(t.es n).length:=by
    by_cases e:n=t.root
    · exact h1.2.2 e oQ
    · have:=h1.2.1 e;omega
   have h3:=qjz (fun e=>qg0 t l e.kid) (fun e=>below t l e.kid) (l:=t.es n) fun e he=>by
    have q:=h.kid _ _ _ hn he;refine(ih q.1).1 fun e1=> ?_
    have:=h.root.2;rw [<-e1,q.2] at this
    cases this
   simp only [below,qg0]
   exact⟨fun _=>by omega,by omega⟩
end
theorem Shape.putItem {t:Tr} {L:Int->Prop} (h:Shape t L) {id:Int} (x:It) (hno:getK id t.items=none):Shape {t with items:=putK id x t.items} (fun i=>L i\/i=id):=by
 have hget:∀i,getK i (putK id x t.items)=if i=id then some x else getK i t.items:=fun i=>get_put h.rise id x i
 have hne:∀b e,t.lv b=some 0->e∈t.es b->e.id≠id:=fun b e hb he q=>by
  obtain⟨_,it,hit,_⟩:=h.ent b e hb he;rw [q,hno] at hit
  cases hit
 refine⟨h.root,h.one,h.up,h.kid,h.kids,?_,?_,h.ids,?_,h.deep,h.rise.put id x⟩
 · intro b e hb he
   obtain⟨h1,it,h2,h3⟩:=h.ent b e hb he;refine⟨h1,it,?_,h3⟩
   simp only [hget,if_neg (hne b e hb he)]
   exact h2
 · intro i it hi hL
   simp only [hget] at hi;rw [if_neg (fun q=>hL (.inr q))] at hi
   exact h.itm i it hi fun q=>hL (.inl q)
 · intro b e hb he q
   rcases q with q|q
   · exact h.lost b e hb he q
   · exact hne b e hb he q
theorem Shape.less {t:Tr} {L L' :Int->Prop} (h:Shape t L) (hL:∀i,L i↔L' i):Shape t L' :=by
 have:L=L' :=funext fun i=>propext (hL i)
 rw [<-this];exact h
end Pg
namespace Pg
section
variable {α:Type} (lt:α->α->Bool)
def qdm (l:List α) (i j:Nat):List α:=match l[i]?,l[j]? with
 | some x,some y=>(l.set i y).set j x
 | _,_=>l
theorem qel (l:List α) (i j:Nat):(qdm l i j).length=l.length:=by
 unfold qdm
 split<;>simp
theorem qhm (l:List α) {i j:Nat} (hi:i<l.length) (hj:j<l.length) (k:Nat):(qdm l i j)[k]? =if k=j then l[i]? else if k=i then l[j]? else l[k]? :=by
 unfold qdm
 rw [zby hi,zby hj]
 simp only
 rw [List.getElem?_set,List.getElem?_set]
 by_cases h1:k=j
 · subst h1;simp [hj]
 · by_cases h2:k=i
   · subst h2;simp [hi,h1,Ne.symm h1]
   · simp [h1,h2,Ne.symm h1,Ne.symm h2]
theorem qi2 (l:List α) {i j:Nat} (hij:i<j) (hj:j<l.length):((l.set i (l[j]'hj)).set j (l[i]'oQ)).Perm l:=by
 have e:l=l.take i++l[i]'oQ::(l.drop (i+1)):=by
  conv=>lhs;rw [<-List.take_append_drop i l]
  rw [zgx]
 have hd:(l.drop (i+1))[j-i-1]? =some l[j]:=by rw [List.getElem?_drop,show i+1+(j-i-1)=j by omega,zby hj]
 generalize hA:l.take i=A at e;generalize hx:l[i]'oQ=x at e
 generalize hB:l.drop (i+1)=D at e hd;have hAl:A.length=i:=by rw [<-hA];simp;omega
 have e2:D=D.take (j-i-1)++l[j]::D.drop (j-i-1+1):=by
  conv=>lhs;rw [<-List.take_append_drop (j-i-1) D]
  have hlt:j-i-1<D.length:=by rw [<-hB];simp;omega
  rw [zgx hlt]
  rw [zby hlt] at hd;injection hd with hd
  rw [hd]
 generalize hy:l[j]=y at e2;generalize hF:D.take (j-i-1)=F at e2;generalize hG:D.drop (j-i-1+1)=G at e2;have hFl:F.length=j-i-1:=by rw [<-hF,<-hB];simp;omega
 have e3:l=A++x::(F++y::G):=by rw [e,e2]
 have e4:(l.set i y).set j x=A++y::(F++x::G):=by
  rw [e3,List.set_append_right _ _ oQ,hAl,Nat.sub_self,lsz,List.set_append_right _ _ oQ,hAl]
  obtain⟨d,hd⟩:∃d,j-i=d+1:=⟨j-i-1,by omega⟩
  rw [hd,lss,List.set_append_right _ _ oQ]
  rw [show d-F.length=0 by omega,lsz]
 rw [e4,e3]
 refine List.Perm.append_left A ?_;have h1:(y::(F++x::G)).Perm (y::x::(F++G)):=List.Perm.cons y List.perm_middle;have h2:(x::(F++y::G)).Perm (x::y::(F++G)):=List.Perm.cons x List.perm_middle;exact h1.trans ((List.Perm.swap x y _).trans h2.symm)
theorem qlw (l:List α) {i j:Nat} (hij:i<j):(qdm l i j).Perm l/\(qdm l j i).Perm l:=by
 unfold qdm
 by_cases hj:j<l.length
 · rw [zby hj,zby (show i<l.length by omega)]
   refine⟨qi2 l hij hj,?_⟩
   simp only
   rw [List.set_comm _ _ oQ]
   exact qi2 l hij hj
 · rw [zoy (Nat.le_of_not_lt hj)]
   constructor
   · cases l[i]? <;>exact List.Perm.refl _
   · exact List.Perm.refl _
def upS:Nat->List α->Nat->List α
 | 0,l,_=>l
 | f+1,l,i=>if i=0 then l else match l[i]?,l[(i-1)/2]? with
   | some x,some y=>if lt x y then upS f (qdm l i ((i-1)/2)) ((i-1)/2) else l
   | _,_=>l
def qhr (l:List α) (x:α):List α:=upS lt (l.length+1) (l++ [x]) l.length
def kidS (l:List α) (i:Nat):Option Nat:=
 if 2*i+1<l.length then
  some (match l[2*i+2]?,l[2*i+1]? with
   | some y,some x=>if lt y x then 2*i+2 else 2*i+1
   | _,_=>2*i+1)
 else none
def dnS:Nat->List α->Nat->List α
 | 0,l,_=>l
 | f+1,l,i=>match kidS lt l i with
   | none=>l
   | some k=>match l[k]?,l[i]? with
     | some x,some y=>if lt x y then dnS f (qdm l i k) k else l
     | _,_=>l
def popS (l:List α):List α:=match l.getLast? with
 | none=> []
 | some z=>dnS lt l.length ((l.set 0 z).dropLast) 0
def qh7 (l:List α):Prop:=∀i x y,0<i->l[i]? =some x->l[(i-1)/2]? =some y->lt x y=false
structure Strict:Prop where
 irr:∀x,lt x x=false
 tr:∀x y z,lt x y=true->lt y z=true->lt x z=true
 tot:∀x y z,lt x y=false->lt y z=false->lt x z=false
variable {lt}
theorem qrm:∀(f:Nat) (l:List α) (i:Nat),(upS lt f l i).Perm l
 | 0,l,_=>List.Perm.refl _
 | f+1,l,i=>by
   unfold upS
   split
   · exact List.Perm.refl _
   · rename_i h0
     split
     · split
       · exact(qrm f _ _).trans (qlw l (i:=(i-1)/2) (j:=i) oQ).2
       · exact List.Perm.refl _
     · exact List.Perm.refl _
theorem qso:∀(f:Nat) (l:List α) (i:Nat),(dnS lt f l i).Perm l
 | 0,l,_=>List.Perm.refl _
 | f+1,l,i=>by
   unfold dnS
   split
   · exact List.Perm.refl _
   · rename_i k hk
     have hik:i<k:=by
      unfold kidS at hk
      split at hk
      · injection hk with hk
        split at hk
        · split at hk<;>omega
        · omega
      · cases hk
     split
     · split
       · exact(qso f _ _).trans (qlw l hik).1
       · exact List.Perm.refl _
     · exact List.Perm.refl _
theorem qfg (l:List α) (x:α):(qhr lt l x).Perm (x::l):=(qrm _ _ _).trans (List.perm_append_comm (l₁:=l) (l₂:= [x]))
theorem qen {l:List α} {x:α} {r:List α} (h:l=x::r):(popS lt l).Perm r:=by
 subst h;unfold popS
 cases hz:(x::r).getLast? with
 | none=>simp at hz
 | some z=>
   simp only
   refine(qso _ _ _).trans ?_
   cases r with
   | nil=>simp
   | cons y r=>
     have:((x::y::r).set 0 z).dropLast=z::(y::r).dropLast:=sI
     rw [this]
     rw [List.getLast?_cons_cons] at hz
     have e:(y::r)=(y::r).dropLast++ [z]:=by
      obtain⟨ys,hys⟩:=List.getLast?_eq_some_iff.1 hz
      rw [hys];simp
     conv=>rhs;rw [e]
     exact(List.perm_append_comm (l₁:= [z]) (l₂:=(y::r).dropLast))
def q3y (lt:α->α->Bool) (l:List α) (i:Nat):Prop:=
 (∀j x y,0<j->j≠i->l[j]? =some x->l[(j-1)/2]? =some y->lt x y=false)/\
 (∀j x y,0<i->0<j->(j-1)/2=i->l[j]? =some x->l[(i-1)/2]? =some y->lt x y=false)
theorem qx8 (hs:Strict lt):∀(f:Nat) (l:List α) (i:Nat),i<f->i<l.length->q3y lt l i->qh7 lt (upS lt f l i):=by
 intro f
 induction f with
 | zero=>intro l i hf;omega
 | succ f ih=>
   intro l i hf hi ⟨h1,h2⟩;unfold upS
   by_cases h0:i=0
   · rw [if_pos h0]
     intro j x y hj hx hy;exact h1 j x y hj oQ hx hy
   · rw [if_neg h0]
     have hp:(i-1)/2<l.length:=oQ
     rw [zby hi,zby hp]
     simp only
     generalize hx:l[i]=x;generalize hy:l[(i-1)/2]=y;have hxi:l[i]? =some x:=by rw [zby hi,hx]
     have hyp:l[(i-1)/2]? =some y:=by rw [zby hp,hy]
     cases hlt:lt x y with
     | false=>
       rw [if_neg sI]
       intro j a b hj ha hb
       by_cases hji:j=i
       · subst hji
         rw [hxi] at ha;rw [hyp] at hb
         cases ha;cases hb
         exact hlt
       · exact h1 j a b hj hji ha hb
     | true=>
       rw [if_pos rfl]
       have asym:lt y x=false:=by
        cases q:lt y x with
        | false=>rfl
        | true=>have:=hs.tr _ _ _ hlt q;rw [hs.irr] at this;cases this
       refine ih _ _ oQ (by rw [qel];exact hp) ⟨?_,?_⟩
       · intro j a b hj hjp ha hb
         rw [qhm l hi hp] at ha hb
         by_cases hji:j=i
         · subst hji
           rw [if_neg hjp,if_pos rfl,hyp] at ha;rw [if_pos rfl,hxi] at hb
           cases ha;cases hb
           exact asym
         · rw [if_neg hjp,if_neg hji] at ha
           by_cases hpp:(j-1)/2=(i-1)/2
           · rw [if_pos hpp,hxi] at hb
             cases hb
             have h3:=h1 j a y hj hji ha (by rw [hpp];exact hyp)
             cases q:lt a x with
             | false=>rfl
             | true=>have:=hs.tr _ _ _ q hlt;rw [h3] at this;cases this
           · rw [if_neg hpp] at hb
             by_cases hpi:(j-1)/2=i
             · rw [if_pos hpi,hyp] at hb
               cases hb
               exact h2 j a y oQ hj hpi ha hyp
             · rw [if_neg hpi] at hb
               exact h1 j a b hj hji ha hb
       · intro j a b hp0 hj hjp ha hb
         rw [qhm l hi hp] at ha hb;have hjp' :j≠(i-1)/2:=oQ
         rw [if_neg hjp'] at ha;rw [if_neg oQ,if_neg oQ] at hb
         by_cases hji:j=i
         · subst hji
           rw [if_pos rfl,hyp] at ha
           cases ha
           exact h1 _ y b hp0 oQ hyp hb
         · rw [if_neg hji] at ha
           have h3:=h1 j a y hj hji ha (by rw [hjp];exact hyp)
           have h4:=h1 _ y b hp0 oQ hyp hb
           exact hs.tot _ _ _ h3 h4
theorem qtj (hs:Strict lt) {l:List α} {x:α} (h:qh7 lt l):qh7 lt (qhr lt l x):=by
 refine qx8 hs _ _ _ oQ sI ⟨?_,?_⟩
 · intro j a b hj hjl ha hb
   have hjl' :j<l.length:=by
    rcases zry j l.length with q|q
    · exact q
    · have:j<(l++ [x]).length:=by
       rcases zry j (l++ [x]).length with q2|q2
       · exact q2
       · rw [zoy q2] at ha;cases ha
      simp at this
      omega
   rw [zex hjl'] at ha;rw [zex oQ] at hb
   exact h j a b hj ha hb
 · intro j a b h0 hj hjl ha hb
   have:j<(l++ [x]).length:=by
    rcases zry j (l++ [x]).length with q2|q2
    · exact q2
    · rw [zoy q2] at ha;cases ha
   simp at this
   omega
def q3z (lt:α->α->Bool) (l:List α) (i:Nat):Prop:=
 (∀j x y,0<j->(j-1)/2≠i->l[j]? =some x->l[(j-1)/2]? =some y->lt x y=false)/\
 (∀j x y,0<i->0<j->(j-1)/2=i->l[j]? =some x->l[(i-1)/2]? =some y->lt x y=false)
theorem qw0 {l:List α} {i k:Nat} (h:kidS lt l i=some k):(k=2*i+1\/k=2*i+2)/\k<l.length:=by
 unfold kidS at h
 split at h
 · rename_i h1
   injection h with h
   split at h
   · rename_i y x hy hx
     split at h
     · subst h
       refine⟨.inr rfl,?_⟩
       rcases zry (2*i+2) l.length with q|q
       · exact q
       · rw [zoy q] at hy;cases hy
     · subst h;exact⟨.inl rfl,h1⟩
   · subst h;exact⟨.inl rfl,h1⟩
 · cases h
theorem qtz (hs:Strict lt) {l:List α} {i k j:Nat} {a b:α} (h:kidS lt l i=some k) (hj:0<j) (hji:(j-1)/2=i) (ha:l[j]? =some a) (hb:l[k]? =some b):lt a b=false:=by
 have hjj:j=2*i+1\/j=2*i+2:=oQ
 unfold kidS at h
 split at h
 · rename_i h1
   injection h with h
   split at h
   · rename_i y x hy hx
     split at h
     · rename_i hlt
       subst h;rw [hy] at hb
       cases hb
       rcases hjj with e|e
       · subst e
         rw [hx] at ha
         cases ha
         cases q:lt a b with
         | false=>rfl
         | true=>have:=hs.tr _ _ _ hlt q;rw [hs.irr] at this;cases this
       · subst e
         rw [hy] at ha
         cases ha
         exact hs.irr _
     · rename_i hlt
       subst h;rw [hx] at hb
       cases hb
       rcases hjj with e|e
       · subst e
         rw [hx] at ha
         cases ha
         exact hs.irr _
       · subst e
         rw [hy] at ha
         cases ha
         simpa using hlt
   · rename_i hno
     subst h
     rcases hjj with e|e
     · subst e
       rw [ha] at hb
       cases hb
       exact hs.irr _
     · subst e
       exact absurd hb (hno a b ha)
 · cases h
theorem qz4 (hs:Strict lt):∀(f:Nat) (l:List α) (i:Nat),l.length<=f+i->i<l.length->q3z lt l i->qh7 lt (dnS lt f l i):=by
 intro f
 induction f with
 | zero=>intro l i hf hi;omega
 | succ f ih=>
   intro l i hf hi ⟨h1,h2⟩;unfold dnS
   cases hk:kidS lt l i with
   | none=>
     simp only
     unfold kidS at hk
     split at hk
     · cases hk
     · rename_i hn
       intro j a b hj ha hb
       have hjl:j<l.length:=by
        rcases zry j l.length with q2|q2
        · exact q2
        · rw [zoy q2] at ha;cases ha
       exact h1 j a b hj oQ ha hb
   | some k=>
     simp only
     obtain⟨hk1,hkl⟩:=qw0 hk
     rw [zby hkl,zby hi]
     simp only
     generalize hx:l[k]=x;generalize hy:l[i]=y;have hxk:l[k]? =some x:=by rw [zby hkl,hx]
     have hyi:l[i]? =some y:=by rw [zby hi,hy]
     have least:∀j a,0<j->(j-1)/2=i->l[j]? =some a->lt a x=false:=fun j a hj hji ha=>qtz hs hk hj hji ha hxk
     cases hlt:lt x y with
     | false=>
       rw [if_neg sI]
       intro j a b hj ha hb
       by_cases hji:(j-1)/2=i
       · rw [hji,hyi] at hb
         cases hb
         exact hs.tot _ _ _ (least j a hj hji ha) hlt
       · exact h1 j a b hj hji ha hb
     | true=>
       rw [if_pos rfl]
       refine ih _ _ (by rw [qel];omega) (by rw [qel];exact hkl) ⟨?_,?_⟩
       · intro j a b hj hjk ha hb
         rw [qhm l hi hkl] at ha hb;rw [if_neg hjk] at hb
         by_cases hjk2:j=k
         · subst hjk2
           rw [if_pos rfl,hyi] at ha
           cases ha
           rw [if_pos oQ,hxk] at hb
           cases hb
           cases q:lt y x with
           | false=>rfl
           | true=>have:=hs.tr _ _ _ hlt q;rw [hs.irr] at this;cases this
         · rw [if_neg hjk2] at ha
           by_cases hji:j=i
           · subst hji
             rw [if_pos rfl,hxk] at ha
             cases ha
             rw [if_neg oQ] at hb
             exact h2 k x b oQ oQ oQ hxk hb
           · rw [if_neg hji] at ha
             by_cases hpi:(j-1)/2=i
             · rw [if_pos hpi,hxk] at hb
               cases hb
               exact least j a hj hpi ha
             · rw [if_neg hpi] at hb
               exact h1 j a b hj hpi ha hb
       · intro j a b hk0 hj hjk ha hb
         rw [qhm l hi hkl] at ha hb;rw [if_neg oQ,if_neg oQ] at ha
         rw [if_neg oQ,if_pos oQ,hxk] at hb
         cases hb
         exact h1 j a x hj oQ ha (by rw [hjk];exact hxk)
theorem qod (hs:Strict lt) {l:List α} (h:qh7 lt l):qh7 lt (popS lt l):=by
 unfold popS
 cases hz:l.getLast? with
 | none=>intro i x y _ hx;simp at hx
 | some z=>
   simp only
   match l,h,hz with
   | [],_,hz=>simp at hz
   | [a],_,hz=>
     simp [dnS,kidS]
     intro i x y _ hx;simp at hx
   | a::b::r,h,hz=>
     refine qz4 hs _ _ _ sI sI ⟨?_,?_⟩
     · intro j x y hj hj0 hx hy
       rw [List.getElem?_dropLast] at hx hy
       split at hx
       · split at hy
         · rw [List.getElem?_set_ne oQ] at hx
           rw [List.getElem?_set_ne oQ] at hy
           exact h j x y hj hx hy
         · cases hy
       · cases hx
     · intro j x y h0
       omega
theorem qt2 (hs:Strict lt) {l:List α} {x:α} (h:qh7 lt l) (h0:l[0]? =some x):∀(i:Nat) (y:α),l[i]? =some y->lt y x=false:=by
 intro i
 induction i using Nat.strongRecOn with
 | _ i ih=>
   intro y hy
   by_cases hi:i=0
   · subst hi
     rw [h0] at hy
     cases hy
     exact hs.irr _
   · have hil:i<l.length:=by
      rcases zry i l.length with q2|q2
      · exact q2
      · rw [zoy q2] at hy;cases hy
     have hp:(i-1)/2<l.length:=oQ
     have hz:=zby hp;exact hs.tot _ _ _ (h i y _ oQ hy hz) (ih _ oQ _ hz)
end
open Go Go.RowKit
structure Pre {α:Type} (c:α->α->Int):Prop where
 sw:∀x y,c x y<0↔0<c y x
 le:∀x y z,c x y<=0->c y z<=0->c x z<=0
def orI (a b:Int):Int:=if a=0 then b else a
section
variable {α:Type} {c d:α->α->Int}
theorem Pre.strict (h:Pre c):Strict fun x y=>decide (c x y<0) where
 irr:=by
  intro x;have:=h.sw x x
  simp only [decide_eq_false_iff_not]
  omega
 tr:=by
  intro x y z h1 h2
  simp only [decide_eq_true_eq] at*
  have q1:=(h.sw y z).1 h2
  rcases Int.lt_or_le (c x z) 0 with q|q
  · exact q
  · exfalso
    have h3:c z x<=0:=by
     rcases Int.lt_or_le 0 (c z x) with q3|q3
     · have:=(h.sw x z).2 q3;omega
     · exact q3
    have:=h.le z x y h3 oQ
    omega
 tot:=by
  intro x y z h1 h2
  simp only [decide_eq_false_iff_not] at*
  have f:∀a b,¬ c a b<0->c b a<=0:=fun a b hab=>by
   rcases Int.lt_or_le 0 (c b a) with q3|q3
   · exact absurd ((h.sw a b).2 q3) hab
   · exact q3
  have:=h.le z y x (f _ _ h2) (f _ _ h1);intro q;have:=(h.sw x z).1 q
  omega
theorem Pre.zero (h:Pre c) {x y:α} (e:c x y=0):c y x=0:=by
 have h1:=h.sw x y;have h2:=h.sw y x
 omega
theorem Pre.or (h:Pre c) (k:Pre d):Pre fun x y=>orI (c x y) (d x y) where
 sw:=by
  intro x y;have h1:=h.sw x y;have h2:=h.sw y x;have h3:=k.sw x y;have h4:=k.sw y x;unfold orI
  split<;>split<;>omega
 le:=by
  intro x y z;have h1:=h.le x y z;have h2:=k.le x y z;have h3:=h.sw x y;have h4:=h.sw y z;have h5:=h.sw x z;have h6:=h.le z x y;have h7:=h.le y z x;have h3' :=h.sw y x;have h4' :=h.sw z y;have h5' :=h.sw z x;unfold orI
  split<;>split<;>split<;>omega
theorem Pre.on {β:Type} (h:Pre c) (f:β->α):Pre fun x y=>c (f x) (f y):=⟨fun _ _=>h.sw _ _,fun _ _ _=>h.le _ _ _⟩
end
def cmpI (a b:Int):Int:=sgn (a-b)
theorem qjg:Pre cmpI where
 sw:=by intro x y;unfold cmpI sgn;split<;>split<;>(try split)<;>(try split)<;>omega
 le:=by
  intro x y z;unfold cmpI sgn;repeat' split
  all_goals omega
theorem qh3 {a b:Fr} (ha:a.den≠0) (hb:b.den≠0):cmpF a b=sgn (((a.num*b.den:Nat):Int)-((b.num*a.den:Nat):Int)):=by
 unfold cmpF cmpP
 rw [if_neg ha,if_neg hb]
theorem qvl {n:Int}:sgn n<=0↔n<=0:=by unfold sgn;split<;>(try split)<;>omega
theorem q0n {n:Int}:sgn n<0↔n<0:=by unfold sgn;split<;>(try split)<;>omega
theorem q2q {n:Int}:0<sgn n↔0<n:=by unfold sgn;split<;>(try split)<;>omega
theorem qe0:Pre cmpF where
 sw:=by
  intro a b
  by_cases ha:a.den=0
  · by_cases hb:b.den=0
    · simp [cmpF,ha,hb]
    · simp [cmpF,ha,hb]
  · by_cases hb:b.den=0
    · simp [cmpF,ha,hb]
    · rw [qh3 ha hb,qh3 hb ha,q0n,q2q]
      omega
 le:=by
  intro a b c
  by_cases ha:a.den=0
  · by_cases hb:b.den=0
    · intro _ h2
      simpa [cmpF,ha,hb] using h2
    · intro h1
      simp [cmpF,ha,hb] at h1
  · by_cases hb:b.den=0
    · intro _ h2
      by_cases hc:c.den=0
      · simp [cmpF,ha,hc]
      · simp [cmpF,hb,hc] at h2
    · by_cases hc:c.den=0
      · intros;simp [cmpF,ha,hc]
      · rw [qh3 ha hb,qh3 hb hc,qh3 ha hc,qvl,qvl,qvl]
        intro h1 h2;have g1:a.num*b.den<=b.num*a.den:=oQ
        have g2:b.num*c.den<=c.num*b.den:=oQ
        have g3:a.num*b.den*c.den<=b.num*a.den*c.den:=zuy _ g1;have g4:b.num*c.den*a.den<=c.num*b.den*a.den:=zuy _ g2
        have g5:b.den*(a.num*c.den)<=b.den*(c.num*a.den):=by
         have e1:a.num*b.den*c.den=b.den*(a.num*c.den):=by rw [Nat.mul_comm a.num,Nat.mul_assoc]
         have e2:b.num*a.den*c.den=b.num*c.den*a.den:=by rw [Nat.mul_assoc,Nat.mul_comm a.den,<-Nat.mul_assoc]
         have e3:c.num*b.den*a.den=b.den*(c.num*a.den):=by rw [Nat.mul_comm c.num,Nat.mul_assoc]
         rw [<-e1,<-e3]
         omega
        have:=Nat.le_of_mul_le_mul_left g5 (Nat.pos_of_ne_zero hb)
        omega
structure HE where
 id:Int
 d:Fr
 item:Bool
 node:Nat
abbrev Pu:=HE×Nat
def qho (e:HE):Int:=if e.item then 1 else 0
def numH (e:HE):Int:=if e.item then e.id else e.node
def cmpH (a b:HE):Int:=orI (cmpF a.d b.d) (orI (cmpI (qho a) (qho b)) (cmpI (numH a) (numH b)))
def q17 (a b:Pu):Int:=orI (cmpH a.1 b.1) (cmpI a.2 b.2)
def ltPu (a b:Pu):Bool:=decide (q17 a b<0)
theorem qy1:Pre cmpH:=(qe0.on HE.d).or ((qjg.on qho).or (qjg.on numH))
theorem qfq:Strict ltPu:=((qy1.on (fun p:Pu=>p.1)).or (qjg.on (fun p:Pu=>(p.2:Int)))).strict
def cmpN (a b:Int×Fr):Int:=orI (cmpF a.2 b.2) (cmpI a.1 b.1)
theorem qhs:Pre cmpN:=(qe0.on (fun p:Int×Fr=>p.2)).or (qjg.on (fun p:Int×Fr=>p.1))
theorem qo9 {a b:Int}:cmpI a b=0↔a=b:=by unfold cmpI sgn;split<;>(try split)<;>omega
def stands (t:Tr) (nodes:List Nat) (e:HE):List Int:=if e.item then [e.id] else match nodes[e.node]? with|some b=>below t ((t.lv b).getD 0) b|none=> []
structure Ni (Lw:Prop) (t:Tr) (dist:Int->Fr) (all:List Int) (h:List Pu) (nodes:List Nat) (out:List (Int×Fr)) (cur:List Int):Prop where
 heap:qh7 ltPu h
 good:∀x∈h,(x.1.item=true->x.1.d=dist x.1.id)/\(x.1.item=false->x.1.node<nodes.length/\∀id∈stands t nodes x.1,Lw->cmpF x.1.d (dist id)<=0)
 perm:(out.map (·.1)++(h.flatMap (fun x=>stands t nodes x.1)++cur)).Perm all
 told:∀a∈out,a.2=dist a.1
 srt:Lw->out.Pairwise fun a b=>cmpN a b<0
 rest:Lw->∀a∈out,∀id∈h.flatMap (fun x=>stands t nodes x.1)++cur,cmpN a (id,dist id)<0
section
variable {Lw:Prop} {t:Tr} {dist:Int->Fr} {all:List Int} {h:List Pu} {nodes:List Nat} {out:List (Int×Fr)} {cur:List Int}
theorem Ni.start (Lw:Prop) (t:Tr) (dist:Int->Fr) (all:List Int) (nodes:List Nat):Ni Lw t dist all [] nodes [] all:=
 ⟨fun i x y _ hx=>by simp at hx,by simp,by simp,by simp,by simp,by simp⟩
theorem qj2 {nodes' :List Nat} {e:HE} (he:e.item=false->e.node<nodes.length):stands t (nodes++nodes') e=stands t nodes e:=by
 unfold stands
 cases hi:e.item with
 | true=>rfl
 | false=>rw [zex (he hi)]
theorem qox (nodes' :List Nat):∀{h:List Pu},(∀x∈h,x.1.item=false->x.1.node<nodes.length)->h.flatMap (fun x=>stands t (nodes++nodes') x.1)=h.flatMap fun x=>stands t nodes x.1
 | [],_=>rfl
 | x::r,hg=>by
   rw [zvy,zvy,qj2 (hg x sI),qox nodes' fun y hy=>hg y (by simp [hy])]
theorem Ni.push {x:Pu} {nodes' :List Nat} (n:Ni Lw t dist all h nodes out (stands t (nodes++nodes') x.1++cur))
 (hx:(x.1.item=true->x.1.d=dist x.1.id)/\(x.1.item=false->x.1.node<(nodes++nodes').length/\∀id∈stands t (nodes++nodes') x.1,Lw->cmpF x.1.d (dist id)<=0)):Ni Lw t dist all (qhr ltPu h x) (nodes++nodes') out cur:=by
 have hp:=qfg (lt:=ltPu) h x;have hm:∀y∈h,y.1.item=false->y.1.node<nodes.length:=fun y hy hi=>((n.good y hy).2 hi).1
 have e:((qhr ltPu h x).flatMap (fun x=>stands t (nodes++nodes') x.1)++cur).Perm (h.flatMap (fun x=>stands t nodes x.1)++(stands t (nodes++nodes') x.1++cur)):=by
  refine((hp.flatMap_right _).append_right cur).trans ?_
  rw [zvy,qox nodes' hm,<-List.append_assoc]
  exact List.perm_append_comm.append_right cur
 refine⟨qtj qfq n.heap,?_,(e.append_left _).trans n.perm,n.told,n.srt,fun L a ha id hid=>n.rest L a ha id (e.mem_iff.1 hid)⟩
 intro y hy
 rcases List.mem_cons.1 (hp.mem_iff.1 hy) with q|q
 · subst q;exact hx
 · obtain⟨h1,h2⟩:=n.good y q
   refine⟨h1,fun hi=> ?_⟩
   rw [qj2 (fun _=>(h2 hi).1)]
   refine⟨?_,(h2 hi).2⟩;have:=(h2 hi).1
   simp
   omega
theorem qoo {e y:Pu} (hl:ltPu y e=false) (hne:e.1.item=true) (h2:y.1.item=false\/y.1.id≠e.1.id):cmpF e.1.d y.1.d<0\/cmpF e.1.d y.1.d=0/\y.1.item=true/\e.1.id<y.1.id:=by
 have h3:¬ q17 y e<0:=by simpa [ltPu] using hl
 unfold q17 cmpH orI at h3;have s1:=qe0.sw y.1.d e.1.d;have s2:=qe0.sw e.1.d y.1.d
 by_cases hz:cmpF y.1.d e.1.d=0
 · rw [if_pos hz] at h3
   cases hi:y.1.item with
   | false=>
     exfalso
     apply h3
     simp [qho,hi,hne,cmpI,sgn]
   | true=>
     refine .inr ⟨qe0.zero hz,rfl,?_⟩
     have hne2:y.1.id≠e.1.id:=by
      rcases h2 with q|q
      · rw [hi] at q;cases q
      · exact q
     rw [show cmpI (qho y.1) (qho e.1)=0 by simp [qho,hi,hne,cmpI,sgn],if_pos rfl] at h3
     simp only [numH,hi,hne,if_true] at h3;have hnz:cmpI y.1.id e.1.id≠0:=fun q=>hne2 (qo9.1 q)
     rw [if_neg hnz] at h3;unfold cmpI sgn at h3 hnz
     split at h3<;>(try split at h3)<;>omega
 · rw [if_neg hz,if_neg hz] at h3
   exact .inl oQ
theorem qw5 {h:List Pu} (hh:qh7 ltPu h) {e:Pu} {r:List Pu} (he:h=e::r):∀y∈h,ltPu y e=false:=by
 intro y hy;obtain⟨i,hi⟩:=List.mem_iff_getElem?.1 hy;exact qt2 qfq hh (by rw [he];rfl) i y hi
theorem Ni.item {e:Pu} {r:List Pu} (n:Ni Lw t dist all h nodes out []) (hall:all.Nodup) (he:h=e::r) (hi:e.1.item=true):Ni Lw t dist all (popS ltPu h) nodes (out++ [(e.1.id,e.1.d)]) []:=by
 have hp:=qen (lt:=ltPu) he;have hst:stands t nodes e.1= [e.1.id]:=by simp [stands,hi]
 have hd:=(n.good e (by rw [he];simp)).1 hi
 have hflat:h.flatMap (fun x=>stands t nodes x.1)=e.1.id::r.flatMap fun x=>stands t nodes x.1:=by rw [he,zvy,hst];rfl
 have hmem:∀id,id∈(popS ltPu h).flatMap (fun x=>stands t nodes x.1)++ []↔id∈r.flatMap fun x=>stands t nodes x.1:=fun id=>by rw [List.append_nil];exact(hp.flatMap_right _).mem_iff
 have hnd:(out.map (·.1)++(e.1.id::r.flatMap fun x=>stands t nodes x.1)).Nodup:=by
  have:=(n.perm.nodup_iff).2 hall;rw [List.append_nil,hflat] at this;exact this
 have hlt:Lw->∀id∈r.flatMap (fun x=>stands t nodes x.1),cmpN (e.1.id,e.1.d) (id,dist id)<0:=by
  intro L id hid
  have hne:id≠e.1.id:=by
   rw [List.nodup_append] at hnd;have:=(List.nodup_cons.1 hnd.2.1).1;intro q;exact this (q ▸ hid)
  obtain⟨y,hy,hyi⟩:=List.mem_flatMap.1 hid;have hyh:y∈h:=by rw [he];simp [hy]
  have hl:=qw5 n.heap he y hyh;have hg:=n.good y hyh;unfold cmpN orI
  simp only
  cases hyt:y.1.item with
  | true=>
    have hyid:id=y.1.id:=by simpa [stands,hyt] using hyi
    subst hyid
    rcases qoo hl hi (.inr hne) with q|⟨q1,_,q2⟩
    · rw [<-hg.1 hyt,if_neg oQ];exact q
    · rw [<-hg.1 hyt,if_pos q1]
      unfold cmpI;exact q0n.2 oQ
  | false=>
    have h3:=(hg.2 hyt).2 id hyi L
    rcases qoo hl hi (.inl hyt) with q|⟨_,q,_⟩
    · have q2:cmpF e.1.d (dist id)<0:=by
       rcases Int.lt_or_le (cmpF e.1.d (dist id)) 0 with q3|q3
       · exact q3
       · exfalso
         have q4:cmpF (dist id) e.1.d<=0:=by have:=qe0.sw e.1.d (dist id);omega
         have q5:=qe0.le _ _ _ h3 q4;have:=qe0.sw e.1.d y.1.d
         omega
      rw [if_neg oQ]
      exact q2
    · rw [hyt] at q;cases q
 refine⟨qod qfq n.heap,?_,?_,?_,?_,?_⟩
 · intro x hx
   exact n.good x (by rw [he];simp [hp.mem_iff.1 hx])
 · refine List.Perm.trans ?_ n.perm
   rw [List.append_nil,List.append_nil,hflat,zfx,List.append_assoc]
   refine List.Perm.append_left _ ?_;exact List.Perm.cons _ (hp.flatMap_right _)
 · intro a ha
   rcases List.mem_append.1 ha with q|q
   · exact n.told a q
   · rw [zhx.1 q];exact hd
 · intro L
   rw [List.pairwise_append]
   refine⟨n.srt L,by simp,?_⟩
   intro a ha b hb
   rw [zhx.1 hb]
   have:=n.rest L a ha e.1.id (by rw [hflat];simp)
   rw [hd]
   exact this
 · intro L a ha id hid
   rw [hmem] at hid
   rcases List.mem_append.1 ha with q|q
   · exact n.rest L a q id (by rw [hflat];simp [hid])
   · rw [zhx.1 q]
     exact hlt L id hid
theorem Ni.node {e:Pu} {r:List Pu} (n:Ni Lw t dist all h nodes out []) (he:h=e::r) (hi:e.1.item=false):Ni Lw t dist all (popS ltPu h) nodes out (stands t nodes e.1):=by
 have hp:=qen (lt:=ltPu) he
 have e1:((popS ltPu h).flatMap (fun x=>stands t nodes x.1)++stands t nodes e.1).Perm (h.flatMap (fun x=>stands t nodes x.1)++ []):=by
  rw [List.append_nil,he,zvy,<-he]
  exact((hp.flatMap_right _).append_right _).trans List.perm_append_comm
 exact⟨qod qfq n.heap,fun x hx=>n.good x (by rw [he];simp [hp.mem_iff.1 hx]),(e1.append_left _).trans n.perm,n.told,n.srt,fun L a ha id hid=>n.rest L a ha id (e1.mem_iff.1 hid)⟩
theorem Ni.done {S:List (Int×Fr)} (n:Ni Lw t dist all h nodes out cur) (L:Lw) (hS:S.Pairwise fun a b=>cmpN a b<0) (hSp:(S.map (·.1)).Perm all) (hSd:∀a∈S,a.2=dist a.1) {k:Nat} (hk:out.length<=k) (hd:out.length=k\/(h= []/\cur= [])):out=S.take k:=by
 have hmem:∀a,a∈S↔a.1∈all/\a.2=dist a.1:=by
  intro a
  rw [<-hSp.mem_iff,zty]
  constructor
  · intro ha;exact⟨⟨a,ha,rfl⟩,hSd a ha⟩
  · rintro⟨⟨b,hb,e⟩,e2⟩
    have:b=a:=by
     have:=hSd b hb;exact Prod.ext e (by rw [this,e2,e])
    rw [<-this];exact hb
 -- all the rest,sorted behind
 have hin:∀a∈out,a∈S:=fun a ha=>(hmem a).2 ⟨n.perm.mem_iff.1 (List.mem_append.2 (.inl (zty.2 ⟨a,ha,rfl⟩))),n.told a ha⟩
 have irr:∀x,¬ cmpN x x<0:=fun x q=>by have:=(qhs.sw x x).1 q;omega
 have hspl:∀a∈S,a ∉ out->∀b∈out,cmpN b a<0:=by
  intro a ha hno b hb;obtain⟨h1,h2⟩:=(hmem a).1 ha;have:=n.perm.mem_iff.2 h1
  rcases List.mem_append.1 this with q|q
  · obtain⟨c,hc,e⟩:=zty.1 q
    have:c=a:=Prod.ext e (by rw [n.told c hc,h2,e])
    exact absurd (this ▸ hc) hno
  · have:=n.rest L b hb a.1 q
    rw [<-h2] at this;exact this
 have hout:out=S.take out.length:=by
  have key:∀(o s:List (Int×Fr)),o.Pairwise (fun a b=>cmpN a b<0)->s.Pairwise (fun a b=>cmpN a b<0)->(∀a∈o,a∈s)->(∀a∈s,a ∉ o->∀b∈o,cmpN b a<0)->o=s.take o.length:=by
   intro o
   induction o with
   | nil=>intro s _ _ _ _;simp
   | cons a o ih=>
     intro s ho hs h1 h2
     match s with
     | []=>have:=h1 a sI;cases this
     | b::s=>
       rw [List.pairwise_cons] at ho hs
       have hab:a=b:=by
        rcases List.mem_cons.1 (h1 a sI) with q|q
        · exact q
        · have q2:=hs.1 a q
          by_cases hbo:b∈a::o
          · rcases List.mem_cons.1 hbo with q3|q3
            · exact q3.symm
            · have:=ho.1 b q3
              have:=(qhs.sw a b).1 this
              omega
          · have:=h2 b sI hbo a sI
            have:=(qhs.sw a b).1 this
            omega
       subst hab
       rw [zax,List.take_succ_cons]
       congr 1;refine ih s ho.2 hs.2 ?_ ?_
       · intro x hx
         rcases List.mem_cons.1 (h1 x (by simp [hx])) with q|q
         · subst q;exact absurd (ho.1 _ hx) (irr _)
         · exact q
       · intro x hx hno y hy
         refine h2 x (by simp [hx]) ?_ y (by simp [hy])
         intro q
         rcases List.mem_cons.1 q with q|q
         · subst q;exact irr _ (hs.1 _ hx)
         · exact hno q
  exact key out S (n.srt L) hS hin hspl
 rcases hd with e|⟨e1,e2⟩
 · rw [<-e];exact hout
 · have hlen:S.length=out.length:=by
    have h1:=hSp.length_eq;have h2:=n.perm.length_eq;subst e1 e2
    simp at h1 h2
    omega
   rw [zmy oQ]
   rw [hout,zmy oQ]
end
theorem qh2 (P:Nat->Prop):∀n,P n->∃m,P m/\∀k,P k->m<=k:=by
 intro n
 induction n using Nat.strongRecOn with
 | _ n ih=>
   intro hn
   by_cases h:∃k,k<n/\P k
   · obtain⟨k,hk,hp⟩:=h
     exact ih k hk hp
   · exact⟨n,hn,fun k hk=>Nat.le_of_not_lt fun q=>h ⟨k,q,hk⟩⟩
open Classical in
noncomputable def leastN (P:Nat->Prop):Nat:=if h:∃m,P m/\∀k,P k->m<=k then choose h else 0
theorem qqj {P:Nat->Prop} {n:Nat} (h:P n):P (leastN P):=by
 have hx:=qh2 P n h;unfold leastN
 rw [dif_pos hx]
 exact(Classical.choose_spec hx).1
theorem qwz {P:Nat->Prop} {n:Nat} (h:P n):leastN P<=n:=by
 have hx:=qh2 P n h;unfold leastN
 rw [dif_pos hx]
 exact(Classical.choose_spec hx).2 n h
def qbl (t:Tr) (l n:Nat) (es:List En) (v:Value) (k:Nat):Tr:=
 {t with es:=updT t.es n es,sl:=updT t.sl n v,leaf:=if l=0 then fun i=>if i∈(es.take k).map En.id then n else t.leaf i else t.leaf,up:=if l=0 then t.up else fun x=>if x∈(es.take k).map En.kid then some n else t.up x}
def qdu (t:Tr) (o l:Nat):Tr:={t with lv:=updT t.lv o (some l),up:=updT t.up o none,es:=updT t.es o [],sl:=updT t.sl o (.slice none 0 0)}
def cutT (t:Tr) (l n o u:Nat) (a b:List En) (va vb:Value) (i:Nat) (kv:Value) (kb:List Nat):Tr:=
 qdc (qbl (qbl (qdu t o l) l n a va a.length) l o b vb b.length) u i kv kb
def cutU (t:Tr) (l n o u:Nat) (a b:List En) (va vb:Value) (i:Nat) (kv:Value) (kb:List Nat) (x:En) (vu:Value):Tr:=
 qbl (cutT t l n o u a b va vb i kv kb) (l+1) u ((cutT t l n o u a b va vb i kv kb).es u++ [x]) vu ((cutT t l n o u a b va vb i kv kb).es u++ [x]).length
section
variable {t:Tr} {L:Int->Prop} {U:List (List Nat)->List Nat} {n o u l i:Nat} {a b:List En} {va vb vu kv:Value} {kb:List Nat} {x:En}
theorem qkx (hu:u≠n) (ho:u≠o):(cutT t l n o u a b va vb i kv kb).es u=(t.es u).modify i fun e=>{e with kv:=kv,kb:=kb}:=by
 unfold cutT qdc qbl qdu
 simp only [qaf,qai hu,qai ho]
theorem qz6 (h:Shape t L) (hn:t.lv n=some l) (hu:t.up n=some u) (ho:t.lv o=none) (hp:(a++b).Perm (t.es n)) (hx:x.id=0/\x.kid=o):Cut t (cutU t l n o u a b va vb i kv kb x vu) n o u l a b:=by
 have hul:t.lv u=some (l+1):=(h.up _ _ _ hn hu).1;have hno:n≠o:=fun e=>by rw [e,ho] at hn;cases hn
 have huo:u≠o:=fun e=>by rw [e,ho] at hul;cases hul
 have hun:u≠n:=fun e=>by rw [e,hn] at hul;injection hul with hul;omega
 have hma:∀e∈a,e∈t.es n:=fun e he=>hp.mem_iff.1 (List.mem_append.2 (.inl he))
 have hmb:∀e∈b,e∈t.es n:=fun e he=>hp.mem_iff.1 (List.mem_append.2 (.inr he))
 have heu:=qkx (t:=t) (l:=l) (n:=n) (o:=o) (u:=u) (a:=a) (b:=b) (va:=va) (vb:=vb) (i:=i) (kv:=kv) (kb:=kb) hun huo;have hkids:((cutT t l n o u a b va vb i kv kb).es u).map En.kid=(t.es u).map En.kid:=by rw [heu];exact qgq En.kid (fun e:En=>{e with kv:=kv,kb:=kb}) (fun _=>rfl) _ _
 refine⟨hn,hu,ho,hp,rfl,rfl,rfl,rfl,?_,?_,?_,?_,?_,?_,?_⟩
 · unfold cutU cutT qdc qbl qdu
   simp only [qai (Ne.symm hun),qai hno,qaf]
 · unfold cutU cutT qdc qbl qdu
   simp only [qai (Ne.symm huo),qaf]
 · have e1:(cutU t l n o u a b va vb i kv kb x vu).es u=(cutT t l n o u a b va vb i kv kb).es u++ [x]:=qaf
   rw [e1,heu,zfx,qgq (fun e:En=>(e.id,e.kid)) (fun e:En=>{e with kv:=kv,kb:=kb}) (fun _=>rfl),zdy,zey,hx.1,hx.2]
 · intro y h1 h2 h3
   unfold cutU cutT qdc qbl qdu
   simp only [qai h1,qai h2,qai h3]
 · have:o∈((cutT t l n o u a b va vb i kv kb).es u++ [x]).map En.kid:=by simp [hx.2]
   unfold cutU qbl
   simp only [Nat.add_eq_zero_iff,Nat.one_ne_zero,and_false,if_false,List.take_length]
   rw [if_pos this]
 · intro y m hy
   have hyo:y≠o:=fun e=>by rw [e,ho] at hy;cases hy
   unfold cutU qbl
   simp only [Nat.add_eq_zero_iff,Nat.one_ne_zero,and_false,if_false,List.take_length]
   by_cases hm:y∈((cutT t l n o u a b va vb i kv kb).es u++ [x]).map En.kid
   · rw [if_pos hm]
     rw [zfx,hkids,List.mem_append] at hm
     rcases hm with hm|hm
     · obtain⟨e,he,rfl⟩:=zty.1 hm
       obtain⟨k1,k2⟩:=h.kid u l e hul he
       rw [if_neg,k2]
       rintro⟨q1,q2⟩;obtain⟨e',he',hk⟩:=zty.1 q2;have:=(h.kid n (l-1) e' (by rw [hn];congr 1;omega) (hmb e' he')).1
       rw [hk,k1] at this;injection this with this
       omega
     · simp [hx.2] at hm
       exact absurd hm hyo
   · rw [if_neg hm]
     unfold cutT qdc qbl qdu
     simp only [List.take_length]
     by_cases h0:l=0
     · subst h0
       simp only [if_true,qai hyo,Nat.lt_irrefl,false_and,if_false]
     · simp only [if_neg h0,qai hyo]
       have hl:0<l:=oQ
       by_cases hb:y∈b.map En.kid
       · rw [if_pos hb,if_pos ⟨hl,hb⟩]
       · have hq:¬ (0<l/\y∈b.map En.kid):=fun q=>hb q.2
         rw [if_neg hb,if_neg hq]
         by_cases ha:y∈a.map En.kid
         · rw [if_pos ha]
           obtain⟨e,he,rfl⟩:=zty.1 ha;exact(h.kid n (l-1) e (by rw [hn];congr 1;omega) (hma e he)).2.symm
         · rw [if_neg ha]
 · intro j
   unfold cutU cutT qdc qbl qdu
   simp only [Nat.add_eq_zero_iff,Nat.one_ne_zero,and_false,if_false,List.take_length]
   by_cases h0:l=0
   · subst h0
     simp only [if_true,true_and]
     by_cases hb:j∈b.map En.id
     · rw [if_pos hb,if_pos hb]
     · rw [if_neg hb,if_neg hb]
       by_cases ha:j∈a.map En.id
       · rw [if_pos ha]
         obtain⟨e,he,rfl⟩:=zty.1 ha;exact(h.ent n e hn (hma e he)).1.symm
       · rw [if_neg ha]
   · simp only [if_neg h0,h0,false_and,if_false]
end
def cutB (t:Tr) (l n o:Nat) (a b:List En) (va vb:Value):Tr:=qbl (qbl (qdu t o l) l n a va a.length) l o b vb b.length
theorem qis {t:Tr} {L:Int->Prop} {n o u l:Nat} {a b:List En} {va vb:Value} (h:Shape t L) (hn:t.lv n=some l) (hu:t.up n=some u) (ho:t.lv o=none) (hp:(a++b).Perm (t.es n)):
 n≠o/\u≠o/\u≠n/\(cutB t l n o a b va vb).lv n=some l/\(cutB t l n o a b va vb).lv u=some (l+1)/\(cutB t l n o a b va vb).lv o=some l/\(cutB t l n o a b va vb).es n=a/\(cutB t l n o a b va vb).es o=b/\(cutB t l n o a b va vb).es u=t.es u/\(cutB t l n o a b va vb).sl u=t.sl u/\(cutB t l n o a b va vb).up n=some u/\(∃e∈t.es u,e.kid=n)/\∀e∈t.es u,∃l',(cutB t l n o a b va vb).lv e.kid=some l' :=by
 have hul:t.lv u=some (l+1):=(h.up _ _ _ hn hu).1;have hno:n≠o:=fun e=>by rw [e,ho] at hn;cases hn
 have huo:u≠o:=fun e=>by rw [e,ho] at hul;cases hul
 have hun:u≠n:=fun e=>by rw [e,hn] at hul;injection hul with hul;omega
 have hma:∀e∈a++b,e∈t.es n:=fun e he=>hp.mem_iff.1 he
 have hk:0<l->∀e∈a++b,e.kid≠n:=fun hl e he q=>by
  have:=(h.kid n (l-1) e (by rw [hn];congr 1;omega) (hma e he)).1
  rw [q,hn] at this;injection this with this
  omega
 refine⟨hno,huo,hun,?_,?_,qaf,?_,?_,?_,?_,?_,(h.up _ _ _ hn hu).2,?_⟩
 · unfold cutB qbl qdu;simp only [qai hno];exact hn
 · unfold cutB qbl qdu;simp only [qai huo];exact hul
 · unfold cutB qbl qdu;simp only [qai hno,qaf]
 · unfold cutB qbl qdu;simp only [qaf]
 · unfold cutB qbl qdu;simp only [qai huo,qai hun]
 · unfold cutB qbl qdu;simp only [qai huo,qai hun]
 · unfold cutB qbl qdu
   by_cases h0:l=0
   · simp only [if_pos h0,qai hno];exact hu
   · have hl:0<l:=oQ
     have h1:n ∉ b.map En.kid:=fun q=>by
      obtain⟨e,he,hx⟩:=zty.1 q;exact hk hl e (List.mem_append.2 (.inr he)) hx
     have h2:n ∉ a.map En.kid:=fun q=>by
      obtain⟨e,he,hx⟩:=zty.1 q;exact hk hl e (List.mem_append.2 (.inl he)) hx
     simp only [if_neg h0,List.take_length,if_neg h1,if_neg h2,qai hno]
     exact hu
 · intro e he
   have:=(h.kid u l e hul he).1;have hne:e.kid≠o:=fun q=>by rw [q,ho] at this;cases this
   exact⟨l,by unfold cutB qbl qdu;simp only [qai hne];exact this⟩
def qiq (t:Tr) (l r:Nat) (x:En) (v:Value):Tr:=qbl {qdu t r (l+1) with root:=r} (l+1) r [x] v 1
theorem qqq {t:Tr} {L:Int->Prop} {r l:Nat} {x:En} {v:Value} (h:Shape t L) (hn:t.lv t.root=some l) (hr:t.lv r=none) (hx:x.kid=t.root):Grown t (qiq t l r x v) r l x:=by
 have hne:r≠t.root:=fun e=>by rw [e,hn] at hr;cases hr
 refine⟨hn,hr,hx,rfl,rfl,rfl,rfl,qaf,?_,?_,?_,?_⟩
 · intro y hy
   unfold qiq qbl qdu
   simp only [qai hy]
 · unfold qiq qbl qdu
   simp [hx,hne,qaf]
 · intro y hy
   unfold qiq qbl qdu
   simp [hx,qai hy]
 · unfold qiq qbl qdu
   simp
structure Over (U:List (List Nat)->List Nat) (t:Tr) (L:Int->Prop) (n l:Nat):Prop where
 shape:Shape t L
 lv:t.lv n=some l
 fill:Fill t (· =n)
 keyed:Keyed U t (· =n)
 len:(t.es n).length<=t.fan+1
 low:n≠t.root->t.fan/2<=(t.es n).length
 two:n=t.root->0<l->2<=(t.es n).length
structure Ripe (U:List (List Nat)->List Nat) (t:Tr) (L:Int->Prop) (n l u:Nat):Prop where
 shape:Shape t L
 lv:t.lv n=some l
 up:t.up n=some u
 fill:Fill t fun y=>y=n\/y=u
 keyed:Keyed U t (· =n)
 len:(t.es n).length<=t.fan+1
 lenu:(t.es u).length<=t.fan
 lowu:u≠t.root->t.fan/2<=(t.es u).length
 oneu:1<=(t.es u).length
section
variable {t:Tr} {L:Int->Prop} {U:List (List Nat)->List Nat} {n l:Nat}
theorem Over.filled (h:Over U t L n l) (hf:(t.es n).length<=t.fan):Fill t fun _=>False:=by
 refine(h.fill.mend (n:=n) fun l' hl' => ?_).more fun b q=>(q.2 q.1).elim
 have e:=h.lv;rw [hl'] at e
 cases e
 exact⟨hf,h.low,h.two⟩
theorem Over.lens (h:Over U t L n l):∀b m,t.lv b=some m->(t.es b).length<=t.fan+1:=fun b m hb=>by
 by_cases q:b=n
 · rw [q];exact h.len
 · have:=(h.fill b m hb q).1;omega
theorem Ripe.lens {u:Nat} (h:Ripe U t L n l u):∀b m,t.lv b=some m->(t.es b).length<=t.fan+1:=fun b m hb=>by
 by_cases q:b=n
 · rw [q];exact h.len
 · by_cases q2:b=u
   · rw [q2];have:=h.lenu;omega
   · have:=(h.fill b m hb (fun k=>k.elim q q2)).1;omega
theorem Shape.top (h:Shape t L) {b m:Nat} (hb:t.lv b=some m):m<=(t.lv t.root).getD 0:=by
 obtain⟨k,h1,h2,_⟩:=h.und_lv hb (h.under hb)
 rw [h2]
 exact h1
theorem Over.ripe (h:Over U t L n l) {u:Nat} (hu:t.up n=some u) (h4:4<=t.fan):Ripe U t L n l u:=by
 have hul:t.lv u=some (l+1):=(h.shape.up _ _ _ h.lv hu).1;have hun:u≠n:=fun e=>by have:=h.lv;rw [<-e,hul] at this;injection this with this;omega
 have hF:=h.fill u (l+1) hul hun;refine⟨h.shape,h.lv,hu,h.fill.more fun b q=> .inl q,h.keyed,h.len,hF.1,hF.2.1,?_⟩
 by_cases q:u=t.root
 · have:=hF.2.2 q oQ;omega
 · have:=hF.2.1 q;omega
theorem Over.grow (h:Over U t L n l) {r:Nat} {x:En} {v:Value} (hn:n=t.root) (hr:t.lv r=none) (hx:x.kid=t.root) (h4:4<=t.fan):Ripe U (qiq t l r x v) L n l r/\(qiq t l r x v).es n=t.es n:=by
 have hl:=h.lv;subst hn;have c:=qqq (v:=v) h.shape hl hr hx;have hne:t.root≠r:=fun e=>by rw [<-e,hl] at hr;cases hr
 refine⟨⟨c.shape h.shape,by rw [c.lv,qai hne];exact hl,by rw [c.up _ hne,if_pos rfl],(c.fill h.shape h.fill).more fun b q=>by rcases q with q|q|q<;>simp [q],(c.keyed h.shape h.keyed).more fun b q=>by rcases q with q|q<;>exact q,?_,?_,?_,?_⟩,c.es _ hne⟩
 · rw [c.es _ hne,c.fan];exact h.len
 · rw [c.esr,c.fan];simp;omega
 · rw [c.root];intro q;exact absurd rfl q
 · rw [c.esr];simp
theorem Ripe.cut {u:Nat} (h:Ripe U t L n l u) {o i:Nat} {a b:List En} {va vb vu kv:Value} {x y:En} (ho:t.lv o=none) (hp:(a++b).Perm (t.es n)) (hx:x.id=0/\x.kid=o) (ha:t.fan/2<=a.length) (hb:t.fan/2<=b.length) (h4:4<=t.fan) (hy:(t.es u)[i]? =some y) (hyn:y.kid=n) (hxk:x.kb=U (b.map En.kb)):Over U (cutU t l n o u a b va vb i kv (U (a.map En.kb)) x vu) L u (l+1):=by
 have c:=qz6 (va:=va) (vb:=vb) (vu:=vu) (i:=i) (kv:=kv) (kb:=U (a.map En.kb)) h.shape h.lv h.up ho hp hx;have hul:t.lv u=some (l+1):=(h.shape.up _ _ _ h.lv h.up).1;have huo:u≠o:=fun e=>by rw [e,ho] at hul;cases hul
 have hun:u≠n:=fun e=>by have:=h.lv;rw [<-e,hul] at this;injection this with this;omega
 have hlen:a.length+b.length=(t.es n).length:=by have:=hp.length_eq;simpa using this
 have hL:=h.len;have heu:=qkx (t:=t) (l:=l) (n:=n) (o:=o) (u:=u) (a:=a) (b:=b) (va:=va) (vb:=vb) (i:=i) (kv:=kv) (kb:=U (a.map En.kb)) hun huo;have e1:(cutU t l n o u a b va vb i kv (U (a.map En.kb)) x vu).es u=(t.es u).modify i (fun e=>{e with kv:=kv,kb:=U (a.map En.kb)})++ [x]:=by rw [<-heu];exact qaf
 have hlu:((cutU t l n o u a b va vb i kv (U (a.map En.kb)) x vu).es u).length=(t.es u).length+1:=by rw [e1];simp
 refine⟨c.shape h.shape,by rw [c.lv,qai huo];exact hul,?_,?_,?_,?_,?_⟩
 · refine(c.fill h.shape h.fill ⟨by omega,ha⟩ ⟨by omega,hb⟩).more fun z q=> ?_
   rcases q with q|⟨q|q,k⟩
   · exact q
   · exact absurd q k
   · exact q
 · refine c.keyed h.shape h.keyed fun e he=> ?_
   rw [e1] at he
   rcases List.mem_append.1 he with q|q
   · rcases mem_modify q with ⟨z,hz,rfl⟩|⟨j,hj,hz⟩
     · rw [hy] at hz
       cases hz
       exact .inl ⟨hyn,rfl⟩
     · exact .inr (.inr ⟨zjy hz,fun q=>hj (qm3 (h.shape.kids _ _ hul) hz hy (by rw [q,hyn]))⟩)
   · rw [zhx.1 q]
     exact .inr (.inl ⟨hx.2,hxk⟩)
 · rw [hlu,c.fan];have:=h.lenu;omega
 · rw [hlu,c.fan,c.root];intro q;have:=h.lowu q;omega
 · rw [hlu,c.root];intro q _;have:=h.oneu;omega
def msr (t:Tr) (l n:Nat):Nat:=2*((t.lv t.root).getD 0-l)+(if t.fan<(t.es n).length then 1 else 0)
def msrU (t:Tr) (l u:Nat):Nat:=2*((t.lv t.root).getD 0-(l+1))+(if t.fan<(t.es u).length+1 then 1 else 0)
theorem q21 {u:Nat} (h:Over U t L n l) (hu:t.up n=some u) (hov:t.fan<(t.es n).length):msrU t l u<msr t l n:=by
 have:=h.shape.top (h.shape.up _ _ _ h.lv hu).1;unfold msr msrU
 rw [if_pos hov]
 split<;>omega
theorem qzk (h:Over U t L n l) {r:Nat} {x:En} {v:Value} (hn:n=t.root) (h4:4<=t.fan) (hov:t.fan<(t.es n).length):msrU (qiq t l r x v) l r<msr t l n:=by
 have e1:(qiq t l r x v).lv (qiq t l r x v).root=some (l+1):=qaf;have e2:(qiq t l r x v).es r= [x]:=qaf;have e3:(qiq t l r x v).fan=t.fan:=rfl;unfold msr msrU;have h2:¬ t.fan< [x].length+1:=by simp;omega
 rw [if_pos hov,e1,e2,e3,if_neg h2]
 simp only [Option.getD_some]
 omega
theorem q1o {u o i:Nat} {a b:List En} {va vb vu kv:Value} {kb:List Nat} {x:En} (h:Ripe U t L n l u) (ho:t.lv o=none) (hp:(a++b).Perm (t.es n)):msr (cutU t l n o u a b va vb i kv kb x vu) (l+1) u=msrU t l u:=by
 obtain⟨hno,huo,hun,_⟩:=qis (va:=va) (vb:=vb) h.shape h.lv h.up ho hp;have heu:=qkx (t:=t) (l:=l) (n:=n) (o:=o) (u:=u) (a:=a) (b:=b) (va:=va) (vb:=vb) (i:=i) (kv:=kv) (kb:=kb) hun huo;have e1:(cutU t l n o u a b va vb i kv kb x vu).es u=(t.es u).modify i (fun e=>{e with kv:=kv,kb:=kb})++ [x]:=by rw [<-heu];exact qaf
 obtain⟨m,hm⟩:=Option.isSome_iff_exists.1 h.shape.root.1;have hro:t.root≠o:=fun e=>by rw [e,ho] at hm;cases hm
 have e2:(cutU t l n o u a b va vb i kv kb x vu).lv (cutU t l n o u a b va vb i kv kb x vu).root=t.lv t.root:=qai hro;have e3:(cutU t l n o u a b va vb i kv kb x vu).fan=t.fan:=rfl;unfold msr msrU
 rw [e1,e2,e3]
 simp
end
def cntE (t:Tr):Nat->Nat->Nat
 | 0,n=>(t.es n).length
 | l+1,n=>((t.es n).map fun e=>1+cntE t l e.kid).sum
def belE (t:Tr):Nat->List En->List Int
 | 0,r=>r.map En.id
 | l+1,r=>r.flatMap fun e=>below t l e.kid
def potE (t:Tr):Nat->List En->Nat
 | 0,r=>r.length
 | l+1,r=>(r.map fun e=>1+cntE t l e.kid).sum
theorem qmj (t:Tr) (l n:Nat):below t l n=belE t l (t.es n):=by cases l<;>rfl
theorem qo8 (t:Tr) (l n:Nat):cntE t l n=potE t l (t.es n):=by cases l<;>rfl
theorem qjp (t:Tr) (l:Nat):belE t l []= []:=by cases l<;>rfl
theorem qy3 (t:Tr) (l:Nat):potE t l []=0:=by cases l<;>rfl
theorem qjy {α:Type} (f g:α->Nat):∀l:List α,(l.map fun a=>f a+g a).sum=(l.map f).sum+(l.map g).sum
 | []=>rfl
 | a::r=>by simp only [zdy,List.sum_cons,qjy f g r];omega
theorem qsd {α β:Type} (g:α->List β):∀l:List α,(l.flatMap g).length=(l.map fun a=>(g a).length).sum
 | []=>rfl
 | a::r=>by simp only [zvy,zny,zdy,List.sum_cons,qsd g r]
theorem qxn (t:Tr):∀l n,cntE t l n+1=qg0 t l n+(below t l n).length
 | 0,n=>by simp [cntE,qg0,below];omega
 | l+1,n=>by
   simp only [cntE,qg0,below]
   rw [qsd,show ((t.es n).map fun e=>1+cntE t l e.kid)=(t.es n).map fun e=>qg0 t l e.kid+(below t l e.kid).length from List.map_congr_left fun e _=>by have:=qxn t l e.kid;omega,qjy]
   omega
theorem Shape.cntE_le {t:Tr} {L:Int->Prop} (h:Shape t L) (hf:Fill t fun _=>False) (h4:4<=t.fan) {l n:Nat} (hn:t.lv n=some l):cntE t l n<=2*t.items.length:=by
 have h1:=(h.few hf h4 hn).2;have h2:=h.below_len hn;have h3:=qxn t l n
 omega
def lvl (t:Tr) (b:Nat):Nat:=(t.lv b).getD 0
def potX (t:Tr) (nodes:List Nat) (x:Pu):Nat:=if x.1.item then 0 else match nodes[x.1.node]? with|some b=>cntE t (lvl t b) b|none=>0
def potH (t:Tr) (nodes:List Nat) (h:List Pu):Nat:=(h.map (potX t nodes)).sum
theorem qht {t:Tr} {nodes:List Nat} {h h' :List Pu} (p:h.Perm h'):potH t nodes h=potH t nodes h' :=(p.map _).sum_nat
structure Nq (Lw:Prop) (t:Tr) (dist:Int->Fr) (all:List Int) (K:Nat) (l:Nat) (r:List En) (h:List Pu) (nodes:List Nat) (out:List (Int×Fr)) (c:Nat):Prop where
 ni:Ni Lw t dist all h nodes out (belE t l r)
 nds:∀b∈nodes,(t.lv b).isSome
 pot:potH t nodes h+potE t l r+c=K
 len:h.length<=c
 nlen:nodes.length<=c+1
section
variable {Lw:Prop} {t:Tr} {dist:Int->Fr} {all:List Int} {K l c:Nat} {r:List En} {e:En} {h:List Pu} {nodes:List Nat} {out:List (Int×Fr)}
theorem Nq.start (Lw:Prop) (t:Tr) (dist:Int->Fr) {l b:Nat} (hb:t.lv b=some l):Nq Lw t dist (below t l b) (cntE t l b) l (t.es b) [] [b] [] 0:=
 ⟨by rw [<-qmj];exact Ni.start _ _ _ _ _,fun x hx=>by rw [zhx.1 hx,hb];rfl,by rw [<-qo8];simp [potH],by simp,by simp⟩
theorem Nq.item_in (q:Nq Lw t dist all K 0 (e::r) h nodes out c):Nq Lw t dist all K 0 r (qhr ltPu h (⟨e.id,dist e.id,true,0⟩,c+1)) nodes out (c+1):=by
 have hp:=qfg (lt:=ltPu) h (⟨e.id,dist e.id,true,0⟩,c+1);have n:=q.ni
 rw [show belE t 0 (e::r)=stands t (nodes++ []) ((⟨e.id,dist e.id,true,0⟩,c+1):Pu).1++belE t 0 r from rfl] at n
 have n2:=Ni.push (x:=(⟨e.id,dist e.id,true,0⟩,c+1)) (nodes' := []) n ⟨fun _=>rfl,fun z=>by cases z⟩
 rw [List.append_nil] at n2;refine⟨n2,q.nds,?_,?_,?_⟩
 · rw [qht hp]
   have:=q.pot
   simp only [potH,zdy,List.sum_cons,potX,if_true,potE,zax] at this ⊢
   omega
 · rw [hp.length_eq,zax]
   have:=q.len
   omega
 · have:=q.nlen;omega
theorem qvy {nodes' :List Nat} {x:Pu} (hx:x.1.item=false->x.1.node<nodes.length):potX t (nodes++nodes') x=potX t nodes x:=by
 unfold potX
 cases hi:x.1.item with
 | true=>rfl
 | false=>rw [zex (hx hi)]
theorem Nq.node_in {d:Fr} (hk:t.lv e.kid=some l) (hd:∀id∈below t l e.kid,Lw->cmpF d (dist id)<=0) (q:Nq Lw t dist all K (l+1) (e::r) h nodes out c):Nq Lw t dist all K (l+1) r (qhr ltPu h (⟨0,d,false,nodes.length⟩,c+1)) (nodes++ [e.kid]) out (c+1):=by
 have hp:=qfg (lt:=ltPu) h (⟨0,d,false,nodes.length⟩,c+1)
 have hst:stands t (nodes++ [e.kid]) ((⟨0,d,false,nodes.length⟩,c+1):Pu).1=below t l e.kid:=by
  unfold stands
  simp [hk]
 have n:=q.ni
 rw [show belE t (l+1) (e::r)=stands t (nodes++ [e.kid]) ((⟨0,d,false,nodes.length⟩,c+1):Pu).1++belE t (l+1) r from by rw [hst];rfl] at n
 have n2:=Ni.push (x:=(⟨0,d,false,nodes.length⟩,c+1)) (nodes' := [e.kid]) n ⟨fun z=>(by cases z),fun _=>⟨by simp,by rw [hst];exact hd⟩⟩
 refine⟨n2,?_,?_,?_,?_⟩
 · intro b hb
   rcases List.mem_append.1 hb with z|z
   · exact q.nds b z
   · rw [zhx.1 z,hk];rfl
 · rw [qht hp]
   have h1:=q.pot;have h2:h.map (potX t (nodes++ [e.kid]))=h.map (potX t nodes):=List.map_congr_left fun x hx=>qvy fun hi=>((q.ni.good x hx).2 hi).1
   have h3:potX t (nodes++ [e.kid]) (⟨0,d,false,nodes.length⟩,c+1)=cntE t l e.kid:=by
    unfold potX lvl
    simp [hk]
   simp only [potH,zdy,List.sum_cons,potE] at h1 ⊢
   rw [h2,h3]
   omega
 · rw [hp.length_eq,zax]
   have:=q.len
   omega
 · have:=q.nlen;simp;omega
theorem Nq.item_out {x:Pu} {s:List Pu} (hall:all.Nodup) (q:Nq Lw t dist all K l [] h nodes out c) (he:h=x::s) (hi:x.1.item=true):Nq Lw t dist all K l [] (popS ltPu h) nodes (out++ [(x.1.id,x.1.d)]) c:=by
 have hp:=qen (lt:=ltPu) he;have n:=q.ni;rw [qjp] at n;refine⟨by rw [qjp];exact n.item hall he hi,q.nds,?_,?_,q.nlen⟩
 · have h1:=q.pot
   rw [qht hp]
   rw [he] at h1
   simp only [potH,zdy,List.sum_cons,potX,hi,if_true] at h1 ⊢
   omega
 · have h1:=q.len
   rw [hp.length_eq]
   rw [he] at h1
   simp at h1
   omega
theorem Nq.node_out {x:Pu} {s:List Pu} (q:Nq Lw t dist all K l [] h nodes out c) (he:h=x::s) (hi:x.1.item=false):∃b m,nodes[x.1.node]? =some b/\t.lv b=some m/\Nq Lw t dist all K m (t.es b) (popS ltPu h) nodes out c:=by
 have hp:=qen (lt:=ltPu) he;have n:=q.ni;rw [qjp] at n;obtain⟨h1,_⟩:=(n.good x (by rw [he];simp)).2 hi
 obtain⟨b,hb⟩:∃b,nodes[x.1.node]? =some b:=⟨_,zby h1⟩;obtain⟨m,hm⟩:=Option.isSome_iff_exists.1 (q.nds b (zjy hb));have n2:=n.node he hi
 have hst:stands t nodes x.1=belE t m (t.es b):=by
  rw [<-qmj]
  unfold stands
  rw [hi]
  simp [hb,hm]
 rw [hst] at n2;refine⟨b,m,hb,hm,n2,q.nds,?_,?_,q.nlen⟩
 · have h2:=q.pot
   have h3:potX t nodes x=cntE t m b:=by
    unfold potX lvl
    simp [hi,hb,hm]
   rw [qht hp,<-qo8]
   rw [he] at h2
   simp only [potH,zdy,List.sum_cons,h3,qy3] at h2 ⊢
   omega
 · have h2:=q.len
   rw [hp.length_eq]
   rw [he] at h2
   simp at h2
   omega
theorem Nq.told_le (q:Nq Lw t dist all K l r h nodes out c):out.length<=all.length:=by
 have:=q.ni.perm.length_eq;simp only [zny,zyy] at this
 omega
theorem Nq.cle (q:Nq Lw t dist all K l r h nodes out c):c<=K:=by have:=q.pot;omega
end
def qvj (l:List (Int×Fr)):List (Int×Fr):=l.mergeSort fun a b=>decide (cmpN a b<=0)
theorem qid (l:List (Int×Fr)):(qvj l).Perm l:=List.mergeSort_perm _ _
theorem qvi {l:List (Int×Fr)} (hn:(l.map (·.1)).Nodup):(qvj l).Pairwise fun a b=>cmpN a b<0:=by
 have h1:=List.pairwise_mergeSort (le:=fun a b:Int×Fr=>decide (cmpN a b<=0)) (fun a b c h1 h2=>by
  simp only [decide_eq_true_eq] at h1 h2 ⊢
  exact qhs.le _ _ _ h1 h2) (fun a b=>by
  simp only [Bool.or_eq_true,decide_eq_true_eq]
  rcases Int.lt_or_le 0 (cmpN a b) with q|q
  · exact .inr (Int.le_of_lt ((qhs.sw _ _).2 q))
  · exact .inl q) l
 have h2:(qvj l).Pairwise fun a b=>a.1≠b.1:=by
  have:((qvj l).map (·.1)).Nodup:=((qid l).map _).nodup_iff.2 hn
  exact List.pairwise_map.1 this
 refine(h1.and h2).imp fun{a b} q=> ?_
 obtain⟨q1,q2⟩:=q;simp only [decide_eq_true_eq] at q1
 rcases Int.lt_or_eq_of_le q1 with z|z
 · exact z
 · exfalso
   unfold cmpN orI at z
   split at z
   · exact q2 (qo9.1 z)
   · contradiction
def q1n (dist:Ob->Fr) (I:List (Int×Ob)):List (Int×Fr):=qvj (I.map fun p=>(p.1,dist p.2))
abbrev Nr:=Int×Fr
def nrV (x:Nr):List Value:= [.int .i64 x.1,.int .u64 ((x.2.num/18446744073709551616:Nat):Int),.int .u64 ((x.2.num%18446744073709551616:Nat):Int),.int .u64 (x.2.den:Int)]
def nrVs (l:List Nr):List Value:=l.flatMap nrV
theorem qqd (l m:List Nr):nrVs (l++m)=nrVs l++nrVs m:=by unfold nrVs;rw [List.flatMap_append]
section
variable {U:List (List Nat)->List Nat} {t t' :Tr} {L:Int->Prop} {n u l i:Nat}
structure Climb (U:List (List Nat)->List Nat) (t:Tr) (out:List Int) (n:Nat):Prop where
 shape:Shape t fun i=>i∈out
 fill:Fill t (· =n)
 keyed:Keyed U t (· =n)
 most:(t.es n).length<=t.fan
 nd:out.Nodup
 has:∀i∈out,∃it,getK i t.items=some it
theorem Climb.start {id:Int} {v:Value} (h:Shape t fun _=>False) (hf:Fill t fun _=>False) (hk:Keyed U t fun _=>False) (hn:t.lv n=some 0) (hid:t.leaf id=n) (ht:t' ={t with es:=updT t.es n ((t.es n).filter fun e=> !decide (e.id=id)),sl:=updT t.sl n v,items:=delK id t.items}):Climb U t' [] n:=by
 have hs:=h.cutLeaf hn hid ht;subst ht;refine⟨hs.less fun i=>by simp,fun b l hb hX=> ?_,fun b l u e hb hu hX he hek=> ?_,?_,List.nodup_nil,by simp⟩
 · simp only [qai hX]
   exact hf b l hb fun q=>q
 · have hun:u≠n:=fun q=>by
    have:=(h.up b l u hb hu).1;rw [q,hn] at this
    cases this
   simp only [qai hX,qai hun] at he ⊢
   exact hk b l u e hb hu (fun q=>q) he hek
 · simp only [qaf]
   exact zcy (List.length_filter_le _ _) (hf n 0 hn fun q=>q).1
theorem q3d (h:Shape t L) {x:En} (hu:t.lv u=some (l+1)) (hx:(t.es u)[i]? =some x) (e:En):e∈(t.es u).eraseIdx i↔e∈t.es u/\e.kid≠x.kid:=by
 have hnd:=h.kids u l hu
 constructor
 · intro he
   rw [List.mem_eraseIdx_iff_getElem?] at he;obtain⟨j,hj,he⟩:=he;refine⟨zjy he,fun q=>hj (qm3 hnd he hx q)⟩
 · rintro⟨he,hne⟩
   rw [List.mem_eraseIdx_iff_getElem?]
   obtain⟨j,hj⟩:=List.mem_iff_getElem?.1 he;exact⟨j,fun q=>hne (by rw [q,hx] at hj;cases hj;rfl),hj⟩
theorem Climb.up {out:List Int} (c:Climb U t out n) (hn:t.lv n=some l) (hu:t.up n=some u):t.lv u=some (l+1)/\u≠n:=by
 have h1:=(c.shape.up n l u hn hu).1;refine⟨h1,fun q=> ?_⟩
 rw [q,hn] at h1;injection h1 with h1
 omega
open Classical in
theorem Climb.drop {out:List Int} {x:En} {v:Value} (c:Climb U t out n) (hn:t.lv n=some l) (hu:t.up n=some u) (hx:(t.es u)[i]? =some x) (hxk:x.kid=n)
 (ht:t' ={t with es:=updT t.es u ((t.es u).eraseIdx i),sl:=updT t.sl u v,lv:=fun b=>if Und t.up n b then none else t.lv b}):Climb U t' (out++below t l n) u:=by
 obtain⟨hul,hun⟩:=c.up hn hu;have hs:=c.shape.drop hn hu (fun e=>by rw [q3d c.shape hul hx,hxk]) ((c.shape.kids u l hul).sublist ((List.eraseIdx_sublist _ _).map _)) ht
 subst ht
 have hlv:∀{b m},(if Und t.up n b then none else t.lv b)=some m->t.lv b=some m/\b≠n:=fun {b m} hb=>by
  split at hb
  · cases hb
  · rename_i q
    exact⟨hb,fun e=>q (e ▸ .refl)⟩
 refine⟨hs.less fun i=>by rw [List.mem_append],fun b m hb hX=> ?_,fun b m v' e hb hv hX he hek=> ?_,?_,?_,?_⟩
 · obtain⟨hb1,hb2⟩:=hlv hb
   simp only [qai hX]
   exact c.fill b m hb1 hb2
 · obtain⟨hb1,hb2⟩:=hlv hb
   simp only [qai hX]
   refine c.keyed b m v' e hb1 hv hb2 ?_ hek
   by_cases q:v' =u
   · subst q
     simp only [qaf] at he;exact(List.eraseIdx_sublist _ _).subset he
   · simp only [qai q] at he
     exact he
 · simp only [qaf]
   exact zcy (List.eraseIdx_sublist _ _).length_le (c.fill u _ hul hun).1
 · rw [List.nodup_append]
   refine⟨c.nd,c.shape.below_nodup hn,fun a ha b hb e=> ?_⟩
   subst e;obtain⟨b,hb0,_,e,he,rfl⟩:=(c.shape.mem_below hn).1 hb;exact c.shape.lost b e hb0 he ha
 · intro j hj
   rcases List.mem_append.1 hj with q|q
   · exact c.has j q
   · obtain⟨b,hb0,_,e,he,rfl⟩:=(c.shape.mem_below hn).1 q
     obtain⟨_,it,hit,_⟩:=c.shape.ent b e hb0 he;exact⟨it,hit⟩
theorem Climb.key {out:List Int} {x:En} (c:Climb U t out n) (hn:t.lv n=some l) (hu:t.up n=some u) (hx:(t.es u)[i]? =some x) (hxk:x.kid=n) (hlen:t.fan/2<=(t.es n).length) (kv:Value):Climb U (qdc t u i kv (U ((t.es n).map En.kb))) out u:=by
 obtain⟨hul,hun⟩:=c.up hn hu;have ha:=qi7 (t:=t) (i:=i) kv (U ((t.es n).map En.kb)) hul
 have hf:Fill t fun _=>False:=fun b m hb _=>by
  by_cases q:b=n
  · subst q
    refine⟨c.most,fun _=>hlen,fun e _=> ?_⟩
    have:=c.shape.root.2;rw [<-e,hu] at this
    cases this
  · exact c.fill b m hb q
 refine⟨c.shape.alike ha,(Fill.alike hf ha).more fun _ q=>q.elim,ql6 c.shape c.keyed kv hn hu hx hxk,?_,c.nd,c.has⟩
 rw [ha.len]
 exact(hf u _ hul fun q=>q).1
structure Top (U:List (List Nat)->List Nat) (t:Tr) (out:List Int):Prop where
 shape:Shape t fun i=>i∈out
 fill:Fill t (· =t.root)
 keyed:Keyed U t fun _=>False
 most:(t.es t.root).length<=t.fan
 nd:out.Nodup
 has:∀i∈out,∃it,getK i t.items=some it
theorem Climb.top {out:List Int} (c:Climb U t out n) (hn:t.lv n=some l) (hu:t.up n=none):Top U t out:=by
 have e:n=t.root:=c.shape.one n l hn hu;subst e;exact⟨c.shape,c.fill,ql7 c.shape c.keyed hu,c.most,c.nd,c.has⟩
theorem Top.done {out:List Int} (c:Top U t out) (hl:t.lv t.root=some l) (h:l=0\/2<=(t.es t.root).length):Fill t fun _=>False:=fun b m hb _=>by
 by_cases q:b=t.root
 · subst q
   rw [hl] at hb
   cases hb
   refine⟨c.most,fun q=>absurd rfl q,fun _ h0=> ?_⟩
   rcases h with h|h
   · omega
   · exact h
 · exact c.fill b m hb q
theorem Top.sink {out:List Int} {x:En} (c:Top U t out) (hl:t.lv t.root=some (l+1)) (hes:t.es t.root= [x]) (ht:t' ={t with root:=x.kid,lv:=updT t.lv t.root none,up:=updT t.up x.kid none}):Top U t' out/\t'.lv t'.root=some l:=by
 have hs:=c.shape.sink hl hes ht;have hx:x∈t.es t.root:=by rw [hes];simp
 obtain⟨hk,hku⟩:=c.shape.kid _ _ _ hl hx;have hne:x.kid≠t.root:=fun q=>by rw [q,hl] at hk;injection hk with hk;omega
 subst ht
 have hlv:∀{b m},updT t.lv t.root none b=some m->t.lv b=some m/\b≠t.root:=fun {b m} hb=>by
  by_cases q:b=t.root
  · rw [q,qaf] at hb;cases hb
  · rw [qai q] at hb;exact⟨hb,q⟩
 refine⟨⟨hs,fun b m hb hX=> ?_,fun b m u e hb hu _ he hek=> ?_,?_,c.nd,c.has⟩,?_⟩
 · obtain⟨h1,h2⟩:=hlv hb
   obtain⟨q1,q2,q3⟩:=c.fill b m h1 h2;exact⟨q1,fun _=>q2 h2,fun q=>absurd q hX⟩
 · obtain⟨h1,h2⟩:=hlv hb
   simp only at hu
   by_cases q:b=x.kid
   · rw [q,qaf] at hu;cases hu
   · rw [qai q] at hu
     exact c.keyed b m u e h1 hu (fun q=>q) he hek
 · exact(c.fill x.kid l hk hne).1
 · simp only [qai hne]
   exact hk
theorem Top.empty {out:List Int} {r:Nat} (c:Top U t out) (hl:t.lv t.root=some (l+1)) (hes:t.es t.root= []) (ht:t' ={t with root:=r,lv:=fun b=>if b=r then some 0 else none,up:=updT t.up r none,es:=updT t.es r [],sl:=updT t.sl r (.slice none 0 0)}):Top U t' out/\t'.lv t'.root=some 0:=by
 have hL:∀i it,getK i t.items=some it->i∈out:=fun i it hi=>by
  refine Classical.byContradiction fun q=> ?_
  have:=(c.shape.mem_root hl (id:=i)).2 ⟨q,it,hi⟩
  simp [below,hes] at this
 subst ht
 have hb0:∀{b m},(if b=r then some 0 else none:Option Nat)=some m->b=r/\m=0:=fun {b m} hb=>by
  split at hb
  · rename_i q;exact⟨q,by cases hb;rfl⟩
  · cases hb
 refine⟨⟨Shape.empty rfl rfl (by simp [qaf]) (by simp [qaf]) c.shape.rise hL,fun b m hb hX=>absurd (hb0 hb).1 hX,fun b m u e hb hu _ he hek=> ?_,?_,c.nd,c.has⟩,by simp⟩
 · rw [(hb0 hb).1] at hu
   simp [qaf] at hu
 · simp [qaf]
end
end Pg
