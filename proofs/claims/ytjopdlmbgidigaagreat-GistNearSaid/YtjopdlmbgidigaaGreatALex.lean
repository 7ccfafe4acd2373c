/-A region that draws its order-/
import Derived.Test.YtjopdlmbgidigaaGreatAWords
import Derived.OrdersHeld
import Derived.Deep.RegionHeld
set_option linter.unusedVariables false
set_option linter.unusedSimpArgs false
namespace Pg
theorem pq {p:Prop} (h:p:=by intro _ _ d _ _ h;cases d<;>exact h):p:=h
theorem kr {p:Prop} (h:p:=by kernel_rfl):p:=h
end Pg
namespace Pg
open Go
def qa3:Op->Bool
 | .load .. | .move _ | .pick .. | .fieldAddr .. | .field .. | .build .. | .unOp .. | .extract .. | .assign _ | .binOp .. | .makeInterface .. | .indexAddr .. | .index .. | .convert .. | .nilCheck _ | .slice .. | .makeFunc .. =>true
 | .call {callee:=.builtin .len,.. }=>true
 | .call {callee:=.builtin .min,.. }=>true
 | .call {callee:=.builtin .max,.. }=>true
 | _=>false
def quietAt (ops:Array Oper) (i:Nat):Bool:=match ops[i]? with|some o=>qa3 o.op|none=>false
def qfh (ops:Array Oper):List Nat->Array Bool->Bool
 | [],listed=>Region.ready .any ops listed== []
 | i::r,listed=>(if quietAt ops i then Region.free .any ops listed i&&(Region.ready .any ops listed).contains i else Region.ready .any ops listed== [i])&&qfh ops r (listed.setIfInBounds i true)
section
variable {P:Program} {ops:Array Oper} {Q:Exit->Act->World->Prop} {S:World->Prop}
def lexH (P:Program) (ops:Array Oper) (Q:Exit->Act->World->Prop) (S:World->Prop):List Nat->Act->World->Prop
 | [],a,w=>Q .normal a w
 | i::r,a,w=>if quietAt ops i then(∃o v,ops[i]? =some o/\YieldsIf P ops S o v a/\lexH P ops Q S r (a.put o.dst v) w)
    else wpOp P ops Q i (fun a' w' =>S w' /\lexH P ops Q S r a' w') a w
theorem qj9 (hs:Region.noSelect ops=true) (hQ:∀c a d v w,Q (.panic c) (a.put d v) w->Q (.panic c) a w):∀(l:List Nat) (fuel:Nat) (listed:Array Bool) (a:Act) (w:World),
 l.length<=fuel->qfh ops l listed=true->S w->lexH P ops Q S l a w->wpAnyH P .any ops Q S fuel listed a w:=by
 intro l
 induction l with
 | nil=>
   intro fuel listed a w _ hp _ h;exact wpAnyH_done (by simpa [qfh] using hp) h fuel
 | cons i r ih=>
   intro fuel listed a w hf hp hS h;obtain⟨n,rfl⟩:∃n,fuel=n+1:=⟨fuel-1,by simp at hf;omega⟩
   have hn:r.length<=n:=by simpa using hf
   simp only [qfh,ziy] at hp;obtain⟨hp1,hp2⟩:=hp;unfold lexH at h
   by_cases hq:quietAt ops i=true
   · rw [if_pos hq] at h
     rw [if_pos hq,ziy] at hp1;obtain⟨o,v,ho,hy,h⟩:=h;exact wpAnyH_take ho hs hp1.1 hp1.2 (fun c a w hh=>hQ c a _ _ w hh) hy hS (ih n _ _ w hn hp2 hS h)
   · rw [if_neg hq] at h
     rw [if_neg hq] at hp1;have hr:Region.ready .any ops listed= [i]:=by simpa using hp1
     refine wpAnyH_all hr sI (fun j hj=> ?_)
     have hj:j=i:=by simpa using hj
     subst hj;exact wpOp_mono (fun a' w' hh=>⟨hh.1,ih n _ a' w' hn hp2 hh.1 hh.2⟩) h
theorem qe0 (l:List Nat) {id:Nat} {a:Act} {w:World} (S:World->Prop) (hm:P.follows .mixedOrders=true) (hs:Region.noSelect ops=true)
 (hl:l.length<=ops.size) (hp:qfh ops l (Array.replicate ops.size false)=true) (hQ:∀c a d v w,Q (.panic c) (a.put d v) w->Q (.panic c) a w)
 (hS:S w.drew) (h:lexH P ops Q S l a w.drew):(Code.region id ops true).wp P Q a w:=
 wp_region_held hm (qj9 hs hQ l _ _ a _ hl hp hS h)
def bare (o : Oper) : Oper := ⟨o.dst,o.op,o.type,"",#[],none⟩
theorem qdv (ρ:Operand->Value) (o:Oper):execOp ρ (bare o)=execOp ρ o:=by cases o;rfl
def qal (l:List Oper) (o:Oper):Option (Option Tmp×Bool):=match o.guard with
 | none=>none
 | some (j,want)=>some ((l[j]?).bind (·.dst),want)
def qfp (g:Option (Option Tmp×Bool)) (tmps:Array Value):Bool:=match g with
 | none=>true
 | some (d,want)=>(match d.bind (tmps[·]?) with|some (.bool b)=>some b|_=>none)==some want
theorem qg8 (l:List Oper) (o:Oper) (tmps:Array Value):Region.wanted o (yielded l.toArray tmps)=qfp (qal l o) tmps:=by
 unfold Region.wanted qal qfp yielded
 cases o.guard with
 | none=>rfl
 | some x=>simp<;>rfl
def lexL (P:Program) (Q:Exit->Act->World->Prop) (S:World->Prop):List (Oper×Option (Option Tmp×Bool))->Act->World->Prop
 | [],a,w=>Q .normal a w
 | (o,g)::r,a,w=>(∃v,qa3 o.op=true/\qfp g a.tmps=true/\(∀w,S w->(execOp a.eval o).run P w=.ok (.value v) w)/\lexL P Q S r (a.put o.dst v) w)\/(qfp g a.tmps=false/\S w/\lexL P Q S r (a.put o.dst undef) w)\/
     (qa3 o.op=false/\qfp g a.tmps=true/\o.wp P a w (fun a' w' =>S w' /\lexL P Q S r a' w') Q)
theorem qdc {l:List Oper}:∀(p:List Nat) (a:Act) (w:World),(∀i∈p,i<l.length)->lexL P Q S (p.map fun i=>(bare (l.getD i default),qal l (l.getD i default))) a w->lexH P l.toArray Q S p a w:=by
 intro p
 induction p with
 | nil=>intro a w _ h;exact h
 | cons i r ih=>
   intro a w hl h
   have hi:l.toArray[i]? =some (l.getD i default):=by
    have:=hl i sI
    simp [zpy,this]
   have hr:∀j∈r,j<l.length:=fun j hj=>hl j (by simp [hj])
   unfold lexH;rw [zdy] at h;unfold lexL at h;rw [<-qg8] at h;generalize l.getD i default=o at*
   rcases h with ⟨v,hk,hw,hy,h⟩|⟨hw,hS,h⟩|⟨hk,hw,h⟩
   · rw [if_pos (by unfold quietAt;rw [hi];exact hk)]
     exact⟨o,v,hi,.inl ⟨hw,fun w hw=>by rw [<-qdv];exact hy w hw⟩,ih _ _ hr h⟩
   · split
     · exact⟨o,undef,hi,.inr ⟨hw,rfl⟩,ih _ _ hr h⟩
     · unfold wpOp
       simp only [hi,hw]
       exact⟨hS,ih _ _ hr h⟩
   · rw [if_neg (by unfold quietAt;rw [hi];simp only [show qa3 o.op=false from hk];decide)]
     unfold wpOp
     simp only [hi,hw,if_true]
     refine .inl (Oper.wp_mono (K:=fun a' w' =>S w' /\lexL P Q S (r.map fun i=>(bare (l.getD i default),qal l (l.getD i default))) a' w') (fun a' w' hh=>⟨hh.1,ih _ _ hr hh.2⟩) ?_)
     unfold Oper.wp at h ⊢;rw [qdv] at h;exact h
theorem qan (p:List Nat) {l:List Oper} {id:Nat} {a:Act} {w:World} (hm:P.follows .mixedOrders=true)
 (hs:(Region.noSelect l.toArray&&(decide (p.length<=l.length)&&(qfh l.toArray p (Array.replicate l.length false)&&p.all fun i=>decide (i<l.length))))=true) (hQ:∀c a d v w,Q (.panic c) (a.put d v) w->Q (.panic c) a w)
 (h:lexL P Q (fun w' =>RowKit.Below w.heap.size w w') (p.map fun i=>(bare (l.getD i default),qal l (l.getD i default))) a w.drew):(Code.region id l.toArray true).wp P Q a w:=by
 simp only [ziy,decide_eq_true_eq,List.all_eq_true] at hs;exact qe0 p _ hm hs.1 (by simpa using hs.2.1) (by simpa using hs.2.2.1) hQ ((RowKit.Below.refl _ _).drew) (qdc p a _ hs.2.2.2 h)
theorem qbi {r:List (Oper×Option (Option Tmp×Bool))} {o:Oper} {g:Option (Option Tmp×Bool)} {v:Value} {a:Act} {w:World} (hw:qfp g a.tmps=true) (hk:qa3 o.op=true)
 (hy:∀w,S w->(execOp a.eval o).run P w=.ok (.value v) w) (h:lexL P Q S r (a.put o.dst v) w):lexL P Q S ((o,g)::r) a w:=
 .inl ⟨v,hk,hw,hy,h⟩
theorem qz7 {r:List (Oper×Option (Option Tmp×Bool))} {o:Oper} {g:Option (Option Tmp×Bool)} {a:Act} {w:World} (hw:qfp g a.tmps=false) (hS:S w) (h:lexL P Q S r (a.put o.dst undef) w):
 lexL P Q S ((o,g)::r) a w:=.inr (.inl ⟨hw,hS,h⟩)
theorem qab {r:List (Oper×Option (Option Tmp×Bool))} {o:Oper} {g:Option (Option Tmp×Bool)} {a:Act} {w:World} (hw:qfp g a.tmps=true) (hk:qa3 o.op=false)
 (h:∀K:Act->World->Prop,Shut (∀a w,S w->lexL P Q S r a w->K a w)->Oper.wp P o a w K Q):lexL P Q S ((o,g)::r) a w:=
 .inr (.inr ⟨hk,hw,h _ (fun _ _ hS hl=>⟨hS,hl⟩)⟩)
theorem qce {r:List (Oper×Option (Option Tmp×Bool))} {o:Oper} {d:Nat} {want:Bool} {a:Act} {w:World} (hv:a.tmps[d]? =some (.bool want)) (h:lexL P Q S ((o,none)::r) a w):
 lexL P Q S ((o,some (some d,want))::r) a w:=by
 have hw:qfp (some (some d,want)) a.tmps=true:=by simp [qfp,hv]
 unfold lexL at h ⊢
 rcases h with ⟨v,hk,_,hy,h⟩|⟨h,_⟩|⟨hk,_,h⟩
 · exact .inl ⟨v,hk,hw,hy,h⟩
 · cases h
 · exact .inr (.inr ⟨hk,hw,h⟩)
theorem qbx {r:List (Oper×Option (Option Tmp×Bool))} {o:Oper} {d:Nat} {want:Bool} {a:Act} {w:World} (hv:a.tmps[d]? =some (.bool (!want))) (hS:S w) (h:lexL P Q S r (a.put o.dst undef) w):
 lexL P Q S ((o,some (some d,want))::r) a w:=
 qz7 (by simp [qfp,hv]) hS h
theorem qxc {X:Bool} {r:List (Oper×Option (Option Tmp×Bool))} {o:Oper} {d:Nat} {want:Bool} {a:Act} {w:World} (hv:a.tmps[d]? =some (.bool X))
 (h1:X=want->lexL P Q S ((o,none)::r) (a.put (some d) (.bool want)) w) (h2:X=(!want)->S w/\lexL P Q S r ((a.put (some d) (.bool !want)).put o.dst undef) w):lexL P Q S ((o,some (some d,want))::r) a w:=by
 have hset:∀b,X=b->a.put (some d) (.bool b)=a:=fun b hb=>by
  subst hb;obtain⟨tmps,defers⟩:=a
  simp only [Act.put] at*
  congr 1
  apply Array.ext_getElem?
  intro i
  rw [Array.getElem?_setIfInBounds]
  split
  · rename_i h;subst h
    split
    · exact hv.symm
    · rename_i hlt
      rw [zxy oQ] at hv
      cases hv
  · rfl
 by_cases hX:X=want
 · rw [hset _ hX] at h1
   exact qce (by rw [hv,hX]) (h1 hX)
 · have hX:X=(!want):=by cases X<;>cases want<;>simp_all
   rw [hset _ hX] at h2;exact qbx (by rw [hv,hX]) (h2 hX).1 (h2 hX).2
theorem qbd {X:Bool} {r:List (Oper×Option (Option Tmp×Bool))} {o:Oper} {d:Nat} {want:Bool} {a:Act} {w:World} (hv:a.tmps[d]? =some (.bool X)) (hS:S w)
 (h1:X=want->lexL P Q S ((o,none)::r) (a.put (some d) (.bool want)) w) (h2:X=(!want)->lexL P Q S r ((a.put (some d) (.bool !want)).put o.dst undef) w):lexL P Q S ((o,some (some d,want))::r) a w:=
 qxc hv h1 fun h=>⟨hS,h2 h⟩
theorem qaa {tmps:Array Value}:qfp none tmps=true:=rfl
theorem qaf {a:Act} {w:World} (h:Q .normal a w):lexL P Q S [] a w:=h
end
attribute [irreducible] lexL
open Go.RowKit
theorem qbv {P:Program} {Q:Exit->Act->World->Prop} (B:Nat) (p:List Nat) {l:List Oper} {id:Nat} {a:Act} {w:World} (hm:P.follows .mixedOrders=true)
 (hs:(Region.noSelect l.toArray&&(decide (p.length<=l.length)&&(qfh l.toArray p (Array.replicate l.length false)&&p.all fun i=>decide (i<l.length))))=true) (hQ:∀c a d v w,Q (.panic c) (a.put d v) w->Q (.panic c) a w)
 (h:lexL P Q (fun w' =>RowKit.Below B w w') (p.map fun i=>(bare (l.getD i default),qal l (l.getD i default))) a w.drew):(Code.region id l.toArray true).wp P Q a w:=by
 simp only [ziy,decide_eq_true_eq,List.all_eq_true] at hs;exact qe0 p _ hm hs.1 (by simpa using hs.2.1) (by simpa using hs.2.2.1) hQ ((RowKit.Below.refl _ _).drew) (qdc p a _ hs.2.2.2 h)
theorem qac {P:Program} {Q:Exit->Act->World->Prop} {l:List Oper} {id:Nat} {a:Act} {w:World} (hm:P.follows .mixedOrders=true)
 (hs:(Region.noSelect l.toArray&&(decide ((List.range l.length).length<=l.length)&&(qfh l.toArray (List.range l.length) (Array.replicate l.length false)&&(List.range l.length).all fun i=>decide (i<l.length))))=true) (hQ:∀c a d v w,Q (.panic c) (a.put d v) w->Q (.panic c) a w)
 (h:lexL P Q (fun w' =>RowKit.Below w.heap.size w w') (l.map fun o=>(bare o,qal l o)) a w.drew):(Code.region id l.toArray true).wp P Q a w:=by
 refine qan (List.range l.length) hm hs hQ ?_
 have e:((List.range l.length).map fun i=>(bare (l.getD i default),qal l (l.getD i default)))=l.map fun o=>(bare o,qal l o):=by
  apply List.ext_getElem
  · simp
  · intro i h1 h2
    simp at h1
    simp [zpy,h1]
 rw [e]
 exact h
theorem q7y {B:Nat} {W:World} {o1 o2:Obj} (hB:B<=W.heap.size):Below B (W.alloc o1) (W.alloc o2):=
 ⟨rfl,rfl,rfl,by simp,fun k hk=>(Below.heap_alloc _ _ _ oQ).trans (Below.heap_alloc _ _ _ oQ).symm⟩
theorem qdo {w:World} {o o1 o2:Obj}:Below (w.heap.size+1) ((w.alloc o).alloc o1) ((w.alloc o).alloc o2):=q7y sI
theorem q8f {B:Nat} {W w1:World} (hb:Below B W w1):(∀b o,b<B->w1.cell? ⟨b,o,none⟩=W.cell? ⟨b,o,none⟩)/\(∀b o,b<B->w1.frozen? ⟨b,o,none⟩=W.frozen? ⟨b,o,none⟩):=
 ⟨fun b o h=>hb.cell (p:=⟨b,o,none⟩) h,fun b o h=>hb.frozen (p:=⟨b,o,none⟩) h⟩
structure Away (B:Nat) (a w:World):Prop where
 size:a.heap.size<=w.heap.size
 block:∀k,k<a.heap.size->k≠B->w.heap[k]? =a.heap[k]?
end Pg
namespace Pg
open Go Go.RowKit
theorem lqx {P:Program} {Q:Exit->Act->World->Prop} {S:World->Prop} {r:List (Oper×Option (Option Tmp×Bool))} {o:Oper} {v:Value} {a:Act} {w:World} (h:lexL P Q S r (a.put o.dst v) w) (hk:qa3 o.op=true:=by rfl) (hy:∀w,S w->(execOp a.eval o).run P w=.ok (.value v) w:=by (intro wq hq;obtain⟨hcq,hfq⟩:=qbb hq;go_simp;try with_reducible rfl)):lexL P Q S ((o,none)::r) a w:=qbi qaa hk hy h
theorem lqy {P:Program} {Q:Exit->Act->World->Prop} {S:World->Prop} {r:List (Oper×Option (Option Tmp×Bool))} {o:Oper} {v:Value} {a:Act} {w:World} (h:lexL P Q S r (a.put o.dst v) w) (hk:qa3 o.op=true:=by rfl) (hy:∀w,S w->(execOp a.eval o).run P w=.ok (.value v) w:=by (intro wq hq;obtain⟨hcq,hfq⟩:=q8f hq;go_simp;try with_reducible rfl)):lexL P Q S ((o,none)::r) a w:=qbi qaa hk hy h
namespace Away
variable {B:Nat} {a b w:World}
theorem refl (B:Nat) (w:World):Away B w w:=⟨zhy _,fun _ _ _=>rfl⟩
theorem drew (h:Away B a w):Away B a w.drew:=⟨h.size,h.block⟩
theorem put (h:Away B a w) (i:Nat) (u:Value):Away B a (w.setCell ⟨B,i,none⟩ u):=
 ⟨by simp [World.setCell];exact h.size,fun k hk hB=>(Below.heap_setCell _ _ _ _ hB).trans (h.block k hk hB)⟩
theorem alloc (h:Away B a w) (o:Obj):Away B a (w.alloc o):=
 ⟨by simp;exact Nat.le_succ_of_le h.size,fun k hk hB=>(Below.heap_alloc _ _ _ (zky hk h.size)).trans (h.block k hk hB)⟩
theorem below (h:Away B a w) (k:Below w.heap.size w b):Away B a b:=
 ⟨zcy h.size k.size,fun j hj hB=>(k.block j (zky hj h.size)).trans (h.block j hj hB)⟩
end Away
theorem q3v {B:Nat} {W w1:World} (h:Away B W w1):(∀b o,b≠B->b<W.heap.size->w1.cell? ⟨b,o,none⟩=W.cell? ⟨b,o,none⟩)/\(∀b o,b≠B->b<W.heap.size->w1.frozen? ⟨b,o,none⟩=W.frozen? ⟨b,o,none⟩):=
 ⟨fun b o h1 h2=>World.cell?_of_block (a:=⟨b,o,none⟩) (h.block b h2 h1),fun b o h1 h2=>World.frozen?_of_block (a:=⟨b,o,none⟩) (h.block b h2 h1)⟩
theorem qem {P:Program} {Q:Exit->Act->World->Prop} (B:Nat) (p:List Nat) {l:List Oper} {id:Nat} {a:Act} {w:World} (hm:P.follows .mixedOrders=true)
 (hs:(Region.noSelect l.toArray&&(decide (p.length<=l.length)&&(qfh l.toArray p (Array.replicate l.length false)&&p.all fun i=>decide (i<l.length))))=true) (hQ:∀c a d v w,Q (.panic c) (a.put d v) w->Q (.panic c) a w)
 (h:lexL P Q (fun w' =>Away B w w') (p.map fun i=>(bare (l.getD i default),qal l (l.getD i default))) a w.drew):(Code.region id l.toArray true).wp P Q a w:=by
 simp only [ziy,decide_eq_true_eq,List.all_eq_true] at hs;exact qe0 p _ hm hs.1 (by simpa using hs.2.1) (by simpa using hs.2.2.1) hQ ((Away.refl _ _).drew) (qdc p a _ hs.2.2.2 h)
structure Keep (B:Nat) (L:List Nat) (a w:World):Prop where
 size:a.heap.size<=w.heap.size
 block:∀k,k<a.heap.size->(k<B\/k∈L)->w.heap[k]? =a.heap[k]?
namespace Keep
variable {B:Nat} {L:List Nat} {a b w:World}
theorem refl (B:Nat) (L:List Nat) (w:World):Keep B L w w:=⟨zhy _,fun _ _ _=>rfl⟩
theorem drew (h:Keep B L a w):Keep B L a w.drew:=⟨h.size,h.block⟩
theorem alloc (h:Keep B L a w) (o:Obj):Keep B L a (w.alloc o):=
 ⟨by simp;exact Nat.le_succ_of_le h.size,fun k hk hB=>(Below.heap_alloc _ _ _ (zky hk h.size)).trans (h.block k hk hB)⟩
theorem below (h:Keep B L a w) (k:Below w.heap.size w b):Keep B L a b:=
 ⟨zcy h.size k.size,fun j hj hB=>(k.block j (zky hj h.size)).trans (h.block j hj hB)⟩
theorem grown (h:Keep B L a w) {row:Option Nat} (hg:w.grownBy b row) (hr:∀k,row=some k->B<=k/\k ∉ L):Keep B L a b:=
 ⟨zcy h.size hg.size,fun j hj hB=>(hg.block j (zky hj h.size) (fun e=>by have:=hr j e.symm;rcases hB with hB|hB;omega;exact this.2 hB)).trans (h.block j hj hB)⟩
end Keep
theorem q5j {B:Nat} {L:List Nat} {W w1:World} (h:Keep B L W w1):(∀b o,(b<B\/b∈L)->b<W.heap.size->w1.cell? ⟨b,o,none⟩=W.cell? ⟨b,o,none⟩)/\(∀b o,(b<B\/b∈L)->b<W.heap.size->w1.frozen? ⟨b,o,none⟩=W.frozen? ⟨b,o,none⟩):=
 ⟨fun b o h1 h2=>World.cell?_of_block (a:=⟨b,o,none⟩) (h.block b h2 h1),fun b o h1 h2=>World.frozen?_of_block (a:=⟨b,o,none⟩) (h.block b h2 h1)⟩
theorem qf0 {P:Program} {Q:Exit->Act->World->Prop} (B:Nat) (L:List Nat) (p:List Nat) {l:List Oper} {id:Nat} {a:Act} {w:World} (hm:P.follows .mixedOrders=true)
 (hs:(Region.noSelect l.toArray&&(decide (p.length<=l.length)&&(qfh l.toArray p (Array.replicate l.length false)&&p.all fun i=>decide (i<l.length))))=true) (hQ:∀c a d v w,Q (.panic c) (a.put d v) w->Q (.panic c) a w)
 (h:lexL P Q (fun w' =>Keep B L w w') (p.map fun i=>(bare (l.getD i default),qal l (l.getD i default))) a w.drew):(Code.region id l.toArray true).wp P Q a w:=by
 simp only [ziy,decide_eq_true_eq,List.all_eq_true] at hs;exact qe0 p _ hm hs.1 (by simpa using hs.2.1) (by simpa using hs.2.2.1) hQ ((Keep.refl _ _ _).drew) (qdc p a _ hs.2.2.2 h)
theorem qgc {w:World} {base:Nat} {e:TypeId} {s n:Nat} {v:Value} {cs:List Value} (h:w.ownsRow base e s v n cs):w.drew.ownsRow base e s v n cs:=h
theorem mem_ready {md:Region.Mode} {ops:Array Oper} {L:Array Bool} {i:Nat}:
 i∈Region.ready md ops L↔L.getD i true=false/\∃o,ops[i]? =some o/\∀e∈o.after,Region.binds md e=true->L.getD e.on false=true:=by
 unfold Region.ready
 rw [List.mem_filter,List.mem_range]
 constructor
 · rintro⟨h1,h2⟩
   rw [ziy] at h2;obtain⟨h2,h3⟩:=h2;refine⟨by simpa using h2,ops[i],by simp [h1],?_⟩
   rw [Array.getElem?_eq_getElem h1] at h3;simp only [Option.map_some,Option.getD_some,Array.all_eq_true_iff_forall_mem,Bool.or_eq_true,Bool.not_eq_true'] at h3;intro e he hb
   rcases h3 e he with h|h
   · rw [hb] at h;cases h
   · exact h
 · rintro⟨h1,o,ho,h3⟩
   have hi:i<ops.size:=by
    rcases zry i ops.size with h|h
    · exact h
    · rw [zxy h] at ho;cases ho
   refine⟨hi,?_⟩
   rw [ziy]
   refine⟨by simp [h1],?_⟩
   rw [ho]
   simp only [Option.map_some,Option.getD_some,Array.all_eq_true_iff_forall_mem,Bool.or_eq_true,Bool.not_eq_true']
   intro e he
   by_cases hb:Region.binds md e=true
   · exact .inr (h3 e he hb)
   · exact .inl (by simpa using hb)
theorem qj7 {P:Program} {o:Oper} {a:Act} {w:World} {K K' :Act->World->Prop} {Q1 Q2:Exit->Act->World->Prop} (h:∀a w,K a w->K' a w)
 (h1:∀c a w,Q1 (.panic c) a w->Q2 (.panic c) a w) (h2:LetsOut Q1->LetsOut Q2) (hh:o.wp P a w K Q1):o.wp P a w K' Q2:=by
 unfold Oper.wp at*;generalize (execOp a.eval o).run P w=r at*
 cases r with
 | ok n w' =>
   cases n<;>simp only [Oper.upon] at hh ⊢<;>
    first
     | exact h _ _ hh
     | exact Calls.mono hh (fun e w'' he=>by cases e<;>first|exact h _ _ he|exact h1 _ _ _ he|exact h2 he)
     | exact Rows.mono hh (fun _ _ he=>h _ _ he)
 | halt x w' =>cases x<;>simp only [Oper.upon] at hh ⊢<;>first|exact h1 _ _ _ hh|exact hh
def pop (P:Program) (st:Oper) (Q:Exit->Act->World->Prop):Exit->Act->World->Prop
 | .normal,a,w=>st.wp P a w (fun a' w' =>Q .normal a' w') Q
 | x,a,w=>Q x a w
def two (P:Program) (Q:Exit->Act->World->Prop) (l2:List (Oper×Option (Option Tmp×Bool))):Exit->Act->World->Prop
 | .normal,a,w=>lexL P Q (fun w' =>w' =w) l2 a w
 | x,a,w=>Q x a w
theorem qiw {P:Program} {ops:Array Oper} {Q:Exit->Act->World->Prop} {md:Region.Mode} {S S' :World->Prop} (hS:∀w,S' w->S w):∀(fuel:Nat) (listed:Array Bool) (a:Act) (w:World),wpAnyH P md ops Q S' fuel listed a w->wpAnyH P md ops Q S fuel listed a w
 | 0,_,_,_,h=>h
 | fuel+1,_,_,_,h=>⟨h.1,fun i hi=>wpOp_mono (fun a' w' h' =>⟨hS _ h'.1,qiw hS fuel _ a' w' h'.2⟩) (h.2 i hi)⟩
theorem q1j {P:Program} {ops:Array Oper} {Q1 Q2:Exit->Act->World->Prop} {i:Nat} {K:Act->World->Prop} {a:Act} {w:World} (h1:∀c a w,Q1 (.panic c) a w->Q2 (.panic c) a w) (h2:LetsOut Q1->LetsOut Q2)
 (h:wpOp P ops Q1 i K a w):wpOp P ops Q2 i K a w:=by
 unfold wpOp at*
 cases ho:ops[i]? with
 | none=>rw [ho] at h;exact h
 | some o=>
   rw [ho] at h
   simp only at h ⊢
   by_cases hw:Region.wanted o (yielded ops a.tmps)=true
   · rw [if_pos hw] at h ⊢
     rcases h with h|⟨h3,h4⟩
     · exact .inl (qj7 (fun _ _ h=>h) h1 h2 h)
     · exact .inr ⟨h3,h2 h4⟩
   · rw [if_neg hw] at h ⊢
     exact h
section
variable {P:Program} {ops:Array Oper} {Q:Exit->Act->World->Prop} {S:World->Prop} {l2:List (Oper×Option (Option Tmp×Bool))}
theorem q25 (hs:Region.noSelect ops=true) (hQ:∀c a d v w,Q (.panic c) (a.put d v) w->Q (.panic c) a w) (p2:List Nat)
 (h2:∀a w,lexL P Q (fun w' =>w' =w) l2 a w->lexH P ops Q (fun w' =>w' =w) p2 a w):∀(p1:List Nat) (fuel:Nat) (listed:Array Bool) (a:Act) (w:World),
 (p1++p2).length<=fuel->qfh ops (p1++p2) listed=true->S w->lexH P ops (two P Q l2) S p1 a w->wpAnyH P .any ops Q S fuel listed a w:=by
 intro p1
 induction p1 with
 | nil=>
   intro fuel listed a w hf hp hS h;have h:lexL P Q (fun w' =>w' =w) l2 a w:=h
   exact qiw (S' :=fun w' =>w' =w) (fun w' e=>by subst e;exact hS) _ _ _ _ (qj9 (S:=fun w' =>w' =w) hs hQ p2 fuel listed a w (by simpa using hf) (by simpa using hp) rfl (h2 a w h))
 | cons i r ih=>
   intro fuel listed a w hf hp hS h;obtain⟨n,rfl⟩:∃n,fuel=n+1:=⟨fuel-1,by simp at hf;omega⟩
   have hn:(r++p2).length<=n:=by simp at hf ⊢;omega
   simp only [List.cons_append,qfh,ziy] at hp;obtain⟨hp1,hp2⟩:=hp;unfold lexH at h
   by_cases hq:quietAt ops i=true
   · rw [if_pos hq] at h
     rw [if_pos hq,ziy] at hp1;obtain⟨o,v,ho,hy,h⟩:=h;exact wpAnyH_take ho hs hp1.1 hp1.2 (fun c a w hh=>hQ c a _ _ w hh) hy hS (ih n _ _ w hn hp2 hS h)
   · rw [if_neg hq] at h
     rw [if_neg hq] at hp1;have hr:Region.ready .any ops listed= [i]:=by simpa using hp1
     refine wpAnyH_all hr sI (fun j hj=> ?_)
     have hj:j=i:=by simpa using hj
     subst hj;exact q1j (Q1:=two P Q l2) (fun _ _ _ h=>h) (fun⟨a,w,h⟩=>⟨a,w,h⟩) (wpOp_mono (fun a' w' hh=>⟨hh.1,ih n _ a' w' hn hp2 hh.1 hh.2⟩) h)
end
theorem qou {P:Program} {Q:Exit->Act->World->Prop} (S:World->Prop) (p1 p2:List Nat) {l:List Oper} {id:Nat} {a:Act} {w:World} (hm:P.follows .mixedOrders=true)
 (hs:(Region.noSelect l.toArray&&(decide ((p1++p2).length<=l.length)&&(qfh l.toArray (p1++p2) (Array.replicate l.length false)&&(p1++p2).all fun i=>decide (i<l.length))))=true) (hQ:∀c a d v w,Q (.panic c) (a.put d v) w->Q (.panic c) a w)
 (hS:S w.drew) (h:lexL P (two P Q (p2.map fun i=>(bare (l.getD i default),qal l (l.getD i default)))) S (p1.map fun i=>(bare (l.getD i default),qal l (l.getD i default))) a w.drew):(Code.region id l.toArray true).wp P Q a w:=by
 simp only [ziy,decide_eq_true_eq,List.all_eq_true] at hs;obtain⟨s1,s2,s3,s4⟩:=hs;refine wp_region_held hm (q25 s1 hQ p2 (fun a w h=>qdc p2 a w (fun i hi=>s4 i (by simp [hi])) h) p1 _ _ a _ (by simpa using s2) (by simpa using s3) hS (qdc p1 a _ (fun i hi=>s4 i (by simp [hi])) h))
theorem qex {P:Program} {Q:Exit->Act->World->Prop} (p1 p2:List Nat) {l:List Oper} {id:Nat} {a:Act} {w:World} (hm:P.follows .mixedOrders=true)
 (hs:(Region.noSelect l.toArray&&(decide ((p1++p2).length<=l.length)&&(qfh l.toArray (p1++p2) (Array.replicate l.length false)&&(p1++p2).all fun i=>decide (i<l.length))))=true) (hQ:∀c a d v w,Q (.panic c) (a.put d v) w->Q (.panic c) a w)
 (h:lexL P (two P Q (p2.map fun i=>(bare (l.getD i default),qal l (l.getD i default)))) (fun w' =>RowKit.Below w.heap.size w w') (p1.map fun i=>(bare (l.getD i default),qal l (l.getD i default))) a w.drew):(Code.region id l.toArray true).wp P Q a w:=
 qou _ p1 p2 hm hs hQ ((RowKit.Below.refl _ _).drew) h
inductive PTree where
 | done:PTree
 | one (i:Nat) (r:PTree):PTree
 | two (i j:Nat) (r s:PTree):PTree
 | three (i j k:Nat) (r s t:PTree):PTree
section
variable {P:Program} {ops:Array Oper} {Q:Exit->Act->World->Prop} {S:World->Prop}
end
structure OpAt (L:List Oper) (i:Nat) (o:Oper):Prop where
 eq:bare (L.getD i default)=o
 on:(L.getD i default).guard=none
 lt:i<L.length
section
variable {P:Program} {Q:Exit->Act->World->Prop} {S:World->Prop} {L:List Oper}
def qoz (P:Program) (Q:Exit->Act->World->Prop) (S:World->Prop) (L:List Oper):PTree->Act->World->Prop
 | .done,a,w=>Q .normal a w
 | .one i r,a,w=>(∃o v,OpAt L i o/\qa3 o.op=true/\(∀w,S w->(execOp a.eval o).run P w=.ok (.value v) w)/\qoz P Q S L r (a.put o.dst v) w)\/(∃o,OpAt L i o/\qa3 o.op=false/\o.wp P a w (fun a' w' =>S w' /\qoz P Q S L r a' w') Q)
 | .two i j r s,a,w=>(∃o,OpAt L i o/\qa3 o.op=false/\o.wp P a w (fun a' w' =>S w' /\qoz P Q S L r a' w') Q)/\(∃o,OpAt L j o/\qa3 o.op=false/\o.wp P a w (fun a' w' =>S w' /\qoz P Q S L s a' w') Q)
 | .three i j k r s t,a,w=>(∃o,OpAt L i o/\qa3 o.op=false/\o.wp P a w (fun a' w' =>S w' /\qoz P Q S L r a' w') Q)/\(∃o,OpAt L j o/\qa3 o.op=false/\o.wp P a w (fun a' w' =>S w' /\qoz P Q S L s a' w') Q)/\(∃o,OpAt L k o/\qa3 o.op=false/\o.wp P a w (fun a' w' =>S w' /\qoz P Q S L t a' w') Q)
def q7x (P:Program) (Q:Exit->Act->World->Prop) (S:World->Prop) (L:List Oper) (i:Nat) (r:PTree) (a:Act) (w:World):Prop:=
 ∃o,OpAt L i o/\qa3 o.op=false/\o.wp P a w (fun a' w' =>S w' /\qoz P Q S L r a' w') Q
end
attribute [irreducible] qoz q7x
end Pg
