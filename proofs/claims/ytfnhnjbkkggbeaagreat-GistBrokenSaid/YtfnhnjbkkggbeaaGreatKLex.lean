/-A region that draws its order-/
import Derived.Test.YtfnhnjbkkggbeaaGreatKWords
import Derived.OrdersHeld
import Derived.Deep.RegionHeld
set_option linter.unusedVariables false
set_option linter.unusedSimpArgs false
namespace Pg
theorem pq {p:Prop} (h:p:=by intro _ _ d _ _ h;cases d<;>exact h):p:=h
theorem kr {p:Prop} (h:p:=by kernel_rfl):p:=h
end Pg
namespace Pg
open Go
def qaz:Op->Bool
 | .load .. | .move _ | .pick .. | .fieldAddr .. | .field .. | .build .. | .unOp .. | .extract .. | .assign _ | .binOp .. | .makeInterface .. | .indexAddr .. | .index .. | .convert .. | .nilCheck _ | .slice .. | .makeFunc .. =>true
 | .call {callee:=.builtin .len,.. }=>true
 | .call {callee:=.builtin .min,.. }=>true
 | .call {callee:=.builtin .max,.. }=>true
 | _=>false
def quietAt (ops:Array Oper) (i:Nat):Bool:=match ops[i]? with|some o=>qaz o.op|none=>false
def qeo (ops:Array Oper):List Nat->Array Bool->Bool
 | [],listed=>Region.ready .any ops listed== []
 | i::r,listed=>(if quietAt ops i then Region.free .any ops listed i&&(Region.ready .any ops listed).contains i else Region.ready .any ops listed== [i])&&qeo ops r (listed.setIfInBounds i true)
section
variable {P:Program} {ops:Array Oper} {Q:Exit->Act->World->Prop} {S:World->Prop}
def lexH (P:Program) (ops:Array Oper) (Q:Exit->Act->World->Prop) (S:World->Prop):List Nat->Act->World->Prop
 | [],a,w=>Q .normal a w
 | i::r,a,w=>if quietAt ops i then(∃o v,ops[i]? =some o/\YieldsIf P ops S o v a/\lexH P ops Q S r (a.put o.dst v) w)
    else wpOp P ops Q i (fun a' w' =>S w' /\lexH P ops Q S r a' w') a w
theorem qip (hs:Region.noSelect ops=true) (hQ:∀c a d v w,Q (.panic c) (a.put d v) w->Q (.panic c) a w):∀(l:List Nat) (fuel:Nat) (listed:Array Bool) (a:Act) (w:World),
 l.length<=fuel->qeo ops l listed=true->S w->lexH P ops Q S l a w->wpAnyH P .any ops Q S fuel listed a w:=by
 intro l
 induction l with
 | nil=>
   intro fuel listed a w _ hp _ h;exact wpAnyH_done (by simpa [qeo] using hp) h fuel
 | cons i r ih=>
   intro fuel listed a w hf hp hS h;obtain⟨n,rfl⟩:∃n,fuel=n+1:=⟨fuel-1,by simp at hf;omega⟩
   have hn:r.length<=n:=by simpa using hf
   simp only [qeo,ziy] at hp;obtain⟨hp1,hp2⟩:=hp;unfold lexH at h
   by_cases hq:quietAt ops i=true
   · rw [if_pos hq] at h
     rw [if_pos hq,ziy] at hp1;obtain⟨o,v,ho,hy,h⟩:=h;exact wpAnyH_take ho hs hp1.1 hp1.2 (fun c a w hh=>hQ c a _ _ w hh) hy hS (ih n _ _ w hn hp2 hS h)
   · rw [if_neg hq] at h
     rw [if_neg hq] at hp1;have hr:Region.ready .any ops listed= [i]:=by simpa using hp1
     refine wpAnyH_all hr sI (fun j hj=> ?_)
     have hj:j=i:=by simpa using hj
     subst hj;exact wpOp_mono (fun a' w' hh=>⟨hh.1,ih n _ a' w' hn hp2 hh.1 hh.2⟩) h
theorem qd7 (l:List Nat) {id:Nat} {a:Act} {w:World} (S:World->Prop) (hm:P.follows .mixedOrders=true) (hs:Region.noSelect ops=true)
 (hl:l.length<=ops.size) (hp:qeo ops l (Array.replicate ops.size false)=true) (hQ:∀c a d v w,Q (.panic c) (a.put d v) w->Q (.panic c) a w)
 (hS:S w.drew) (h:lexH P ops Q S l a w.drew):(Code.region id ops true).wp P Q a w:=
 wp_region_held hm (qip hs hQ l _ _ a _ hl hp hS h)
def bare (o : Oper) : Oper := ⟨o.dst,o.op,o.type,"",#[],none⟩
theorem qcb (ρ:Operand->Value) (o:Oper):execOp ρ (bare o)=execOp ρ o:=by cases o;rfl
def qak (l:List Oper) (o:Oper):Option (Option Tmp×Bool):=match o.guard with
 | none=>none
 | some (j,want)=>some ((l[j]?).bind (·.dst),want)
def qeg (g:Option (Option Tmp×Bool)) (tmps:Array Value):Bool:=match g with
 | none=>true
 | some (d,want)=>(match d.bind (tmps[·]?) with|some (.bool b)=>some b|_=>none)==some want
theorem qf4 (l:List Oper) (o:Oper) (tmps:Array Value):Region.wanted o (yielded l.toArray tmps)=qeg (qak l o) tmps:=by
 unfold Region.wanted qak qeg yielded
 cases o.guard with
 | none=>rfl
 | some x=>simp<;>rfl
def lexL (P:Program) (Q:Exit->Act->World->Prop) (S:World->Prop):List (Oper×Option (Option Tmp×Bool))->Act->World->Prop
 | [],a,w=>Q .normal a w
 | (o,g)::r,a,w=>(∃v,qaz o.op=true/\qeg g a.tmps=true/\(∀w,S w->(execOp a.eval o).run P w=.ok (.value v) w)/\lexL P Q S r (a.put o.dst v) w)\/(qeg g a.tmps=false/\S w/\lexL P Q S r (a.put o.dst undef) w)\/
     (qaz o.op=false/\qeg g a.tmps=true/\o.wp P a w (fun a' w' =>S w' /\lexL P Q S r a' w') Q)
theorem qcq {l:List Oper}:∀(p:List Nat) (a:Act) (w:World),(∀i∈p,i<l.length)->lexL P Q S (p.map fun i=>(bare (l.getD i default),qak l (l.getD i default))) a w->lexH P l.toArray Q S p a w:=by
 intro p
 induction p with
 | nil=>intro a w _ h;exact h
 | cons i r ih=>
   intro a w hl h
   have hi:l.toArray[i]? =some (l.getD i default):=by
    have:=hl i sI
    simp [zpy,this]
   have hr:∀j∈r,j<l.length:=fun j hj=>hl j (by simp [hj])
   unfold lexH;rw [zdy] at h;unfold lexL at h;rw [<-qf4] at h;generalize l.getD i default=o at*
   rcases h with ⟨v,hk,hw,hy,h⟩|⟨hw,hS,h⟩|⟨hk,hw,h⟩
   · rw [if_pos (by unfold quietAt;rw [hi];exact hk)]
     exact⟨o,v,hi,.inl ⟨hw,fun w hw=>by rw [<-qcb];exact hy w hw⟩,ih _ _ hr h⟩
   · split
     · exact⟨o,undef,hi,.inr ⟨hw,rfl⟩,ih _ _ hr h⟩
     · unfold wpOp
       simp only [hi,hw]
       exact⟨hS,ih _ _ hr h⟩
   · rw [if_neg (by unfold quietAt;rw [hi];simp only [show qaz o.op=false from hk];decide)]
     unfold wpOp
     simp only [hi,hw,if_true]
     refine .inl (Oper.wp_mono (K:=fun a' w' =>S w' /\lexL P Q S (r.map fun i=>(bare (l.getD i default),qak l (l.getD i default))) a' w') (fun a' w' hh=>⟨hh.1,ih _ _ hr hh.2⟩) ?_)
     unfold Oper.wp at h ⊢;rw [qcb] at h;exact h
theorem qah (p:List Nat) {l:List Oper} {id:Nat} {a:Act} {w:World} (hm:P.follows .mixedOrders=true)
 (hs:(Region.noSelect l.toArray&&(decide (p.length<=l.length)&&(qeo l.toArray p (Array.replicate l.length false)&&p.all fun i=>decide (i<l.length))))=true) (hQ:∀c a d v w,Q (.panic c) (a.put d v) w->Q (.panic c) a w)
 (h:lexL P Q (fun w' =>RowKit.Below w.heap.size w w') (p.map fun i=>(bare (l.getD i default),qak l (l.getD i default))) a w.drew):(Code.region id l.toArray true).wp P Q a w:=by
 simp only [ziy,decide_eq_true_eq,List.all_eq_true] at hs;exact qd7 p _ hm hs.1 (by simpa using hs.2.1) (by simpa using hs.2.2.1) hQ ((RowKit.Below.refl _ _).drew) (qcq p a _ hs.2.2.2 h)
theorem qa8 {r:List (Oper×Option (Option Tmp×Bool))} {o:Oper} {g:Option (Option Tmp×Bool)} {v:Value} {a:Act} {w:World} (hw:qeg g a.tmps=true) (hk:qaz o.op=true)
 (hy:∀w,S w->(execOp a.eval o).run P w=.ok (.value v) w) (h:lexL P Q S r (a.put o.dst v) w):lexL P Q S ((o,g)::r) a w:=
 .inl ⟨v,hk,hw,hy,h⟩
theorem qop {r:List (Oper×Option (Option Tmp×Bool))} {o:Oper} {g:Option (Option Tmp×Bool)} {a:Act} {w:World} (hw:qeg g a.tmps=false) (hS:S w) (h:lexL P Q S r (a.put o.dst undef) w):
 lexL P Q S ((o,g)::r) a w:=.inr (.inl ⟨hw,hS,h⟩)
theorem qab {r:List (Oper×Option (Option Tmp×Bool))} {o:Oper} {g:Option (Option Tmp×Bool)} {a:Act} {w:World} (hw:qeg g a.tmps=true) (hk:qaz o.op=false)
 (h:∀K:Act->World->Prop,Shut (∀a w,S w->lexL P Q S r a w->K a w)->Oper.wp P o a w K Q):lexL P Q S ((o,g)::r) a w:=
 .inr (.inr ⟨hk,hw,h _ (fun _ _ hS hl=>⟨hS,hl⟩)⟩)
theorem qbj {r:List (Oper×Option (Option Tmp×Bool))} {o:Oper} {d:Nat} {want:Bool} {a:Act} {w:World} (hv:a.tmps[d]? =some (.bool want)) (h:lexL P Q S ((o,none)::r) a w):
 lexL P Q S ((o,some (some d,want))::r) a w:=by
 have hw:qeg (some (some d,want)) a.tmps=true:=by simp [qeg,hv]
 unfold lexL at h ⊢
 rcases h with ⟨v,hk,_,hy,h⟩|⟨h,_⟩|⟨hk,_,h⟩
 · exact .inl ⟨v,hk,hw,hy,h⟩
 · cases h
 · exact .inr (.inr ⟨hk,hw,h⟩)
theorem qa3 {r:List (Oper×Option (Option Tmp×Bool))} {o:Oper} {d:Nat} {want:Bool} {a:Act} {w:World} (hv:a.tmps[d]? =some (.bool (!want))) (hS:S w) (h:lexL P Q S r (a.put o.dst undef) w):
 lexL P Q S ((o,some (some d,want))::r) a w:=
 qop (by simp [qeg,hv]) hS h
theorem qtw {X:Bool} {r:List (Oper×Option (Option Tmp×Bool))} {o:Oper} {d:Nat} {want:Bool} {a:Act} {w:World} (hv:a.tmps[d]? =some (.bool X))
 (h1:X=want->lexL P Q S ((o,none)::r) (a.put (some d) (.bool want)) w) (h2:X=(!want)->S w/\lexL P Q S r ((a.put (some d) (.bool !want)).put o.dst undef) w):lexL P Q S ((o,some (some d,want))::r) a w:=by
 have hset:∀b,X=b->a.put (some d) (.bool b)=a:=fun b hb=>by
  subst hb;obtain⟨tmps,defers⟩:=a
  simp only [Act.put] at*
  congr 1
  apply Array.ext_getElem?
  intro i
  rw [Array.getElem?_setIfInBounds]
  split
  · rename_i h;subst h
    split
    · exact hv.symm
    · rename_i hlt
      rw [zxy oQ] at hv
      cases hv
  · rfl
 by_cases hX:X=want
 · rw [hset _ hX] at h1
   exact qbj (by rw [hv,hX]) (h1 hX)
 · have hX:X=(!want):=by cases X<;>cases want<;>simp_all
   rw [hset _ hX] at h2;exact qa3 (by rw [hv,hX]) (h2 hX).1 (h2 hX).2
theorem qaw {X:Bool} {r:List (Oper×Option (Option Tmp×Bool))} {o:Oper} {d:Nat} {want:Bool} {a:Act} {w:World} (hv:a.tmps[d]? =some (.bool X)) (hS:S w)
 (h1:X=want->lexL P Q S ((o,none)::r) (a.put (some d) (.bool want)) w) (h2:X=(!want)->lexL P Q S r ((a.put (some d) (.bool !want)).put o.dst undef) w):lexL P Q S ((o,some (some d,want))::r) a w:=
 qtw hv h1 fun h=>⟨hS,h2 h⟩
theorem qaa {tmps:Array Value}:qeg none tmps=true:=rfl
theorem qad {a:Act} {w:World} (h:Q .normal a w):lexL P Q S [] a w:=h
end
attribute [irreducible] lexL
open Go.RowKit
theorem qbd {P:Program} {Q:Exit->Act->World->Prop} (B:Nat) (p:List Nat) {l:List Oper} {id:Nat} {a:Act} {w:World} (hm:P.follows .mixedOrders=true)
 (hs:(Region.noSelect l.toArray&&(decide (p.length<=l.length)&&(qeo l.toArray p (Array.replicate l.length false)&&p.all fun i=>decide (i<l.length))))=true) (hQ:∀c a d v w,Q (.panic c) (a.put d v) w->Q (.panic c) a w)
 (h:lexL P Q (fun w' =>RowKit.Below B w w') (p.map fun i=>(bare (l.getD i default),qak l (l.getD i default))) a w.drew):(Code.region id l.toArray true).wp P Q a w:=by
 simp only [ziy,decide_eq_true_eq,List.all_eq_true] at hs;exact qd7 p _ hm hs.1 (by simpa using hs.2.1) (by simpa using hs.2.2.1) hQ ((RowKit.Below.refl _ _).drew) (qcq p a _ hs.2.2.2 h)
theorem qac {P:Program} {Q:Exit->Act->World->Prop} {l:List Oper} {id:Nat} {a:Act} {w:World} (hm:P.follows .mixedOrders=true)
 (hs:(Region.noSelect l.toArray&&(decide ((List.range l.length).length<=l.length)&&(qeo l.toArray (List.range l.length) (Array.replicate l.length false)&&(List.range l.length).all fun i=>decide (i<l.length))))=true) (hQ:∀c a d v w,Q (.panic c) (a.put d v) w->Q (.panic c) a w)
 (h:lexL P Q (fun w' =>RowKit.Below w.heap.size w w') (l.map fun o=>(bare o,qak l o)) a w.drew):(Code.region id l.toArray true).wp P Q a w:=by
 refine qah (List.range l.length) hm hs hQ ?_
 have e:((List.range l.length).map fun i=>(bare (l.getD i default),qak l (l.getD i default)))=l.map fun o=>(bare o,qak l o):=by
  apply List.ext_getElem
  · simp
  · intro i h1 h2
    simp at h1
    simp [zpy,h1]
 rw [e]
 exact h
theorem q31 {B:Nat} {W:World} {o1 o2:Obj} (hB:B<=W.heap.size):Below B (W.alloc o1) (W.alloc o2):=
 ⟨rfl,rfl,rfl,by simp,fun k hk=>(Below.heap_alloc _ _ _ oQ).trans (Below.heap_alloc _ _ _ oQ).symm⟩
theorem qcj {w:World} {o o1 o2:Obj}:Below (w.heap.size+1) ((w.alloc o).alloc o1) ((w.alloc o).alloc o2):=q31 sI
theorem q4f {B:Nat} {W w1:World} (hb:Below B W w1):(∀b o,b<B->w1.cell? ⟨b,o,none⟩=W.cell? ⟨b,o,none⟩)/\(∀b o,b<B->w1.frozen? ⟨b,o,none⟩=W.frozen? ⟨b,o,none⟩):=
 ⟨fun b o h=>hb.cell (p:=⟨b,o,none⟩) h,fun b o h=>hb.frozen (p:=⟨b,o,none⟩) h⟩
structure Away (B:Nat) (a w:World):Prop where
 size:a.heap.size<=w.heap.size
 block:∀k,k<a.heap.size->k≠B->w.heap[k]? =a.heap[k]?
end Pg
namespace Pg
open Go Go.RowKit
theorem lqx {P:Program} {Q:Exit->Act->World->Prop} {S:World->Prop} {r:List (Oper×Option (Option Tmp×Bool))} {o:Oper} {v:Value} {a:Act} {w:World} (h:lexL P Q S r (a.put o.dst v) w) (hk:qaz o.op=true:=by rfl) (hy:∀w,S w->(execOp a.eval o).run P w=.ok (.value v) w:=by (intro wq hq;obtain⟨hcq,hfq⟩:=qa1 hq;go_simp;try with_reducible rfl)):lexL P Q S ((o,none)::r) a w:=qa8 qaa hk hy h
theorem lqy {P:Program} {Q:Exit->Act->World->Prop} {S:World->Prop} {r:List (Oper×Option (Option Tmp×Bool))} {o:Oper} {v:Value} {a:Act} {w:World} (h:lexL P Q S r (a.put o.dst v) w) (hk:qaz o.op=true:=by rfl) (hy:∀w,S w->(execOp a.eval o).run P w=.ok (.value v) w:=by (intro wq hq;obtain⟨hcq,hfq⟩:=q4f hq;go_simp;try with_reducible rfl)):lexL P Q S ((o,none)::r) a w:=qa8 qaa hk hy h
namespace Away
variable {B:Nat} {a b w:World}
theorem refl (B:Nat) (w:World):Away B w w:=⟨zhy _,fun _ _ _=>rfl⟩
theorem drew (h:Away B a w):Away B a w.drew:=⟨h.size,h.block⟩
theorem put (h:Away B a w) (i:Nat) (u:Value):Away B a (w.setCell ⟨B,i,none⟩ u):=
 ⟨by simp [World.setCell];exact h.size,fun k hk hB=>(Below.heap_setCell _ _ _ _ hB).trans (h.block k hk hB)⟩
theorem alloc (h:Away B a w) (o:Obj):Away B a (w.alloc o):=
 ⟨by simp;exact Nat.le_succ_of_le h.size,fun k hk hB=>(Below.heap_alloc _ _ _ (zky hk h.size)).trans (h.block k hk hB)⟩
theorem below (h:Away B a w) (k:Below w.heap.size w b):Away B a b:=
 ⟨zcy h.size k.size,fun j hj hB=>(k.block j (zky hj h.size)).trans (h.block j hj hB)⟩
end Away
theorem q0f {B:Nat} {W w1:World} (h:Away B W w1):(∀b o,b≠B->b<W.heap.size->w1.cell? ⟨b,o,none⟩=W.cell? ⟨b,o,none⟩)/\(∀b o,b≠B->b<W.heap.size->w1.frozen? ⟨b,o,none⟩=W.frozen? ⟨b,o,none⟩):=
 ⟨fun b o h1 h2=>World.cell?_of_block (a:=⟨b,o,none⟩) (h.block b h2 h1),fun b o h1 h2=>World.frozen?_of_block (a:=⟨b,o,none⟩) (h.block b h2 h1)⟩
theorem qdw {P:Program} {Q:Exit->Act->World->Prop} (B:Nat) (p:List Nat) {l:List Oper} {id:Nat} {a:Act} {w:World} (hm:P.follows .mixedOrders=true)
 (hs:(Region.noSelect l.toArray&&(decide (p.length<=l.length)&&(qeo l.toArray p (Array.replicate l.length false)&&p.all fun i=>decide (i<l.length))))=true) (hQ:∀c a d v w,Q (.panic c) (a.put d v) w->Q (.panic c) a w)
 (h:lexL P Q (fun w' =>Away B w w') (p.map fun i=>(bare (l.getD i default),qak l (l.getD i default))) a w.drew):(Code.region id l.toArray true).wp P Q a w:=by
 simp only [ziy,decide_eq_true_eq,List.all_eq_true] at hs;exact qd7 p _ hm hs.1 (by simpa using hs.2.1) (by simpa using hs.2.2.1) hQ ((Away.refl _ _).drew) (qcq p a _ hs.2.2.2 h)
structure Keep (B:Nat) (L:List Nat) (a w:World):Prop where
 size:a.heap.size<=w.heap.size
 block:∀k,k<a.heap.size->(k<B\/k∈L)->w.heap[k]? =a.heap[k]?
namespace Keep
variable {B:Nat} {L:List Nat} {a b w:World}
theorem refl (B:Nat) (L:List Nat) (w:World):Keep B L w w:=⟨zhy _,fun _ _ _=>rfl⟩
theorem drew (h:Keep B L a w):Keep B L a w.drew:=⟨h.size,h.block⟩
theorem alloc (h:Keep B L a w) (o:Obj):Keep B L a (w.alloc o):=
 ⟨by simp;exact Nat.le_succ_of_le h.size,fun k hk hB=>(Below.heap_alloc _ _ _ (zky hk h.size)).trans (h.block k hk hB)⟩
theorem below (h:Keep B L a w) (k:Below w.heap.size w b):Keep B L a b:=
 ⟨zcy h.size k.size,fun j hj hB=>(k.block j (zky hj h.size)).trans (h.block j hj hB)⟩
theorem grown (h:Keep B L a w) {row:Option Nat} (hg:w.grownBy b row) (hr:∀k,row=some k->B<=k/\k ∉ L):Keep B L a b:=
 ⟨zcy h.size hg.size,fun j hj hB=>(hg.block j (zky hj h.size) (fun e=>by have:=hr j e.symm;rcases hB with hB|hB;omega;exact this.2 hB)).trans (h.block j hj hB)⟩
end Keep
theorem q1u {B:Nat} {L:List Nat} {W w1:World} (h:Keep B L W w1):(∀b o,(b<B\/b∈L)->b<W.heap.size->w1.cell? ⟨b,o,none⟩=W.cell? ⟨b,o,none⟩)/\(∀b o,(b<B\/b∈L)->b<W.heap.size->w1.frozen? ⟨b,o,none⟩=W.frozen? ⟨b,o,none⟩):=
 ⟨fun b o h1 h2=>World.cell?_of_block (a:=⟨b,o,none⟩) (h.block b h2 h1),fun b o h1 h2=>World.frozen?_of_block (a:=⟨b,o,none⟩) (h.block b h2 h1)⟩
theorem qe5 {P:Program} {Q:Exit->Act->World->Prop} (B:Nat) (L:List Nat) (p:List Nat) {l:List Oper} {id:Nat} {a:Act} {w:World} (hm:P.follows .mixedOrders=true)
 (hs:(Region.noSelect l.toArray&&(decide (p.length<=l.length)&&(qeo l.toArray p (Array.replicate l.length false)&&p.all fun i=>decide (i<l.length))))=true) (hQ:∀c a d v w,Q (.panic c) (a.put d v) w->Q (.panic c) a w)
 (h:lexL P Q (fun w' =>Keep B L w w') (p.map fun i=>(bare (l.getD i default),qak l (l.getD i default))) a w.drew):(Code.region id l.toArray true).wp P Q a w:=by
 simp only [ziy,decide_eq_true_eq,List.all_eq_true] at hs;exact qd7 p _ hm hs.1 (by simpa using hs.2.1) (by simpa using hs.2.2.1) hQ ((Keep.refl _ _ _).drew) (qcq p a _ hs.2.2.2 h)
theorem qfh {w:World} {base:Nat} {e:TypeId} {s n:Nat} {v:Value} {cs:List Value} (h:w.ownsRow base e s v n cs):w.drew.ownsRow base e s v n cs:=h
theorem mem_ready {md:Region.Mode} {ops:Array Oper} {L:Array Bool} {i:Nat}:
 i∈Region.ready md ops L↔L.getD i true=false/\∃o,ops[i]? =some o/\∀e∈o.after,Region.binds md e=true->L.getD e.on false=true:=by
 unfold Region.ready
 rw [List.mem_filter,List.mem_range]
 constructor
 · rintro⟨h1,h2⟩
   rw [ziy] at h2;obtain⟨h2,h3⟩:=h2;refine⟨by simpa using h2,ops[i],by simp [h1],?_⟩
   rw [Array.getElem?_eq_getElem h1] at h3;simp only [Option.map_some,Option.getD_some,Array.all_eq_true_iff_forall_mem,Bool.or_eq_true,Bool.not_eq_true'] at h3;intro e he hb
   rcases h3 e he with h|h
   · rw [hb] at h;cases h
   · exact h
 · rintro⟨h1,o,ho,h3⟩
   have hi:i<ops.size:=by
    rcases zry i ops.size with h|h
    · exact h
    · rw [zxy h] at ho;cases ho
   refine⟨hi,?_⟩
   rw [ziy]
   refine⟨by simp [h1],?_⟩
   rw [ho]
   simp only [Option.map_some,Option.getD_some,Array.all_eq_true_iff_forall_mem,Bool.or_eq_true,Bool.not_eq_true']
   intro e he
   by_cases hb:Region.binds md e=true
   · exact .inr (h3 e he hb)
   · exact .inl (by simpa using hb)
theorem qil {P:Program} {o:Oper} {a:Act} {w:World} {K K' :Act->World->Prop} {Q1 Q2:Exit->Act->World->Prop} (h:∀a w,K a w->K' a w)
 (h1:∀c a w,Q1 (.panic c) a w->Q2 (.panic c) a w) (h2:LetsOut Q1->LetsOut Q2) (hh:o.wp P a w K Q1):o.wp P a w K' Q2:=by
 unfold Oper.wp at*;generalize (execOp a.eval o).run P w=r at*
 cases r with
 | ok n w' =>
   cases n<;>simp only [Oper.upon] at hh ⊢<;>
    first
     | exact h _ _ hh
     | exact Calls.mono hh (fun e w'' he=>by cases e<;>first|exact h _ _ he|exact h1 _ _ _ he|exact h2 he)
     | exact Rows.mono hh (fun _ _ he=>h _ _ he)
 | halt x w' =>cases x<;>simp only [Oper.upon] at hh ⊢<;>first|exact h1 _ _ _ hh|exact hh
def pop (P:Program) (st:Oper) (Q:Exit->Act->World->Prop):Exit->Act->World->Prop
 | .normal,a,w=>st.wp P a w (fun a' w' =>Q .normal a' w') Q
 | x,a,w=>Q x a w
def two (P:Program) (Q:Exit->Act->World->Prop) (l2:List (Oper×Option (Option Tmp×Bool))):Exit->Act->World->Prop
 | .normal,a,w=>lexL P Q (fun w' =>w' =w) l2 a w
 | x,a,w=>Q x a w
theorem qhk {P:Program} {ops:Array Oper} {Q:Exit->Act->World->Prop} {md:Region.Mode} {S S' :World->Prop} (hS:∀w,S' w->S w):∀(fuel:Nat) (listed:Array Bool) (a:Act) (w:World),wpAnyH P md ops Q S' fuel listed a w->wpAnyH P md ops Q S fuel listed a w
 | 0,_,_,_,h=>h
 | fuel+1,_,_,_,h=>⟨h.1,fun i hi=>wpOp_mono (fun a' w' h' =>⟨hS _ h'.1,qhk hS fuel _ a' w' h'.2⟩) (h.2 i hi)⟩
theorem qx4 {P:Program} {ops:Array Oper} {Q1 Q2:Exit->Act->World->Prop} {i:Nat} {K:Act->World->Prop} {a:Act} {w:World} (h1:∀c a w,Q1 (.panic c) a w->Q2 (.panic c) a w) (h2:LetsOut Q1->LetsOut Q2)
 (h:wpOp P ops Q1 i K a w):wpOp P ops Q2 i K a w:=by
 unfold wpOp at*
 cases ho:ops[i]? with
 | none=>rw [ho] at h;exact h
 | some o=>
   rw [ho] at h
   simp only at h ⊢
   by_cases hw:Region.wanted o (yielded ops a.tmps)=true
   · rw [if_pos hw] at h ⊢
     rcases h with h|⟨h3,h4⟩
     · exact .inl (qil (fun _ _ h=>h) h1 h2 h)
     · exact .inr ⟨h3,h2 h4⟩
   · rw [if_neg hw] at h ⊢
     exact h
section
variable {P:Program} {ops:Array Oper} {Q:Exit->Act->World->Prop} {S:World->Prop} {l2:List (Oper×Option (Option Tmp×Bool))}
theorem qzp (hs:Region.noSelect ops=true) (hQ:∀c a d v w,Q (.panic c) (a.put d v) w->Q (.panic c) a w) (p2:List Nat)
 (h2:∀a w,lexL P Q (fun w' =>w' =w) l2 a w->lexH P ops Q (fun w' =>w' =w) p2 a w):∀(p1:List Nat) (fuel:Nat) (listed:Array Bool) (a:Act) (w:World),
 (p1++p2).length<=fuel->qeo ops (p1++p2) listed=true->S w->lexH P ops (two P Q l2) S p1 a w->wpAnyH P .any ops Q S fuel listed a w:=by
 intro p1
 induction p1 with
 | nil=>
   intro fuel listed a w hf hp hS h;have h:lexL P Q (fun w' =>w' =w) l2 a w:=h
   exact qhk (S' :=fun w' =>w' =w) (fun w' e=>by subst e;exact hS) _ _ _ _ (qip (S:=fun w' =>w' =w) hs hQ p2 fuel listed a w (by simpa using hf) (by simpa using hp) rfl (h2 a w h))
 | cons i r ih=>
   intro fuel listed a w hf hp hS h;obtain⟨n,rfl⟩:∃n,fuel=n+1:=⟨fuel-1,by simp at hf;omega⟩
   have hn:(r++p2).length<=n:=by simp at hf ⊢;omega
   simp only [List.cons_append,qeo,ziy] at hp;obtain⟨hp1,hp2⟩:=hp;unfold lexH at h
   by_cases hq:quietAt ops i=true
   · rw [if_pos hq] at h
     rw [if_pos hq,ziy] at hp1;obtain⟨o,v,ho,hy,h⟩:=h;exact wpAnyH_take ho hs hp1.1 hp1.2 (fun c a w hh=>hQ c a _ _ w hh) hy hS (ih n _ _ w hn hp2 hS h)
   · rw [if_neg hq] at h
     rw [if_neg hq] at hp1;have hr:Region.ready .any ops listed= [i]:=by simpa using hp1
     refine wpAnyH_all hr sI (fun j hj=> ?_)
     have hj:j=i:=by simpa using hj
     subst hj;exact qx4 (Q1:=two P Q l2) (fun _ _ _ h=>h) (fun⟨a,w,h⟩=>⟨a,w,h⟩) (wpOp_mono (fun a' w' hh=>⟨hh.1,ih n _ a' w' hn hp2 hh.1 hh.2⟩) h)
end
theorem qmm {P:Program} {Q:Exit->Act->World->Prop} (S:World->Prop) (p1 p2:List Nat) {l:List Oper} {id:Nat} {a:Act} {w:World} (hm:P.follows .mixedOrders=true)
 (hs:(Region.noSelect l.toArray&&(decide ((p1++p2).length<=l.length)&&(qeo l.toArray (p1++p2) (Array.replicate l.length false)&&(p1++p2).all fun i=>decide (i<l.length))))=true) (hQ:∀c a d v w,Q (.panic c) (a.put d v) w->Q (.panic c) a w)
 (hS:S w.drew) (h:lexL P (two P Q (p2.map fun i=>(bare (l.getD i default),qak l (l.getD i default)))) S (p1.map fun i=>(bare (l.getD i default),qak l (l.getD i default))) a w.drew):(Code.region id l.toArray true).wp P Q a w:=by
 simp only [ziy,decide_eq_true_eq,List.all_eq_true] at hs;obtain⟨s1,s2,s3,s4⟩:=hs;refine wp_region_held hm (qzp s1 hQ p2 (fun a w h=>qcq p2 a w (fun i hi=>s4 i (by simp [hi])) h) p1 _ _ a _ (by simpa using s2) (by simpa using s3) hS (qcq p1 a _ (fun i hi=>s4 i (by simp [hi])) h))
theorem qd1 {P:Program} {Q:Exit->Act->World->Prop} (p1 p2:List Nat) {l:List Oper} {id:Nat} {a:Act} {w:World} (hm:P.follows .mixedOrders=true)
 (hs:(Region.noSelect l.toArray&&(decide ((p1++p2).length<=l.length)&&(qeo l.toArray (p1++p2) (Array.replicate l.length false)&&(p1++p2).all fun i=>decide (i<l.length))))=true) (hQ:∀c a d v w,Q (.panic c) (a.put d v) w->Q (.panic c) a w)
 (h:lexL P (two P Q (p2.map fun i=>(bare (l.getD i default),qak l (l.getD i default)))) (fun w' =>RowKit.Below w.heap.size w w') (p1.map fun i=>(bare (l.getD i default),qak l (l.getD i default))) a w.drew):(Code.region id l.toArray true).wp P Q a w:=
 qmm _ p1 p2 hm hs hQ ((RowKit.Below.refl _ _).drew) h
inductive PTree where
 | done:PTree
 | one (i:Nat) (r:PTree):PTree
 | two (i j:Nat) (r s:PTree):PTree
 | three (i j k:Nat) (r s t:PTree):PTree
def PTree.depth:PTree->Nat
 | .done=>0
 | .one _ r=>r.depth+1
 | .two _ _ r s=>max r.depth s.depth+1
 | .three _ _ _ r s t=>max (max r.depth s.depth) t.depth+1
def qfa (ops:Array Oper):PTree->Array Bool->Bool
 | .done,listed=>Region.ready .any ops listed== []
 | .one i r,listed=>(if quietAt ops i then Region.free .any ops listed i&&(Region.ready .any ops listed).contains i else Region.ready .any ops listed== [i])&&qfa ops r (listed.setIfInBounds i true)
 | .two i j r s,listed=>Region.ready .any ops listed== [i,j]&&(qfa ops r (listed.setIfInBounds i true)&&qfa ops s (listed.setIfInBounds j true))
 | .three i j k r s t,listed=>Region.ready .any ops listed== [i,j,k]&&(qfa ops r (listed.setIfInBounds i true)&&(qfa ops s (listed.setIfInBounds j true)&&qfa ops t (listed.setIfInBounds k true)))
section
variable {P:Program} {ops:Array Oper} {Q:Exit->Act->World->Prop} {S:World->Prop}
def qhl (P:Program) (ops:Array Oper) (Q:Exit->Act->World->Prop) (S:World->Prop):PTree->Act->World->Prop
 | .done,a,w=>Q .normal a w
 | .one i r,a,w=>if quietAt ops i then(∃o v,ops[i]? =some o/\YieldsIf P ops S o v a/\qhl P ops Q S r (a.put o.dst v) w)
    else wpOp P ops Q i (fun a' w' =>S w' /\qhl P ops Q S r a' w') a w
 | .two i j r s,a,w=>wpOp P ops Q i (fun a' w' =>S w' /\qhl P ops Q S r a' w') a w/\wpOp P ops Q j (fun a' w' =>S w' /\qhl P ops Q S s a' w') a w
 | .three i j k r s t,a,w=>wpOp P ops Q i (fun a' w' =>S w' /\qhl P ops Q S r a' w') a w/\wpOp P ops Q j (fun a' w' =>S w' /\qhl P ops Q S s a' w') a w/\wpOp P ops Q k (fun a' w' =>S w' /\qhl P ops Q S t a' w') a w
theorem qpq (hs:Region.noSelect ops=true) (hQ:∀c a d v w,Q (.panic c) (a.put d v) w->Q (.panic c) a w):∀(l:PTree) (fuel:Nat) (listed:Array Bool) (a:Act) (w:World),
 l.depth<=fuel->qfa ops l listed=true->S w->qhl P ops Q S l a w->wpAnyH P .any ops Q S fuel listed a w:=by
 intro l
 induction l with
 | done=>
   intro fuel listed a w _ hp _ h;exact wpAnyH_done (by simpa [qfa] using hp) h fuel
 | one i r ih=>
   intro fuel listed a w hf hp hS h;obtain⟨n,rfl⟩:∃n,fuel=n+1:=⟨fuel-1,by simp [PTree.depth] at hf;omega⟩
   have hn:r.depth<=n:=by simpa [PTree.depth] using hf
   simp only [qfa,ziy] at hp;obtain⟨hp1,hp2⟩:=hp;unfold qhl at h
   by_cases hq:quietAt ops i=true
   · rw [if_pos hq] at h
     rw [if_pos hq,ziy] at hp1;obtain⟨o,v,ho,hy,h⟩:=h;exact wpAnyH_take ho hs hp1.1 hp1.2 (fun c a w hh=>hQ c a _ _ w hh) hy hS (ih n _ _ w hn hp2 hS h)
   · rw [if_neg hq] at h
     rw [if_neg hq] at hp1;have hr:Region.ready .any ops listed= [i]:=by simpa using hp1
     refine wpAnyH_all hr sI (fun j hj=> ?_)
     have hj:j=i:=by simpa using hj
     subst hj;exact wpOp_mono (fun a' w' hh=>⟨hh.1,ih n _ a' w' hn hp2 hh.1 hh.2⟩) h
 | two i j r s ihr ihs=>
   intro fuel listed a w hf hp hS h;obtain⟨n,rfl⟩:∃n,fuel=n+1:=⟨fuel-1,by simp [PTree.depth] at hf;omega⟩
   simp only [PTree.depth] at hf;simp only [qfa,ziy] at hp;obtain⟨hp1,hp2,hp3⟩:=hp;unfold qhl at h;have hr:Region.ready .any ops listed= [i,j]:=by simpa using hp1
   refine wpAnyH_all hr sI (fun x hx=> ?_)
   simp only [List.mem_cons,List.not_mem_nil,or_false] at hx
   rcases hx with rfl|rfl
   · exact wpOp_mono (fun a' w' hh=>⟨hh.1,ihr n _ a' w' oQ hp2 hh.1 hh.2⟩) h.1
   · exact wpOp_mono (fun a' w' hh=>⟨hh.1,ihs n _ a' w' oQ hp3 hh.1 hh.2⟩) h.2
 | three i j k r s t ihr ihs iht=>
   intro fuel listed a w hf hp hS h;obtain⟨n,rfl⟩:∃n,fuel=n+1:=⟨fuel-1,by simp [PTree.depth] at hf;omega⟩
   simp only [PTree.depth] at hf;simp only [qfa,ziy] at hp;obtain⟨hp1,hp2,hp3,hp4⟩:=hp;unfold qhl at h;have hr:Region.ready .any ops listed= [i,j,k]:=by simpa using hp1
   refine wpAnyH_all hr sI (fun x hx=> ?_)
   simp only [List.mem_cons,List.not_mem_nil,or_false] at hx
   rcases hx with rfl|rfl|rfl
   · exact wpOp_mono (fun a' w' hh=>⟨hh.1,ihr n _ a' w' oQ hp2 hh.1 hh.2⟩) h.1
   · exact wpOp_mono (fun a' w' hh=>⟨hh.1,ihs n _ a' w' oQ hp3 hh.1 hh.2⟩) h.2.1
   · exact wpOp_mono (fun a' w' hh=>⟨hh.1,iht n _ a' w' oQ hp4 hh.1 hh.2⟩) h.2.2
theorem qlc (l:PTree) {id:Nat} {a:Act} {w:World} (S:World->Prop) (hm:P.follows .mixedOrders=true) (hs:Region.noSelect ops=true)
 (hl:l.depth<=ops.size) (hp:qfa ops l (Array.replicate ops.size false)=true) (hQ:∀c a d v w,Q (.panic c) (a.put d v) w->Q (.panic c) a w)
 (hS:S w.drew) (h:qhl P ops Q S l a w.drew):(Code.region id ops true).wp P Q a w:=
 wp_region_held hm (qpq hs hQ l _ _ a _ hl hp hS h)
end
def puts (a:Act) (l:List (Nat×Value)):Act:=l.foldl (fun a p=>a.put (some p.1) p.2) a
structure OpAt (L:List Oper) (i:Nat) (o:Oper):Prop where
 eq:bare (L.getD i default)=o
 on:(L.getD i default).guard=none
 lt:i<L.length
theorem qcd {L l:List Oper} (h:L=l) (i:Nat) (hg:(l.getD i default).guard.isNone&&decide (i<l.length)=true):OpAt L i (bare (l.getD i default)):=by
 subst h;simp only [ziy,decide_eq_true_eq,Option.isNone_iff_eq_none] at hg;exact⟨rfl,hg.1,hg.2⟩
section
variable {P:Program} {Q:Exit->Act->World->Prop} {S:World->Prop} {L:List Oper}
def qf1 (P:Program) (Q:Exit->Act->World->Prop) (S:World->Prop) (L:List Oper):PTree->Act->World->Prop
 | .done,a,w=>Q .normal a w
 | .one i r,a,w=>(∃o v,OpAt L i o/\qaz o.op=true/\(∀w,S w->(execOp a.eval o).run P w=.ok (.value v) w)/\qf1 P Q S L r (a.put o.dst v) w)\/(∃o,OpAt L i o/\qaz o.op=false/\o.wp P a w (fun a' w' =>S w' /\qf1 P Q S L r a' w') Q)
 | .two i j r s,a,w=>(∃o,OpAt L i o/\qaz o.op=false/\o.wp P a w (fun a' w' =>S w' /\qf1 P Q S L r a' w') Q)/\(∃o,OpAt L j o/\qaz o.op=false/\o.wp P a w (fun a' w' =>S w' /\qf1 P Q S L s a' w') Q)
 | .three i j k r s t,a,w=>(∃o,OpAt L i o/\qaz o.op=false/\o.wp P a w (fun a' w' =>S w' /\qf1 P Q S L r a' w') Q)/\(∃o,OpAt L j o/\qaz o.op=false/\o.wp P a w (fun a' w' =>S w' /\qf1 P Q S L s a' w') Q)/\(∃o,OpAt L k o/\qaz o.op=false/\o.wp P a w (fun a' w' =>S w' /\qf1 P Q S L t a' w') Q)
def qnx (P:Program) (Q:Exit->Act->World->Prop) (S:World->Prop) (L:List Oper) (i:Nat) (r:PTree) (a:Act) (w:World):Prop:=
 ∃o,OpAt L i o/\qaz o.op=false/\o.wp P a w (fun a' w' =>S w' /\qf1 P Q S L r a' w') Q
theorem qrh {L:List Oper} {i:Nat} {o:Oper} (h:OpAt L i o):(L.getD i default).op=o.op/\(L.getD i default).dst=o.dst:=by
 have:=h.eq;subst this;exact⟨rfl,rfl⟩
theorem qh8 {i:Nat} {o:Oper} {a:Act} {w:World} {K K' :Act->World->Prop} (h:OpAt L i o) (hK:∀a w,K a w->K' a w) (hw:o.wp P a w K Q):wpOp P L.toArray Q i K' a w:=by
 have hi:L.toArray[i]? =some (L.getD i default):=by
  have:=h.lt
  simp [zpy,this]
 have hwt:Region.wanted (L.getD i default) (yielded L.toArray a.tmps)=true:=by
  unfold Region.wanted
  rw [h.on]
 have he:=h.eq;unfold wpOp
 simp only [hi,hwt,if_true]
 refine .inl (Oper.wp_mono (K:=K) hK ?_);subst he;unfold Oper.wp at hw ⊢;rw [qcb] at hw;exact hw
theorem qle:∀(t:PTree) (a:Act) (w:World),qf1 P Q S L t a w->qhl P L.toArray Q S t a w:=by
 intro t
 induction t with
 | done=>intro a w h;exact h
 | one i r ih=>
   intro a w h;unfold qhl
   rcases h with ⟨o,v,ho,hq,hy,h⟩|⟨o,ho,hq,h⟩
   · have hi:L.toArray[i]? =some (L.getD i default):=by
      have:=ho.lt
      simp [zpy,this]
     rw [if_pos (by unfold quietAt;rw [hi];simp only [(qrh ho).1];exact hq)]
     refine⟨_,v,hi,.inl ⟨?_,fun w hw=> ?_⟩,?_⟩
     · unfold Region.wanted;rw [ho.on]
     · rw [<-qcb,ho.eq];exact hy w hw
     · rw [(qrh ho).2];exact ih _ _ h
   · have hi:L.toArray[i]? =some (L.getD i default):=by
      have:=ho.lt
      simp [zpy,this]
     rw [if_neg (by unfold quietAt;rw [hi];simp only [(qrh ho).1,hq];decide)]
     exact qh8 ho (fun a w hh=>⟨hh.1,ih _ _ hh.2⟩) h
 | two i j r s ihr ihs=>
   intro a w h;obtain⟨⟨o,ho,_,h1⟩,⟨o2,ho2,_,h2⟩⟩:=h;exact⟨qh8 ho (fun a w hh=>⟨hh.1,ihr _ _ hh.2⟩) h1,qh8 ho2 (fun a w hh=>⟨hh.1,ihs _ _ hh.2⟩) h2⟩
 | three i j k r s t ihr ihs iht=>
   intro a w h;obtain⟨⟨o,ho,_,h1⟩,⟨o2,ho2,_,h2⟩,⟨o3,ho3,_,h3⟩⟩:=h;exact⟨qh8 ho (fun a w hh=>⟨hh.1,ihr _ _ hh.2⟩) h1,qh8 ho2 (fun a w hh=>⟨hh.1,ihs _ _ hh.2⟩) h2,qh8 ho3 (fun a w hh=>⟨hh.1,iht _ _ hh.2⟩) h3⟩
theorem qnw {a:Act} {w:World} {R:Act->World->Prop} (hR:Shut (∀a w,R a w->Q .normal a w)) (h:R a w):qf1 P Q S L .done a w:=hR.out a w h
theorem qlr {i:Nat} {r:PTree} {o:Oper} {v:Value} {a:Act} {w:World} (ho:OpAt L i o) (hk:qaz o.op=true) (hy:∀w,S w->(execOp a.eval o).run P w=.ok (.value v) w) (h:qf1 P Q S L r (a.put o.dst v) w):
 qf1 P Q S L (.one i r) a w:=.inl ⟨o,v,ho,hk,hy,h⟩
theorem qro {i:Nat} {r:PTree} {a:Act} {w:World} (h:qnx P Q S L i r a w):qf1 P Q S L (.one i r) a w:=.inr h
theorem qrn {i j:Nat} {r s:PTree} {a:Act} {w:World} (h:qnx P Q S L i r a w) (h2:qnx P Q S L j s a w):qf1 P Q S L (.two i j r s) a w:=⟨h,h2⟩
theorem qlq {i j k:Nat} {r s t:PTree} {a:Act} {w:World} (h:qnx P Q S L i r a w) (h2:qnx P Q S L j s a w) (h3:qnx P Q S L k t a w):qf1 P Q S L (.three i j k r s t) a w:=⟨h,h2,h3⟩
theorem qnv {i:Nat} {r:PTree} {o:Oper} {a:Act} {w:World} (ho:OpAt L i o) (hk:qaz o.op=false) (h:∀K:Act->World->Prop,Shut (∀a w,S w->qf1 P Q S L r a w->K a w)->o.wp P a w K Q):
 qnx P Q S L i r a w:=⟨o,ho,hk,h _ (fun _ _ hS hl=>⟨hS,hl⟩)⟩
end
theorem qf2 {P:Program} {Q:Exit->Act->World->Prop} (t:PTree) (R:Act->Act->World->Prop) {l:List Oper} {id:Nat} {a:Act} {w:World} (hm:P.follows .mixedOrders=true)
 (hs:(Region.noSelect l.toArray&&(decide (t.depth<=l.length)&&qfa l.toArray t (Array.replicate l.length false)))=true) (hQ:∀c a d v w,Q (.panic c) (a.put d v) w->Q (.panic c) a w)
 (h:∀L,L=l->∀Q' :Exit->Act->World->Prop,Shut (∀a' w',R a a' w' ->Q' .normal a' w')->qf1 P Q' (fun w' =>Below w.heap.size w w') L t a w.drew) (hR:∀a' w',R a a' w' ->Q .normal a' w'):(Code.region id l.toArray true).wp P Q a w:=by
 simp only [ziy,decide_eq_true_eq] at hs;exact qlc t _ hm hs.1 (by simpa using hs.2.1) (by simpa using hs.2.2) hQ ((Below.refl _ _).drew) (qle t a _ (h l rfl Q hR))
attribute [irreducible] qf1 qnx
end Pg
