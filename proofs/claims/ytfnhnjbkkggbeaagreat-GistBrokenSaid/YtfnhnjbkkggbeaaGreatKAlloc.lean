/-A region that draws its order-/
import Derived.Test.YtfnhnjbkkggbeaaGreatKLex
set_option linter.unusedVariables false
set_option linter.unusedSimpArgs false
namespace Pg
open Go Go.RowKit
def isA (o:Oper):Bool:=(match o.op with | .alloc _=>true|_=>false)&&o.guard.isNone&&o.dst.isSome
def isS (o:Oper):Bool:=match o.op with | .store .. =>true | .assign _=>o.after.any (fun e=>match e.ground with | .chain=>true|_=>false)|_=>false
def kindOf (ops:Array Oper) (i:Nat):Nat:=match ops[i]? with
 | none=>3
 | some o=>if isA o then 1 else if isS o then 2 else 0
def qb0 (ops:Array Oper) (i:Nat):Option Tmp:=(ops[i]?).bind (·.dst)
def look (ops:Array Oper) (i:Nat):List Tmp:=match ops[i]? with|some o=>o.looksAt ops|none=> []
def qfl (ops:Array Oper) (i j:Nat):Bool:=match ops[i]? with|some o=>o.after.any (fun e=>Region.binds .any e&&e.on==j)|none=>false
def qqv (ops:Array Oper) (i j:Nat):Bool:=qfl ops i j||(List.range ops.size).any fun k=>qfl ops i k&&qfl ops k j
def qhg (ops:Array Oper):Bool:=
 let n:=ops.size
 Region.noSelect ops &&
 (List.range n).all fun i=>
   ((match ops[i]? with|some o=>o.after.all (fun e=> !Region.binds .any e||decide (e.on<i))|none=>false)) &&
   ((kindOf ops i !=0||(match qb0 ops i with|none=>true|some d=> !(look ops i).contains d)) &&
   (List.range n).all fun j=>i==j ||
     (((qb0 ops i).isNone||qb0 ops i !=qb0 ops j) &&
     ((kindOf ops i !=2||kindOf ops j==2||(kindOf ops j==0&&quietAt ops j)||qqv ops i j) &&
     ((kindOf ops i==2||kindOf ops j !=2||!qfl ops i j) &&
     ((kindOf ops i !=0||(match qb0 ops j with|none=>true|some d=> !(look ops i).contains d||(kindOf ops j==0&&qfl ops i j&&decide (j<i)))) &&
     (kindOf ops i !=0||!quietAt ops i||qfl ops j i||qfl ops i j||(match ops[i]?,ops[j]? with|some oi,some oj=>oi.apart ops oj|_,_=>false)))))))
section
variable {P:Program} {ops:Array Oper} {Q:Exit->Act->World->Prop}
def qbo (ops:Array Oper) (c:Nat->Value) (L:Nat->Bool) (a0:Act):Act:=
 {a0 with tmps:=a0.tmps.mapIdx fun s v=>match (List.range ops.size).find? (fun i=>L i&&qb0 ops i==some s) with|some i=>c i|none=>v}
theorem qb5 (c:Nat->Value) (L:Nat->Bool) (a0:Act) (s:Nat):
 (qbo ops c L a0).tmps[s]? =a0.tmps[s]?.map fun v=>match (List.range ops.size).find? (fun i=>L i&&qb0 ops i==some s) with|some i=>c i|none=>v:=by
 simp [qbo]
theorem qml (c:Nat->Value) (L:Nat->Bool) (a0:Act):(qbo ops c L a0).tmps.size=a0.tmps.size:=by simp [qbo]
theorem find_congr {p q:Nat->Bool} {l:List Nat} (h:∀i,i∈l->p i=q i):l.find? p=l.find? q:=by
 induction l with
 | nil=>rfl
 | cons x r ih=>
   simp only [List.find?_cons,h x sI,ih fun i hi=>h i (by simp [hi])]
def Uniq (ops:Array Oper):Prop:=∀i j s,qb0 ops i=some s->qb0 ops j=some s->i=j
theorem q12 {L:Nat->Bool} {i s:Nat} (hu:Uniq ops) (hi:i<ops.size) (hL:L i=true) (hd:qb0 ops i=some s):
 (List.range ops.size).find? (fun i=>L i&&qb0 ops i==some s)=some i:=by
 cases h:(List.range ops.size).find? (fun i=>L i&&qb0 ops i==some s) with
 | none=>
   have:=List.find?_eq_none.1 h i (List.mem_range.2 hi)
   simp [hL,hd] at this
 | some j=>
   have:=List.find?_some h;simp only [ziy,beq_iff_eq] at this
   rw [hu i j s hd this.2]
theorem qoz {L:Nat->Bool} {s:Nat} (h:∀i,i<ops.size->L i=true->qb0 ops i≠some s):
 (List.range ops.size).find? (fun i=>L i&&qb0 ops i==some s)=none:=by
 rw [List.find?_eq_none]
 intro i hi
 simp only [ziy,beq_iff_eq,not_and]
 exact fun hL hd=>h i (List.mem_range.1 hi) hL hd
theorem qhh {a b:Act} (h:a.defers=b.defers) (k:∀s:Nat,a.tmps[s]? =b.tmps[s]?):a=b:=by
 obtain⟨t,d⟩:=a;obtain⟨t',d'⟩:=b
 simp only at h k
 subst h;congr 1;exact Array.ext_getElem? k
theorem qjf (a:Act) (d:Nat) (v:Value) (s:Nat):(a.put (some d) v).tmps[s]? =if d=s then a.tmps[s]?.map (fun _=>v) else a.tmps[s]? :=by
 simp only [Act.put,Array.getElem?_setIfInBounds]
 split
 · rename_i h;subst h
   split
   · rename_i hlt;rw [Array.getElem?_eq_getElem hlt];rfl
   · rename_i hlt;rw [zxy oQ];rfl
 · rfl
def upd (c:Nat->Value) (i:Nat) (v:Value):Nat->Value:=fun j=>if j=i then v else c j
def also (L:Nat->Bool) (i:Nat):Nat->Bool:=fun j=>L j||decide (j=i)
theorem qhq (hu:Uniq ops) {c:Nat->Value} {L:Nat->Bool} {a0:Act} {i:Nat} (hi:i<ops.size) (hL:L i=false) (v:Value):
 (qbo ops c L a0).put (qb0 ops i) v=qbo ops (upd c i v) (also L i) a0:=by
 refine qhh ?_ fun s=> ?_
 · cases qb0 ops i<;>rfl
 · have same:qb0 ops i≠some s->(qbo ops c L a0).tmps[s]? =(qbo ops (upd c i v) (also L i) a0).tmps[s]? :=by
    intro hne
    rw [qb5,qb5]
    congr 1
    funext u
    have e:(List.range ops.size).find? (fun j=>also L i j&&qb0 ops j==some s)=(List.range ops.size).find? (fun j=>L j&&qb0 ops j==some s):=by
     congr 1
     funext j
     simp only [also]
     by_cases hj:j=i
     · subst hj;simp [hne]
     · simp [hj]
    rw [e]
    cases h:(List.range ops.size).find? (fun j=>L j&&qb0 ops j==some s) with
    | none=>rfl
    | some j=>
      have hj:=List.find?_some h;simp only [ziy,beq_iff_eq] at hj;have:j≠i:=fun e=>by subst e;rw [hL] at hj;cases hj.1
      simp [upd,this]
   cases hd:qb0 ops i with
   | none=>exact same (by rw [hd];simp)
   | some d=>
     rw [qjf]
     by_cases h:d=s
     · subst h
       rw [if_pos rfl,qb5,qb5,Option.map_map,q12 (L:=also L i) hu hi (by simp [also]) hd]
       simp only [upd,if_true]
       cases a0.tmps[d]? <;>rfl
     · rw [if_neg h]
       exact same (by rw [hd];simp [h])
theorem qo3 (hu:Uniq ops) (o:Oper) (hs:∀cs b,o.op≠ .select cs b) (c:Nat->Value) (a0:Act) (L1 L2:Nat->Bool) (hsub:∀j,L1 j=true->L2 j=true)
 (hd:∀j d,L2 j=true->L1 j=false->qb0 ops j=some d->d ∉ o.looksAt ops):
 execOp (qbo ops c L2 a0).eval o=execOp (qbo ops c L1 a0).eval o/\Region.wanted o (yielded ops (qbo ops c L2 a0).tmps)=Region.wanted o (yielded ops (qbo ops c L1 a0).tmps):=by
 have step:∀k,execOp (qbo ops c (fun j=>L1 j||(L2 j&&decide (j<k))) a0).eval o=execOp (qbo ops c L1 a0).eval o/\
  Region.wanted o (yielded ops (qbo ops c (fun j=>L1 j||(L2 j&&decide (j<k))) a0).tmps)=Region.wanted o (yielded ops (qbo ops c L1 a0).tmps):=by
  intro k
  induction k with
  | zero=>simp
  | succ k ih=>
    by_cases hk:k<ops.size/\L2 k=true/\L1 k=false
    · obtain⟨hk,h2,h1⟩:=hk
      have e:qbo ops c (fun j=>L1 j||(L2 j&&decide (j<k+1))) a0=(qbo ops c (fun j=>L1 j||(L2 j&&decide (j<k))) a0).put (qb0 ops k) (c k):=by
       rw [qhq hu hk (by simp [h1])]
       have hc:upd c k (c k)=c:=by funext j;simp only [upd];split<;>simp_all
       rw [hc]
       congr 1
       funext j
       simp only [also]
       by_cases hj:j=k
       · subst hj;simp [h2]
       · have:decide (j<k+1)=decide (j<k):=by simp;omega
         rw [this];simp [hj]
      rw [e,execOp_put o hs _ _ _ (fun d hdd=>hd k d h2 h1 hdd),wanted_put o _ _ _ (fun d hdd=>hd k d h2 h1 hdd)]
      exact ih
    · have e:qbo ops c (fun j=>L1 j||(L2 j&&decide (j<k+1))) a0=qbo ops c (fun j=>L1 j||(L2 j&&decide (j<k))) a0:=by
       refine qhh rfl fun s=> ?_
       rw [qb5,qb5]
       congr 1
       funext u
       have:(List.range ops.size).find? (fun i=>(L1 i||(L2 i&&decide (i<k+1)))&&qb0 ops i==some s)=(List.range ops.size).find? (fun i=>(L1 i||(L2 i&&decide (i<k)))&&qb0 ops i==some s):=by
        apply find_congr
        intro i hi;have hi:=List.mem_range.1 hi
        by_cases hik:i=k
        · subst hik
          have:L1 i=true\/L2 i=false:=by
           cases h1:L1 i<;>cases h2:L2 i<;>simp_all
          rcases this with h|h<;>simp [h]
        · have:decide (i<k+1)=decide (i<k):=by simp;omega
          rw [this]
       rw [this]
      rw [e]
      exact ih
 have e:qbo ops c L2 a0=qbo ops c (fun j=>L1 j||(L2 j&&decide (j<ops.size))) a0:=by
  refine qhh rfl fun s=> ?_
  rw [qb5,qb5]
  congr 1
  funext u
  have:(List.range ops.size).find? (fun i=>L2 i&&qb0 ops i==some s)=(List.range ops.size).find? (fun i=>(L1 i||(L2 i&&decide (i<ops.size)))&&qb0 ops i==some s):=by
   apply find_congr
   intro i hi;have hi:=List.mem_range.1 hi
   cases h1:L1 i
   · simp [hi]
   · simp [hsub i h1]
  rw [this]
 rw [e]
 exact step ops.size
def QF:Exit->Act->World->Prop:=fun _ _ _=>False
theorem qtx:¬ LetsOut QF:=fun ⟨_,_,h⟩=>h
theorem qhp {a act:Act} {dst:Option Tmp} {v c:Value} (hsz:act.tmps.size=a.tmps.size) (h:a.put dst v=a.put dst c):act.put dst v=act.put dst c:=by
 cases dst with
 | none=>rfl
 | some d=>
   refine qhh rfl fun s=> ?_
   rw [qjf,qjf]
   have hd:=congrArg (fun x:Act=>x.tmps[d]?) h
   simp only [qjf,if_true] at hd
   split
   · rename_i e;subst e
     rcases zry d a.tmps.size with hlt|hge
     · rw [Array.getElem?_eq_getElem hlt] at hd
       simp only [Option.map_some,Option.some.injEq] at hd
       rw [hd]
     · rw [zxy oQ];rfl
   · rfl
theorem qno {o:Oper} {a act:Act} {w:World} {c:Value} {C:World->Prop} {K:Act->World->Prop} (hex:execOp act.eval o=execOp a.eval o) (hsz:act.tmps.size=a.tmps.size)
 (h:o.wp P a w (fun a' w' =>a' =a.put o.dst c/\C w') QF) (hK:∀w',C w' ->K (act.put o.dst c) w'):o.wp P act w K Q:=by
 unfold Oper.wp at*
 rw [hex]
 generalize (execOp a.eval o).run P w=r at*
 cases r with
 | ok n w' =>
   cases n<;>simp only [Oper.upon] at h ⊢
   case value v=>rw [qhp hsz h.1];exact hK _ h.2
   case skip=>rw [qhp hsz h.1];exact hK _ h.2
   case defer d=>
    have hd:=congrArg Act.defers h.1
    cases ho:o.dst<;>simp [ho,Act.put] at hd
   case enter f args=>
    refine Calls.mono h fun e w'' he=> ?_
    cases e with
    | returned v=>simp only at he ⊢;rw [qhp hsz he.1];exact hK _ he.2
    | panicked ch=>exact he.elim
    | outgrown=>exact (qtx he).elim
   case row row args=>exact Rows.mono h fun v w'' he=>by rw [qhp hsz he.1];exact hK _ he.2
 | halt x w' =>
   cases x<;>simp only [Oper.upon] at h ⊢
   case panic v=>exact h.elim
structure ChkI (ops:Array Oper) (i:Nat) (o:Oper):Prop where
 back:∀e∈o.after,Region.binds .any e=true->e.on<i
 self:kindOf ops i=0->∀d,qb0 ops i=some d->d ∉ o.looksAt ops
 dst:∀j,j<ops.size->i≠j->∀d,qb0 ops i=some d->qb0 ops j≠some d
 waits:kindOf ops i=2->∀j,j<ops.size->i≠j->kindOf ops j≠2->¬ (kindOf ops j=0/\quietAt ops j=true)->qqv ops i j=true
 nostore:kindOf ops i≠2->∀j,j<ops.size->i≠j->kindOf ops j=2->qfl ops i j=false
 looks:kindOf ops i=0->∀j d,j<ops.size->i≠j->qb0 ops j=some d->d∈o.looksAt ops->kindOf ops j=0/\qfl ops i j=true/\j<i
 apart:kindOf ops i=0->quietAt ops i=true->∀j oj,ops[j]? =some oj->i≠j->qfl ops j i=true\/qfl ops i j=true\/o.apart ops oj=true
theorem qpg (h:qhg ops=true) {i:Nat} {o:Oper} (ho:ops[i]? =some o):ChkI ops i o:=by
 have hi:i<ops.size:=(zqy.1 ho).1;simp only [qhg,ziy,List.all_eq_true,List.mem_range] at h;obtain⟨h1,h2,h3⟩:=h.2 i hi;rw [ho] at h1;have hl:look ops i=o.looksAt ops:=by rw [look,ho]
 have key:=fun j (hj:j<ops.size) (hne:i≠j)=>by
  have:=h3 j hj;simp only [Bool.or_eq_true,beq_iff_eq,hne,false_or,ziy] at this;exact this
 refine⟨?_,?_,?_,?_,?_,?_,?_⟩
 · intro e he hb
   have:=Array.all_eq_true_iff_forall_mem.1 h1 e he
   simpa [hb] using this
 · intro hk d hd
   rw [hl,hd,hk] at h2
   simpa using h2
 · intro j hj hne d hd
   have:=(key j hj hne).1;rw [hd] at this;intro hd2;rw [hd2] at this
   simp at this
 · intro hk j hj hne hk2 hnq
   have:=(key j hj hne).2.1
   simp [hk,hk2] at this
   rcases this with h|h
   · exact absurd h hnq
   · exact h
 · intro hk j hj hne hk2
   have:=(key j hj hne).2.2.1
   simpa [hk,hk2] using this
 · intro hk j d hj hne hd hin
   have:=(key j hj hne).2.2.2.1;rw [hl,hd] at this
   simp [hk] at this
   rcases this with h|h
   · exact absurd hin h
   · exact⟨h.1.1,h.1.2,h.2⟩
 · intro hk hq j oj hoj hne
   have hj:j<ops.size:=(zqy.1 hoj).1;have:=(key j hj hne).2.2.2.2;simp only [ho,hoj,hk,hq] at this
   simp at this
   rcases this with (h|h)|h
   · exact .inl h
   · exact .inr (.inl h)
   · exact .inr (.inr h)
theorem qu7 (h:qhg ops=true):Uniq ops:=by
 intro i j s hi hj
 by_cases hij:i=j
 · exact hij
 · have hlt:∀k s,qb0 ops k=some s->k<ops.size:=fun k s hk=>by
    unfold qb0 at hk
    cases ho:ops[k]? with
    | none=>rw [ho] at hk;cases hk
    | some o=>exact (zqy.1 ho).1
   obtain⟨o,ho⟩:∃o,ops[i]? =some o:=⟨_,Array.getElem?_eq_getElem (hlt i s hi)⟩;exact absurd hj ((qpg h ho).dst j (hlt j s hj) hij s hi)
theorem qdt {i j:Nat} {o:Oper} (ho:ops[i]? =some o):qfl ops i j=true↔∃e∈o.after,Region.binds .any e=true/\e.on=j:=by
 unfold qfl
 rw [ho]
 simp only [Array.any_eq_true',ziy,beq_iff_eq]
theorem qb3 {c c' :Nat->Value} {L L' :Nat->Bool} (hL:∀j,j<ops.size->L j=L' j) (hc:∀j,j<ops.size->L j=true->c j=c' j) (a0:Act):qbo ops c L a0=qbo ops c' L' a0:=by
 refine qhh rfl fun s=> ?_
 rw [qb5,qb5]
 congr 1
 funext u
 have e:(List.range ops.size).find? (fun i=>L i&&qb0 ops i==some s)=(List.range ops.size).find? (fun i=>L' i&&qb0 ops i==some s):=
  find_congr fun i hi=>by rw [hL i (List.mem_range.1 hi)]
 rw [<-e]
 cases h:(List.range ops.size).find? (fun i=>L i&&qb0 ops i==some s) with
 | none=>rfl
 | some j=>
   have hj:=List.find?_some h;have hm:=List.mem_of_find?_eq_some h;simp only [ziy,beq_iff_eq] at hj;exact hc j (List.mem_range.1 hm) hj.1
def cnt (f:Nat->Bool):Nat->Nat
 | 0=>0
 | n+1=>cnt f n+if f n then 1 else 0
theorem qo7 {f g:Nat->Bool} {n:Nat} (h:∀j,j<n->f j=g j):cnt f n=cnt g n:=by
 induction n with
 | zero=>rfl
 | succ n ih=>simp only [cnt,h n oQ,ih fun j hj=>h j oQ]
theorem qz8 {f g:Nat->Bool} {n i:Nat} (hi:i<n) (hf:f i=true) (hg:g i=false) (h:∀j,j≠i->f j=g j):cnt g n+1=cnt f n:=by
 induction n with
 | zero=>omega
 | succ n ih=>
   by_cases e:i=n
   · subst e
     simp only [cnt,hf,hg]
     rw [qo7 fun j hj=>h j oQ]
     simp
   · have:=ih oQ
     simp only [cnt,<-h n (fun e' =>e e'.symm)]
     omega
theorem qz7 {f:Nat->Bool} {n:Nat} (h:cnt f n=0):∀j,j<n->f j=false:=by
 induction n with
 | zero=>intro j hj;omega
 | succ n ih=>
   simp only [cnt] at h;intro j hj
   by_cases e:j=n
   · subst e
     cases hf:f j
     · rfl
     · rw [hf] at h;simp at h
   · exact ih oQ j oQ
theorem least {f:Nat->Bool}:∀{n:Nat},(∃j,j<n/\f j=true)->∃i,i<n/\f i=true/\∀j,j<i->f j=false
 | 0,⟨_,h,_⟩=>absurd h oQ
 | n+1,⟨j,hj,hf⟩=>by
   by_cases e:∃k,k<n/\f k=true
   · obtain⟨i,h1,h2,h3⟩:=least e
     exact⟨i,by omega,h2,h3⟩
   · have hn:f n=true:=by
      by_cases hjn:j=n
      · subst hjn;exact hf
      · exact absurd ⟨j,by omega,hf⟩ e
     exact⟨n,by omega,hn,fun k hk=>by
      cases h:f k
      · rfl
      · exact absurd ⟨k,hk,h⟩ e⟩
end
section
variable {P:Program} {ops:Array Oper} {Q:Exit->Act->World->Prop}
def obl (P:Program) (ops:Array Oper) (C:World->Prop) (i:Nat) (a:Act) (v:Value):Prop:=
 ∀o,ops[i]? =some o->(Region.wanted o (yielded ops a.tmps)=false->v=undef)/\
  (Region.wanted o (yielded ops a.tmps)=true->(qaz o.op=true/\∀w,C w->(execOp a.eval o).run P w=.ok (.value v) w)\/
    (qaz o.op=false/\∀w,C w->o.wp P a w (fun a' w' =>a' =a.put o.dst v/\Below w.heap.size w w') QF))
def ptrV (g:Nat):Value:=.pointer (some ⟨g,0,none⟩)
def isN (ops:Array Oper) (j:Nat):Bool:=kindOf ops j==0
def nonS (ops:Array Oper) (j:Nat):Bool:=kindOf ops j !=2
theorem qfw {L:Array Bool} {i:Nat} (hi:i<L.size):(L.setIfInBounds i true).getD i false=true:=by
 simp [hi]
theorem qbc {L:Array Bool} {i j:Nat} (h:j≠i):(L.setIfInBounds i true).getD j false=L.getD j false:=by
 simp [Array.getElem?_setIfInBounds_ne (Ne.symm h)]
theorem qgf {L:Array Bool} {j:Nat} (hj:j<L.size):L.getD j true=L.getD j false:=by
 simp [hj]
theorem qur (hchk:qhg ops=true) (hQ:∀c a d v w,Q (.panic c) (a.put d v) w->Q (.panic c) a w) (W0:World) (a0:Act) (cN:Nat->Value)
 (hN:∀i,i<ops.size->kindOf ops i=0->obl P ops (fun w=>Below W0.heap.size W0 w) i (qbo ops cN (fun j=>isN ops j&&decide (j<i)) a0) (cN i))
 (z:Nat->Array Value) (t:Nat->TypeId)
 (hA:∀i o,ops[i]? =some o->kindOf ops i=1->∀(a:Act) w,(execOp a.eval o).run P w=.ok (.value (ptrV w.heap.size)) (w.alloc (.cells (z i) (t i))))
 (hF:∀c (w:World),Below W0.heap.size W0 w->(∀i,i<ops.size->kindOf ops i=0->c i=cN i)->
   (∀i,i<ops.size->kindOf ops i=1->∃g,c i=ptrV g/\W0.heap.size<=g/\Blk w g (t i) (z i))->
   (∀i j,i<ops.size->j<ops.size->kindOf ops i=1->kindOf ops j=1->i≠j->c i≠c j)->
   ∀(fuel:Nat) (L:Array Bool),L.size=ops.size->(∀j,j<ops.size->L.getD j false=nonS ops j)->cnt (fun j=> !L.getD j false) ops.size<=fuel->
    wpAnyH P .any ops Q (fun w=>Below W0.heap.size W0 w) fuel L (qbo ops c (nonS ops) a0) w):
 ∀(fuel:Nat) (L:Array Bool) (c:Nat->Value) (w:World),L.size=ops.size->cnt (fun j=> !L.getD j false) ops.size<=fuel->Below W0.heap.size W0 w->
  (∀j,j<ops.size->kindOf ops j=2->L.getD j false=false)->
  (∀i,i<ops.size->kindOf ops i=0->c i=cN i)->
  (∀i,i<ops.size->kindOf ops i=1->L.getD i false=true->∃g,c i=ptrV g/\W0.heap.size<=g/\Blk w g (t i) (z i))->
  (∀i j,i<ops.size->j<ops.size->kindOf ops i=1->kindOf ops j=1->L.getD i false=true->L.getD j false=true->i≠j->c i≠c j)->
  (∀j o,ops[j]? =some o->L.getD j false=true->∀e∈o.after,Region.binds .any e=true->L.getD e.on false=true)->
  wpAnyH P .any ops Q (fun w=>Below W0.heap.size W0 w) fuel L (qbo ops c (fun j=>L.getD j false) a0) w:=by
 have hu:=qu7 hchk
 have hns:Region.noSelect ops=true:=by
  simp only [qhg,ziy] at hchk;exact hchk.1
 have hsel:=Region.noSelect_spec hns;intro fuel
 induction fuel with
 | zero=>
   intro L c w hsz hcnt hC hst hcN hal hdi hcl;have hall:=qz7 (Nat.le_zero.1 hcnt)
   have hno:∀j,j<ops.size->L.getD j false=nonS ops j:=fun j hj=>by
    have h1:L.getD j false=true:=by simpa using hall j hj
    rw [h1]
    by_cases hk:kindOf ops j=2
    · rw [hst j hj hk] at h1;cases h1
    · simp [nonS,hk]
   have:=hF c w hC hcN (fun i hi hk=>hal i hi hk (by simpa using hall i hi)) (fun i j hi hj hki hkj hne=>hdi i j hi hj hki hkj (by simpa using hall i hi) (by simpa using hall j hj) hne) 0 L hsz hno hcnt
   rwa [qb3 (c' :=c) (L' :=nonS ops) hno (fun _ _ _=>rfl)]
 | succ fuel ih=>
   intro L c w hsz hcnt hC hst hcN hal hdi hcl
   by_cases hU:∃j,j<ops.size/\(nonS ops j&&!L.getD j false)=true
   case neg=>
    have hno:∀j,j<ops.size->L.getD j false=nonS ops j:=fun j hj=>by
     by_cases hk:kindOf ops j=2
     · rw [hst j hj hk];simp [nonS,hk]
     · have:nonS ops j=true:=by simp [nonS,hk]
       rw [this]
       cases h:L.getD j false
       · exact absurd ⟨j,hj,by rw [this,h];rfl⟩ hU
       · rfl
    have hl:∀i,i<ops.size->kindOf ops i=1->L.getD i false=true:=fun i hi hk=>by rw [hno i hi];simp [nonS,hk]
    have:=hF c w hC hcN (fun i hi hk=>hal i hi hk (hl i hi hk)) (fun i j hi hj hki hkj hne=>hdi i j hi hj hki hkj (hl i hi hki) (hl j hj hkj) hne) (fuel+1) L hsz hno hcnt
    rwa [qb3 (c' :=c) (L' :=nonS ops) hno (fun _ _ _=>rfl)]
   -- facts on one operation that is ready and no store
   have ready_of:∀i,i<ops.size->i∈Region.ready .any ops L->L.getD i false=false/\∃o,ops[i]? =some o/\∀e∈o.after,Region.binds .any e=true->L.getD e.on false=true:=fun i hi h=>by
    obtain⟨h1,o,ho,h2⟩:=mem_ready.1 h;rw [qgf oQ] at h1
    exact⟨h1,o,ho,h2⟩
   -- what an operation of the first kind does, in the state at hand
   have same:∀i o,i<ops.size->i∈Region.ready .any ops L->ops[i]? =some o->kindOf ops i=0->
    execOp (qbo ops c (fun j=>L.getD j false) a0).eval o=execOp (qbo ops cN (fun j=>isN ops j&&decide (j<i)) a0).eval o/\
    Region.wanted o (yielded ops (qbo ops c (fun j=>L.getD j false) a0).tmps)=Region.wanted o (yielded ops (qbo ops cN (fun j=>isN ops j&&decide (j<i)) a0).tmps):=by
    intro i o hi hr ho hk;obtain⟨hun,o',ho',hed⟩:=ready_of i hi hr
    rw [ho] at ho'
    injection ho' with ho'
    subst ho';have ck:=qpg hchk ho
    have e1:=qo3 hu o (fun cs b=>hsel i o cs b ho) c a0 (fun j=>L.getD j false&&(isN ops j&&decide (j<i))) (fun j=>L.getD j false) (by
     intro j;simp only [ziy];exact fun h=>h.1) (by
     intro j d h2 h1 hd hin
     have hj:j<ops.size:=by
      rcases zry j ops.size with h|h
      · exact h
      · unfold qb0 at hd;rw [zxy h] at hd;cases hd
     have hne:i≠j:=fun e=>by subst e;rw [hun] at h2;cases h2
     obtain⟨k1,k2,k3⟩:=ck.looks hk j d hj hne hd hin
     simp [h2,isN,k1,k3] at h1)
    have e2:=qo3 hu o (fun cs b=>hsel i o cs b ho) c a0 (fun j=>L.getD j false&&(isN ops j&&decide (j<i))) (fun j=>isN ops j&&decide (j<i)) (by
     intro j;simp only [ziy];exact fun h=>h.2) (by
     intro j d h2 h1 hd hin
     have hj:j<ops.size:=by
      rcases zry j ops.size with h|h
      · exact h
      · unfold qb0 at hd;rw [zxy h] at hd;cases hd
     have hji:j<i:=by simp at h2;exact h2.2
     obtain⟨k1,k2,k3⟩:=ck.looks hk j d hj oQ hd hin
     obtain⟨e,he,hb,hon⟩:=(qdt ho).1 k2;have:=hed e he hb;rw [hon] at this;rw [this] at h1
     simp [isN,k1,k3] at h1)
    have e3:qbo ops c (fun j=>isN ops j&&decide (j<i)) a0=qbo ops cN (fun j=>isN ops j&&decide (j<i)) a0:=
     qb3 (fun _ _=>rfl) (fun j hj h=>hcN j hj (by simp [isN] at h;exact h.1)) a0
    rw [e3] at e2;exact⟨e1.1.trans e2.1.symm,e1.2.trans e2.2.symm⟩
   have cntS:∀i,i<ops.size->L.getD i false=false->cnt (fun j=> !(L.setIfInBounds i true).getD j false) ops.size<=fuel:=fun i hi hun=>by
    have:=qz8 (f:=fun j=> !L.getD j false) (g:=fun j=> !(L.setIfInBounds i true).getD j false) hi (by simp only [hun];rfl) (by rw [qfw oQ];rfl) (fun j hj=>by rw [qbc hj])
    omega
   have actS:∀i v,i<ops.size->L.getD i false=false->(qbo ops c (fun j=>L.getD j false) a0).put (qb0 ops i) v=qbo ops (upd c i v) (fun j=>(L.setIfInBounds i true).getD j false) a0:=fun i v hi hun=>by
    rw [qhq hu hi hun]
    refine qb3 (fun j hj=> ?_) (fun _ _ _=>rfl) a0
    simp only [also]
    by_cases e:j=i
    · subst e;rw [qfw oQ];simp
    · rw [qbc e];simp [e]
   have updN:∀i,i<ops.size->kindOf ops i=0->upd c i (cN i)=c:=fun i hi hk=>by
    funext j
    simp only [upd]
    split
    · rename_i e;subst e;exact(hcN j hi hk).symm
    · rfl
   have clS:∀i,i<ops.size->i∈Region.ready .any ops L->∀j o,ops[j]? =some o->(L.setIfInBounds i true).getD j false=true->∀e∈o.after,Region.binds .any e=true->(L.setIfInBounds i true).getD e.on false=true:=fun i hi hr j o ho hl e he hb=>by
    have up:L.getD e.on false=true->(L.setIfInBounds i true).getD e.on false=true:=fun h=>by
     by_cases ee:e.on=i
     · rw [ee];exact qfw oQ
     · rw [qbc ee];exact h
    by_cases ej:j=i
    · subst ej
      obtain⟨_,o',ho',hed⟩:=ready_of j hi hr
      rw [ho] at ho'
      injection ho' with ho'
      subst ho';exact up (hed e he hb)
    · rw [qbc ej] at hl
      exact up (hcl j o ho hl e he hb)
   have dstE:∀i o,ops[i]? =some o->o.dst=qb0 ops i:=fun i o ho=>by simp [qb0,ho]
   -- the step behind an operation of the first kind
   have nextN:∀i w',i<ops.size->i∈Region.ready .any ops L->kindOf ops i=0->L.getD i false=false->Below W0.heap.size W0 w' ->(∀g ty cs,Blk w g ty cs->Blk w' g ty cs)->
    wpAnyH P .any ops Q (fun w=>Below W0.heap.size W0 w) fuel (L.setIfInBounds i true) ((qbo ops c (fun j=>L.getD j false) a0).put (qb0 ops i) (cN i)) w' :=by
    intro i w' hi hri hk hun hC' hkeep
    rw [actS i _ hi hun,updN i hi hk]
    have hlk:∀j,kindOf ops j=1->(L.setIfInBounds i true).getD j false=true->L.getD j false=true:=fun j hj h=>by
     rwa [qbc (fun e=>by subst e;rw [hk] at hj;cases hj)] at h
    exact ih _ c w' (by simpa using hsz) (cntS i hi hun) hC' (fun j hj hk2=>by rw [qbc (fun e=>by subst e;rw [hk] at hk2;cases hk2)];exact hst j hj hk2) hcN
     (fun j hj hk1 h=>let ⟨g,h1,h2,h3⟩:=hal j hj hk1 (hlk j hk1 h);⟨g,h1,h2,hkeep _ _ _ h3⟩)
     (fun j k hj hkk hkj hkk1 h1 h2 hne=>hdi j k hj hkk hkj hkk1 (hlk j hkj h1) (hlk k hkk1 h2) hne) (clS i hi hri)
   by_cases hq:∃i,i<ops.size/\i∈Region.ready .any ops L/\kindOf ops i=0/\quietAt ops i=true
   · -- a quiet one is taken first
     obtain⟨i,hi,hr,hk,hqi⟩:=hq;obtain⟨hun,o,ho,hed⟩:=ready_of i hi hr;have ck:=qpg hchk ho;obtain⟨s1,s2⟩:=same i o hi hr ho hk;obtain⟨o1,o2⟩:=hN i hi hk o ho
     have hy:YieldsIf P ops (fun w=>Below W0.heap.size W0 w) o (cN i) (qbo ops c (fun j=>L.getD j false) a0):=by
      cases hw:Region.wanted o (yielded ops (qbo ops c (fun j=>L.getD j false) a0).tmps)
      · exact .inr ⟨hw,o1 (by rw [<-s2];exact hw)⟩
      · rcases o2 (by rw [<-s2];exact hw) with ⟨_,h⟩|⟨h,_⟩
        · exact .inl ⟨hw,fun w hw=>by rw [s1];exact h w hw⟩
        · rw [quietAt,ho] at hqi;simp [h] at hqi
     refine wpAnyH_first ho hsel (fun c a w h=>hQ c a _ _ w h) fuel L _ w ?_ hr hy hC ?_
     · intro j oj hoj hne hunj hno
       rcases ck.apart hk hqi j oj hoj (fun e=>hne e.symm) with h|h|h
       · obtain⟨e,he,hb,hon⟩:=(qdt hoj).1 h
         exact absurd hon (hno e he hb)
       · obtain⟨e,he,hb,hon⟩:=(qdt ho).1 h
         have h1:=hed e he hb;rw [hon] at h1;have hj:j<ops.size:=(zqy.1 hoj).1;rw [qgf oQ,h1] at hunj
         cases hunj
       · exact h
     · rw [dstE i o ho]
       exact nextN i w hi hr hk hun hC (fun _ _ _ h=>h)
   · -- else whatever may come up is a call or an alloc
     obtain⟨m,hm,hmU,hmin⟩:=least hU;simp only [ziy,Bool.not_eq_true'] at hmU;obtain⟨om,hom⟩:∃o,ops[m]? =some o:=⟨_,Array.getElem?_eq_getElem hm⟩;have ckm:=qpg hchk hom;have hmk:kindOf ops m≠2:=by simpa [nonS] using hmU.1
     have hmr:m∈Region.ready .any ops L:=by
      refine mem_ready.2 ⟨by rw [qgf oQ];exact hmU.2,om,hom,fun e he hb=> ?_⟩
      have hlt:=ckm.back e he hb
      have hks:kindOf ops e.on≠2:=fun hk2=>by
       have h1:=ckm.nostore hmk e.on oQ oQ hk2
       have h2:=(qdt (j:=e.on) hom).2 ⟨e,he,hb,rfl⟩;rw [h1] at h2
       cases h2
      have h3:=hmin e.on hlt;simp only [nonS] at h3
      simpa [hks] using h3
     have hmq:¬ (kindOf ops m=0/\quietAt ops m=true):=fun h=>hq ⟨m,hm,hmr,h.1,h.2⟩
     refine⟨fun h0=>by rw [h0] at hmr;(cases hmr),fun i hir=> ?_⟩
     have hi:i<ops.size:=by
      obtain⟨_,o,ho,_⟩:=mem_ready.1 hir;exact(zqy.1 ho).1
     obtain⟨hun,o,ho,hed⟩:=ready_of i hi hir;have ck:=qpg hchk ho
     have hk2:kindOf ops i≠2:=fun hk2=>by
      have h1:=ck.waits hk2 m hm (fun e=>by subst e;exact hmk hk2) hmk hmq
      unfold qqv at h1;rw [Bool.or_eq_true] at h1
      rcases h1 with h1|h1
      · obtain⟨e,he,hb,hon⟩:=(qdt ho).1 h1
        have:=hed e he hb;rw [hon,hmU.2] at this
        cases this
      · obtain⟨k,hk,hkk⟩:=List.any_eq_true.1 h1
        rw [ziy] at hkk;obtain⟨e,he,hb,hon⟩:=(qdt ho).1 hkk.1;have h3:=hed e he hb;rw [hon] at h3;obtain⟨ok,hok⟩:∃o,ops[k]? =some o:=⟨_,Array.getElem?_eq_getElem (List.mem_range.1 hk)⟩;obtain⟨e2,he2,hb2,hon2⟩:=(qdt hok).1 hkk.2;have h4:=hcl k ok hok h3 e2 he2 hb2;rw [hon2,hmU.2] at h4
        cases h4
     have hkk:kindOf ops i=0\/kindOf ops i=1:=by
      unfold kindOf at hk2 ⊢
      rw [ho] at hk2 ⊢
      simp only at hk2 ⊢
      split
      · exact .inr rfl
      · split
        · rename_i h1 h2;rw [if_neg h1,if_pos h2] at hk2;exact absurd rfl hk2
        · exact .inl rfl
     rcases hkk with hk|hk
     · -- a call
       have hnq:quietAt ops i=false:=by
        cases h:quietAt ops i
        · rfl
        · exact absurd ⟨i,hi,hir,hk,h⟩ hq
       obtain⟨s1,s2⟩:=same i o hi hir ho hk;obtain⟨o1,o2⟩:=hN i hi hk o ho
       have hKn:∀w',Below W0.heap.size W0 w' ->(∀g ty cs,Blk w g ty cs->Blk w' g ty cs)->(Below W0.heap.size W0 w' /\wpAnyH P .any ops Q (fun w=>Below W0.heap.size W0 w) fuel (L.setIfInBounds i true) ((qbo ops c (fun j=>L.getD j false) a0).put o.dst (cN i)) w'):=
        fun w' hC' hkeep=>⟨hC',by rw [dstE i o ho];exact nextN i w' hi hir hk hun hC' hkeep⟩
       unfold wpOp
       simp only [ho]
       cases hw:Region.wanted o (yielded ops (qbo ops c (fun j=>L.getD j false) a0).tmps)
       · rw [if_neg sI,<-o1 (by rw [<-s2];exact hw)]
         exact hKn w hC (fun _ _ _ h=>h)
       · rw [if_pos rfl]
         refine .inl ?_
         rcases o2 (by rw [<-s2];exact hw) with ⟨hqq,_⟩|⟨_,h⟩
         · rw [quietAt,ho] at hnq;simp [hqq] at hnq
         · exact qno s1 (by rw [qml,qml]) (h w hC) (fun w' hb=>hKn w' (hC.trans (hb.mono hC.size)) (fun g ty cs hg=>hg.below hb hg.lt))
     · -- an alloc
       have hw:Region.wanted o (yielded ops (qbo ops c (fun j=>L.getD j false) a0).tmps)=true:=by
        have:o.guard=none:=by
         unfold kindOf at hk;rw [ho] at hk
         simp only at hk
         cases hA' :isA o
         · rw [hA'] at hk;simp at hk;split at hk<;>cases hk
         · simp only [isA,ziy,Option.isNone_iff_eq_none] at hA';exact hA'.1.2
        simp [Region.wanted,this]
       have hrun:=hA i o ho hk (qbo ops c (fun j=>L.getD j false) a0) w
       unfold wpOp
       simp only [ho]
       rw [if_pos hw]
       refine .inl ?_;unfold Oper.wp
       rw [hrun]
       simp only [Oper.upon]
       have hC' :Below W0.heap.size W0 (w.alloc (.cells (z i) (t i))):=hC.alloc hC.size _;refine⟨hC',?_⟩
       rw [dstE i o ho,actS i _ hi hun]
       refine ih _ _ _ (by simpa using hsz) (cntS i hi hun) hC' (fun j hj hj2=>by rw [qbc (fun e=>by subst e;rw [hk] at hj2;cases hj2)];exact hst j hj hj2) ?_ ?_ ?_ (clS i hi hir)
       · intro j hj hk0
         have:j≠i:=fun e=>by subst e;rw [hk] at hk0;cases hk0
         simp only [upd,if_neg this]
         exact hcN j hj hk0
       · intro j hj hk1 hl
         by_cases e:j=i
         · subst e
           exact⟨w.heap.size,by simp [upd],hC.size,Blk.new rfl rfl⟩
         · rw [qbc e] at hl
           obtain⟨g,h1,h2,h3⟩:=hal j hj hk1 hl;exact⟨g,by simp only [upd,if_neg e];exact h1,h2,h3.alloc _⟩
       · have fresh:∀j,j<ops.size->kindOf ops j=1->L.getD j false=true->c j≠ptrV w.heap.size:=fun j hj hk1 hl=>by
          obtain⟨g,h1,h2,h3⟩:=hal j hj hk1 hl
          rw [h1]
          intro e;have:=h3.lt;simp only [ptrV] at e;injection e with e
          injection e with e
          injection e with e
          omega
         intro j k hj hkk hkj hkk1 h1 h2 hne
         by_cases ej:j=i
         · subst ej
           rw [qbc (Ne.symm hne)] at h2
           simp only [upd,if_true,if_neg (Ne.symm hne)]
           exact fun e=>fresh k hkk hkk1 h2 e.symm
         · rw [qbc ej] at h1
           by_cases ek:k=i
           · subst ek
             simp only [upd,if_true,if_neg hne]
             exact fresh j hj hkj h1
           · rw [qbc ek] at h2
             simp only [upd,if_neg ej,if_neg ek]
             exact hdi j k hj hkk hkj hkk1 h1 h2 hne
end
section
variable {P:Program} {ops:Array Oper} {Q:Exit->Act->World->Prop}
def lexN (P:Program) (S:World->Prop) (K:Act->Prop):List (Oper×Option (Option Tmp×Bool))->Act->Prop
 | [],a=>K a
 | (o,g)::r,a=>∃v,((qeg g a.tmps=false/\v=undef)\/(qeg g a.tmps=true/\((qaz o.op=true/\∀w,S w->(execOp a.eval o).run P w=.ok (.value v) w)\/
     (qaz o.op=false/\∀w,S w->o.wp P a w (fun a' w' =>a' =a.put o.dst v/\Below w.heap.size w w') QF))))/\lexN P S K r (a.put o.dst v)
theorem q2z {l:List Oper} {S:World->Prop} {i:Nat} (hi:i<l.length) {a:Act} {v:Value}
 (h:(qeg (qak l (l.getD i default)) a.tmps=false/\v=undef)\/(qeg (qak l (l.getD i default)) a.tmps=true/\((qaz (bare (l.getD i default)).op=true/\∀w,S w->(execOp a.eval (bare (l.getD i default))).run P w=.ok (.value v) w)\/
   (qaz (bare (l.getD i default)).op=false/\∀w,S w->(bare (l.getD i default)).wp P a w (fun a' w' =>a' =a.put (bare (l.getD i default)).dst v/\Below w.heap.size w w') QF)))):
 obl P l.toArray S i a v:=by
 intro o ho
 have e:l.getD i default=o:=by
  simp only [lta] at ho
  rw [zpy,ho];rfl
 rw [e,<-qf4] at h
 rcases h with ⟨hw,hv⟩|⟨hw,h⟩
 · exact⟨fun _=>hv,(fun h=>by rw [hw] at h;(cases h))⟩
 · refine⟨(fun h=>by rw [hw] at h;(cases h)),fun _=> ?_⟩
   rcases h with ⟨hk,h⟩|⟨hk,h⟩
   · exact .inl ⟨hk,fun w hw=>by rw [<-qcb];exact h w hw⟩
   · refine .inr ⟨hk,fun w hw=> ?_⟩
     have:=h w hw;unfold Oper.wp at this ⊢;rw [qcb] at this;exact this
theorem qww {l:List Oper} (hu:Uniq l.toArray) {S:World->Prop} {K:Act->Prop} (a0:Act):∀(m k:Nat) (c:Nat->Value),k+m=l.length->
 lexN P S K (((List.range' k m).filter (isN l.toArray)).map fun i=>(bare (l.getD i default),qak l (l.getD i default))) (qbo l.toArray c (fun j=>isN l.toArray j&&decide (j<k)) a0)->
 ∃c' :Nat->Value,(∀j,j<k->c' j=c j)/\(∀i,k<=i->i<l.length->kindOf l.toArray i=0->obl P l.toArray S i (qbo l.toArray c' (fun j=>isN l.toArray j&&decide (j<i)) a0) (c' i))/\
  K (qbo l.toArray c' (isN l.toArray) a0):=by
 intro m
 induction m with
 | zero=>
   intro k c hk h;refine⟨c,fun _ _=>rfl,fun i h1 h2 _=>by omega,?_⟩
   simp only [List.range'_zero,List.filter_nil,zey,lexN] at h
   rwa [qb3 (c' :=c) (L' :=isN l.toArray) (fun j hj=>by simp at hj;simp;omega) (fun _ _ _=>rfl)] at h
 | succ m ih=>
   intro k c hk h;rw [List.range'_succ] at h
   by_cases hn:isN l.toArray k=true
   · rw [List.filter_cons_of_pos hn,zdy] at h
     unfold lexN at h;obtain⟨v,hv,h⟩:=h
     have hd:(bare (l.getD k default)).dst=qb0 l.toArray k:=by
      simp [qb0,bare,zpy,show k<l.length by omega]
     have e:(qbo l.toArray c (fun j=>isN l.toArray j&&decide (j<k)) a0).put (bare (l.getD k default)).dst v=qbo l.toArray (upd c k v) (fun j=>isN l.toArray j&&decide (j<k+1)) a0:=by
      rw [hd,qhq hu (by simp;omega) sI]
      refine qb3 (fun j hj=> ?_) (fun _ _ _=>rfl) a0
      simp only [also]
      by_cases ej:j=k
      · subst ej;simp [hn]
      · have:decide (j<k+1)=decide (j<k):=by simp;omega
        rw [this];simp [ej]
     rw [e] at h;obtain⟨c',h1,h2,h3⟩:=ih (k+1) (upd c k v) oQ h
     have hck:c' k=v:=by rw [h1 k oQ];simp [upd]
     have hlt:∀j,j<k->c' j=c j:=fun j hj=>by rw [h1 j oQ];simp [upd,show j≠k by omega]
     refine⟨c',hlt,fun i hi1 hi2 hi3=> ?_,h3⟩
     by_cases ei:i=k
     · subst ei
       rw [hck,qb3 (c:=c') (c' :=c) (L' :=fun j=>isN l.toArray j&&decide (j<i)) (fun _ _=>rfl) (fun j _ hj=>hlt j (by simp at hj;exact hj.2))]
       exact q2z oQ hv
     · exact h2 i oQ hi2 hi3
   · rw [List.filter_cons_of_neg hn] at h
     have hn' :isN l.toArray k=false:=by simpa using hn
     rw [qb3 (c' :=c) (L' :=fun j=>isN l.toArray j&&decide (j<k+1)) (fun j _=>by
      by_cases ej:j=k
      · subst ej;simp [hn']
      · have:decide (j<k+1)=decide (j<k):=by simp;omega
        rw [this]) (fun _ _ _=>rfl)] at h
     obtain⟨c',h1,h2,h3⟩:=ih (k+1) c oQ h
     refine⟨c',fun j hj=>h1 j oQ,fun i hi1 hi2 hi3=> ?_,h3⟩
     by_cases ei:i=k
     · subst ei;simp [isN,hi3] at hn'
     · exact h2 i oQ hi2 hi3
theorem qw9 (hu:Uniq ops) {c:Nat->Value} {a0:Act}:∀(q:List Nat) (L:Nat->Bool),q.Nodup->(∀i∈q,i<ops.size/\L i=false)->
 q.foldl (fun a i=>a.put (qb0 ops i) (c i)) (qbo ops c L a0)=qbo ops c (fun j=>L j||q.contains j) a0:=by
 intro q
 induction q with
 | nil=>intro L _ _;simp
 | cons i r ih=>
   intro L hnd hq;obtain⟨hi,hLi⟩:=hq i sI
   rw [List.nodup_cons] at hnd
   rw [List.foldl_cons,qhq hu hi hLi]
   have hc:upd c i (c i)=c:=by funext j;simp only [upd];split<;>simp_all
   rw [hc,ih (also L i) hnd.2 (fun j hj=>⟨(hq j (by simp [hj])).1,by
    have hne:j≠i:=fun e=>hnd.1 (e ▸ hj)
    simp [also,(hq j (by simp [hj])).2,hne]⟩)]
   refine qb3 (fun j _=> ?_) (fun _ _ _=>rfl) a0
   simp only [also,List.contains_cons]
   by_cases e:j=i
   · subst e;simp
   · have:(j==i)=false:=by simpa using e
     simp [e,this]
theorem qfe (n i:Nat):(Array.replicate n false).getD i false=false:=by
 rw [Array.getD_eq_getD_getElem?,Array.getElem?_replicate]
 split<;>rfl
def tyOf (o:Oper):TypeId:=match o.op with | .alloc t=>t|_=>0
def qqa (l:List Oper) (p q r:List Nat):Bool:=
 qhg l.toArray&&(p==(List.range' 0 l.length).filter (isN l.toArray)&&(q==(List.range l.length).filter (fun i=>kindOf l.toArray i==1) &&
  (qeo l.toArray r ((List.range l.length).map (nonS l.toArray)).toArray&&(r.all (fun i=>decide (i<l.length))&&decide (r.length<=cnt (fun j=> !nonS l.toArray j) l.length)))))
theorem qjq (p q r:List Nat) (z:Nat->Array Value) {l:List Oper} {id:Nat} {a:Act} {W0:World} (hm:P.follows .mixedOrders=true)
 (hs:qqa l p q r=true) (hQ:∀c a d v w,Q (.panic c) (a.put d v) w->Q (.panic c) a w)
 (hz:∀i∈q,∀w:World,(Instr.alloc (tyOf (l.getD i default)) true (.tuple #[])).run P w=.ok (ptrV w.heap.size) (w.alloc (.cells (z i) (tyOf (l.getD i default)))))
 (h:lexN P (fun w=>Below W0.heap.size W0 w) (fun aN=>∀(gs:Nat->Nat) (wf:World),Below W0.heap.size W0 wf->(∀i∈q,W0.heap.size<=gs i/\Blk wf (gs i) (tyOf (l.getD i default)) (z i))->(∀i∈q,∀j∈q,i≠j->gs i≠gs j)->
   lexL P Q (fun w=>Below W0.heap.size W0 w) (r.map fun i=>(bare (l.getD i default),qak l (l.getD i default))) (q.foldl (fun a i=>a.put (l.getD i default).dst (ptrV (gs i))) aN) wf)
   (p.map fun i=>(bare (l.getD i default),qak l (l.getD i default))) a):(Code.region id l.toArray true).wp P Q a W0:=by
 simp only [qqa,ziy,beq_iff_eq,List.all_eq_true,decide_eq_true_eq] at hs;obtain⟨hchk,hp,hq,hpl,hr,hrl⟩:=hs;have hu:=qu7 hchk
 have hns:Region.noSelect l.toArray=true:=by
  have:=hchk;simp only [qhg,ziy] at this;exact this.1
 have hq' :∀i,i∈q↔i<l.length/\kindOf l.toArray i=1:=fun i=>by rw [hq];simp
 have hqn:q.Nodup:=by rw [hq];exact List.Pairwise.filter _ List.nodup_range
 have e0:a=qbo l.toArray (fun _=>undef) (fun j=>isN l.toArray j&&decide (j<0)) a:=by
  refine qhh rfl fun s=> ?_
  rw [qb5,qoz (fun i _ h _=>by simp at h)]
  cases a.tmps[s]? <;>rfl
 rw [hp,e0] at h;obtain⟨cN,_,hN,hK⟩:=qww hu a l.length 0 _ oQ h
 refine wp_region_held (S:=fun w=>Below W0.heap.size W0 w) hm ?_
 have e1:a=qbo l.toArray cN (fun j=>(Array.replicate l.toArray.size false).getD j false) a:=by
  refine qhh rfl fun s=> ?_
  rw [qb5,qoz (fun i hi h _=>by rw [qfe] at h;cases h)]
  cases a.tmps[s]? <;>rfl
 rw [e1]
 refine qur hchk hQ W0 a cN (fun i hi hk=>hN i (zly _) (by simpa using hi) hk) z (fun i=>tyOf (l.getD i default)) ?_ ?_ _ _ cN _ sI ?_ ((Below.refl _ _).drew) (fun j hj _=>qfe _ _) (fun _ _ _=>rfl)
  (fun i hi _ h=>by rw [qfe] at h;cases h) (fun i j _ _ _ _ h _ _=>by rw [qfe] at h;cases h) (fun j o _ h=>by rw [qfe] at h;cases h)
 · -- the allocs
   intro i o ho hk a' w
   have hi:i<l.length:=by
    have:=(zqy.1 ho).1
    simpa using this
   have e:l.getD i default=o:=by
    simp only [lta] at ho
    rw [zpy,ho];rfl
   have hop:∃t,o.op=.alloc t:=by
    unfold kindOf at hk;rw [ho] at hk
    simp only at hk
    cases hA' :isA o
    · rw [hA'] at hk;simp at hk;split at hk<;>cases hk
    · simp only [isA,ziy] at hA'
      cases hop:o.op<;>simp [hop] at hA'
      exact⟨_,rfl⟩
   obtain⟨t,hop⟩:=hop;have hzz:=hz i ((hq' i).2 ⟨hi,hk⟩) w
   rw [e] at hzz ⊢
   have ht:tyOf o=t:=by simp [tyOf,hop]
   rw [ht] at hzz ⊢
   unfold execOp
   rw [hop]
   simp only [Sem.run_bind,hzz,Result.andThen_ok,Sem.run_pure]
 · -- the stores
   intro c w hC hc hal hdi fuel L hL1 hL2 hcnt
   have hLe:L=((List.range l.length).map (nonS l.toArray)).toArray:=by
    apply Array.ext_getElem?
    intro j
    rcases zry j l.length with hj|hj
    · have:=hL2 j (by simpa using hj)
      have hlt:j<L.size:=by rw [hL1];simpa using hj
      have hg:L[j]=nonS l.toArray j:=by simpa [hlt] using this
      rw [Array.getElem?_eq_getElem hlt,hg]
      simp [hj]
    · rw [zxy (by rw [hL1];simpa using hj)]
      simp [hj]
   have hcn:r.length<=fuel:=by
    refine zcy hrl (zcy (Nat.le_of_eq ?_) hcnt)
    simp only [List.size_toArray]
    exact qo7 fun j hj=>by rw [hL2 j (by simpa using hj)]
   obtain⟨gs,hgs⟩:∃gs:Nat->Nat,∀i,i<l.toArray.size->kindOf l.toArray i=1->c i=ptrV (gs i)/\W0.heap.size<=gs i/\Blk w (gs i) (tyOf (l.getD i default)) (z i):=by
    refine⟨fun i=>match c i with | .pointer (some ad)=>ad.block|_=>0,fun i hi hk=> ?_⟩
    obtain⟨g,h1,h2,h3⟩:=hal i hi hk
    simp only [h1,ptrV]
    exact⟨trivial,h2,h3⟩
   have hfin:=hK gs w hC (fun i hi=>(hgs i (by simpa using ((hq' i).1 hi).1) ((hq' i).1 hi).2).2) (fun i hi j hj hne e=>by
    obtain⟨hi1,hi2⟩:=(hq' i).1 hi;obtain⟨hj1,hj2⟩:=(hq' j).1 hj;refine hdi i j (by simpa using hi1) (by simpa using hj1) hi2 hj2 hne ?_
    rw [(hgs i (by simpa using hi1) hi2).1,(hgs j (by simpa using hj1) hj2).1,e])
   have hact:q.foldl (fun a i=>a.put (l.getD i default).dst (ptrV (gs i))) (qbo l.toArray cN (isN l.toArray) a)=qbo l.toArray c (nonS l.toArray) a:=by
    have h1:qbo l.toArray cN (isN l.toArray) a=qbo l.toArray c (isN l.toArray) a:=
     qb3 (fun _ _=>rfl) (fun j hj h=>(hc j hj (by simpa [isN] using h)).symm) a
    have h2:∀(qq:List Nat) (x:Act),(∀i∈qq,i∈q)->qq.foldl (fun a i=>a.put (l.getD i default).dst (ptrV (gs i))) x=qq.foldl (fun a i=>a.put (qb0 l.toArray i) (c i)) x:=by
     intro qq
     induction qq with
     | nil=>intro x _;rfl
     | cons i r ih=>
       intro x hx;have hi:=(hq' i).1 (hx i sI)
       rw [List.foldl_cons,List.foldl_cons,(hgs i (by simpa using hi.1) hi.2).1,show (l.getD i default).dst=qb0 l.toArray i by
        simp [qb0,zpy,hi.1]]
       exact ih _ fun j hj=>hx j (by simp [hj])
    rw [h1,h2 q _ (fun _ h=>h),qw9 hu q _ hqn (fun i hi=>⟨by simpa using ((hq' i).1 hi).1,by simp [isN,((hq' i).1 hi).2]⟩)]
    refine qb3 (fun j hj=> ?_) (fun _ _ _=>rfl) a
    have hj' :j<l.length:=by simpa using hj
    simp only [isN,nonS]
    have hk3:kindOf l.toArray j≠3:=by
     unfold kindOf
     rw [Array.getElem?_eq_getElem hj]
     simp only
     split
     · simp
     · split<;>simp
    have hk:kindOf l.toArray j=0\/kindOf l.toArray j=1\/kindOf l.toArray j=2:=by
     unfold kindOf at hk3 ⊢
     rw [Array.getElem?_eq_getElem hj] at hk3 ⊢
     simp only at hk3 ⊢
     split
     · simp
     · split<;>simp
    rcases hk with hk|hk|hk
    · simp [hk]
    · have:q.contains j=true:=by simpa using (hq' j).2 ⟨hj',hk⟩
      rw [hk,this];rfl
    · have:q.contains j=false:=by
       simp only [List.contains_eq_mem,decide_eq_false_iff_not]
       exact fun h=>by have:=((hq' j).1 h).2;omega
      rw [hk,this];rfl
   rw [hact] at hfin;exact qip hns hQ r fuel L _ w hcn (by rw [hLe];exact hpl) hC (qcq r _ _ hr hfin)
 · rw [show l.toArray.size=l.length by simp]
   have:∀n,cnt (fun j=> !(Array.replicate l.length false).getD j false) n<=n:=fun n=>by
    induction n with
    | zero=>simp [cnt]
    | succ n ih=>simp only [cnt];split<;>omega
   exact this _
theorem qbe (p q r:List Nat) (z:Nat->Array Value) {l:List Oper} {id:Nat} {a:Act} {W0:World} (hm:P.follows .mixedOrders=true)
 (hs:qqa l p q r=true) (hQ:∀c a d v w,Q (.panic c) (a.put d v) w->Q (.panic c) a w)
 (hz:∀i∈q,∀w:World,(Instr.alloc (tyOf (l.getD i default)) true (.tuple #[])).run P w=.ok (ptrV w.heap.size) (w.alloc (.cells (z i) (tyOf (l.getD i default)))))
 (h:∀K:Act->Prop,Shut (∀aN,(∀(gs:Nat->Nat) (wf:World),Below W0.heap.size W0 wf->(∀i∈q,W0.heap.size<=gs i/\Blk wf (gs i) (tyOf (l.getD i default)) (z i))->(∀i∈q,∀j∈q,i≠j->gs i≠gs j)->
   lexL P Q (fun w=>Below W0.heap.size W0 w) (r.map fun i=>(bare (l.getD i default),qak l (l.getD i default))) (q.foldl (fun a i=>a.put (l.getD i default).dst (ptrV (gs i))) aN) wf)->K aN)->
   lexN P (fun w=>Below W0.heap.size W0 w) K (p.map fun i=>(bare (l.getD i default),qak l (l.getD i default))) a):(Code.region id l.toArray true).wp P Q a W0:=
 qjq p q r z hm hs hQ hz (h _ fun _ h=>h)
theorem qcx {S:World->Prop} {K:Act->Prop} {r:List (Oper×Option (Option Tmp×Bool))} {o:Oper} {v:Value} {a:Act} (hk:qaz o.op=true)
 (hy:∀w,S w->(execOp a.eval o).run P w=.ok (.value v) w) (h:lexN P S K r (a.put o.dst v)):lexN P S K ((o,none)::r) a:=
 ⟨v,.inr ⟨rfl,.inl ⟨hk,hy⟩⟩,h⟩
theorem qdi {S:World->Prop} {K:Act->Prop} {r:List (Oper×Option (Option Tmp×Bool))} {o:Oper} {v:Value} {a:Act} (hk:qaz o.op=false)
 (hy:∀w,S w->∀K' :Act->World->Prop,Shut (∀a' w',a' =a.put o.dst v->Below w.heap.size w w' ->K' a' w')->o.wp P a w K' QF) (h:lexN P S K r (a.put o.dst v)):lexN P S K ((o,none)::r) a:=
 ⟨v,.inr ⟨rfl,.inr ⟨hk,fun w hw=>hy w hw _ (fun _ _ ha hb=>⟨ha,hb⟩)⟩⟩,h⟩
theorem qbt {R G:World->Prop} {W:World} (h:R W) (k:∀w2,R w2->G w2):G W:=k W h
theorem qeb {S:World->Prop} {K:Act->Prop} {a:Act} (h:K a):lexN P S K [] a:=h
end
attribute [irreducible] lexN
end Pg
