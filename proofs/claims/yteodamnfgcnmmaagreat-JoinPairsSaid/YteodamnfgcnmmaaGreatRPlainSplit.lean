/-Plain definitions-/
import Derived.Below
set_option linter.unusedVariables false
set_option linter.unusedSimpArgs false
abbrev zay:= @Option.bind_some
abbrev zby:= @List.getElem?_eq_getElem
abbrev zcy:= @Nat.le_trans
abbrev zdy:= @List.map_cons
abbrev zey:= @List.map_nil
abbrev zfy:= @Bool.not_false
abbrev zgy:= @Bool.not_true
abbrev zhy:= @Nat.le_refl
abbrev ziy:= @Bool.and_eq_true
abbrev zjy:= @List.mem_of_getElem?
abbrev zky:= @Nat.lt_of_lt_of_le
abbrev zly:= @Nat.zero_le
abbrev zmy:= @List.take_of_length_le
abbrev zny:= @List.length_append
abbrev zoy:= @List.getElem?_eq_none
abbrev zpy:= @List.getD_eq_getElem?_getD
abbrev zqy:= @Array.getElem?_eq_some_iff
abbrev zry:= @Nat.lt_or_ge
abbrev zsy:= @List.getElem?_eq_some_iff
abbrev zty:= @List.mem_map
abbrev zuy:= @Nat.mul_le_mul_right
abbrev zvy:= @List.flatMap_cons
abbrev zwy:= @List.take_add_one
abbrev zxy:= @Array.getElem?_eq_none
abbrev zyy:= @List.length_map
abbrev zzy:= @Nat.mod_eq_of_lt
abbrev zax:= @List.length_cons
abbrev zbx:= @List.eq_nil_of_length_eq_zero
abbrev zcx:= @Int.mul_le_mul_of_nonneg_left
abbrev zdx:= @List.getElem?_append_right
abbrev zex:= @List.getElem?_append_left
abbrev zfx:= @List.map_append
abbrev zgx:= @List.drop_eq_getElem_cons
abbrev zhx:= @List.mem_singleton
abbrev zix:= @Nat.lt_of_le_of_lt
abbrev znx:= @Nat.succ_mul
abbrev zpx:= @List.getElem?_map
theorem oQ {p:Prop} (h:p:=by omega):p:=h
theorem dE {p:Prop} (h:p:=by decide):p:=h
theorem sI {p:Prop} (h:p:=by simp):p:=h
theorem lAq:(∀(α:Type) (l:List α) (i:Nat),l.toArray[i]? =l[i]?)/\(∀(α:Type) (a:α) (l:List α),(a::l)[0]? =some a)/\∀(α:Type) (a:α) (l:List α) (i:Nat),(a::l)[i+1]? =l[i]? :=⟨fun _ _ _=>List.getElem?_toArray,fun _ _ _=>List.getElem?_cons_zero,fun _ _ _ _=>List.getElem?_cons_succ⟩
theorem lSq:(∀(α:Type) (l:List α) (i:Nat) (a:α),l.toArray.setIfInBounds i a=(l.set i a).toArray)/\(∀(α:Type) (l:List α) (a b:α),(a::l).set 0 b=b::l)/\∀(α:Type) (l:List α) (n:Nat) (a b:α),(a::l).set (n+1) b=a::l.set n b:=⟨fun _ _ _ _=>List.setIfInBounds_toArray ..,fun _ _ _ _=>List.set_cons_zero,fun _ _ _ _ _=>List.set_cons_succ⟩

namespace Pg
theorem lcz {α:Type _} {a:α} {l:List α}:(a::l)[0]? =some a:=List.getElem?_cons_zero
theorem lcs {α:Type _} {a:α} {l:List α} {i:Nat}:(a::l)[i+1]? =l[i]? :=List.getElem?_cons_succ
theorem lta {α:Type _} {l:List α} {i:Nat}:l.toArray[i]? =l[i]? :=List.getElem?_toArray
theorem lsi {α:Type _} (l:List α) (i:Nat) (a:α):l.toArray.setIfInBounds i a=(l.set i a).toArray:=List.setIfInBounds_toArray l i a
theorem lsz {α:Type _} {l:List α} {a b:α}:(a::l).set 0 b=b::l:=List.set_cons_zero
theorem lss {α:Type _} {l:List α} {n:Nat} {a b:α}:(a::l).set (n+1) b=a::l.set n b:=List.set_cons_succ
theorem ldz {α:Type _} {a d:α} {l:List α}:(a::l).getD 0 d=a:=List.getD_cons_zero
theorem lds {α:Type _} {a d:α} {l:List α} {n:Nat}:(a::l).getD (n+1) d=l.getD n d:=List.getD_cons_succ
structure Pt where
 x:Int
 y:Int
instance:DecidableEq Pt:=fun a b=>
 if h:a.x=b.x/\a.y=b.y then isTrue (by cases a;cases b;simp_all) else isFalse (fun e=>h (by subst e;exact⟨rfl,rfl⟩))
instance:Inhabited Pt:=⟨⟨0,0⟩⟩
theorem Pt.ext' {a b:Pt} (hx:a.x=b.x) (hy:a.y=b.y):a=b:=by cases a;cases b;simp_all
structure Bx where
 lo:Pt
 hi:Pt
def farB (n:Int):Bool:=decide (n< -1073741823)||decide (1073741823<n)
def okPt (p:Pt):Bool:= !(farB p.x||farB p.y)
def qaz (b:Bx):Nat:=if okPt b.lo&&okPt b.hi then(if decide (b.hi.x<b.lo.x)||decide (b.hi.y<b.lo.y) then 1 else 0) else 2
def okBx (b:Bx):Bool:=decide (qaz b=0)
def qag (a b c:Pt):Int:=(b.x-a.x)*(c.y-a.y)-(b.y-a.y)*(c.x-a.x)
def qcs (a b c:Pt):Int:=if okPt a&&okPt b&&okPt c then qag a b c else 0
def sgn (n:Int):Int:=if n<0 then -1 else if 0<n then 1 else 0
def qbg (a b c:Pt):Int:=sgn (qcs a b c)
def qm1 (b:Bx) (p:Pt):Bool:=decide (b.lo.x<=p.x)&&decide (p.x<=b.hi.x)&&decide (b.lo.y<=p.y)&&decide (p.y<=b.hi.y)
def bhas (b:Bx) (p:Pt):Bool:=okBx b&&okPt p&&qm1 b p
def qfr (a b:Bx):Bool:=decide (a.lo.x<=b.hi.x)&&decide (b.lo.x<=a.hi.x)&&decide (a.lo.y<=b.hi.y)&&decide (b.lo.y<=a.hi.y)
def qbk (a b:Bx):Bool:=okBx a&&okBx b&&qfr a b
def qli (a b:Bx):Bool:=okBx a&&bhas b a.lo&&bhas b a.hi
def qjq (a b:Bx):Bx:=⟨⟨min a.lo.x b.lo.x,min a.lo.y b.lo.y⟩,⟨max a.hi.x b.hi.x,max a.hi.y b.hi.y⟩⟩
def qbz:Bx:=⟨⟨0,0⟩,⟨0,0⟩⟩
def qbr (u:Bx):List Bx->Bx×Nat
 | []=>(u,0)
 | b::r=>if qaz b=0 then qbr (qjq u b) r else(qbz,qaz b)
def qb4:List Bx->Bx×Nat
 | []=>(qbz,1)
 | b::r=>qbr b (b::r)
structure Ds where
 hi:Nat
 lo:Nat
 den:Nat
instance:DecidableEq Ds:=fun a b=>
 if h:a.hi=b.hi/\a.lo=b.lo/\a.den=b.den then isTrue (by cases a;cases b;simp_all) else isFalse (fun e=>h (by subst e;exact⟨rfl,rfl,rfl⟩))
def gap (n l h:Int):Int:=max (max (l-n) (n-h)) 0
def dotR (o a b:Pt):Int:=(a.x-o.x)*(b.x-o.x)+(a.y-o.y)*(b.y-o.y)
def span (a b:Pt):Bx:=⟨⟨min a.x b.x,min a.y b.y⟩,⟨max a.x b.x,max a.y b.y⟩⟩
def onS (a b p:Pt):Bool:=okPt a&&okPt b&&okPt p&&decide (qag a b p=0)&&qm1 (span a b) p
def qb5 (a b c d:Pt):Bool:=decide (qbg a b c*qbg a b d<0)&&decide (qbg c d a*qbg c d b<0)
def qa1 (a b c d:Pt):Bool:=okPt a&&okPt b&&okPt c&&okPt d&&(qb5 a b c d||onS a b c||onS a b d||onS c d a||onS c d b)
def mbox (a b:Pt) (r:Bx):Bool:=okPt a&&okPt b&&okBx r&&(bhas r a||bhas r b||qa1 a b r.lo r.hi||qa1 a b ⟨r.lo.x,r.hi.y⟩ ⟨r.hi.x,r.lo.y⟩)
def qe7 (a b:Pt) (r:Bx):Bool:=okPt a&&okPt b&&okBx r&&(bhas r a||bhas r b||qa1 a b r.lo ⟨r.hi.x,r.lo.y⟩||qa1 a b ⟨r.hi.x,r.lo.y⟩ r.hi||qa1 a b r.hi ⟨r.lo.x,r.hi.y⟩||qa1 a b ⟨r.lo.x,r.hi.y⟩ r.lo)
def pt (l:List Pt) (i:Nat):Pt:=l.getD i ⟨0,0⟩
def nx (l:List Pt) (i:Nat):Pt:=pt l ((i+1)%l.length)
def qjv (l:List Pt) (i k:Nat):Bool:=
 if pt l i=pt l k then true
 else if (i+1)%l.length=k then onS (pt l i) (nx l i) (nx l k)||onS (pt l k) (nx l k) (pt l i)
 else if (k+1)%l.length=i then onS (pt l k) (nx l k) (nx l i)||onS (pt l i) (nx l i) (pt l k)
 else qa1 (pt l i) (nx l i) (pt l k) (nx l k)
def qdz (l:List Pt):Bool:=(List.range l.length).any fun i=>(List.range l.length).any fun k=>decide (k≠i)&&qjv l i k
def qa7 (l:List Pt):Nat:=if l.length<3\/64<l.length then 3 else if l.all okPt then(if qdz l then 4 else 0) else 2
def qhc (a c b:Pt):Bool:=decide (a≠c)&&decide (b≠c)&&decide (qcs c a b=0)&&decide (0<dotR c a b)
def clash (l:List Pt) (i j:Nat):Bool:=
 if j=i+1 then qhc (pt l i) (pt l (i+1)) (nx l j)
 else if i=0/\j+1=l.length then qhc (pt l (i+1)) (pt l i) (pt l j)
 else qa1 (pt l i) (pt l (i+1)) (pt l j) (nx l j)
def qd1 (l:List Pt):Bool:=(List.range l.length).any fun i=>(List.range l.length).any fun j=>decide (i<j)&&(decide (pt l i=pt l j)||clash l i j)
def qct (l:List Pt):Nat:=if l.length<3\/64<l.length then 3 else if l.all okPt then(if qd1 l then 4 else 0) else 2
def qjz (l:List Pt) (p:Pt):Bool:=(List.range l.length).any fun i=>onS (pt l i) (nx l i) p
def qba (a b p:Pt):Bool:=
 if b.y<a.y then decide (b.y<=p.y)&&decide (p.y<a.y)&&decide (0<qcs b a p)
 else decide (a.y<=p.y)&&decide (p.y<b.y)&&decide (0<qcs a b p)
def qb3 (l:List Pt) (p:Pt):Nat->Bool
 | 0=>false
 | k+1=>xor (qb3 l p k) (qba (pt l k) (nx l k) p)
def qdc (l:List Pt) (p:Pt):Bool:=qjz l p||qb3 l p l.length
def rhas (l:List Pt) (p:Pt):Bool:=decide (qa7 l=0)&&okPt p&&qdc l p
def qah (l:List Pt):Bx:=(qb4 (l.map fun p=>⟨p,p⟩)).1
structure Ob where
 kind:Int
 pts:List Pt
structure Qu where
 kind:Int
 box:Bx
 ring:List Pt
def qbm (o:Ob):Bx:=
 if o.kind=1 then⟨pt o.pts 0,pt o.pts 0⟩
 else if o.kind=2 then⟨⟨(pt o.pts 0).x,0⟩,⟨(pt o.pts 0).y,0⟩⟩
 else if o.kind=3 then⟨pt o.pts 0,pt o.pts 1⟩
 else qbz
def qcn (o:Ob):Bool:=decide (o.kind=1\/o.kind=2\/o.kind=3)
def qjm (p:Pt):Nat:=if okPt p then(if p.y<p.x then 1 else 0) else 2
def ckOb (o:Ob):Nat:=
 if o.kind=1 then(if o.pts.length=1 then qaz ⟨pt o.pts 0,pt o.pts 0⟩ else 3)
 else if o.kind=2 then(if o.pts.length=1 then qjm (pt o.pts 0) else 3)
 else if o.kind=3 then(if o.pts.length=2 then qaz ⟨pt o.pts 0,pt o.pts 1⟩ else 3)
 else if o.kind=4 then qa7 o.pts else 5
def qds (o:Ob):Nat:=
 if o.kind=1 then(if o.pts.length=1 then(if okPt (pt o.pts 0) then 0 else 2) else 3)
 else if o.kind=2 then(if o.pts.length=1 then qjm (pt o.pts 0) else 3)
 else if o.kind=3 then(if o.pts.length=2 then qaz ⟨pt o.pts 0,pt o.pts 1⟩ else 3)
 else if o.kind=4 then qct o.pts else 5
def ckQu (q:Qu):Nat:=
 if q.kind=1\/q.kind=2 then qaz q.box else if q.kind=3 then(if okPt q.box.lo then 0 else 2) else if q.kind=4 then qa7 q.ring else 5
def cutS (l:List Pt) (b:Bx):Bool:=(List.range l.length).any (fun i=>mbox (pt l i) (nx l i) b)||rhas l b.lo
def qc9 (a b:List Pt):Bool:=(List.range a.length).any fun i=>(List.range b.length).any fun k=>qa1 (pt a i) (nx a i) (pt b k) (nx b k)
def qff (a b:List Pt):Bool:=qbk (qah a) (qah b)&&(qc9 a b||(rhas a (pt b 0)||rhas b (pt a 0)))
def qaj (o:Ob):Bx:=if qcn o then qbm o else qah o.pts
def qco (a b:Ob):Bool:=
 if qcn a then(if qcn b then qbk (qbm a) (qbm b) else cutS b.pts (qbm a))
 else if qcn b then cutS a.pts (qbm b) else qff a.pts b.pts
def qcp (o:Ob) (q:Qu):Bool:=
 if ckOb o=0/\ckQu q=0 then
  (if q.kind=1 then qco o ⟨3, [q.box.lo,q.box.hi]⟩ else if q.kind=2 then qli (qaj o) q.box else if q.kind=3 then qco o ⟨1, [q.box.lo]⟩ else qco o ⟨4,q.ring⟩)
 else false
def qbl (a b:Ob):Bool:=decide (ckOb a=0)&&decide (ckOb b=0)&&qco a b
def vint (v:Nat):List Nat:=if v<128 then [v] else(v%128+128)::vint (v/128)
termination_by v
decreasing_by omega
theorem qdd {v:Nat} (h:v<128):vint v= [v]:=by rw [vint,if_pos h]
theorem qfu {v:Nat} (h:¬ v<128):vint v=(v%128+128)::vint (v/128):=by rw [vint,if_neg h]
theorem qu6:∀(n v:Nat),v<n->∀c∈vint v,c<256:=by
 intro n
 induction n with
 | zero=>intro v h;omega
 | succ n ih=>
   intro v h c hc
   by_cases h1:v<128
   · rw [qdd h1] at hc
     simp at hc
     omega
   · rw [qfu h1] at hc
     rcases List.mem_cons.1 hc with h2|h2
     · omega
     · exact ih _ oQ c h2
theorem qqs {v c:Nat} (h:c∈vint v):c<256:=qu6 (v+1) v oQ c h
theorem qof (v:Nat):1<=(vint v).length:=by
 by_cases h:v<128
 · rw [qdd h];simp
 · rw [qfu h];simp
theorem qs3:∀(k v:Nat),v<128 ^ (k+1)->(vint v).length<=k+1:=by
 intro k
 induction k with
 | zero=>intro v h;rw [qdd (by simpa using h)];simp
 | succ k ih=>
   intro v h
   by_cases h1:v<128
   · rw [qdd h1];simp
   · rw [qfu h1]
     have:=ih (v/128) (by rw [Nat.pow_succ] at h;omega)
     simp only [zax]
     omega
theorem qj2 {v:Nat} (h:v<18446744073709551616):(vint v).length<=10:=qs3 9 v (zky h dE)
def uv:List Nat->Nat->Nat->Nat×Nat
 | [],_,_=>(0,0)
 | c::r,i,v=>if 10<=i then(0,0) else if i=9/\1<c then(0,0) else if c<128 then(if c=0/\0<i then(0,0) else(v+c%128*2 ^ (7*i),i+1)) else uv r (i+1) (v+c%128*2 ^ (7*i))
theorem pow7 (i:Nat):2 ^ (7*(i+1))=2 ^ (7*i)*128:=by rw [show 7*(i+1)=7*i+7 by omega,Nat.pow_add]
theorem quw:∀(l:List Nat) (i acc v n:Nat),(∀c∈l,c<256)->uv l i acc=(v,n)->n≠0->
 ∃x r,l=vint x++r/\n=i+(vint x).length/\v=acc+x*2 ^ (7*i)/\(0<i->0<x)/\x*2 ^ (7*i)<18446744073709551616/\i<=9:=by
 intro l
 induction l with
 | nil=>intro i acc v n _ h hn;simp [uv] at h;omega
 | cons c r ih=>
   intro i acc v n hl h hn;have hc:c<256:=hl c sI
   simp only [uv] at h
   split at h
   · simp at h;omega
   rename_i h1
   split at h
   · simp at h;omega
   rename_i h2
   split at h
   · rename_i h3
     split at h
     · simp at h;omega
     rename_i h4
     simp only [Prod.mk.injEq] at h;refine⟨c,r,by rw [qdd h3];rfl,by rw [qdd h3];simp;omega,by rw [<-h.1,zzy h3],by omega,?_,by omega⟩
     have hh:i=0\/i=1\/i=2\/i=3\/i=4\/i=5\/i=6\/i=7\/i=8\/i=9:=oQ
     rcases hh with rfl|rfl|rfl|rfl|rfl|rfl|rfl|rfl|rfl|rfl<;>simp only [Nat.mul_zero,Nat.pow_zero,Nat.reduceMul,Nat.reducePow,Nat.mul_one]<;>omega
   · rename_i h3
     obtain⟨x,r',e1,e2,e3,e4,e5,e6⟩:=ih (i+1) _ v n (fun c hc=>hl c (by simp [hc])) h hn
     have hx:=e4 oQ
     have hp:=pow7 i;refine⟨x*128+(c-128),r',?_,?_,?_,by omega,?_,by omega⟩
     · rw [qfu oQ,show (x*128+(c-128))%128+128=c by omega,show (x*128+(c-128))/128=x by omega,e1]
       rfl
     · rw [qfu oQ,show (x*128+(c-128))/128=x by omega,e2]
       simp only [zax]
       omega
     · rw [e3,hp,show c%128=c-128 by omega,Nat.add_mul]
       have:x*(2 ^ (7*i)*128)=x*128*2 ^ (7*i):=by rw [Nat.mul_comm (2 ^ (7*i)) 128,Nat.mul_assoc]
       omega
     · rw [hp] at e5
       have h8:i<=8:=oQ
       have hh:i=0\/i=1\/i=2\/i=3\/i=4\/i=5\/i=6\/i=7\/i=8:=oQ
       rcases hh with rfl|rfl|rfl|rfl|rfl|rfl|rfl|rfl|rfl
       · simp only [Nat.reduceMul,Nat.reducePow] at e5 ⊢
         have hx2:x<144115188075855872:=oQ
         have hx3:x*128+(c-128)<=18446744073709551615:=oQ
         exact zix (zuy 1 hx3) dE
       · simp only [Nat.reduceMul,Nat.reducePow] at e5 ⊢
         have hx2:x<1125899906842624:=oQ
         have hx3:x*128+(c-128)<=144115188075855871:=oQ
         exact zix (zuy 128 hx3) dE
       · simp only [Nat.reduceMul,Nat.reducePow] at e5 ⊢
         have hx2:x<8796093022208:=oQ
         have hx3:x*128+(c-128)<=1125899906842623:=oQ
         exact zix (zuy 16384 hx3) dE
       · simp only [Nat.reduceMul,Nat.reducePow] at e5 ⊢
         have hx2:x<68719476736:=oQ
         have hx3:x*128+(c-128)<=8796093022207:=oQ
         exact zix (zuy 2097152 hx3) dE
       · simp only [Nat.reduceMul,Nat.reducePow] at e5 ⊢
         have hx2:x<536870912:=oQ
         have hx3:x*128+(c-128)<=68719476735:=oQ
         exact zix (zuy 268435456 hx3) dE
       · simp only [Nat.reduceMul,Nat.reducePow] at e5 ⊢
         have hx2:x<4194304:=oQ
         have hx3:x*128+(c-128)<=536870911:=oQ
         exact zix (zuy 34359738368 hx3) dE
       · simp only [Nat.reduceMul,Nat.reducePow] at e5 ⊢
         have hx2:x<32768:=oQ
         have hx3:x*128+(c-128)<=4194303:=oQ
         exact zix (zuy 4398046511104 hx3) dE
       · simp only [Nat.reduceMul,Nat.reducePow] at e5 ⊢
         have hx2:x<256:=oQ
         have hx3:x*128+(c-128)<=32767:=oQ
         exact zix (zuy 562949953421312 hx3) dE
       · simp only [Nat.reduceMul,Nat.reducePow] at e5 ⊢
         have hx2:x<2:=oQ
         have hx3:x*128+(c-128)<=255:=oQ
         exact zix (zuy 72057594037927936 hx3) dE
def zig (n:Int):Nat:=if n<0 then 2*(-(n+1)).toNat+1 else 2*n.toNat
def qju (v:Nat):Int:=if v%2=1 then -((v/2:Nat):Int)-1 else((v/2:Nat):Int)
def in64 (n:Int):Prop:= -9223372036854775808<=n/\n<=9223372036854775807
theorem quu {n:Int} (h:in64 n):zig n<18446744073709551616:=by unfold in64 at h;unfold zig;split<;>omega
theorem qqo (v:Nat):zig (qju v)=v:=by
 unfold qju zig
 split<;>split<;>omega
theorem qs4 {v:Nat} (h:v<18446744073709551616):in64 (qju v):=by
 unfold in64 qju
 split
 · have:v/2<9223372036854775808:=oQ
   omega
 · have:v/2<9223372036854775808:=oQ
   omega
def sint (n:Int):List Nat:=vint (zig n)
theorem qd0 {n:Int} (h:in64 n):1<=(sint n).length/\(sint n).length<=10:=⟨qof _,qj2 (quu h)⟩
def dec (l:List Nat):Option (Int×List Nat):=if (uv l 0 0).2=0 then none else some (qju (uv l 0 0).1,l.drop (uv l 0 0).2)
theorem qfc {l r:List Nat} {x:Int} (hl:∀c∈l,c<256) (h:dec l=some (x,r)):in64 x/\l=sint x++r:=by
 unfold dec at h
 split at h
 · cases h
 rename_i h1
 obtain⟨y,r',e1,e2,e3,e4,e5,e6⟩:=quw l 0 0 (uv l 0 0).1 (uv l 0 0).2 hl rfl h1;simp only [Option.some.injEq,Prod.mk.injEq] at h;obtain⟨h2,h3⟩:=h;simp only [Nat.mul_zero,Nat.pow_zero,Nat.mul_one,Nat.zero_add] at e3 e5 e2;rw [e3] at h2;subst h2
 rw [sint,qqo]
 refine⟨qs4 e5,?_⟩;rw [e2] at h3;subst h3
 conv=>lhs;rw [e1]
 rw [e1]
 simp
def keyL (b:Bx):List Nat:=sint b.lo.x++(sint b.lo.y++(sint b.hi.x++sint b.hi.y))
def qbx (l:List Nat):Option Bx:=
 match dec l with
 | none=>none
 | some (a,l1)=>match dec l1 with
   | none=>none
   | some (b,l2)=>match dec l2 with
     | none=>none
     | some (c,l3)=>match dec l3 with
       | none=>none
       | some (d,l4)=>if l4= []/\okBx ⟨⟨a,b⟩,⟨c,d⟩⟩=true then some ⟨⟨a,b⟩,⟨c,d⟩⟩ else none
def inBx (b:Bx):Prop:=in64 b.lo.x/\in64 b.lo.y/\in64 b.hi.x/\in64 b.hi.y
theorem qk6 {b:Bx} (h:okBx b=true):inBx b:=by
 unfold okBx qaz okPt farB at h;simp only [decide_eq_true_eq] at h
 split at h
 · split at h
   · cases h
   · rename_i h1 _
     simp only [ziy,Bool.not_eq_true',Bool.or_eq_false_iff,decide_eq_false_iff_not] at h1;unfold inBx in64
     omega
 · cases h
theorem qqv {l:List Nat} {b:Bx} (hl:∀c∈l,c<256) (h:qbx l=some b):okBx b=true/\l=keyL b:=by
 unfold qbx at h
 split at h
 · cases h
 rename_i a l1 d1
 split at h
 · cases h
 rename_i c l2 d2
 split at h
 · cases h
 rename_i d l3 d3
 split at h
 · cases h
 rename_i f l4 d4
 split at h
 · rename_i hh
   obtain⟨rfl,ho⟩:=hh;obtain⟨i1,e1⟩:=qfc hl d1;have hl1:∀c∈l1,c<256:=fun c hc=>hl c (by rw [e1];simp [hc])
   obtain⟨i2,e2⟩:=qfc hl1 d2;have hl2:∀c∈l2,c<256:=fun c hc=>hl1 c (by rw [e2];simp [hc])
   obtain⟨i3,e3⟩:=qfc hl2 d3;have hl3:∀c∈l3,c<256:=fun c hc=>hl2 c (by rw [e3];simp [hc])
   obtain⟨i4,e4⟩:=qfc hl3 d4;rw [List.append_nil] at e4;simp only [Option.some.injEq] at h;subst h;exact⟨ho,by rw [e1,e2,e3,e4];rfl⟩
 · cases h
theorem qjg {b:Bx} {c:Nat} (h:c∈keyL b):c<256:=by
 unfold keyL at h;simp only [List.mem_append] at h
 rcases h with h|h|h|h<;>exact qqs h
theorem qlc {b:Bx} (h:inBx b):4<=(keyL b).length/\(keyL b).length<=40:=by
 obtain⟨h1,h2,h3,h4⟩:=h;have:=qd0 h1;have:=qd0 h2;have:=qd0 h3;have:=qd0 h4;unfold keyL
 simp only [zny]
 omega
theorem qay (p:Pt):okPt p=true↔(-1073741823<=p.x/\p.x<=1073741823)/\(-1073741823<=p.y/\p.y<=1073741823):=by
 simp [okPt,farB]
theorem qte (n:Int):(sgn n==0)=decide (n=0):=by
 unfold sgn
 split
 · have:n≠0:=oQ
   simp [this]
 · split
   · have:n≠0:=oQ
     simp [this]
   · have:n=0:=oQ
     simp [this]
theorem qrt {a b:Pt} (ha:okPt a=true) (hb:okPt b=true):okBx (span a b)=true:=by
 have h1:okPt (span a b).lo=true:=by rw [qay] at*;simp only [span];omega
 have h2:okPt (span a b).hi=true:=by rw [qay] at*;simp only [span];omega
 have h3:¬ (span a b).hi.x<(span a b).lo.x:=by simp only [span];omega
 have h4:¬ (span a b).hi.y<(span a b).lo.y:=by simp only [span];omega
 simp [okBx,qaz,h1,h2,h3,h4]
theorem qwo (a b p:Pt):onS a b p=((okPt a&&okPt b&&okPt p)&&(qbg a b p==0)&&bhas (span a b) p):=by
 by_cases h:(okPt a&&okPt b&&okPt p)=true
 · have ha:okPt a=true:=by simp_all
   have hb:okPt b=true:=by simp_all
   have hp:okPt p=true:=by simp_all
   rw [qbg,qte,qcs,if_pos h,onS,h,bhas,qrt ha hb,hp]
   simp
 · have h:(okPt a&&okPt b&&okPt p)=false:=by simpa using h
   rw [onS,h]
   simp
/- plain law of rings: the program's look at a ring is the reference's -/
theorem qq6 (n:Int):sgn (-n)= - sgn n:=by unfold sgn;split<;>split<;>(try split)<;>(try split)<;>omega
theorem qnf (m n:Int):sgn m*sgn n<0↔(m<0/\0<n)\/(0<m/\n<0):=by
 unfold sgn
 split
 · split
   · simp;omega
   · split<;>simp<;>omega
 · split
   · split
     · simp;omega
     · split<;>simp<;>omega
   · split
     · simp;omega
     · split<;>simp<;>omega
theorem qbe (a b c:Pt):qag b a c= - qag a b c:=by unfold qag;grind
theorem qqe (a b:Pt):qag a b a=0:=by unfold qag;grind
theorem qja (a b c:Pt):qbg b a c= - qbg a b c:=by
 unfold qbg qcs
 rw [<-qq6]
 congr 1
 by_cases h:(okPt a&&okPt b&&okPt c)=true
 · rw [if_pos h,if_pos (by simp_all),qbe]
 · rw [if_neg h,if_neg (by simp_all)]
   rfl
theorem qq5 (a b:Pt):span b a=span a b:=by unfold span;congr 1<;>congr 1<;>omega
theorem qij (a b p:Pt):onS b a p=onS a b p:=by
 unfold onS
 rw [qq5,qbe,Bool.and_comm (okPt b) (okPt a)]
 congr 2
 rw [decide_eq_decide]
 omega
theorem qk5 (a b c d:Pt):qb5 b a c d=qb5 a b c d:=by
 unfold qb5
 rw [qja a b c,qja a b d,Int.neg_mul_neg,Int.mul_comm (qbg c d b)]
theorem qk4 (a b c d:Pt):qb5 c d a b=qb5 a b c d:=by
 unfold qb5
 rw [Bool.and_comm]
theorem qgx (a b c d:Pt):qa1 c d a b=qa1 a b c d:=by
 unfold qa1
 rw [qk4]
 cases okPt a<;>cases okPt b<;>cases okPt c<;>cases okPt d<;>simp
 cases qb5 a b c d<;>cases onS a b c<;>cases onS a b d<;>cases onS c d a<;>cases onS c d b<;>rfl
theorem qje (a b c d:Pt):qa1 b a c d=qa1 a b c d:=by
 unfold qa1
 rw [qk5,qij a b c,qij a b d]
 cases okPt a<;>cases okPt b<;>cases okPt c<;>cases okPt d<;>simp
 cases qb5 a b c d<;>cases onS a b c<;>cases onS a b d<;>cases onS c d a<;>cases onS c d b<;>rfl
theorem qgw (a b c d:Pt):qa1 a b d c=qa1 a b c d:=by
 rw [qgx,qje,qgx]
theorem qdr (a b p:Pt):onS a b p=true↔(okPt a=true/\okPt b=true/\okPt p=true)/\qag a b p=0/\(min a.x b.x<=p.x/\p.x<=max a.x b.x)/\(min a.y b.y<=p.y/\p.y<=max a.y b.y):=by
 simp only [onS,qm1,ziy,decide_eq_true_eq,and_assoc]
 rfl
theorem qgp {a b c d:Pt} (ha:okPt a=true) (hb:okPt b=true) (hc:okPt c=true) (hd:okPt d=true):qb5 a b c d=true↔
 ((qag a b c<0/\0<qag a b d)\/(0<qag a b c/\qag a b d<0))/\((qag c d a<0/\0<qag c d b)\/(0<qag c d a/\qag c d b<0)):=by
 simp only [qb5,qbg,qcs,ha,hb,hc,hd,Bool.and_self,if_true,ziy,decide_eq_true_eq,qnf]
theorem qhl (a b c d:Pt):qa1 a b c d=true↔(okPt a=true/\okPt b=true/\okPt c=true/\okPt d=true)/\(qb5 a b c d=true\/onS a b c=true\/onS a b d=true\/onS c d a=true\/onS c d b=true):=by
 simp [qa1,and_assoc,or_assoc]
theorem shorter (p q r s:Int) (hp:0<=p) (hq:0<=q) (hr:0<=r) (hs:0<=s) (h:p*s=q*r):(r<=p/\s<=q)\/(p<=r/\q<=s):=by
 by_cases h1:r<=p
 · by_cases h2:s<=q
   · exact .inl ⟨h1,h2⟩
   · right
     refine⟨?_,by omega⟩
     apply Int.not_lt.1
     intro h3;have e1:p*(q+1)<=p*s:=zcx oQ hp
     have e2:q*r<=q*p:=zcx oQ hq
     grind
 · by_cases h2:q<=s
   · exact .inr ⟨by omega,h2⟩
   · exfalso
     have e1:q*(p+1)<=q*r:=zcx oQ hq
     have e2:p*s<=p*q:=zcx oQ hp
     grind
theorem qtg (p q r s:Int) (h:p*s=q*r) (hd:0<p*r+q*s):
 ((min p 0<=r/\r<=max p 0)/\(min q 0<=s/\s<=max q 0))\/((min r 0<=p/\p<=max r 0)/\(min s 0<=q/\q<=max s 0)):=by
 have key:0<=p*r/\0<=q*s:=by
  have e:(p*r)*(q*s)=(q*r)*(q*r):=by
   have:(p*r)*(q*s)=(p*s)*(q*r):=by grind
   rw [this,h]
  have e2:0<=(q*r)*(q*r):=by
   rcases Int.le_total 0 (q*r) with h|h
   · exact Int.mul_nonneg h h
   · exact Int.mul_nonneg_of_nonpos_of_nonpos h h
  generalize p*r=X at*;generalize q*s=Y at*
  constructor
  · apply Int.not_lt.1
    intro hx;have:X*Y<0:=Int.mul_neg_of_neg_of_pos hx oQ
    omega
  · apply Int.not_lt.1
    intro hy;have:X*Y<0:=Int.mul_neg_of_pos_of_neg oQ hy
    omega
 obtain⟨k1,k2⟩:=key
 have sgn2:∀a b:Int,0<=a*b->(0<=a/\0<=b)\/(a<=0/\b<=0):=fun a b hab=>by
  rcases Int.lt_trichotomy a 0 with ha|ha|ha
  · right
    refine⟨by omega,?_⟩
    apply Int.not_lt.1
    intro hb;have:=Int.mul_neg_of_neg_of_pos ha hb
    omega
  · omega
  · left
    refine⟨by omega,?_⟩
    apply Int.not_lt.1
    intro hb;have:=Int.mul_neg_of_pos_of_neg ha hb
    omega
 rcases sgn2 _ _ k1 with ⟨a1,a2⟩|⟨a1,a2⟩<;>rcases sgn2 _ _ k2 with ⟨b1,b2⟩|⟨b1,b2⟩
 · have:=shorter p q r s a1 b1 a2 b2 h
   omega
 · have:=shorter p (-q) r (-s) a1 oQ a2 oQ (by grind)
   omega
 · have:=shorter (-p) q (-r) s oQ b1 oQ b2 (by grind)
   omega
 · have:=shorter (-p) (-q) (-r) (-s) oQ oQ oQ oQ (by grind)
   omega
theorem qlv (p q r s:Int) (hn:r≠0\/s≠0) (hb:(min p 0<=r/\r<=max p 0)/\(min q 0<=s/\s<=max q 0)):0<p*r+q*s:=by
 have k:∀a b:Int,(min a 0<=b/\b<=max a 0)->0<=a*b/\(b≠0->0<a*b):=fun a b hab=>by
  rcases Int.lt_trichotomy b 0 with hb|hb|hb
  · have:=Int.mul_pos_of_neg_of_neg (a:=a) (b:=b) oQ hb
    exact⟨by omega,fun _=>this⟩
  · subst hb;simp
  · have:=Int.mul_pos (a:=a) (b:=b) oQ hb
    exact⟨by omega,fun _=>this⟩
 have k1:=k p r hb.1;have k2:=k q s hb.2
 rcases hn with hn|hn
 · have:=k1.2 hn;omega
 · have:=k2.2 hn;omega
theorem qrp {a c b:Pt} (ha:okPt a=true) (hc:okPt c=true) (hb:okPt b=true) (hac:a≠c) (hbc:b≠c):(onS a c b||onS c b a)=qhc a c b:=by
 rw [Bool.eq_iff_iff,Bool.or_eq_true,qdr,qdr]
 have hx:qcs c a b=qag c a b:=by simp [qcs,ha,hb,hc]
 simp only [qhc,hx,ha,hb,hc,ziy,decide_eq_true_eq,ne_eq,hac,hbc,not_false_eq_true,true_and,and_true]
 have e1:qag a c b=0↔(a.x-c.x)*(b.y-c.y)=(a.y-c.y)*(b.x-c.x):=by unfold qag;grind
 have e2:qag c b a=0↔(a.x-c.x)*(b.y-c.y)=(a.y-c.y)*(b.x-c.x):=by unfold qag;grind
 have e3:qag c a b=0↔(a.x-c.x)*(b.y-c.y)=(a.y-c.y)*(b.x-c.x):=by unfold qag;grind
 have n1:a.x-c.x≠0\/a.y-c.y≠0:=by
  apply Decidable.byContradiction
  intro h;exact hac (Pt.ext' oQ oQ)
 have n2:b.x-c.x≠0\/b.y-c.y≠0:=by
  apply Decidable.byContradiction
  intro h;exact hbc (Pt.ext' oQ oQ)
 rw [e1,e2,e3]
 unfold dotR
 constructor
 · rintro(⟨h,h1⟩|⟨h,h1⟩)
   · exact⟨h,qlv _ _ _ _ n2 oQ⟩
   · have:=qlv (b.x-c.x) (b.y-c.y) (a.x-c.x) (a.y-c.y) n1 oQ
     exact⟨h,by grind⟩
 · rintro⟨h,h1⟩
   rcases qtg _ _ _ _ h h1 with h2|h2
   · exact .inl ⟨h,by omega⟩
   · exact .inr ⟨h,by omega⟩
theorem qbc (n:Nat) (f:Nat->Bool):(List.range n).any f=true↔∃i,i<n/\f i=true:=by
 simp [List.any_eq_true]
theorem qhf {l:List Pt} {i:Nat} (h:i+1<l.length):nx l i=pt l (i+1):=by rw [nx,zzy h]
theorem qnr {l:List Pt} {i:Nat} (h:i+1=l.length):nx l i=pt l 0:=by rw [nx,h,Nat.mod_self]
theorem qb0 {l:List Pt} (h:l.all okPt=true) {i:Nat} (hi:i<l.length):okPt (pt l i)=true:=by
 rw [List.all_eq_true] at h;have e:pt l i=l[i]:=by rw [pt,zpy,zby hi];rfl
 rw [e]
 exact h _ (List.getElem_mem hi)
theorem qd8 {l:List Pt} (h:l.all okPt=true) {i:Nat} (hi:i<l.length):okPt (nx l i)=true:=qb0 h (Nat.mod_lt _ oQ)
theorem qgl {l:List Pt} (h3:3<=l.length) (hok:l.all okPt=true) (hd:∀i j,i<l.length->j<l.length->i≠j->pt l i≠pt l j) {i k:Nat} (hik:i<k) (hk:k<l.length):
 qjv l i k=clash l i k/\qjv l k i=clash l i k:=by
 have hi:i<l.length:=oQ
 have hne:pt l i≠pt l k:=hd i k hi hk oQ
 have hm:(i+1)%l.length=i+1:=zzy oQ
 unfold qjv clash
 rw [if_neg hne,if_neg (Ne.symm hne)]
 by_cases h1:k=i+1
 · subst h1
   have hw:¬ (i+1+1)%l.length=i:=by
    by_cases e:i+1+1=l.length
    · rw [e,Nat.mod_self];omega
    · rw [zzy oQ];omega
   have hnx:nx l i=pt l (i+1):=qhf oQ
   have hb:nx l (i+1)≠pt l (i+1):=by
    by_cases e:i+1+1=l.length
    · rw [qnr e];exact hd _ _ oQ hk oQ
    · rw [qhf oQ];exact hd _ _ oQ hk oQ
   rw [if_pos hm,if_pos rfl,if_neg hw,if_pos hm,hnx,qrp (qb0 hok hi) (qb0 hok hk) (qd8 hok hk) hne hb]
   exact⟨rfl,rfl⟩
 · rw [if_neg h1]
   have hm1:¬ (i+1)%l.length=k:=oQ
   rw [if_neg hm1,if_neg hm1]
   by_cases h2:i=0/\k+1=l.length
   · obtain⟨rfl,hl⟩:=h2
     have hw:(k+1)%l.length=0:=by rw [hl,Nat.mod_self]
     have hnx:nx l 0=pt l 1:=qhf oQ
     have hnk:nx l k=pt l 0:=qnr hl
     have e:(onS (pt l k) (nx l k) (nx l 0)||onS (pt l 0) (nx l 0) (pt l k))=qhc (pt l 1) (pt l 0) (pt l k):=by
      rw [hnx,hnk,<-qrp (qb0 hok oQ) (qb0 hok hi) (qb0 hok hk) (hd _ _ oQ hi oQ) (Ne.symm hne),qij (pt l 1) (pt l 0),qij (pt l 0) (pt l k),Bool.or_comm]
     rw [if_pos hw,if_pos hw,if_pos ⟨rfl,hl⟩,e]
     exact⟨rfl,rfl⟩
   · have hw:¬ (k+1)%l.length=i:=by
      by_cases e:k+1=l.length
      · rw [e,Nat.mod_self];omega
      · rw [zzy oQ];omega
     rw [if_neg hw,if_neg hw,if_neg h2,qhf oQ,qgx]
     exact⟨rfl,rfl⟩
theorem qnc {l:List Pt} (h3:3<=l.length) (hok:l.all okPt=true):qdz l=qd1 l:=by
 by_cases hd:∀i j,i<l.length->j<l.length->i≠j->pt l i≠pt l j
 · rw [Bool.eq_iff_iff]
   unfold qdz qd1
   simp only [qbc,ziy,decide_eq_true_eq,Bool.or_eq_true]
   constructor
   · rintro⟨i,hi,k,hk,hn,hs⟩
     rcases zry i k with h|h
     · exact⟨i,hi,k,hk,h,.inr ((qgl h3 hok hd h hk).1 ▸ hs)⟩
     · have hki:k<i:=oQ
       exact⟨k,hk,i,hi,hki,.inr ((qgl h3 hok hd hki hi).2 ▸ hs)⟩
   · rintro⟨i,hi,k,hk,h,hs|hs⟩
     · exact absurd hs (hd i k hi hk oQ)
     · exact⟨i,hi,k,hk,by omega,(qgl h3 hok hd h hk).1 ▸ hs⟩
 · have:∃i j,i<j/\j<l.length/\pt l i=pt l j:=by
    apply Classical.byContradiction
    intro hno
    apply hd
    intro i j hi hj hij e
    rcases zry i j with h|h
    · exact hno ⟨i,j,h,hj,e⟩
    · exact hno ⟨j,i,by omega,hi,e.symm⟩
   obtain⟨i,j,hij,hj,e⟩:=this
   have e1:qdz l=true:=by
    unfold qdz
    simp only [qbc,ziy,decide_eq_true_eq]
    exact⟨i,by omega,j,hj,by omega,by unfold qjv;rw [if_pos e]⟩
   have e2:qd1 l=true:=by
    unfold qd1
    simp only [qbc,ziy,decide_eq_true_eq,Bool.or_eq_true]
    exact⟨i,by omega,j,hj,hij,.inl e⟩
   rw [e1,e2]
theorem qmv (l:List Pt):qa7 l=qct l:=by
 unfold qa7 qct
 by_cases h:l.length<3\/64<l.length
 · rw [if_pos h,if_pos h]
 · rw [if_neg h,if_neg h]
   by_cases hok:l.all okPt=true
   · rw [if_pos hok,if_pos hok,qnc oQ hok]
   · rw [if_neg hok,if_neg hok]
theorem qkk (p:Pt):qaz ⟨p,p⟩=if okPt p then 0 else 2:=by
 unfold qaz
 cases h:okPt p<;>simp
theorem qn8 (o:Ob):ckOb o=qds o:=by
 unfold ckOb qds
 rw [qmv,qkk]
/- plain law of a segment and a box: by the separating axes -/
theorem qsx {p q r s u v u' v' :Int} (hu:0<u) (hv:0<v) (hu' :0<u') (hv' :0<v') (hs:u+v=u' +v') (h:p*u+q*v=r*u' +s*v'):min r s<=max p q:=by
 apply Int.not_lt.1
 intro hlt;have hp:p<=max p q:=oQ
 have hq:q<=max p q:=oQ
 have hr:max p q+1<=r:=oQ
 have hs' :max p q+1<=s:=oQ
 generalize max p q=M at*;have e1:=Int.mul_le_mul_of_nonneg_right hp (Int.le_of_lt hu);have e2:=Int.mul_le_mul_of_nonneg_right hq (Int.le_of_lt hv);have e3:=Int.mul_le_mul_of_nonneg_right hr (Int.le_of_lt hu');have e4:=Int.mul_le_mul_of_nonneg_right hs' (Int.le_of_lt hv');have e5:M*u+M*v=M*u' +M*v' :=by rw [<-Int.mul_add,<-Int.mul_add,hs]
 grind
theorem qiq {p q r s u v u' v' :Int} (hu:0<u) (hv:0<v) (hu' :0<u') (hv' :0<v') (hs:u+v=u' +v') (h:p*u+q*v=r*u' +s*v'):min r s<=max p q/\min p q<=max r s:=
 ⟨qsx hu hv hu' hv' hs h,qsx hu' hv' hu hv hs.symm h.symm⟩
theorem qgb {a b c d:Pt} (h1:(qag a b c<0/\0<qag a b d)\/(0<qag a b c/\qag a b d<0)) (h2:(qag c d a<0/\0<qag c d b)\/(0<qag c d a/\qag c d b<0)):
 (min a.x b.x<=max c.x d.x/\min c.x d.x<=max a.x b.x)/\(min a.y b.y<=max c.y d.y/\min c.y d.y<=max a.y b.y):=by
 have e0:qag a b d-qag a b c=qag c d a-qag c d b:=by unfold qag;grind
 have ex:c.x*qag a b d-d.x*qag a b c=b.x*qag c d a-a.x*qag c d b:=by unfold qag;grind
 have ey:c.y*qag a b d-d.y*qag a b c=b.y*qag c d a-a.y*qag c d b:=by unfold qag;grind
 generalize qag a b d=F2 at*;generalize qag a b c=F1 at*;generalize qag c d a=G1 at*;generalize qag c d b=G2 at*
 rcases h1 with h1|h1
 · have k:G2<0/\0<G1:=oQ
   have x:=qiq (p:=c.x) (q:=d.x) (r:=b.x) (s:=a.x) (u:=F2) (v:= -F1) (u' :=G1) (v' := -G2) oQ oQ oQ oQ oQ (by grind)
   have y:=qiq (p:=c.y) (q:=d.y) (r:=b.y) (s:=a.y) (u:=F2) (v:= -F1) (u' :=G1) (v' := -G2) oQ oQ oQ oQ oQ (by grind)
   omega
 · have k:0<G2/\G1<0:=oQ
   have x:=qiq (p:=c.x) (q:=d.x) (r:=b.x) (s:=a.x) (u:= -F2) (v:=F1) (u' := -G1) (v' :=G2) oQ oQ oQ oQ oQ (by grind)
   have y:=qiq (p:=c.y) (q:=d.y) (r:=b.y) (s:=a.y) (u:= -F2) (v:=F1) (u' := -G1) (v' :=G2) oQ oQ oQ oQ oQ (by grind)
   omega
def inR (r:Bx) (p:Pt):Prop:=(r.lo.x<=p.x/\p.x<=r.hi.x)/\(r.lo.y<=p.y/\p.y<=r.hi.y)
def qey (a b:Pt) (r:Bx):Prop:=(0<qag a b r.lo/\0<qag a b ⟨r.hi.x,r.lo.y⟩)/\(0<qag a b r.hi/\0<qag a b ⟨r.lo.x,r.hi.y⟩)
def sat (a b:Pt) (r:Bx):Prop:=
 ((min a.x b.x<=r.hi.x/\r.lo.x<=max a.x b.x)/\(min a.y b.y<=r.hi.y/\r.lo.y<=max a.y b.y))/\¬ qey a b r/\¬ qey b a r
theorem qhh {t u v:Int} (h:u<=v):(0<=t->t*u<=t*v)/\(t<=0->t*v<=t*u):=
 ⟨fun ht=>zcx h ht,fun ht=>Int.mul_le_mul_of_nonpos_left ht h⟩
theorem qat {a b:Pt} {r:Bx} (h:qey a b r) {c:Pt} (hc:inR r c):0<qag a b c:=by
 obtain⟨⟨h1,h2⟩,h3,h4⟩:=h;obtain⟨⟨x1,x2⟩,y1,y2⟩:=hc;unfold qag at*
 simp only at*
 have X1:=qhh (t:=b.y-a.y) (Int.sub_le_sub_right x1 a.x);have X2:=qhh (t:=b.y-a.y) (Int.sub_le_sub_right x2 a.x);have Y1:=qhh (t:=b.x-a.x) (Int.sub_le_sub_right y1 a.y);have Y2:=qhh (t:=b.x-a.x) (Int.sub_le_sub_right y2 a.y)
 rcases Int.le_total 0 (b.y-a.y) with hy|hy<;>rcases Int.le_total 0 (b.x-a.x) with hx|hx
 · have:=X2.1 hy;have:=Y1.1 hx;omega
 · have:=X2.1 hy;have:=Y2.2 hx;omega
 · have:=X1.2 hy;have:=Y1.1 hx;omega
 · have:=X1.2 hy;have:=Y2.2 hx;omega
theorem qe1 {a b c:Pt} {r:Bx} (hc:inR r c) (h0:qag a b c=0):¬ qey a b r/\¬ qey b a r:=by
 constructor
 · intro h;have:=qat h hc;omega
 · intro h;have:=qat h hc;rw [qbe] at this;omega
theorem qi1 {a b:Pt} {r:Bx} (h:inR r a):sat a b r:=by
 refine⟨?_,qe1 h (qqe a b)⟩;unfold inR at h
 omega
theorem qfv {a b:Pt} {r:Bx} (h:sat a b r):sat b a r:=by
 obtain⟨h1,h2,h3⟩:=h;exact⟨by omega,h3,h2⟩
theorem qde {a b c d:Pt} {r:Bx} (hc:inR r c) (hd:inR r d) (h:qa1 a b c d=true):sat a b r:=by
 rw [qhl] at h;obtain⟨⟨oa,ob,oc,od⟩,h⟩:=h
 rcases h with h|h|h|h|h
 · rw [qgp oa ob oc od] at h
   obtain⟨h1,h2⟩:=h;have:=qgb h1 h2;unfold inR at hc hd;refine⟨by omega,fun k=> ?_,fun k=> ?_⟩
   · have:=qat k hc;have:=qat k hd;omega
   · have u1:=qat k hc;have u2:=qat k hd;rw [qbe] at u1 u2;omega
 · rw [qdr] at h
   refine⟨?_,qe1 hc h.2.1⟩;unfold inR at hc;omega
 · rw [qdr] at h
   refine⟨?_,qe1 hd h.2.1⟩;unfold inR at hd;omega
 · rw [qdr] at h
   exact qi1 (by unfold inR at*;omega)
 · rw [qdr] at h
   exact qfv (qi1 (by unfold inR at*;omega))
theorem qtf {a b:Pt} {r u:Bx} (h:sat a b r) (hlo:inR u r.lo) (hhi:inR u r.hi):sat a b u:=by
 obtain⟨h1,h2,h3⟩:=h;unfold inR at hlo hhi;refine⟨by omega,fun k=>h2 ?_,fun k=>h3 ?_⟩
 · exact⟨⟨qat k (by unfold inR;omega),qat k (by unfold inR;simp only;omega)⟩,qat k (by unfold inR;omega),qat k (by unfold inR;simp only;omega)⟩
 · exact⟨⟨qat k (by unfold inR;omega),qat k (by unfold inR;simp only;omega)⟩,qat k (by unfold inR;omega),qat k (by unfold inR;simp only;omega)⟩
section core
variable {lx ly hx hy ax ay bx b_y:Int}
theorem mz {p q:Int} (h:p*q=0):p=0\/q=0:=Int.mul_eq_zero.1 h
theorem qw6 (hW:lx<=hx) (hH:ly<=hy) (dx:ax<=bx) (dy:ay<=b_y) (o:(ax<=hx/\lx<=bx)/\(ay<=hy/\ly<=b_y)) (ha:ax<lx\/ay<ly) (hb:hx<bx\/hy<b_y)
 (h:(bx-ax)*(ly-ay)-(b_y-ay)*(hx-ax)=0):(ax<=hx/\hx<=bx)/\(ay<=ly/\ly<=b_y):=by
 refine⟨⟨o.1.1,?_⟩,?_,o.2.2⟩
 · apply Int.not_lt.1
   intro k
   -- b.x < hx, so b.y > hy
   have hby:hy<b_y:=oQ
   have e:(b_y-ay)*(bx-ax+1)<=(b_y-ay)*(hx-ax):=zcx oQ oQ
   have e2:(bx-ax)*(ly-ay)<=(bx-ax)*(b_y-ay):=zcx oQ oQ
   have e3:0<b_y-ay:=oQ
   grind
 · apply Int.not_lt.1
   intro k;have hax:ax<lx:=oQ
   have e:0<=(b_y-ay)*(hx-ax):=Int.mul_nonneg oQ oQ
   have e2:0<(bx-ax)*(ay-ly):=Int.mul_pos oQ oQ
   grind
theorem qxr (hW:lx<=hx) (hH:ly<=hy) (dx:ax<=bx) (dy:ay<=b_y) (o:(ax<=hx/\lx<=bx)/\(ay<=hy/\ly<=b_y)) (ha:ax<lx\/ay<ly)
 (h:(bx-ax)*(ly-ay)-(b_y-ay)*(lx-ax)=0):(ax<=lx/\lx<=bx)/\(ay<=ly/\ly<=b_y):=by
 refine⟨⟨?_,o.1.2⟩,?_,o.2.2⟩
 · apply Int.not_lt.1
   intro k;have:0<(b_y-ay)*(ax-lx):=Int.mul_pos oQ oQ
   have:0<=(bx-ax)*(ly-ay):=Int.mul_nonneg oQ oQ
   grind
 · apply Int.not_lt.1
   intro k;have:0<(bx-ax)*(ay-ly):=Int.mul_pos oQ oQ
   have:0<=(b_y-ay)*(lx-ax):=Int.mul_nonneg oQ oQ
   grind
theorem qxs (hW:lx<=hx) (hH:ly<=hy) (dx:ax<=bx) (dy:ay<=b_y) (o:(ax<=hx/\lx<=bx)/\(ay<=hy/\ly<=b_y)) (ha:ax<lx\/ay<ly) (hb:hx<bx\/hy<b_y)
 (h1:(bx-ax)*(ly-ay)-(b_y-ay)*(hx-ax)<0) (h2:0<(bx-ax)*(hy-ay)-(b_y-ay)*(lx-ax)):
 (hx-lx)*(ay-hy)-(ly-hy)*(ax-lx)<0/\0<(hx-lx)*(b_y-hy)-(ly-hy)*(bx-lx):=by
 have W:=hW
 constructor
 · apply Int.not_le.1
   intro k
   rcases ha with ha|ha
   · have e1:0<=(hx-lx)*(hy-ay):=Int.mul_nonneg oQ oQ
     have e2:0<=(hy-ly)*(lx-ax):=Int.mul_nonneg oQ oQ
     have z1:(hx-lx)*(hy-ay)=0:=by (simp only [Int.sub_mul,Int.mul_sub,Int.add_mul,Int.mul_add,Int.neg_mul,Int.mul_neg,Int.mul_comm,Int.mul_left_comm,Int.mul_assoc] at*;omega)
     have z2:(hy-ly)*(lx-ax)=0:=by (simp only [Int.sub_mul,Int.mul_sub,Int.add_mul,Int.mul_add,Int.neg_mul,Int.mul_neg,Int.mul_comm,Int.mul_left_comm,Int.mul_assoc] at*;omega)
     have hl:hy=ly:=by rcases mz z2 with h|h<;>omega
     rcases mz z1 with h|h
     · have:hx=lx:=oQ
       subst this hl
       omega
     · have:hy=ay:=oQ
       subst this;have e3:0<=(b_y-hy)*(lx-ax):=Int.mul_nonneg oQ oQ
       (simp only [Int.sub_mul,Int.mul_sub,Int.add_mul,Int.mul_add,Int.neg_mul,Int.mul_neg,Int.mul_comm,Int.mul_left_comm,Int.mul_assoc] at*;omega)
   · have e1:0<=(hx-lx)*(ly-ay):=Int.mul_nonneg oQ oQ
     have e2:0<=(hy-ly)*(hx-ax):=Int.mul_nonneg oQ oQ
     have z1:(hx-lx)*(ly-ay)=0:=by (simp only [Int.sub_mul,Int.mul_sub,Int.add_mul,Int.mul_add,Int.neg_mul,Int.mul_neg,Int.mul_comm,Int.mul_left_comm,Int.mul_assoc] at*;omega)
     have z2:(hy-ly)*(hx-ax)=0:=by (simp only [Int.sub_mul,Int.mul_sub,Int.add_mul,Int.mul_add,Int.neg_mul,Int.mul_neg,Int.mul_comm,Int.mul_left_comm,Int.mul_assoc] at*;omega)
     have hl:hx=lx:=by rcases mz z1 with h|h<;>omega
     rcases mz z2 with h|h
     · have:hy=ly:=oQ
       subst this hl
       omega
     · have:hx=ax:=oQ
       subst this;have e3:0<=(bx-hx)*(ly-ay):=Int.mul_nonneg oQ oQ
       (simp only [Int.sub_mul,Int.mul_sub,Int.add_mul,Int.mul_add,Int.neg_mul,Int.mul_neg,Int.mul_comm,Int.mul_left_comm,Int.mul_assoc] at*;omega)
 · apply Int.not_le.1
   intro k
   rcases hb with hb|hb
   · have e1:0<=(hx-lx)*(b_y-ly):=Int.mul_nonneg oQ oQ
     have e2:0<=(hy-ly)*(bx-hx):=Int.mul_nonneg oQ oQ
     have z1:(hx-lx)*(b_y-ly)=0:=by (simp only [Int.sub_mul,Int.mul_sub,Int.add_mul,Int.mul_add,Int.neg_mul,Int.mul_neg,Int.mul_comm,Int.mul_left_comm,Int.mul_assoc] at*;omega)
     have z2:(hy-ly)*(bx-hx)=0:=by (simp only [Int.sub_mul,Int.mul_sub,Int.add_mul,Int.mul_add,Int.neg_mul,Int.mul_neg,Int.mul_comm,Int.mul_left_comm,Int.mul_assoc] at*;omega)
     have hl:hy=ly:=by rcases mz z2 with h|h<;>omega
     rcases mz z1 with h|h
     · have:hx=lx:=oQ
       subst this hl
       omega
     · have:b_y=ly:=oQ
       subst this;have e3:0<=(b_y-ay)*(bx-hx):=Int.mul_nonneg oQ oQ
       (simp only [Int.sub_mul,Int.mul_sub,Int.add_mul,Int.mul_add,Int.neg_mul,Int.mul_neg,Int.mul_comm,Int.mul_left_comm,Int.mul_assoc] at*;omega)
   · have e1:0<=(hx-lx)*(b_y-hy):=Int.mul_nonneg oQ oQ
     have e2:0<=(hy-ly)*(bx-lx):=Int.mul_nonneg oQ oQ
     have z1:(hx-lx)*(b_y-hy)=0:=by (simp only [Int.sub_mul,Int.mul_sub,Int.add_mul,Int.mul_add,Int.neg_mul,Int.mul_neg,Int.mul_comm,Int.mul_left_comm,Int.mul_assoc] at*;omega)
     have z2:(hy-ly)*(bx-lx)=0:=by (simp only [Int.sub_mul,Int.mul_sub,Int.add_mul,Int.mul_add,Int.neg_mul,Int.mul_neg,Int.mul_comm,Int.mul_left_comm,Int.mul_assoc] at*;omega)
     have hl:hx=lx:=by rcases mz z1 with h|h<;>omega
     rcases mz z2 with h|h
     · have:hy=ly:=oQ
       subst this hl
       omega
     · have:bx=lx:=oQ
       subst this;have e3:0<=(bx-ax)*(b_y-hy):=Int.mul_nonneg oQ oQ
       (simp only [Int.sub_mul,Int.mul_sub,Int.add_mul,Int.mul_add,Int.neg_mul,Int.mul_neg,Int.mul_comm,Int.mul_left_comm,Int.mul_assoc] at*;omega)
theorem qw5 (hW:lx<=hx) (hH:ly<=hy) (dx:ax<=bx) (dy:ay<=b_y) (o:(ax<=hx/\lx<=bx)/\(ay<=hy/\ly<=b_y)) (ha:ax<lx\/ay<ly) (hb:hx<bx\/hy<b_y)
 (h1:(bx-ax)*(ly-ay)-(b_y-ay)*(hx-ax)<0) (h2:0<(bx-ax)*(ly-ay)-(b_y-ay)*(lx-ax)):
 (hx-lx)*(ay-ly)<0/\0<(hx-lx)*(b_y-ly):=by
 have hW' :lx<hx:=by
  rcases Int.lt_or_eq_of_le hW with h|h
  · exact h
  · subst h;omega
 have ya:ay<ly:=by
  apply Int.not_le.1
  intro k;have:ax<lx:=oQ
  have e1:0<=(bx-ax)*(ay-ly):=Int.mul_nonneg oQ oQ
  have e2:0<=(b_y-ay)*(lx-ax):=Int.mul_nonneg oQ oQ
  (simp only [Int.sub_mul,Int.mul_sub,Int.add_mul,Int.mul_add,Int.neg_mul,Int.mul_neg,Int.mul_comm,Int.mul_left_comm,Int.mul_assoc] at*;omega)
 have yb:ly<b_y:=by
  apply Int.not_le.1
  intro k;have hl:b_y=ly:=oQ
  subst hl;have e1:0<=(b_y-ay)*(bx-hx):=Int.mul_nonneg oQ oQ
  (simp only [Int.sub_mul,Int.mul_sub,Int.add_mul,Int.mul_add,Int.neg_mul,Int.mul_neg,Int.mul_comm,Int.mul_left_comm,Int.mul_assoc] at*;omega)
 exact⟨Int.mul_neg_of_pos_of_neg oQ oQ,Int.mul_pos oQ oQ⟩
end core
/- a segment and a box: the program's look, the reference's look, and 'no axis parts them' are one -/
theorem qfp {a b c d:Pt} (oa:okPt a=true) (ob:okPt b=true) (oc:okPt c=true) (od:okPt d=true)
 (h:((qag a b c<0/\0<qag a b d)\/(0<qag a b c/\qag a b d<0))/\((qag c d a<0/\0<qag c d b)\/(0<qag c d a/\qag c d b<0))):qa1 a b c d=true:=by
 rw [qhl]
 exact⟨⟨oa,ob,oc,od⟩,.inl ((qgp oa ob oc od).2 h)⟩
theorem qhk {a b c d:Pt} (oa:okPt a=true) (ob:okPt b=true) (oc:okPt c=true) (od:okPt d=true)
 (h:qag a b c=0/\(min a.x b.x<=c.x/\c.x<=max a.x b.x)/\(min a.y b.y<=c.y/\c.y<=max a.y b.y)):qa1 a b c d=true:=by
 rw [qhl]
 exact⟨⟨oa,ob,oc,od⟩,.inr (.inl ((qdr _ _ _).2 ⟨⟨oa,ob,oc⟩,h⟩))⟩
theorem qmd {a b c d:Pt} (oa:okPt a=true) (ob:okPt b=true) (oc:okPt c=true) (od:okPt d=true)
 (h:qag a b d=0/\(min a.x b.x<=d.x/\d.x<=max a.x b.x)/\(min a.y b.y<=d.y/\d.y<=max a.y b.y)):qa1 a b c d=true:=by
 rw [qgw]
 exact qhk oa ob od oc h
theorem qo6 {ax ay bx b_y lx ly hx hy:Int} (oa:okPt ⟨ax,ay⟩=true) (ob:okPt ⟨bx,b_y⟩=true) (ol:okPt ⟨lx,ly⟩=true) (oh:okPt ⟨hx,hy⟩=true) (hW:lx<=hx) (hH:ly<=hy)
 (hs:sat ⟨ax,ay⟩ ⟨bx,b_y⟩ ⟨⟨lx,ly⟩,⟨hx,hy⟩⟩) (dx:ax<=bx) (dy:ay<=b_y) (na:¬ inR ⟨⟨lx,ly⟩,⟨hx,hy⟩⟩ ⟨ax,ay⟩) (nb:¬ inR ⟨⟨lx,ly⟩,⟨hx,hy⟩⟩ ⟨bx,b_y⟩):
 qa1 ⟨ax,ay⟩ ⟨bx,b_y⟩ ⟨lx,hy⟩ ⟨hx,ly⟩=true/\(qa1 ⟨ax,ay⟩ ⟨bx,b_y⟩ ⟨lx,ly⟩ ⟨hx,ly⟩=true\/qa1 ⟨ax,ay⟩ ⟨bx,b_y⟩ ⟨lx,hy⟩ ⟨lx,ly⟩=true):=by
 have o1:okPt ⟨lx,hy⟩=true:=by rw [qay] at*;simp only at*;omega
 have o2:okPt ⟨hx,ly⟩=true:=by rw [qay] at*;simp only at*;omega
 obtain⟨h1,h2,h3⟩:=hs;unfold inR at na nb;unfold qey at h2 h3;rw [qbe,qbe ⟨ax,ay⟩,qbe ⟨ax,ay⟩,qbe ⟨ax,ay⟩] at h3
 simp only at*
 have o:(ax<=hx/\lx<=bx)/\(ay<=hy/\ly<=b_y):=oQ
 have ha:ax<lx\/ay<ly:=oQ
 have hb:hx<bx\/hy<b_y:=oQ
 have P:(bx-ax)*(ly-ay)<=(bx-ax)*(hy-ay):=zcx oQ oQ
 have Q:(b_y-ay)*(lx-ax)<=(b_y-ay)*(hx-ax):=zcx oQ oQ
 have eLR:qag ⟨ax,ay⟩ ⟨bx,b_y⟩ ⟨hx,ly⟩=(bx-ax)*(ly-ay)-(b_y-ay)*(hx-ax):=rfl;have eHL:qag ⟨ax,ay⟩ ⟨bx,b_y⟩ ⟨lx,hy⟩=(bx-ax)*(hy-ay)-(b_y-ay)*(lx-ax):=rfl;have eLL:qag ⟨ax,ay⟩ ⟨bx,b_y⟩ ⟨lx,ly⟩=(bx-ax)*(ly-ay)-(b_y-ay)*(lx-ax):=rfl;have eHH:qag ⟨ax,ay⟩ ⟨bx,b_y⟩ ⟨hx,hy⟩=(bx-ax)*(hy-ay)-(b_y-ay)*(hx-ax):=rfl;rw [eLR,eHL,eLL,eHH] at h2 h3
 have fLR:(bx-ax)*(ly-ay)-(b_y-ay)*(hx-ax)<=0:=by
  apply Int.not_lt.1
  intro k;exact h2 oQ
 have fHL:0<=(bx-ax)*(hy-ay)-(b_y-ay)*(lx-ax):=by
  apply Int.not_lt.1
  intro k;exact h3 oQ
 clear h2 h3 na nb P Q h1 eHH
 by_cases zLR:(bx-ax)*(ly-ay)-(b_y-ay)*(hx-ax)=0
 · have:=qw6 hW hH dx dy o ha hb zLR
   have hm:qag ⟨ax,ay⟩ ⟨bx,b_y⟩ ⟨hx,ly⟩=0/\(min ax bx<=hx/\hx<=max ax bx)/\(min ay b_y<=ly/\ly<=max ay b_y):=by rw [eLR];exact⟨zLR,by omega⟩
   exact⟨qmd oa ob o1 o2 hm,.inl (qmd oa ob ol o2 hm)⟩
 by_cases zHL:(bx-ax)*(hy-ay)-(b_y-ay)*(lx-ax)=0
 · have:=qw6 (lx:=ly) (ly:=lx) (hx:=hy) (hy:=hx) (ax:=ay) (ay:=ax) (bx:=b_y) (b_y:=bx) hH hW dy dx ⟨o.2,o.1⟩ oQ oQ oQ
   have hm:qag ⟨ax,ay⟩ ⟨bx,b_y⟩ ⟨lx,hy⟩=0/\(min ax bx<=lx/\lx<=max ax bx)/\(min ay b_y<=hy/\hy<=max ay b_y):=by rw [eHL];exact⟨zHL,by omega⟩
   exact⟨qhk oa ob o1 o2 hm,.inr (qhk oa ob o1 ol hm)⟩
 refine⟨qfp oa ob o1 o2 ⟨.inr (by rw [eLR,eHL];omega),.inl ?_⟩,?_⟩
 · have:=qxs hW hH dx dy o ha hb oQ oQ
   exact this
 · by_cases zLL:(bx-ax)*(ly-ay)-(b_y-ay)*(lx-ax)=0
   · have:=qxr hW hH dx dy o ha zLL
     exact .inl (qhk oa ob ol o2 (by rw [eLL];exact⟨zLL,by simp only;omega⟩))
   by_cases pLL:0<(bx-ax)*(ly-ay)-(b_y-ay)*(lx-ax)
   · left
     have:=qw5 hW hH dx dy o ha hb oQ pLL
     refine qfp oa ob ol o2 ⟨.inr (by rw [eLR,eLL];omega),.inl ?_⟩
     unfold qag
     simp only [Int.sub_self,Int.zero_mul,Int.sub_zero]
     exact this
   · right
     have:=qw5 (lx:=ly) (ly:=lx) (hx:=hy) (hy:=hx) (ax:=ay) (ay:=ax) (bx:=b_y) (b_y:=bx) hH hW dy dx ⟨o.2,o.1⟩ oQ oQ oQ oQ
     refine qfp oa ob o1 ol ⟨.inr (by rw [eHL,eLL];omega),.inl ?_⟩
     unfold qag
     simp only [Int.sub_self,Int.zero_mul,Int.zero_sub]
     have e:∀t,-((ly-hy)*t)=(hy-ly)*t:=fun t=>by (simp only [Int.sub_mul,Int.mul_sub,Int.add_mul,Int.mul_add,Int.neg_mul,Int.mul_neg,Int.mul_comm,Int.mul_left_comm,Int.mul_assoc] at*;omega)
     rw [e,e]
     exact this
def ry (p:Pt):Pt:=⟨p.x,-p.y⟩
theorem qc0 (p:Pt):okPt (ry p)=okPt p:=by
 rw [Bool.eq_iff_iff,qay,qay]
 simp only [ry]
 omega
theorem qev (a b c:Pt):qag (ry a) (ry b) (ry c)= - qag a b c:=by unfold qag ry;(simp only [Int.sub_mul,Int.mul_sub,Int.add_mul,Int.mul_add,Int.neg_mul,Int.mul_neg,Int.mul_comm,Int.mul_left_comm,Int.mul_assoc] at*;omega)
theorem qov (a b p:Pt):onS (ry a) (ry b) (ry p)=onS a b p:=by
 rw [Bool.eq_iff_iff,qdr,qdr,qc0,qc0,qc0,qev]
 simp only [ry]
 constructor<;>rintro ⟨h,h1⟩<;>exact ⟨h,by omega⟩
theorem qhd (a b c:Pt):qbg (ry a) (ry b) (ry c)= - qbg a b c:=by
 unfold qbg qcs
 rw [qc0,qc0,qc0,qev,<-qq6]
 congr 1
 split<;>omega
theorem qlb (a b c d:Pt):qa1 (ry a) (ry b) (ry c) (ry d)=qa1 a b c d:=by
 unfold qa1 qb5
 rw [qc0,qc0,qc0,qc0,qov,qov,qov,qov,qhd,qhd,qhd,qhd,Int.neg_mul_neg,Int.neg_mul_neg]
theorem qbh (r:Bx):okBx r=true↔(okPt r.lo=true/\okPt r.hi=true)/\r.lo.x<=r.hi.x/\r.lo.y<=r.hi.y:=by
 unfold okBx qaz
 cases h1:okPt r.lo<;>cases h2:okPt r.hi<;>simp
theorem qf8 {r:Bx} {p:Pt} (hr:okBx r=true) (hp:okPt p=true):bhas r p=true↔inR r p:=by
 simp [bhas,hr,hp,qm1,inR,and_assoc]
theorem qwk {a b:Pt} {lx ly hx hy:Int} (h:sat a b ⟨⟨lx,ly⟩,⟨hx,hy⟩⟩):sat (ry a) (ry b) ⟨⟨lx,-hy⟩,⟨hx,-ly⟩⟩:=by
 obtain⟨h1,h2,h3⟩:=h
 have e:∀a b:Pt,¬ qey a b ⟨⟨lx,ly⟩,⟨hx,hy⟩⟩->¬ qey (ry b) (ry a) ⟨⟨lx,-hy⟩,⟨hx,-ly⟩⟩:=fun a b hn k=>by
  apply hn
  unfold qey at*
  simp only at*
  have c1:=qev b a ⟨lx,ly⟩;have c2:=qev b a ⟨hx,ly⟩;have c3:=qev b a ⟨lx,hy⟩;have c4:=qev b a ⟨hx,hy⟩;rw [qbe a b] at c1 c2 c3 c4
  simp only [ry] at*
  omega
 refine⟨?_,e b a h3,e a b h2⟩
 simp only [ry] at*
 omega
theorem qu3 {a b:Pt} {r:Bx} (oa:okPt a=true) (ob:okPt b=true) (hr:okBx r=true) (hs:sat a b r) (dx:a.x<=b.x) (na:¬ inR r a) (nb:¬ inR r b):
 (qa1 a b r.lo r.hi=true\/qa1 a b ⟨r.lo.x,r.hi.y⟩ ⟨r.hi.x,r.lo.y⟩=true)/\
 (((qa1 a b r.lo ⟨r.hi.x,r.lo.y⟩=true\/qa1 a b ⟨r.hi.x,r.lo.y⟩ r.hi=true)\/qa1 a b r.hi ⟨r.lo.x,r.hi.y⟩=true)\/qa1 a b ⟨r.lo.x,r.hi.y⟩ r.lo=true):=by
 obtain⟨⟨ol,oh⟩,hW,hH⟩:=(qbh r).1 hr;obtain⟨⟨lx,ly⟩,⟨hx,hy⟩⟩:=r;obtain⟨ax,ay⟩:=a;obtain⟨bx,b_y⟩:=b
 simp only at*
 rcases Int.le_total ay b_y with dy|dy
 · obtain⟨m1,m2⟩:=qo6 oa ob ol oh hW hH hs dx dy na nb
   refine⟨.inr m1,?_⟩
   rcases m2 with m2|m2
   · exact .inl (.inl (.inl m2))
   · exact .inr m2
 · have h:=qwk hs
   have hn:∀x y,¬ inR ⟨⟨lx,ly⟩,⟨hx,hy⟩⟩ ⟨x,y⟩->¬ inR ⟨⟨lx,-hy⟩,⟨hx,-ly⟩⟩ ⟨x,-y⟩:=fun x y h k=>h (by unfold inR at*;simp only at*;omega)
   have r1:=qc0 ⟨lx,hy⟩;have r2:=qc0 ⟨hx,ly⟩
   obtain⟨m1,m2⟩:=qo6 (ax:=ax) (ay:= -ay) (bx:=bx) (b_y:= -b_y) (lx:=lx) (ly:= -hy) (hx:=hx) (hy:= -ly) (by have:=qc0 ⟨ax,ay⟩;rw [oa] at this;exact this) (by have:=qc0 ⟨bx,b_y⟩;rw [ob] at this;exact this)
    (by rw [qay] at*;simp only at*;omega) (by rw [qay] at*;simp only at*;omega) hW oQ h dx oQ (hn _ _ na) (hn _ _ nb)
   have k1:=qlb ⟨ax,ay⟩ ⟨bx,b_y⟩ ⟨lx,ly⟩ ⟨hx,hy⟩;have k2:=qlb ⟨ax,ay⟩ ⟨bx,b_y⟩ ⟨lx,hy⟩ ⟨hx,hy⟩;have k3:=qlb ⟨ax,ay⟩ ⟨bx,b_y⟩ ⟨lx,ly⟩ ⟨lx,hy⟩;simp only [ry] at k1 k2 k3;rw [k1] at m1;rw [k2,k3] at m2;refine⟨.inl m1,?_⟩
   rcases m2 with m2|m2
   · rw [qgw] at m2
     exact .inl (.inr m2)
   · rw [qgw] at m2
     exact .inr m2
theorem qo7 {a b:Pt} {r:Bx} (oa:okPt a=true) (ob:okPt b=true) (hr:okBx r=true) (hs:sat a b r) (na:¬ inR r a) (nb:¬ inR r b):
 (qa1 a b r.lo r.hi=true\/qa1 a b ⟨r.lo.x,r.hi.y⟩ ⟨r.hi.x,r.lo.y⟩=true)/\
 (((qa1 a b r.lo ⟨r.hi.x,r.lo.y⟩=true\/qa1 a b ⟨r.hi.x,r.lo.y⟩ r.hi=true)\/qa1 a b r.hi ⟨r.lo.x,r.hi.y⟩=true)\/qa1 a b ⟨r.lo.x,r.hi.y⟩ r.lo=true):=by
 rcases Int.le_total a.x b.x with dx|dx
 · exact qu3 oa ob hr hs dx na nb
 · have:=qu3 ob oa hr (qfv hs) dx nb na
   simp only [qje a b] at this;exact this
theorem qjh {r:Bx} (hr:okBx r=true):(inR r r.lo/\inR r r.hi)/\inR r ⟨r.lo.x,r.hi.y⟩/\inR r ⟨r.hi.x,r.lo.y⟩:=by
 have:=(qbh r).1 hr;unfold inR
 simp only
 omega
theorem qil {a b:Pt} {r:Bx} (oa:okPt a=true) (ob:okPt b=true) (hr:okBx r=true):mbox a b r=true↔sat a b r:=by
 obtain⟨⟨c1,c2⟩,c3,c4⟩:=qjh hr
 simp only [mbox,oa,ob,hr,Bool.and_self,Bool.true_and,Bool.or_eq_true,qf8 hr oa,qf8 hr ob]
 constructor
 · rintro(((h|h)|h)|h)
   · exact qi1 h
   · exact qfv (qi1 h)
   · exact qde c1 c2 h
   · exact qde c3 c4 h
 · intro h
   by_cases na:inR r a
   · exact .inl (.inl (.inl na))
   by_cases nb:inR r b
   · exact .inl (.inl (.inr nb))
   rcases(qo7 oa ob hr h na nb).1 with m|m
   · exact .inl (.inr m)
   · exact .inr m
theorem qme {a b:Pt} {r:Bx} (oa:okPt a=true) (ob:okPt b=true) (hr:okBx r=true):qe7 a b r=true↔sat a b r:=by
 obtain⟨⟨c1,c2⟩,c3,c4⟩:=qjh hr
 simp only [qe7,oa,ob,hr,Bool.and_self,Bool.true_and,Bool.or_eq_true,qf8 hr oa,qf8 hr ob]
 constructor
 · rintro(((((h|h)|h)|h)|h)|h)
   · exact qi1 h
   · exact qfv (qi1 h)
   · exact qde c1 c4 h
   · exact qde c4 c2 h
   · exact qde c2 c3 h
   · exact qde c3 c1 h
 · intro h
   by_cases na:inR r a
   · exact .inl (.inl (.inl (.inl (.inl na))))
   by_cases nb:inR r b
   · exact .inl (.inl (.inl (.inl (.inr nb))))
   rcases(qo7 oa ob hr h na nb).2 with ((m|m)|m)|m
   · exact .inl (.inl (.inl (.inr m)))
   · exact .inl (.inl (.inr m))
   · exact .inl (.inr m)
   · exact .inr m
theorem qvq (a b:Pt) (r:Bx):mbox a b r=qe7 a b r:=by
 by_cases h:(okPt a&&okPt b&&okBx r)=true
 · have oa:okPt a=true:=by simp_all
   have ob:okPt b=true:=by simp_all
   have hr:okBx r=true:=by simp_all
   rw [Bool.eq_iff_iff,qil oa ob hr,qme oa ob hr]
 · have h:(okPt a&&okPt b&&okBx r)=false:=by simpa using h
   rw [mbox,qe7,h]
   rfl
/- the qb3 of a ray's crossings: it telescopes;it stays where no edge is met -/
def parF (c:Nat->Bool):Nat->Bool
 | 0=>false
 | k+1=>xor (parF c k) (c k)
theorem qgr (l:List Pt) (p:Pt) (k:Nat):qb3 l p k=parF (fun i=>qba (pt l i) (nx l i) p) k:=by
 induction k with
 | zero=>rfl
 | succ k ih=>rw [qb3,parF,ih]
theorem qts (c d:Nat->Bool) (k:Nat):xor (parF c k) (parF d k)=parF (fun i=>xor (c i) (d i)) k:=by
 induction k with
 | zero=>rfl
 | succ k ih=>
   rw [parF,parF,parF,<-ih]
   cases parF c k<;>cases parF d k<;>cases c k<;>cases d k<;>rfl
theorem ql6 {c:Nat->Bool} {l:List Pt} {g:Pt->Bool} (h:∀i,i<l.length->c i=xor (g (pt l i)) (g (nx l i))):parF c l.length=false:=by
 have step:∀k,k<l.length->parF c k=xor (g (pt l 0)) (g (pt l k)):=by
  intro k
  induction k with
  | zero=>intro _;rw [parF];cases g (pt l 0)<;>rfl
  | succ k ih=>
    intro hk
    rw [parF,ih oQ,h k oQ,qhf hk]
    cases g (pt l 0)<;>cases g (pt l k)<;>cases g (pt l (k+1))<;>rfl
 cases hn:l.length with
 | zero=>rfl
 | succ m=>
   rw [parF,step m oQ,h m oQ,qnr oQ]
   cases g (pt l 0)<;>cases g (pt l m)<;>rfl
theorem qgs {l:List Pt} {p q:Pt} {g:Pt->Bool} (h:∀i,i<l.length->xor (qba (pt l i) (nx l i) p) (qba (pt l i) (nx l i) q)=xor (g (pt l i)) (g (nx l i))):
 qb3 l p l.length=qb3 l q l.length:=by
 have e:xor (qb3 l p l.length) (qb3 l q l.length)=false:=by
  rw [qgr,qgr,qts]
  exact ql6 h
 revert e
 cases qb3 l p l.length<;>cases qb3 l q l.length<;>simp
theorem qc8 (a b p:Pt):qba b a p=qba a b p:=by
 unfold qba
 by_cases h1:b.y<a.y
 · rw [if_pos h1,if_neg oQ]
 · rw [if_neg h1]
   by_cases h2:a.y<b.y
   · rw [if_pos h2]
   · rw [if_neg h2]
     have e:a.y=b.y:=oQ
     have e1:(decide (b.y<=p.y)&&decide (p.y<a.y))=false:=by
      rw [Bool.and_eq_false_iff]
      by_cases h:b.y<=p.y
      · right;simp;omega
      · left;simp;omega
     have e2:(decide (a.y<=p.y)&&decide (p.y<b.y))=false:=by
      rw [Bool.and_eq_false_iff]
      by_cases h:a.y<=p.y
      · right;simp;omega
      · left;simp;omega
     rw [e1,e2]
     rfl
theorem qcg {a b p:Pt} (oa:okPt a=true) (ob:okPt b=true) (op:okPt p=true) (h:a.y<=b.y):qba a b p=decide (a.y<=p.y/\p.y<b.y/\0<qag a b p):=by
 have e:qcs a b p=qag a b p:=by simp [qcs,oa,ob,op]
 rw [qba,if_neg oQ,e]
 by_cases h1:a.y<=p.y<;>by_cases h2:p.y<b.y<;>by_cases h3:0<qag a b p<;>simp [h1,h2,h3]
theorem qem {a b p:Pt} (h1:a.y<=p.y) (h2:p.y<b.y) (ha:a.x<p.x) (hb:b.x<p.x):qag a b p<0:=by
 unfold qag;have e1:(b.x-a.x)*(p.y-a.y)<=(p.x-a.x)*(p.y-a.y):=Int.mul_le_mul_of_nonneg_right oQ oQ
 have e2:0<(p.x-a.x)*(b.y-p.y):=Int.mul_pos oQ oQ
 (simp only [Int.sub_mul,Int.mul_sub,Int.add_mul,Int.mul_add,Int.neg_mul,Int.mul_neg,Int.mul_comm,Int.mul_left_comm,Int.mul_assoc] at*;omega)
theorem qfm {a b p:Pt} (h1:a.y<=p.y) (h2:p.y<b.y) (ha:p.x<a.x) (hb:p.x<b.x):0<qag a b p:=by
 unfold qag;have e1:(p.x-a.x)*(p.y-a.y)<=(b.x-a.x)*(p.y-a.y):=Int.mul_le_mul_of_nonneg_right oQ oQ
 have e2:0<(a.x-p.x)*(b.y-p.y):=Int.mul_pos oQ oQ
 (simp only [Int.sub_mul,Int.mul_sub,Int.add_mul,Int.mul_add,Int.neg_mul,Int.mul_neg,Int.mul_comm,Int.mul_left_comm,Int.mul_assoc] at*;omega)
theorem qk7 {a b:Pt} {u:Bx} (h:¬ sat a b u):(u.hi.x<a.x/\u.hi.x<b.x)\/(a.x<u.lo.x/\b.x<u.lo.x)\/(u.hi.y<a.y/\u.hi.y<b.y)\/(a.y<u.lo.y/\b.y<u.lo.y)\/qey a b u\/qey b a u:=by
 unfold sat at h
 by_cases h1:qey a b u
 · simp [h1]
 by_cases h2:qey b a u
 · simp [h2]
 simp only [h1,h2,not_false_eq_true,and_true,or_false] at*
 omega
theorem qi2 {a b p q:Pt} {u:Bx} (h:¬ sat a b u) (hp:inR u p) (hq:inR u q) (p1:a.y<=p.y) (p2:p.y<b.y) (q1:a.y<=q.y) (q2:q.y<b.y):0<qag a b p↔0<qag a b q:=by
 have hn:=qk7 h;have hp' :=hp;have hq' :=hq;unfold inR at hp hq
 rcases hn with k|k|k|k|k|k
 · have:=qfm p1 p2 oQ oQ
   have:=qfm q1 q2 oQ oQ
   omega
 · have:=qem p1 p2 oQ oQ
   have:=qem q1 q2 oQ oQ
   omega
 · omega
 · omega
 · have:=qat k hp'
   have:=qat k hq'
   omega
 · have k1:=qat k hp'
   have k2:=qat k hq';rw [qbe] at k1 k2
   omega
theorem qkh (a b:Pt) (x:Int):qag a b ⟨x,b.y⟩=(b.y-a.y)*(b.x-x):=by unfold qag;(simp only [Int.sub_mul,Int.mul_sub,Int.add_mul,Int.mul_add,Int.neg_mul,Int.mul_neg,Int.mul_comm,Int.mul_left_comm,Int.mul_assoc] at*;omega)
theorem qki (a b:Pt) (x:Int):qag a b ⟨x,a.y⟩=(b.y-a.y)*(a.x-x):=by unfold qag;(simp only [Int.sub_mul,Int.mul_sub,Int.add_mul,Int.mul_add,Int.neg_mul,Int.mul_neg,Int.mul_comm,Int.mul_left_comm,Int.mul_assoc] at*;omega)
theorem qe4 {t v:Int} (ht:0<t):(0<t*v↔0<v)/\(t*v<0↔v<0):=by
 rcases Int.lt_trichotomy v 0 with h|h|h
 · have:=Int.mul_neg_of_pos_of_neg ht h
   omega
 · subst h;simp
 · have:=Int.mul_pos ht h
   omega
theorem qwf {a b p:Pt} {u:Bx} (h:¬ sat a b u) (hp:inR u p) (hb:inR u ⟨p.x,b.y⟩) (p1:a.y<=p.y) (p2:p.y<b.y):0<qag a b p↔p.x<b.x:=by
 have hn:=qk7 h;have hp' :=hp;have hb' :=hb;have hc:=qkh a b p.x;have hm:=qe4 (t:=b.y-a.y) (v:=b.x-p.x) oQ
 rw [<-hc] at hm;unfold inR at hp hb
 simp only at hb
 rcases hn with k|k|k|k|k|k
 · have:=qfm p1 p2 oQ oQ
   omega
 · have:=qem p1 p2 oQ oQ
   omega
 · omega
 · omega
 · have:=qat k hp'
   have:=qat k hb'
   omega
 · have k1:=qat k hp'
   have k2:=qat k hb';rw [qbe] at k1 k2
   omega
theorem qwg {a b p:Pt} {u:Bx} (h:¬ sat a b u) (hp:inR u p) (ha:inR u ⟨p.x,a.y⟩) (p1:a.y<=p.y) (p2:p.y<b.y):0<qag a b p↔p.x<a.x:=by
 have hn:=qk7 h;have hp' :=hp;have ha' :=ha;have hc:=qki a b p.x;have hm:=qe4 (t:=b.y-a.y) (v:=a.x-p.x) oQ
 rw [<-hc] at hm;unfold inR at hp ha
 simp only at ha
 rcases hn with k|k|k|k|k|k
 · have:=qfm p1 p2 oQ oQ
   omega
 · have:=qem p1 p2 oQ oQ
   omega
 · omega
 · omega
 · have:=qat k hp'
   have:=qat k ha'
   omega
 · have k1:=qat k hp'
   have k2:=qat k ha';rw [qbe] at k1 k2
   omega
theorem qvd {a b:Pt} {x:Int} {u:Bx} (h:¬ sat a b u) (ha:inR u ⟨x,a.y⟩) (hb:inR u ⟨x,b.y⟩) (hab:a.y<=b.y):x<a.x↔x<b.x:=by
 have hn:=qk7 h;have ha' :=ha;have hb' :=hb;unfold inR at ha hb
 simp only at ha hb
 have ca:=qki a b x;have cb:=qkh a b x
 have key:∀t:Int,0<=t->(0<t*(a.x-x)->0<t*(b.x-x)->(x<a.x↔x<b.x))/\(t*(a.x-x)<0->t*(b.x-x)<0->(x<a.x↔x<b.x)):=by
  intro t ht
  rcases Int.lt_or_eq_of_le ht with h|h
  · have m1:=qe4 (v:=a.x-x) h
    have m2:=qe4 (v:=b.x-x) h
    constructor<;>intro _ _<;>omega
  · subst h
    simp
 have key:=key (b.y-a.y) oQ
 rw [<-ca,<-cb] at key
 rcases hn with k|k|k|k|k|k
 · omega
 · omega
 · omega
 · omega
 · exact key.1 (qat k ha') (qat k hb')
 · have k1:=qat k ha'
   have k2:=qat k hb';rw [qbe] at k1 k2;exact key.2 oQ oQ
theorem qwr {a b p q:Pt} {u:Bx} (oa:okPt a=true) (ob:okPt b=true) (op:okPt p=true) (oq:okPt q=true) (h:¬ sat a b u) (hp:inR u p) (hq:inR u q) (e:p.y=q.y):qba a b p=qba a b q:=by
 have go:∀a b:Pt,okPt a=true->okPt b=true->¬ sat a b u->a.y<=b.y->qba a b p=qba a b q:=by
  intro a b oa ob h hab
  rw [qcg oa ob op hab,qcg oa ob oq hab,decide_eq_decide,e]
  constructor
  · rintro⟨h1,h2,h3⟩
    exact⟨h1,h2,(qi2 h hp hq oQ oQ h1 h2).1 h3⟩
  · rintro⟨h1,h2,h3⟩
    exact⟨h1,h2,(qi2 h hp hq oQ oQ h1 h2).2 h3⟩
 rcases Int.le_total a.y b.y with hab|hab
 · exact go a b oa ob h hab
 · rw [<-qc8 a b p,<-qc8 a b q]
   exact go b a ob oa (fun k=>h (qfv k)) hab
def passed (x y y' :Int) (v:Pt):Bool:=decide (y<v.y/\v.y<=y' /\x<v.x)
theorem quz {a b p q:Pt} {u:Bx} (oa:okPt a=true) (ob:okPt b=true) (op:okPt p=true) (oq:okPt q=true) (h:¬ sat a b u) (hp:inR u p) (hq:inR u q) (e:p.x=q.x) (hy:p.y<=q.y):
 xor (qba a b p) (qba a b q)=xor (passed p.x p.y q.y a) (passed p.x p.y q.y b):=by
 have go:∀a b:Pt,okPt a=true->okPt b=true->¬ sat a b u->a.y<=b.y->xor (qba a b p) (qba a b q)=xor (passed p.x p.y q.y a) (passed p.x p.y q.y b):=by
  intro a b oa ob h hab
  rw [qcg oa ob op hab,qcg oa ob oq hab]
  unfold passed;have hmid:∀y,p.y<=y->y<=q.y->inR u ⟨p.x,y⟩:=fun y h1 h2=>by unfold inR at*;simp only at*;omega
  by_cases c1:b.y<=p.y
  · rw [decide_eq_false oQ,decide_eq_false oQ,decide_eq_false oQ,decide_eq_false oQ]
  by_cases c2:q.y<a.y
  · rw [decide_eq_false oQ,decide_eq_false oQ,decide_eq_false oQ,decide_eq_false oQ]
  by_cases c3:a.y<=p.y
  · by_cases c4:b.y<=q.y
    · have k:=qwf h hp (hmid b.y oQ c4) c3 oQ
      rw [decide_eq_false (p:=a.y<=q.y/\_) oQ,decide_eq_false (p:=p.y<a.y/\_) oQ,Bool.xor_false,Bool.false_xor,decide_eq_decide]
      omega
    · have k:=qi2 h hp hq c3 oQ oQ oQ
      rw [decide_eq_false (p:=p.y<a.y/\_) oQ,decide_eq_false (p:=p.y<b.y/\b.y<=q.y/\_) oQ]
      have e:decide (a.y<=p.y/\p.y<b.y/\0<qag a b p)=decide (a.y<=q.y/\q.y<b.y/\0<qag a b q):=by
       rw [decide_eq_decide];omega
      rw [e]
      cases decide (a.y<=q.y/\q.y<b.y/\0<qag a b q)<;>rfl
  · by_cases c4:b.y<=q.y
    · have k:=qvd h (hmid a.y oQ oQ) (hmid b.y oQ c4) hab
      rw [decide_eq_false (p:=a.y<=p.y/\_) oQ,decide_eq_false (p:=a.y<=q.y/\_) oQ]
      have e:decide (p.y<a.y/\a.y<=q.y/\p.x<a.x)=decide (p.y<b.y/\b.y<=q.y/\p.x<b.x):=by
       rw [decide_eq_decide];omega
      rw [e]
      cases decide (p.y<b.y/\b.y<=q.y/\p.x<b.x)<;>rfl
    · have hm:=hmid a.y oQ oQ
      rw [e] at hm;have k:=qwg h hq hm oQ oQ
      rw [decide_eq_false (p:=a.y<=p.y/\_) oQ,decide_eq_false (p:=p.y<b.y/\b.y<=q.y/\_) oQ,Bool.xor_false,Bool.false_xor,decide_eq_decide]
      omega
 rcases Int.le_total a.y b.y with hab|hab
 · exact go a b oa ob h hab
 · rw [<-qc8 a b p,<-qc8 a b q,Bool.xor_comm (passed p.x p.y q.y a)]
   exact go b a ob oa (fun k=>h (qfv k)) hab
theorem qpt {l:List Pt} {u:Bx} {p q:Pt} (hok:l.all okPt=true) (op:okPt p=true) (oq:okPt q=true) (hn:∀i,i<l.length->¬ sat (pt l i) (nx l i) u) (hp:inR u p) (hq:inR u q):
 qb3 l p l.length=qb3 l q l.length:=by
 have om:okPt ⟨p.x,q.y⟩=true:=by rw [qay] at*;simp only;omega
 have hm:inR u ⟨p.x,q.y⟩:=by unfold inR at*;simp only;omega
 have e1:qb3 l ⟨p.x,q.y⟩ l.length=qb3 l q l.length:=by
  apply qgs (g:=fun _=>false)
  intro i hi
  rw [qwr (qb0 hok hi) (qd8 hok hi) om oq (hn i hi) hm hq rfl]
  cases qba (pt l i) (nx l i) q<;>rfl
 rw [<-e1]
 rcases Int.le_total p.y q.y with h|h
 · exact qgs fun i hi=>quz (qb0 hok hi) (qd8 hok hi) op om (hn i hi) hp hm rfl h
 · exact(qgs fun i hi=>quz (qb0 hok hi) (qd8 hok hi) om op (hn i hi) hm hp rfl h).symm
/- plain laws of rings and boxes: the program's looks are the reference's -/
def inB (v b:Bx):Prop:=(v.lo.x<=b.lo.x/\b.hi.x<=v.hi.x)/\v.lo.y<=b.lo.y/\b.hi.y<=v.hi.y
theorem qfl (bs:List Bx):∀u:Bx,(∀b,b∈bs->qaz b=0)->(qbr u bs).2=0/\inB (qbr u bs).1 u/\(∀b,b∈bs->inB (qbr u bs).1 b)/\(∀v,inB v u->(∀b,b∈bs->inB v b)->inB v (qbr u bs).1):=by
 induction bs with
 | nil=>intro u _;exact⟨rfl,by unfold inB qbr;simp only;omega,fun b hb=>by simp at hb,fun v h _=>h⟩
 | cons b r ih=>
   intro u h;have h0:=h b sI
   rw [qbr,if_pos h0]
   obtain⟨i1,i2,i3,i4⟩:=ih (qjq u b) fun c hc=>h c (by simp [hc])
   refine⟨i1,?_,?_,?_⟩
   · revert i2
     generalize (qbr (qjq u b) r).1=R;unfold inB qjq
     simp only
     omega
   · intro c hc
     rcases List.mem_cons.1 hc with rfl|hc
     · revert i2
       generalize (qbr (qjq u c) r).1=R;unfold inB qjq
       simp only
       omega
     · exact i3 c hc
   · intro v hu hb
     refine i4 v ?_ fun c hc=>hb c (by simp [hc])
     have hbb:=hb b sI
     revert hu hbb;unfold inB qjq
     simp only
     omega
theorem qen {l:List Pt} (h:qa7 l=0):3<=l.length/\l.length<=64/\l.all okPt=true:=by
 unfold qa7 at h
 split at h
 · omega
 · rename_i hn
   split at h
   · rename_i hok
     exact⟨by omega,by omega,hok⟩
   · omega
theorem qwv {l:List Pt} {i:Nat} (h:i<l.length):pt l i∈l:=by
 have e:pt l i=l[i]:=by rw [pt,zpy,zby h];rfl
 rw [e]
 exact List.getElem_mem h
theorem qwn {l:List Pt} {p:Pt} (h:p∈l):∃i,i<l.length/\pt l i=p:=by
 obtain⟨i,hi,e⟩:=List.getElem_of_mem h;exact⟨i,hi,by rw [pt,zpy,zby hi];exact e⟩
theorem qcq {l:List Pt} (hl:1<=l.length) (hok:l.all okPt=true):(qb4 (l.map fun p=>⟨p,p⟩)).2=0/\(∀i,i<l.length->inR (qah l) (pt l i))/\(∀v,(∀i,i<l.length->inR v (pt l i))->inB v (qah l))/\okBx (qah l)=true:=by
 have hck:∀p,p∈l->qaz ⟨p,p⟩=0:=fun p hp=>by rw [qkk,if_pos (List.all_eq_true.1 hok p hp)]
 match l,hl,hok,hck with
 | p::r,_,hok,hck=>
   have hs:=qfl ((p::r).map fun p=>⟨p,p⟩) ⟨p,p⟩ (by
    intro b hb;obtain⟨q,hq,rfl⟩:=zty.1 hb
    exact hck q hq)
   obtain⟨s1,s2,s3,s4⟩:=hs
   have h1:∀i,i<(p::r).length->inR (qah (p::r)) (pt (p::r) i):=by
    intro i hi;have:=s3 ⟨pt (p::r) i,pt (p::r) i⟩ (zty.2 ⟨_,qwv hi,rfl⟩);unfold inB at this;unfold inR;exact⟨this.1,this.2⟩
   have h2:∀v,(∀i,i<(p::r).length->inR v (pt (p::r) i))->inB v (qah (p::r)):=by
    intro v hv;refine s4 v ?_ ?_
    · have:=hv 0 sI
      exact⟨this.1,this.2⟩
    · intro b hb
      obtain⟨q,hq,rfl⟩:=zty.1 hb;obtain⟨i,hi,rfl⟩:=qwn hq;have:=hv i hi;exact⟨this.1,this.2⟩
   refine⟨s1,h1,h2,?_⟩
   rw [qbh]
   have a1:=h1 0 sI
   have a2:=h2 ⟨⟨-1073741823,-1073741823⟩,⟨1073741823,1073741823⟩⟩ (fun i hi=>by
    have:=(qay _).1 (qb0 hok hi)
    exact this)
   rw [qay,qay]
   unfold inR at a1;unfold inB at a2
   simp only at a2
   omega
theorem qk0 {l:List Pt} {p:Pt} (hl:1<=l.length) (hok:l.all okPt=true) (op:okPt p=true) (h:qdc l p=true):inR (qah l) p:=by
 obtain⟨_,hin,_,_⟩:=qcq hl hok;have hin2:∀i,i<l.length->inR (qah l) (nx l i):=fun i hi=>hin _ (Nat.mod_lt _ oQ)
 apply Classical.byContradiction
 intro hno;unfold qdc at h;rw [Bool.or_eq_true] at h
 rcases h with h|h
 · unfold qjz at h
   rw [qbc] at h;obtain⟨i,hi,h⟩:=h;rw [qdr] at h;have h1:=hin i hi;have h2:=hin2 i hi
   apply hno
   unfold inR at*
   omega
 · have hz:qb3 l p l.length=false:=by
    have hup:∀(g:Pt->Bool),(∀a b:Pt,okPt a=true->okPt b=true->inR (qah l) a->inR (qah l) b->a.y<=b.y->qba a b p=xor (g a) (g b))->qb3 l p l.length=false:=by
     intro g hg
     rw [qgr]
     apply ql6 (g:=g)
     intro i hi
     rcases Int.le_total (pt l i).y (nx l i).y with k|k
     · exact hg _ _ (qb0 hok hi) (qd8 hok hi) (hin i hi) (hin2 i hi) k
     · have:=hg _ _ (qd8 hok hi) (qb0 hok hi) (hin2 i hi) (hin i hi) k
       rw [qc8,Bool.xor_comm] at this;exact this
    by_cases c1:p.y<(qah l).lo.y
    · refine hup (fun _=>false) fun a b oa ob ha hb hab=> ?_
      rw [qcg oa ob op hab]
      unfold inR at ha hb
      rw [decide_eq_false oQ]
      rfl
    by_cases c2:(qah l).hi.y<p.y
    · refine hup (fun _=>false) fun a b oa ob ha hb hab=> ?_
      rw [qcg oa ob op hab]
      unfold inR at ha hb
      rw [decide_eq_false oQ]
      rfl
    by_cases c3:(qah l).hi.x<p.x
    · refine hup (fun _=>false) fun a b oa ob ha hb hab=> ?_
      rw [qcg oa ob op hab]
      unfold inR at ha hb
      rw [decide_eq_false]
      · rfl
      · rintro⟨k1,k2,k3⟩
        have:=qem (a:=a) (b:=b) k1 k2 oQ oQ
        omega
    by_cases c4:p.x<(qah l).lo.x
    · refine hup (fun v=>decide (v.y<=p.y)) fun a b oa ob ha hb hab=> ?_
      rw [qcg oa ob op hab]
      unfold inR at ha hb
      by_cases k1:a.y<=p.y
      · by_cases k2:p.y<b.y
        · have:=qfm (a:=a) (b:=b) k1 k2 oQ oQ
          rw [decide_eq_true oQ,decide_eq_true k1,decide_eq_false oQ]
          rfl
        · rw [decide_eq_false oQ,decide_eq_true k1,decide_eq_true oQ]
          rfl
      · rw [decide_eq_false oQ,decide_eq_false k1,decide_eq_false oQ]
        rfl
    · exfalso
      apply hno
      unfold inR
      omega
   rw [hz] at h
   cases h
theorem qns {a b c d:Pt} (h:qa1 a b c d=true):(min a.x b.x<=max c.x d.x/\min c.x d.x<=max a.x b.x)/\(min a.y b.y<=max c.y d.y/\min c.y d.y<=max a.y b.y):=by
 rw [qhl] at h;obtain⟨⟨oa,ob,oc,od⟩,h⟩:=h
 rcases h with h|h|h|h|h
 · rw [qgp oa ob oc od] at h
   exact qgb h.1 h.2
 all_goals
  rw [qdr] at h
  omega
def qfg (a b:List Pt):Bool:=(qdc a (pt b 0)||qdc b (pt a 0))||qc9 a b
def qb9 (l:List Pt) (b:Bx):Bool:=qdc l b.lo||(List.range l.length).any (fun i=>qe7 (pt l i) (nx l i) b)
theorem qi4 {l:List Pt} {p:Pt} (h:qa7 l=0) (op:okPt p=true):rhas l p=qdc l p:=by simp [rhas,h,op]
theorem qrg {a b:List Pt} (ha:qa7 a=0) (hb:qa7 b=0):qff a b=qfg a b:=by
 obtain⟨a3,_,aok⟩:=qen ha;obtain⟨b3,_,bok⟩:=qen hb;have oa0:=qb0 aok (i:=0) oQ
 have ob0:=qb0 bok (i:=0) oQ
 obtain⟨_,ain,_,aokb⟩:=qcq oQ aok
 obtain⟨_,bin,_,bokb⟩:=qcq oQ bok
 unfold qff qfg
 rw [qi4 ha ob0,qi4 hb oa0]
 have key:(qdc a (pt b 0)||qdc b (pt a 0)||qc9 a b)=true->qbk (qah a) (qah b)=true:=by
  intro h
  have hm:∀p,inR (qah a) p->inR (qah b) p->qbk (qah a) (qah b)=true:=by
   intro p h1 h2;unfold inR at h1 h2
   simp only [qbk,aokb,bokb,qfr,Bool.true_and,ziy,decide_eq_true_eq]
   omega
  simp only [Bool.or_eq_true] at h
  rcases h with (h|h)|h
  · exact hm _ (qk0 oQ aok ob0 h) (bin 0 oQ)
  · exact hm _ (ain 0 oQ) (qk0 oQ bok oa0 h)
  · unfold qc9 at h
    rw [qbc] at h;obtain⟨i,hi,h⟩:=h;rw [qbc] at h;obtain⟨k,hk,h⟩:=h;have hs:=qns h;have i1:=ain i hi;have i2:=ain ((i+1)%a.length) (Nat.mod_lt _ oQ)
    have k1:=bin k hk;have k2:=bin ((k+1)%b.length) (Nat.mod_lt _ oQ)
    unfold inR at*;unfold nx at hs
    simp only [qbk,aokb,bokb,qfr,Bool.true_and,ziy,decide_eq_true_eq]
    omega
 revert key
 cases qbk (qah a) (qah b)<;>cases qdc a (pt b 0)<;>cases qdc b (pt a 0)<;>cases qc9 a b<;>simp
theorem qn3 {l:List Pt} {b:Bx} (h:qa7 l=0) (hb:okBx b=true):cutS l b=qb9 l b:=by
 have ob:=((qbh b).1 hb).1.1;unfold cutS qb9
 rw [qi4 h ob,Bool.or_comm]
 congr 1;congr 1
 funext i
 exact qvq _ _ _
theorem qsl {l:List Pt} {a u:Bx} (h:qa7 l=0) (ha:okBx a=true) (hu:okBx u=true) (hau:inB u a) (hc:cutS l a=true):cutS l u=true:=by
 obtain⟨h3,_,hok⟩:=qen h;have oa:=(qbh a).1 ha;have ou:=(qbh u).1 hu;have u1:inR u a.lo:=by unfold inB at hau;unfold inR;omega
 have u2:inR u a.hi:=by unfold inB at hau;unfold inR;omega
 have aa:inR a a.lo:=by unfold inR;omega
 unfold cutS at*
 rw [Bool.or_eq_true] at*
 by_cases hs:∃i,i<l.length/\sat (pt l i) (nx l i) u
 · obtain⟨i,hi,hs⟩:=hs
   left
   rw [qbc]
   exact⟨i,hi,(qil (qb0 hok hi) (qd8 hok hi) hu).2 hs⟩
 · have hn:∀i,i<l.length->¬ sat (pt l i) (nx l i) u:=fun i hi k=>hs ⟨i,hi,k⟩
   rcases hc with hc|hc
   · rw [qbc] at hc
     obtain⟨i,hi,hc⟩:=hc;exact absurd (qtf ((qil (qb0 hok hi) (qd8 hok hi) ha).1 hc) u1 u2) (hn i hi)
   · right
     rw [qi4 h oa.1.1] at hc
     rw [qi4 h ou.1.1]
     unfold qdc at*
     rw [Bool.or_eq_true] at*
     rcases hc with hc|hc
     · exfalso
       unfold qjz at hc;rw [qbc] at hc;obtain⟨i,hi,hc⟩:=hc;rw [qdr] at hc;refine hn i hi ⟨?_,qe1 u1 hc.2.1⟩;unfold inR at u1
       omega
     · right
       rw [<-qpt hok oa.1.1 ou.1.1 hn u1 (by unfold inR;omega)]
       exact hc
/- plain laws of objects and queries: what the statements of chapter 6 say -/
theorem qio {o:Ob} (h:ckOb o=0):(qcn o=true/\okBx (qbm o)=true)\/(o.kind=4/\qcn o=false/\qa7 o.pts=0):=by
 obtain⟨k,l⟩:=o;unfold ckOb at h
 simp only at h
 split at h
 · rename_i e
   subst e
   left
   split at h
   · exact⟨rfl,by simpa [okBx,qbm] using h⟩
   · omega
 · split at h
   · rename_i e
     subst e
     left
     split at h
     · refine⟨rfl, ?_⟩
       unfold qjm at h
       split at h
       · rename_i hp
         split at h
         · omega
         · rw [qbh]
           simp only [qbm,qay] at*
           simp
           omega
       · omega
     · omega
   · split at h
     · rename_i e
       subst e
       left
       split at h
       · exact⟨rfl,by simpa [okBx,qbm] using h⟩
       · omega
     · split at h
       · rename_i n1 n2 n3 e
         subst e;exact .inr ⟨rfl,rfl,h⟩
       · omega
theorem qb2 {o:Ob} (h:ckOb o=0):okBx (qaj o)=true:=by
 rcases qio h with ⟨h1,h2⟩|⟨_,h1,h2⟩
 · rw [qaj,h1];exact h2
 · rw [qaj,h1]
   obtain⟨a,_,b⟩:=qen h2;exact(qcq oQ b).2.2.2
theorem qcd {r:Bx}:okBx r=true↔qaz r=0:=by unfold okBx;rw [decide_eq_true_eq]
theorem qe8 {o:Ob} {r:Bx} {l:List Pt} (ho:ckOb o=0) (hr:qaz r=0):qcp o ⟨1,r,l⟩=if qcn o then qbk (qbm o) r else cutS o.pts r:=by
 unfold qcp
 rw [if_pos ⟨ho,by simpa [ckQu] using hr⟩,if_pos rfl]
 rfl
theorem qt6 {o:Ob} {r:Bx} {l:List Pt} (ho:ckOb o=0) (hr:qaz r=0):qcp o ⟨2,r,l⟩=qli (qaj o) r:=by
 unfold qcp
 rw [if_pos ⟨ho,by simpa [ckQu] using hr⟩,if_neg sI,if_pos rfl]
theorem quy {a b:Bx} (ha:qaz a=0) (hb:qaz b=0):(qb4 [a,b]).2=0/\okBx (qb4 [a,b]).1=true/\inB (qb4 [a,b]).1 a/\inB (qb4 [a,b]).1 b:=by
 have h:=qfl [a,b] a (by intro c hc;simp at hc;rcases hc with rfl|rfl<;>assumption)
 obtain⟨h1,h2,h3,h4⟩:=h;have hA:=(qbh a).1 (qcd.2 ha);have hB:=(qbh b).1 (qcd.2 hb);refine⟨h1,?_,h3 a sI,h3 b sI⟩
 have hl:inB ⟨⟨-1073741823,-1073741823⟩,⟨1073741823,1073741823⟩⟩ (qb4 [a,b]).1:=h4 _ (by rw [qay,qay] at hA;unfold inB;simp only;omega) (by
  intro c hc;rw [qay,qay] at hA hB
  simp at hc
  rcases hc with rfl|rfl<;>(unfold inB;simp only;omega))
 have h3a:=h3 a sI
 have e:(qb4 [a,b]).1=(qbr a [a,b]).1:=rfl
 rw [qbh,qay,qay,e]
 rw [e] at hl;unfold inB at hl h3a
 simp only at hl
 rw [qay,qay] at hA
 omega
theorem qex {a b:Bx} (ha:okBx a=true) (hb:okBx b=true):qbk a b=true↔(a.lo.x<=b.hi.x/\b.lo.x<=a.hi.x)/\a.lo.y<=b.hi.y/\b.lo.y<=a.hi.y:=by
 simp [qbk,ha,hb,qfr,and_assoc]
theorem qod {a b:Bx} (ha:okBx a=true) (hb:okBx b=true):qli a b=true↔inB b a:=by
 have hA:=(qbh a).1 ha
 simp only [qli,ha,Bool.true_and,ziy,qf8 hb hA.1.1,qf8 hb hA.1.2]
 unfold inR inB
 omega
theorem qpy {o:Ob} {a u:Bx} (ho:ckOb o=0) (ha:qaz a=0) (hu:okBx u=true) (h:inB u a) (hm:qcp o ⟨1,a,[]⟩=true):qcp o ⟨1,u,[]⟩=true:=by
 rw [qe8 ho ha] at hm
 rw [qe8 ho (qcd.1 hu)]
 rcases qio ho with ⟨h1,h2⟩|⟨_,h1,h2⟩
 · rw [h1,if_pos rfl] at hm
   rw [h1,if_pos rfl]
   rw [qex h2 (qcd.2 ha)] at hm
   rw [qex h2 hu]
   unfold inB at h
   omega
 · rw [h1,if_neg sI] at hm
   rw [h1,if_neg sI]
   exact qsl h2 (qcd.2 ha) hu h hm
theorem qjc {o:Ob} (ho:ckOb o=0):qcp o ⟨1,qaj o,[]⟩=true:=by
 have hb:=qb2 ho
 rw [qe8 ho (qcd.1 hb)]
 rcases qio ho with ⟨h1,h2⟩|⟨_,h1,h2⟩
 · have e:qaj o=qbm o:=by rw [qaj,h1];rfl
   rw [h1,if_pos rfl,e,qex h2 h2]
   have:=(qbh _).1 h2
   omega
 · have e:qaj o=qah o.pts:=by rw [qaj,h1];rfl
   rw [h1,if_neg sI,e]
   obtain⟨h3,_,hok⟩:=qen h2;obtain⟨_,hin,_,hbk⟩:=qcq oQ hok
   unfold cutS
   rw [Bool.or_eq_true]
   left
   rw [qbc]
   refine⟨0,by omega,?_⟩
   rw [qil (qb0 hok oQ) (qd8 hok oQ) hbk]
   exact qi1 (hin 0 oQ)
structure Fr where
 num:Nat
 den:Nat
instance:DecidableEq Fr:=fun a b=>
 if h:a.num=b.num/\a.den=b.den then isTrue (by cases a;cases b;simp_all) else isFalse (fun e=>h (by subst e;exact⟨rfl,rfl⟩))
instance:Inhabited Fr:=⟨⟨0,0⟩⟩
def qw3:Fr:=⟨0,0⟩
theorem qwh (n:Int):sgn n<0↔n<0:=by unfold sgn;split<;>(try split)<;>omega
def sqs (x y:Int):Nat:=x.natAbs*x.natAbs+y.natAbs*y.natAbs
def boxN (b:Bx) (p:Pt):Nat:=sqs (gap p.x b.lo.x b.hi.x) (gap p.y b.lo.y b.hi.y)
theorem qob {o:Ob} (h:qcn o=true):qaj o=qbm o:=by unfold qaj;rw [if_pos h]
theorem qmz {o:Ob} (h:qcn o=false):qaj o=qah o.pts:=by unfold qaj;rw [if_neg (by simp [h])]
theorem qru {p:Pt} (op:okPt p=true):okBx ⟨p,p⟩=true:=by
 rw [qbh]
 exact⟨⟨op,op⟩,Int.le_refl _,Int.le_refl _⟩
theorem qst {b:Bx} {p:Pt} (hb:okBx b=true) (op:okPt p=true):qbk b ⟨p,p⟩=true↔inR b p:=by
 rw [qex hb (qru op)]
 unfold inR;exact⟨fun h=>⟨⟨h.1.1,h.1.2⟩,h.2.1,h.2.2⟩,fun h=>⟨⟨h.1.1,h.1.2⟩,h.2.1,h.2.2⟩⟩
theorem quf {o:Ob} {r:Bx} (ho:ckOb o=0) (hr:qaz r=0) (h:qcp o ⟨2,r,[]⟩=true):qcp o ⟨1,r,[]⟩=true:=by
 have hb:=qb2 ho;rw [qt6 ho hr] at h;exact qpy ho (qcd.1 hb) (qcd.2 hr) ((qod hb (qcd.2 hr)).1 h) (qjc ho)
theorem qdk {o:Ob} {r:Bx} (ho:ckOb o=0) (hr:qaz r=0) (h:qcp o ⟨1,r,[]⟩=true):qbk (qaj o) r=true:=by
 have hb:=qb2 ho;have hr' :=qcd.2 hr;rw [qe8 ho hr] at h
 rcases qio ho with ⟨h1,h2⟩|⟨_,h1,h2⟩
 · rw [if_pos h1] at h
   unfold qaj
   rw [if_pos h1]
   exact h
 · rw [if_neg (by simp [h1]),qn3 h2 hr'] at h
   unfold qaj at hb ⊢
   rw [if_neg (by simp [h1])] at hb ⊢
   obtain⟨a,_,b⟩:=qen h2
   rw [qex hb hr']
   obtain⟨⟨o1,o2⟩,o3,o4⟩:=(qbh r).1 hr';unfold qb9 at h;rw [Bool.or_eq_true,qbc] at h
   rcases h with h|⟨i,hi,hm⟩
   · have:=qk0 oQ b o1 h
     unfold inR at this
     omega
   · obtain⟨⟨⟨s1,s2⟩,s3,s4⟩,_⟩:=(qme (qb0 b hi) (qd8 b hi) hr').1 hm
     have k1:=(qcq oQ b).2.1 i hi
     have k2:=(qcq (l:=o.pts) oQ b).2.1 ((i+1)%o.pts.length) (Nat.mod_lt _ oQ)
     have k3:inR (qah o.pts) (nx o.pts i):=k2;unfold inR at k1 k3
     omega
def cX (b:Bx):Int:=b.lo.x+b.hi.x
def cY (b:Bx):Int:=b.lo.y+b.hi.y
def ahd (l:List Bx) (i k:Nat):Bool:=
 decide (cX (l.getD i qbz)<cX (l.getD k qbz))||(decide (cX (l.getD i qbz)=cX (l.getD k qbz))&&(decide (cY (l.getD i qbz)<cY (l.getD k qbz))||(decide (cY (l.getD i qbz)=cY (l.getD k qbz))&&decide (i<k))))
def rank (l:List Bx) (i:Nat):Nat:=(List.range l.length).countP fun k=>ahd l k i
def qia (l:List Bx):List Bool:=(List.range l.length).map fun i=>decide (l.length-l.length/2<=rank l i)
theorem qpl (l:List Bx):(qia l).length=l.length:=by simp [qia]
end Pg
