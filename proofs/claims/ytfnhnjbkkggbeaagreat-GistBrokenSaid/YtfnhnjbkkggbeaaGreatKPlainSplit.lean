/-Plain definitions-/
import Derived.Below
set_option linter.unusedVariables false
set_option linter.unusedSimpArgs false
abbrev zay:= @Option.bind_some
abbrev zby:= @List.getElem?_eq_getElem
abbrev zcy:= @Nat.le_trans
abbrev zdy:= @List.map_cons
abbrev zey:= @List.map_nil
abbrev zfy:= @Bool.not_false
abbrev zgy:= @Bool.not_true
abbrev zhy:= @Nat.le_refl
abbrev ziy:= @Bool.and_eq_true
abbrev zjy:= @List.mem_of_getElem?
abbrev zky:= @Nat.lt_of_lt_of_le
abbrev zly:= @Nat.zero_le
abbrev zmy:= @List.take_of_length_le
abbrev zny:= @List.length_append
abbrev zoy:= @List.getElem?_eq_none
abbrev zpy:= @List.getD_eq_getElem?_getD
abbrev zqy:= @Array.getElem?_eq_some_iff
abbrev zry:= @Nat.lt_or_ge
abbrev zsy:= @List.getElem?_eq_some_iff
abbrev zty:= @List.mem_map
abbrev zuy:= @Nat.mul_le_mul_right
abbrev zvy:= @List.flatMap_cons
abbrev zwy:= @List.take_add_one
abbrev zxy:= @Array.getElem?_eq_none
abbrev zyy:= @List.length_map
abbrev zzy:= @Nat.mod_eq_of_lt
abbrev zax:= @List.length_cons
abbrev zbx:= @List.eq_nil_of_length_eq_zero
abbrev zcx:= @Int.mul_le_mul_of_nonneg_left
abbrev zdx:= @List.getElem?_append_right
abbrev zex:= @List.getElem?_append_left
abbrev zfx:= @List.map_append
abbrev zgx:= @List.drop_eq_getElem_cons
abbrev zhx:= @List.mem_singleton
abbrev zix:= @Nat.lt_of_le_of_lt
abbrev zjx:= @Option.some.inj
abbrev zkx:= @List.length_set
abbrev zpx:= @List.getElem?_map
theorem oQ {p:Prop} (h:p:=by omega):p:=h
theorem dE {p:Prop} (h:p:=by decide):p:=h
theorem sI {p:Prop} (h:p:=by simp):p:=h
theorem lAq:(∀(α:Type) (l:List α) (i:Nat),l.toArray[i]? =l[i]?)/\(∀(α:Type) (a:α) (l:List α),(a::l)[0]? =some a)/\∀(α:Type) (a:α) (l:List α) (i:Nat),(a::l)[i+1]? =l[i]? :=⟨fun _ _ _=>List.getElem?_toArray,fun _ _ _=>List.getElem?_cons_zero,fun _ _ _ _=>List.getElem?_cons_succ⟩
theorem lSq:(∀(α:Type) (l:List α) (i:Nat) (a:α),l.toArray.setIfInBounds i a=(l.set i a).toArray)/\(∀(α:Type) (l:List α) (a b:α),(a::l).set 0 b=b::l)/\∀(α:Type) (l:List α) (n:Nat) (a b:α),(a::l).set (n+1) b=a::l.set n b:=⟨fun _ _ _ _=>List.setIfInBounds_toArray ..,fun _ _ _ _=>List.set_cons_zero,fun _ _ _ _ _=>List.set_cons_succ⟩

namespace Pg
theorem lcz {α:Type _} {a:α} {l:List α}:(a::l)[0]? =some a:=List.getElem?_cons_zero
theorem lcs {α:Type _} {a:α} {l:List α} {i:Nat}:(a::l)[i+1]? =l[i]? :=List.getElem?_cons_succ
theorem lta {α:Type _} {l:List α} {i:Nat}:l.toArray[i]? =l[i]? :=List.getElem?_toArray
theorem lsi {α:Type _} (l:List α) (i:Nat) (a:α):l.toArray.setIfInBounds i a=(l.set i a).toArray:=List.setIfInBounds_toArray l i a
theorem lsz {α:Type _} {l:List α} {a b:α}:(a::l).set 0 b=b::l:=List.set_cons_zero
theorem lss {α:Type _} {l:List α} {n:Nat} {a b:α}:(a::l).set (n+1) b=a::l.set n b:=List.set_cons_succ
theorem ldz {α:Type _} {a d:α} {l:List α}:(a::l).getD 0 d=a:=List.getD_cons_zero
theorem lds {α:Type _} {a d:α} {l:List α} {n:Nat}:(a::l).getD (n+1) d=l.getD n d:=List.getD_cons_succ
structure Pt where
 x:Int
 y:Int
instance:DecidableEq Pt:=fun a b=>
 if h:a.x=b.x/\a.y=b.y then isTrue (by cases a;cases b;simp_all) else isFalse (fun e=>h (by subst e;exact⟨rfl,rfl⟩))
instance:Inhabited Pt:=⟨⟨0,0⟩⟩
theorem Pt.ext' {a b:Pt} (hx:a.x=b.x) (hy:a.y=b.y):a=b:=by cases a;cases b;simp_all
structure Bx where
 lo:Pt
 hi:Pt
def farB (n:Int):Bool:=decide (n< -1073741823)||decide (1073741823<n)
def okPt (p:Pt):Bool:= !(farB p.x||farB p.y)
def qa4 (b:Bx):Nat:=if okPt b.lo&&okPt b.hi then(if decide (b.hi.x<b.lo.x)||decide (b.hi.y<b.lo.y) then 1 else 0) else 2
def okBx (b:Bx):Bool:=decide (qa4 b=0)
def qbu (a b c:Pt):Int:=(b.x-a.x)*(c.y-a.y)-(b.y-a.y)*(c.x-a.x)
def qdn (a b c:Pt):Int:=if okPt a&&okPt b&&okPt c then qbu a b c else 0
def sgn (n:Int):Int:=if n<0 then -1 else if 0<n then 1 else 0
def qb7 (a b c:Pt):Int:=sgn (qdn a b c)
def qum (b:Bx) (p:Pt):Bool:=decide (b.lo.x<=p.x)&&decide (p.x<=b.hi.x)&&decide (b.lo.y<=p.y)&&decide (p.y<=b.hi.y)
def bhas (b:Bx) (p:Pt):Bool:=okBx b&&okPt p&&qum b p
def qnj (a b:Bx):Bool:=decide (a.lo.x<=b.hi.x)&&decide (b.lo.x<=a.hi.x)&&decide (a.lo.y<=b.hi.y)&&decide (b.lo.y<=a.hi.y)
def qde (a b:Bx):Bool:=okBx a&&okBx b&&qnj a b
def qk7 (a b:Bx):Bool:=okBx a&&bhas b a.lo&&bhas b a.hi
def qk6 (a b:Bx):Bx:=⟨⟨min a.lo.x b.lo.x,min a.lo.y b.lo.y⟩,⟨max a.hi.x b.hi.x,max a.hi.y b.hi.y⟩⟩
def qcg:Bx:=⟨⟨0,0⟩,⟨0,0⟩⟩
def qb1 (u:Bx):List Bx->Bx×Nat
 | []=>(u,0)
 | b::r=>if qa4 b=0 then qb1 (qk6 u b) r else(qcg,qa4 b)
def qb8:List Bx->Bx×Nat
 | []=>(qcg,1)
 | b::r=>qb1 b (b::r)
structure Ds where
 hi:Nat
 lo:Nat
 den:Nat
instance:DecidableEq Ds:=fun a b=>
 if h:a.hi=b.hi/\a.lo=b.lo/\a.den=b.den then isTrue (by cases a;cases b;simp_all) else isFalse (fun e=>h (by subst e;exact⟨rfl,rfl,rfl⟩))
def gap (n l h:Int):Int:=max (max (l-n) (n-h)) 0
def dotR (o a b:Pt):Int:=(a.x-o.x)*(b.x-o.x)+(a.y-o.y)*(b.y-o.y)
def span (a b:Pt):Bx:=⟨⟨min a.x b.x,min a.y b.y⟩,⟨max a.x b.x,max a.y b.y⟩⟩
def onS (a b p:Pt):Bool:=okPt a&&okPt b&&okPt p&&decide (qbu a b p=0)&&qum (span a b) p
def qd2 (a b c d:Pt):Bool:=decide (qb7 a b c*qb7 a b d<0)&&decide (qb7 c d a*qb7 c d b<0)
def qd4 (a b c d:Pt):Bool:=okPt a&&okPt b&&okPt c&&okPt d&&(qd2 a b c d||onS a b c||onS a b d||onS c d a||onS c d b)
def mbox (a b:Pt) (r:Bx):Bool:=okPt a&&okPt b&&okBx r&&(bhas r a||bhas r b||qd4 a b r.lo r.hi||qd4 a b ⟨r.lo.x,r.hi.y⟩ ⟨r.hi.x,r.lo.y⟩)
def pt (l:List Pt) (i:Nat):Pt:=l.getD i ⟨0,0⟩
def nx (l:List Pt) (i:Nat):Pt:=pt l ((i+1)%l.length)
def qlf (l:List Pt) (i k:Nat):Bool:=
 if pt l i=pt l k then true
 else if (i+1)%l.length=k then onS (pt l i) (nx l i) (nx l k)||onS (pt l k) (nx l k) (pt l i)
 else if (k+1)%l.length=i then onS (pt l k) (nx l k) (nx l i)||onS (pt l i) (nx l i) (pt l k)
 else qd4 (pt l i) (nx l i) (pt l k) (nx l k)
def qd8 (l:List Pt):Bool:=(List.range l.length).any fun i=>(List.range l.length).any fun k=>decide (k≠i)&&qlf l i k
def qbn (l:List Pt):Nat:=if l.length<3\/64<l.length then 3 else if l.all okPt then(if qd8 l then 4 else 0) else 2
def qhv (a c b:Pt):Bool:=decide (a≠c)&&decide (b≠c)&&decide (qdn c a b=0)&&decide (0<dotR c a b)
def clash (l:List Pt) (i j:Nat):Bool:=
 if j=i+1 then qhv (pt l i) (pt l (i+1)) (nx l j)
 else if i=0/\j+1=l.length then qhv (pt l (i+1)) (pt l i) (pt l j)
 else qd4 (pt l i) (pt l (i+1)) (pt l j) (nx l j)
def qec (l:List Pt):Bool:=(List.range l.length).any fun i=>(List.range l.length).any fun j=>decide (i<j)&&(decide (pt l i=pt l j)||clash l i j)
def qcs (l:List Pt):Nat:=if l.length<3\/64<l.length then 3 else if l.all okPt then(if qec l then 4 else 0) else 2
def qxe (l:List Pt) (p:Pt):Bool:=(List.range l.length).any fun i=>onS (pt l i) (nx l i) p
def qjl (a b p:Pt):Bool:=
 if b.y<a.y then decide (b.y<=p.y)&&decide (p.y<a.y)&&decide (0<qdn b a p)
 else decide (a.y<=p.y)&&decide (p.y<b.y)&&decide (0<qdn a b p)
def qhu (l:List Pt) (p:Pt):Nat->Bool
 | 0=>false
 | k+1=>xor (qhu l p k) (qjl (pt l k) (nx l k) p)
def q2s (l:List Pt) (p:Pt):Bool:=qxe l p||qhu l p l.length
def rhas (l:List Pt) (p:Pt):Bool:=decide (qbn l=0)&&okPt p&&q2s l p
def qar (l:List Pt):Bx:=(qb8 (l.map fun p=>⟨p,p⟩)).1
structure Ob where
 kind:Int
 pts:List Pt
structure Qu where
 kind:Int
 box:Bx
 ring:List Pt
def qbz (o:Ob):Bx:=
 if o.kind=1 then⟨pt o.pts 0,pt o.pts 0⟩
 else if o.kind=2 then⟨⟨(pt o.pts 0).x,0⟩,⟨(pt o.pts 0).y,0⟩⟩
 else if o.kind=3 then⟨pt o.pts 0,pt o.pts 1⟩
 else qcg
def qdj (o:Ob):Bool:=decide (o.kind=1\/o.kind=2\/o.kind=3)
def qk3 (p:Pt):Nat:=if okPt p then(if p.y<p.x then 1 else 0) else 2
def ckOb (o:Ob):Nat:=
 if o.kind=1 then(if o.pts.length=1 then qa4 ⟨pt o.pts 0,pt o.pts 0⟩ else 3)
 else if o.kind=2 then(if o.pts.length=1 then qk3 (pt o.pts 0) else 3)
 else if o.kind=3 then(if o.pts.length=2 then qa4 ⟨pt o.pts 0,pt o.pts 1⟩ else 3)
 else if o.kind=4 then qbn o.pts else 5
def qd5 (o:Ob):Nat:=
 if o.kind=1 then(if o.pts.length=1 then(if okPt (pt o.pts 0) then 0 else 2) else 3)
 else if o.kind=2 then(if o.pts.length=1 then qk3 (pt o.pts 0) else 3)
 else if o.kind=3 then(if o.pts.length=2 then qa4 ⟨pt o.pts 0,pt o.pts 1⟩ else 3)
 else if o.kind=4 then qcs o.pts else 5
def ckQu (q:Qu):Nat:=
 if q.kind=1\/q.kind=2 then qa4 q.box else if q.kind=3 then(if okPt q.box.lo then 0 else 2) else if q.kind=4 then qbn q.ring else 5
def qh4 (q:Qu):Nat:=
 if q.kind=1\/q.kind=2 then qa4 q.box else if q.kind=3 then(if okPt q.box.lo then 0 else 2) else if q.kind=4 then qcs q.ring else 5
def cutS (l:List Pt) (b:Bx):Bool:=(List.range l.length).any (fun i=>mbox (pt l i) (nx l i) b)||rhas l b.lo
def qjm (a b:List Pt):Bool:=(List.range a.length).any fun i=>(List.range b.length).any fun k=>qd4 (pt a i) (nx a i) (pt b k) (nx b k)
def qiz (a b:List Pt):Bool:=qde (qar a) (qar b)&&(qjm a b||(rhas a (pt b 0)||rhas b (pt a 0)))
def qa2 (o:Ob):Bx:=if qdj o then qbz o else qar o.pts
def qeq (a b:Ob):Bool:=
 if qdj a then(if qdj b then qde (qbz a) (qbz b) else cutS b.pts (qbz a))
 else if qdj b then cutS a.pts (qbz b) else qiz a.pts b.pts
def qer (o:Ob) (q:Qu):Bool:=
 if ckOb o=0/\ckQu q=0 then
  (if q.kind=1 then qeq o ⟨3, [q.box.lo,q.box.hi]⟩ else if q.kind=2 then qk7 (qa2 o) q.box else if q.kind=3 then qeq o ⟨1, [q.box.lo]⟩ else qeq o ⟨4,q.ring⟩)
 else false
def vint (v:Nat):List Nat:=if v<128 then [v] else(v%128+128)::vint (v/128)
termination_by v
decreasing_by omega
theorem qdb {v:Nat} (h:v<128):vint v= [v]:=by rw [vint,if_pos h]
theorem qfp {v:Nat} (h:¬ v<128):vint v=(v%128+128)::vint (v/128):=by rw [vint,if_neg h]
theorem q0y:∀(n v:Nat),v<n->∀c∈vint v,c<256:=by
 intro n
 induction n with
 | zero=>intro v h;omega
 | succ n ih=>
   intro v h c hc
   by_cases h1:v<128
   · rw [qdb h1] at hc
     simp at hc
     omega
   · rw [qfp h1] at hc
     rcases List.mem_cons.1 hc with h2|h2
     · omega
     · exact ih _ oQ c h2
theorem qu3 {v c:Nat} (h:c∈vint v):c<256:=q0y (v+1) v oQ c h
theorem qmp (v:Nat):1<=(vint v).length:=by
 by_cases h:v<128
 · rw [qdb h];simp
 · rw [qfp h];simp
theorem qx7:∀(k v:Nat),v<128 ^ (k+1)->(vint v).length<=k+1:=by
 intro k
 induction k with
 | zero=>intro v h;rw [qdb (by simpa using h)];simp
 | succ k ih=>
   intro v h
   by_cases h1:v<128
   · rw [qdb h1];simp
   · rw [qfp h1]
     have:=ih (v/128) (by rw [Nat.pow_succ] at h;omega)
     simp only [zax]
     omega
theorem qh9 {v:Nat} (h:v<18446744073709551616):(vint v).length<=10:=qx7 9 v (zky h dE)
def uv:List Nat->Nat->Nat->Nat×Nat
 | [],_,_=>(0,0)
 | c::r,i,v=>if 10<=i then(0,0) else if i=9/\1<c then(0,0) else if c<128 then(if c=0/\0<i then(0,0) else(v+c%128*2 ^ (7*i),i+1)) else uv r (i+1) (v+c%128*2 ^ (7*i))
theorem pow7 (i:Nat):2 ^ (7*(i+1))=2 ^ (7*i)*128:=by rw [show 7*(i+1)=7*i+7 by omega,Nat.pow_add]
theorem q0k:∀(l:List Nat) (i acc v n:Nat),(∀c∈l,c<256)->uv l i acc=(v,n)->n≠0->
 ∃x r,l=vint x++r/\n=i+(vint x).length/\v=acc+x*2 ^ (7*i)/\(0<i->0<x)/\x*2 ^ (7*i)<18446744073709551616/\i<=9:=by
 intro l
 induction l with
 | nil=>intro i acc v n _ h hn;simp [uv] at h;omega
 | cons c r ih=>
   intro i acc v n hl h hn;have hc:c<256:=hl c sI
   simp only [uv] at h
   split at h
   · simp at h;omega
   rename_i h1
   split at h
   · simp at h;omega
   rename_i h2
   split at h
   · rename_i h3
     split at h
     · simp at h;omega
     rename_i h4
     simp only [Prod.mk.injEq] at h;refine⟨c,r,by rw [qdb h3];rfl,by rw [qdb h3];simp;omega,by rw [<-h.1,zzy h3],by omega,?_,by omega⟩
     have hh:i=0\/i=1\/i=2\/i=3\/i=4\/i=5\/i=6\/i=7\/i=8\/i=9:=oQ
     rcases hh with rfl|rfl|rfl|rfl|rfl|rfl|rfl|rfl|rfl|rfl<;>simp only [Nat.mul_zero,Nat.pow_zero,Nat.reduceMul,Nat.reducePow,Nat.mul_one]<;>omega
   · rename_i h3
     obtain⟨x,r',e1,e2,e3,e4,e5,e6⟩:=ih (i+1) _ v n (fun c hc=>hl c (by simp [hc])) h hn
     have hx:=e4 oQ
     have hp:=pow7 i;refine⟨x*128+(c-128),r',?_,?_,?_,by omega,?_,by omega⟩
     · rw [qfp oQ,show (x*128+(c-128))%128+128=c by omega,show (x*128+(c-128))/128=x by omega,e1]
       rfl
     · rw [qfp oQ,show (x*128+(c-128))/128=x by omega,e2]
       simp only [zax]
       omega
     · rw [e3,hp,show c%128=c-128 by omega,Nat.add_mul]
       have:x*(2 ^ (7*i)*128)=x*128*2 ^ (7*i):=by rw [Nat.mul_comm (2 ^ (7*i)) 128,Nat.mul_assoc]
       omega
     · rw [hp] at e5
       have h8:i<=8:=oQ
       have hh:i=0\/i=1\/i=2\/i=3\/i=4\/i=5\/i=6\/i=7\/i=8:=oQ
       rcases hh with rfl|rfl|rfl|rfl|rfl|rfl|rfl|rfl|rfl
       · simp only [Nat.reduceMul,Nat.reducePow] at e5 ⊢
         have hx2:x<144115188075855872:=oQ
         have hx3:x*128+(c-128)<=18446744073709551615:=oQ
         exact zix (zuy 1 hx3) dE
       · simp only [Nat.reduceMul,Nat.reducePow] at e5 ⊢
         have hx2:x<1125899906842624:=oQ
         have hx3:x*128+(c-128)<=144115188075855871:=oQ
         exact zix (zuy 128 hx3) dE
       · simp only [Nat.reduceMul,Nat.reducePow] at e5 ⊢
         have hx2:x<8796093022208:=oQ
         have hx3:x*128+(c-128)<=1125899906842623:=oQ
         exact zix (zuy 16384 hx3) dE
       · simp only [Nat.reduceMul,Nat.reducePow] at e5 ⊢
         have hx2:x<68719476736:=oQ
         have hx3:x*128+(c-128)<=8796093022207:=oQ
         exact zix (zuy 2097152 hx3) dE
       · simp only [Nat.reduceMul,Nat.reducePow] at e5 ⊢
         have hx2:x<536870912:=oQ
         have hx3:x*128+(c-128)<=68719476735:=oQ
         exact zix (zuy 268435456 hx3) dE
       · simp only [Nat.reduceMul,Nat.reducePow] at e5 ⊢
         have hx2:x<4194304:=oQ
         have hx3:x*128+(c-128)<=536870911:=oQ
         exact zix (zuy 34359738368 hx3) dE
       · simp only [Nat.reduceMul,Nat.reducePow] at e5 ⊢
         have hx2:x<32768:=oQ
         have hx3:x*128+(c-128)<=4194303:=oQ
         exact zix (zuy 4398046511104 hx3) dE
       · simp only [Nat.reduceMul,Nat.reducePow] at e5 ⊢
         have hx2:x<256:=oQ
         have hx3:x*128+(c-128)<=32767:=oQ
         exact zix (zuy 562949953421312 hx3) dE
       · simp only [Nat.reduceMul,Nat.reducePow] at e5 ⊢
         have hx2:x<2:=oQ
         have hx3:x*128+(c-128)<=255:=oQ
         exact zix (zuy 72057594037927936 hx3) dE
def zig (n:Int):Nat:=if n<0 then 2*(-(n+1)).toNat+1 else 2*n.toNat
def qld (v:Nat):Int:=if v%2=1 then -((v/2:Nat):Int)-1 else((v/2:Nat):Int)
def in64 (n:Int):Prop:= -9223372036854775808<=n/\n<=9223372036854775807
theorem qu1 {n:Int} (h:in64 n):zig n<18446744073709551616:=by unfold in64 at h;unfold zig;split<;>omega
theorem qu0 (v:Nat):zig (qld v)=v:=by
 unfold qld zig
 split<;>split<;>omega
theorem qx9 {v:Nat} (h:v<18446744073709551616):in64 (qld v):=by
 unfold in64 qld
 split
 · have:v/2<9223372036854775808:=oQ
   omega
 · have:v/2<9223372036854775808:=oQ
   omega
def sint (n:Int):List Nat:=vint (zig n)
theorem qea {n:Int} (h:in64 n):1<=(sint n).length/\(sint n).length<=10:=⟨qmp _,qh9 (qu1 h)⟩
def dec (l:List Nat):Option (Int×List Nat):=if (uv l 0 0).2=0 then none else some (qld (uv l 0 0).1,l.drop (uv l 0 0).2)
theorem qfx {l r:List Nat} {x:Int} (hl:∀c∈l,c<256) (h:dec l=some (x,r)):in64 x/\l=sint x++r:=by
 unfold dec at h
 split at h
 · cases h
 rename_i h1
 obtain⟨y,r',e1,e2,e3,e4,e5,e6⟩:=q0k l 0 0 (uv l 0 0).1 (uv l 0 0).2 hl rfl h1;simp only [Option.some.injEq,Prod.mk.injEq] at h;obtain⟨h2,h3⟩:=h;simp only [Nat.mul_zero,Nat.pow_zero,Nat.mul_one,Nat.zero_add] at e3 e5 e2;rw [e3] at h2;subst h2
 rw [sint,qu0]
 refine⟨qx9 e5,?_⟩;rw [e2] at h3;subst h3
 conv=>lhs;rw [e1]
 rw [e1]
 simp
def keyL (b:Bx):List Nat:=sint b.lo.x++(sint b.lo.y++(sint b.hi.x++sint b.hi.y))
def qbv (l:List Nat):Option Bx:=
 match dec l with
 | none=>none
 | some (a,l1)=>match dec l1 with
   | none=>none
   | some (b,l2)=>match dec l2 with
     | none=>none
     | some (c,l3)=>match dec l3 with
       | none=>none
       | some (d,l4)=>if l4= []/\okBx ⟨⟨a,b⟩,⟨c,d⟩⟩=true then some ⟨⟨a,b⟩,⟨c,d⟩⟩ else none
def inBx (b:Bx):Prop:=in64 b.lo.x/\in64 b.lo.y/\in64 b.hi.x/\in64 b.hi.y
theorem qio {b:Bx} (h:okBx b=true):inBx b:=by
 unfold okBx qa4 okPt farB at h;simp only [decide_eq_true_eq] at h
 split at h
 · split at h
   · cases h
   · rename_i h1 _
     simp only [ziy,Bool.not_eq_true',Bool.or_eq_false_iff,decide_eq_false_iff_not] at h1;unfold inBx in64
     omega
 · cases h
theorem qu6 {l:List Nat} {b:Bx} (hl:∀c∈l,c<256) (h:qbv l=some b):okBx b=true/\l=keyL b:=by
 unfold qbv at h
 split at h
 · cases h
 rename_i a l1 d1
 split at h
 · cases h
 rename_i c l2 d2
 split at h
 · cases h
 rename_i d l3 d3
 split at h
 · cases h
 rename_i f l4 d4
 split at h
 · rename_i hh
   obtain⟨rfl,ho⟩:=hh;obtain⟨i1,e1⟩:=qfx hl d1;have hl1:∀c∈l1,c<256:=fun c hc=>hl c (by rw [e1];simp [hc])
   obtain⟨i2,e2⟩:=qfx hl1 d2;have hl2:∀c∈l2,c<256:=fun c hc=>hl1 c (by rw [e2];simp [hc])
   obtain⟨i3,e3⟩:=qfx hl2 d3;have hl3:∀c∈l3,c<256:=fun c hc=>hl2 c (by rw [e3];simp [hc])
   obtain⟨i4,e4⟩:=qfx hl3 d4;rw [List.append_nil] at e4;simp only [Option.some.injEq] at h;subst h;exact⟨ho,by rw [e1,e2,e3,e4];rfl⟩
 · cases h
theorem qh0 {b:Bx} {c:Nat} (h:c∈keyL b):c<256:=by
 unfold keyL at h;simp only [List.mem_append] at h
 rcases h with h|h|h|h<;>exact qu3 h
theorem qhz {b:Bx} (h:inBx b):4<=(keyL b).length/\(keyL b).length<=40:=by
 obtain⟨h1,h2,h3,h4⟩:=h;have:=qea h1;have:=qea h2;have:=qea h3;have:=qea h4;unfold keyL
 simp only [zny]
 omega
theorem qbi (p:Pt):okPt p=true↔(-1073741823<=p.x/\p.x<=1073741823)/\(-1073741823<=p.y/\p.y<=1073741823):=by
 simp [okPt,farB]
theorem qyi (n:Int):(sgn n==0)=decide (n=0):=by
 unfold sgn
 split
 · have:n≠0:=oQ
   simp [this]
 · split
   · have:n≠0:=oQ
     simp [this]
   · have:n=0:=oQ
     simp [this]
theorem qwh {a b:Pt} (ha:okPt a=true) (hb:okPt b=true):okBx (span a b)=true:=by
 have h1:okPt (span a b).lo=true:=by rw [qbi] at*;simp only [span];omega
 have h2:okPt (span a b).hi=true:=by rw [qbi] at*;simp only [span];omega
 have h3:¬ (span a b).hi.x<(span a b).lo.x:=by simp only [span];omega
 have h4:¬ (span a b).hi.y<(span a b).lo.y:=by simp only [span];omega
 simp [okBx,qa4,h1,h2,h3,h4]
theorem q2y (a b p:Pt):onS a b p=((okPt a&&okPt b&&okPt p)&&(qb7 a b p==0)&&bhas (span a b) p):=by
 by_cases h:(okPt a&&okPt b&&okPt p)=true
 · have ha:okPt a=true:=by simp_all
   have hb:okPt b=true:=by simp_all
   have hp:okPt p=true:=by simp_all
   rw [qb7,qyi,qdn,if_pos h,onS,h,bhas,qwh ha hb,hp]
   simp
 · have h:(okPt a&&okPt b&&okPt p)=false:=by simpa using h
   rw [onS,h]
   simp
/- plain law of rings: the program's look at a ring is the reference's -/
theorem qq2 (a b c:Pt):qbu b a c= - qbu a b c:=by unfold qbu;grind
theorem qvh (a b:Pt):span b a=span a b:=by unfold span;congr 1<;>congr 1<;>omega
theorem qr7 (a b p:Pt):onS b a p=onS a b p:=by
 unfold onS
 rw [qvh,qq2,Bool.and_comm (okPt b) (okPt a)]
 congr 2
 rw [decide_eq_decide]
 omega
theorem qmz (a b c d:Pt):qd2 c d a b=qd2 a b c d:=by
 unfold qd2
 rw [Bool.and_comm]
theorem qqg (a b c d:Pt):qd4 c d a b=qd4 a b c d:=by
 unfold qd4
 rw [qmz]
 cases okPt a<;>cases okPt b<;>cases okPt c<;>cases okPt d<;>simp
 cases qd2 a b c d<;>cases onS a b c<;>cases onS a b d<;>cases onS c d a<;>cases onS c d b<;>rfl
theorem qwg (a b p:Pt):onS a b p=true↔(okPt a=true/\okPt b=true/\okPt p=true)/\qbu a b p=0/\(min a.x b.x<=p.x/\p.x<=max a.x b.x)/\(min a.y b.y<=p.y/\p.y<=max a.y b.y):=by
 simp only [onS,qum,ziy,decide_eq_true_eq,and_assoc]
 rfl
theorem shorter (p q r s:Int) (hp:0<=p) (hq:0<=q) (hr:0<=r) (hs:0<=s) (h:p*s=q*r):(r<=p/\s<=q)\/(p<=r/\q<=s):=by
 by_cases h1:r<=p
 · by_cases h2:s<=q
   · exact .inl ⟨h1,h2⟩
   · right
     refine⟨?_,by omega⟩
     apply Int.not_lt.1
     intro h3;have e1:p*(q+1)<=p*s:=zcx oQ hp
     have e2:q*r<=q*p:=zcx oQ hq
     grind
 · by_cases h2:q<=s
   · exact .inr ⟨by omega,h2⟩
   · exfalso
     have e1:q*(p+1)<=q*r:=zcx oQ hq
     have e2:p*s<=p*q:=zcx oQ hp
     grind
theorem qym (p q r s:Int) (h:p*s=q*r) (hd:0<p*r+q*s):
 ((min p 0<=r/\r<=max p 0)/\(min q 0<=s/\s<=max q 0))\/((min r 0<=p/\p<=max r 0)/\(min s 0<=q/\q<=max s 0)):=by
 have key:0<=p*r/\0<=q*s:=by
  have e:(p*r)*(q*s)=(q*r)*(q*r):=by
   have:(p*r)*(q*s)=(p*s)*(q*r):=by grind
   rw [this,h]
  have e2:0<=(q*r)*(q*r):=by
   rcases Int.le_total 0 (q*r) with h|h
   · exact Int.mul_nonneg h h
   · exact Int.mul_nonneg_of_nonpos_of_nonpos h h
  generalize p*r=X at*;generalize q*s=Y at*
  constructor
  · apply Int.not_lt.1
    intro hx;have:X*Y<0:=Int.mul_neg_of_neg_of_pos hx oQ
    omega
  · apply Int.not_lt.1
    intro hy;have:X*Y<0:=Int.mul_neg_of_pos_of_neg oQ hy
    omega
 obtain⟨k1,k2⟩:=key
 have sgn2:∀a b:Int,0<=a*b->(0<=a/\0<=b)\/(a<=0/\b<=0):=fun a b hab=>by
  rcases Int.lt_trichotomy a 0 with ha|ha|ha
  · right
    refine⟨by omega,?_⟩
    apply Int.not_lt.1
    intro hb;have:=Int.mul_neg_of_neg_of_pos ha hb
    omega
  · omega
  · left
    refine⟨by omega,?_⟩
    apply Int.not_lt.1
    intro hb;have:=Int.mul_neg_of_pos_of_neg ha hb
    omega
 rcases sgn2 _ _ k1 with ⟨a1,a2⟩|⟨a1,a2⟩<;>rcases sgn2 _ _ k2 with ⟨b1,b2⟩|⟨b1,b2⟩
 · have:=shorter p q r s a1 b1 a2 b2 h
   omega
 · have:=shorter p (-q) r (-s) a1 oQ a2 oQ (by grind)
   omega
 · have:=shorter (-p) q (-r) s oQ b1 oQ b2 (by grind)
   omega
 · have:=shorter (-p) (-q) (-r) (-s) oQ oQ oQ oQ (by grind)
   omega
theorem qn4 (p q r s:Int) (hn:r≠0\/s≠0) (hb:(min p 0<=r/\r<=max p 0)/\(min q 0<=s/\s<=max q 0)):0<p*r+q*s:=by
 have k:∀a b:Int,(min a 0<=b/\b<=max a 0)->0<=a*b/\(b≠0->0<a*b):=fun a b hab=>by
  rcases Int.lt_trichotomy b 0 with hb|hb|hb
  · have:=Int.mul_pos_of_neg_of_neg (a:=a) (b:=b) oQ hb
    exact⟨by omega,fun _=>this⟩
  · subst hb;simp
  · have:=Int.mul_pos (a:=a) (b:=b) oQ hb
    exact⟨by omega,fun _=>this⟩
 have k1:=k p r hb.1;have k2:=k q s hb.2
 rcases hn with hn|hn
 · have:=k1.2 hn;omega
 · have:=k2.2 hn;omega
theorem qv8 {a c b:Pt} (ha:okPt a=true) (hc:okPt c=true) (hb:okPt b=true) (hac:a≠c) (hbc:b≠c):(onS a c b||onS c b a)=qhv a c b:=by
 rw [Bool.eq_iff_iff,Bool.or_eq_true,qwg,qwg]
 have hx:qdn c a b=qbu c a b:=by simp [qdn,ha,hb,hc]
 simp only [qhv,hx,ha,hb,hc,ziy,decide_eq_true_eq,ne_eq,hac,hbc,not_false_eq_true,true_and,and_true]
 have e1:qbu a c b=0↔(a.x-c.x)*(b.y-c.y)=(a.y-c.y)*(b.x-c.x):=by unfold qbu;grind
 have e2:qbu c b a=0↔(a.x-c.x)*(b.y-c.y)=(a.y-c.y)*(b.x-c.x):=by unfold qbu;grind
 have e3:qbu c a b=0↔(a.x-c.x)*(b.y-c.y)=(a.y-c.y)*(b.x-c.x):=by unfold qbu;grind
 have n1:a.x-c.x≠0\/a.y-c.y≠0:=by
  apply Decidable.byContradiction
  intro h;exact hac (Pt.ext' oQ oQ)
 have n2:b.x-c.x≠0\/b.y-c.y≠0:=by
  apply Decidable.byContradiction
  intro h;exact hbc (Pt.ext' oQ oQ)
 rw [e1,e2,e3]
 unfold dotR
 constructor
 · rintro(⟨h,h1⟩|⟨h,h1⟩)
   · exact⟨h,qn4 _ _ _ _ n2 oQ⟩
   · have:=qn4 (b.x-c.x) (b.y-c.y) (a.x-c.x) (a.y-c.y) n1 oQ
     exact⟨h,by grind⟩
 · rintro⟨h,h1⟩
   rcases qym _ _ _ _ h h1 with h2|h2
   · exact .inl ⟨h,by omega⟩
   · exact .inr ⟨h,by omega⟩
theorem qf0 (n:Nat) (f:Nat->Bool):(List.range n).any f=true↔∃i,i<n/\f i=true:=by
 simp [List.any_eq_true]
theorem qji {l:List Pt} {i:Nat} (h:i+1<l.length):nx l i=pt l (i+1):=by rw [nx,zzy h]
theorem qwl {l:List Pt} {i:Nat} (h:i+1=l.length):nx l i=pt l 0:=by rw [nx,h,Nat.mod_self]
theorem qd3 {l:List Pt} (h:l.all okPt=true) {i:Nat} (hi:i<l.length):okPt (pt l i)=true:=by
 rw [List.all_eq_true] at h;have e:pt l i=l[i]:=by rw [pt,zpy,zby hi];rfl
 rw [e]
 exact h _ (List.getElem_mem hi)
theorem qm2 {l:List Pt} (h:l.all okPt=true) {i:Nat} (hi:i<l.length):okPt (nx l i)=true:=qd3 h (Nat.mod_lt _ oQ)
theorem qg7 {l:List Pt} (h3:3<=l.length) (hok:l.all okPt=true) (hd:∀i j,i<l.length->j<l.length->i≠j->pt l i≠pt l j) {i k:Nat} (hik:i<k) (hk:k<l.length):
 qlf l i k=clash l i k/\qlf l k i=clash l i k:=by
 have hi:i<l.length:=oQ
 have hne:pt l i≠pt l k:=hd i k hi hk oQ
 have hm:(i+1)%l.length=i+1:=zzy oQ
 unfold qlf clash
 rw [if_neg hne,if_neg (Ne.symm hne)]
 by_cases h1:k=i+1
 · subst h1
   have hw:¬ (i+1+1)%l.length=i:=by
    by_cases e:i+1+1=l.length
    · rw [e,Nat.mod_self];omega
    · rw [zzy oQ];omega
   have hnx:nx l i=pt l (i+1):=qji oQ
   have hb:nx l (i+1)≠pt l (i+1):=by
    by_cases e:i+1+1=l.length
    · rw [qwl e];exact hd _ _ oQ hk oQ
    · rw [qji oQ];exact hd _ _ oQ hk oQ
   rw [if_pos hm,if_pos rfl,if_neg hw,if_pos hm,hnx,qv8 (qd3 hok hi) (qd3 hok hk) (qm2 hok hk) hne hb]
   exact⟨rfl,rfl⟩
 · rw [if_neg h1]
   have hm1:¬ (i+1)%l.length=k:=oQ
   rw [if_neg hm1,if_neg hm1]
   by_cases h2:i=0/\k+1=l.length
   · obtain⟨rfl,hl⟩:=h2
     have hw:(k+1)%l.length=0:=by rw [hl,Nat.mod_self]
     have hnx:nx l 0=pt l 1:=qji oQ
     have hnk:nx l k=pt l 0:=qwl hl
     have e:(onS (pt l k) (nx l k) (nx l 0)||onS (pt l 0) (nx l 0) (pt l k))=qhv (pt l 1) (pt l 0) (pt l k):=by
      rw [hnx,hnk,<-qv8 (qd3 hok oQ) (qd3 hok hi) (qd3 hok hk) (hd _ _ oQ hi oQ) (Ne.symm hne),qr7 (pt l 1) (pt l 0),qr7 (pt l 0) (pt l k),Bool.or_comm]
     rw [if_pos hw,if_pos hw,if_pos ⟨rfl,hl⟩,e]
     exact⟨rfl,rfl⟩
   · have hw:¬ (k+1)%l.length=i:=by
      by_cases e:k+1=l.length
      · rw [e,Nat.mod_self];omega
      · rw [zzy oQ];omega
     rw [if_neg hw,if_neg hw,if_neg h2,qji oQ,qqg]
     exact⟨rfl,rfl⟩
theorem qpu {l:List Pt} (h3:3<=l.length) (hok:l.all okPt=true):qd8 l=qec l:=by
 by_cases hd:∀i j,i<l.length->j<l.length->i≠j->pt l i≠pt l j
 · rw [Bool.eq_iff_iff]
   unfold qd8 qec
   simp only [qf0,ziy,decide_eq_true_eq,Bool.or_eq_true]
   constructor
   · rintro⟨i,hi,k,hk,hn,hs⟩
     rcases zry i k with h|h
     · exact⟨i,hi,k,hk,h,.inr ((qg7 h3 hok hd h hk).1 ▸ hs)⟩
     · have hki:k<i:=oQ
       exact⟨k,hk,i,hi,hki,.inr ((qg7 h3 hok hd hki hi).2 ▸ hs)⟩
   · rintro⟨i,hi,k,hk,h,hs|hs⟩
     · exact absurd hs (hd i k hi hk oQ)
     · exact⟨i,hi,k,hk,by omega,(qg7 h3 hok hd h hk).1 ▸ hs⟩
 · have:∃i j,i<j/\j<l.length/\pt l i=pt l j:=by
    apply Classical.byContradiction
    intro hno
    apply hd
    intro i j hi hj hij e
    rcases zry i j with h|h
    · exact hno ⟨i,j,h,hj,e⟩
    · exact hno ⟨j,i,by omega,hi,e.symm⟩
   obtain⟨i,j,hij,hj,e⟩:=this
   have e1:qd8 l=true:=by
    unfold qd8
    simp only [qf0,ziy,decide_eq_true_eq]
    exact⟨i,by omega,j,hj,by omega,by unfold qlf;rw [if_pos e]⟩
   have e2:qec l=true:=by
    unfold qec
    simp only [qf0,ziy,decide_eq_true_eq,Bool.or_eq_true]
    exact⟨i,by omega,j,hj,hij,.inl e⟩
   rw [e1,e2]
theorem qk2 (l:List Pt):qbn l=qcs l:=by
 unfold qbn qcs
 by_cases h:l.length<3\/64<l.length
 · rw [if_pos h,if_pos h]
 · rw [if_neg h,if_neg h]
   by_cases hok:l.all okPt=true
   · rw [if_pos hok,if_pos hok,qpu oQ hok]
   · rw [if_neg hok,if_neg hok]
theorem qmh (p:Pt):qa4 ⟨p,p⟩=if okPt p then 0 else 2:=by
 unfold qa4
 cases h:okPt p<;>simp
theorem qxo (o:Ob):ckOb o=qd5 o:=by
 unfold ckOb qd5
 rw [qk2,qmh]
theorem q18 (q:Qu):ckQu q=qh4 q:=by
 unfold ckQu qh4
 rw [qk2]
/- plain law of a segment and a box: by the separating axes -/
def inR (r:Bx) (p:Pt):Prop:=(r.lo.x<=p.x/\p.x<=r.hi.x)/\(r.lo.y<=p.y/\p.y<=r.hi.y)
section core
variable {lx ly hx hy ax ay bx b_y:Int}
end core
/- a segment and a box: the program's look, the reference's look, and 'no axis parts them' are one -/
theorem qca (r:Bx):okBx r=true↔(okPt r.lo=true/\okPt r.hi=true)/\r.lo.x<=r.hi.x/\r.lo.y<=r.hi.y:=by
 unfold okBx qa4
 cases h1:okPt r.lo<;>cases h2:okPt r.hi<;>simp
/- the qhu of a ray's crossings: it telescopes;it stays where no edge is met -/
/- plain laws of rings and boxes: the program's looks are the reference's -/
def inB (v b:Bx):Prop:=(v.lo.x<=b.lo.x/\b.hi.x<=v.hi.x)/\v.lo.y<=b.lo.y/\b.hi.y<=v.hi.y
theorem qf6 (bs:List Bx):∀u:Bx,(∀b,b∈bs->qa4 b=0)->(qb1 u bs).2=0/\inB (qb1 u bs).1 u/\(∀b,b∈bs->inB (qb1 u bs).1 b)/\(∀v,inB v u->(∀b,b∈bs->inB v b)->inB v (qb1 u bs).1):=by
 induction bs with
 | nil=>intro u _;exact⟨rfl,by unfold inB qb1;simp only;omega,fun b hb=>by simp at hb,fun v h _=>h⟩
 | cons b r ih=>
   intro u h;have h0:=h b sI
   rw [qb1,if_pos h0]
   obtain⟨i1,i2,i3,i4⟩:=ih (qk6 u b) fun c hc=>h c (by simp [hc])
   refine⟨i1,?_,?_,?_⟩
   · revert i2
     generalize (qb1 (qk6 u b) r).1=R;unfold inB qk6
     simp only
     omega
   · intro c hc
     rcases List.mem_cons.1 hc with rfl|hc
     · revert i2
       generalize (qb1 (qk6 u c) r).1=R;unfold inB qk6
       simp only
       omega
     · exact i3 c hc
   · intro v hu hb
     refine i4 v ?_ fun c hc=>hb c (by simp [hc])
     have hbb:=hb b sI
     revert hu hbb;unfold inB qk6
     simp only
     omega
theorem qn6 {l:List Pt} (h:qbn l=0):3<=l.length/\l.length<=64/\l.all okPt=true:=by
 unfold qbn at h
 split at h
 · omega
 · rename_i hn
   split at h
   · rename_i hok
     exact⟨by omega,by omega,hok⟩
   · omega
theorem q26 {l:List Pt} {i:Nat} (h:i<l.length):pt l i∈l:=by
 have e:pt l i=l[i]:=by rw [pt,zpy,zby h];rfl
 rw [e]
 exact List.getElem_mem h
theorem q2x {l:List Pt} {p:Pt} (h:p∈l):∃i,i<l.length/\pt l i=p:=by
 obtain⟨i,hi,e⟩:=List.getElem_of_mem h;exact⟨i,hi,by rw [pt,zpy,zby hi];exact e⟩
theorem qp4 {l:List Pt} (hl:1<=l.length) (hok:l.all okPt=true):(qb8 (l.map fun p=>⟨p,p⟩)).2=0/\(∀i,i<l.length->inR (qar l) (pt l i))/\(∀v,(∀i,i<l.length->inR v (pt l i))->inB v (qar l))/\okBx (qar l)=true:=by
 have hck:∀p,p∈l->qa4 ⟨p,p⟩=0:=fun p hp=>by rw [qmh,if_pos (List.all_eq_true.1 hok p hp)]
 match l,hl,hok,hck with
 | p::r,_,hok,hck=>
   have hs:=qf6 ((p::r).map fun p=>⟨p,p⟩) ⟨p,p⟩ (by
    intro b hb;obtain⟨q,hq,rfl⟩:=zty.1 hb
    exact hck q hq)
   obtain⟨s1,s2,s3,s4⟩:=hs
   have h1:∀i,i<(p::r).length->inR (qar (p::r)) (pt (p::r) i):=by
    intro i hi;have:=s3 ⟨pt (p::r) i,pt (p::r) i⟩ (zty.2 ⟨_,q26 hi,rfl⟩);unfold inB at this;unfold inR;exact⟨this.1,this.2⟩
   have h2:∀v,(∀i,i<(p::r).length->inR v (pt (p::r) i))->inB v (qar (p::r)):=by
    intro v hv;refine s4 v ?_ ?_
    · have:=hv 0 sI
      exact⟨this.1,this.2⟩
    · intro b hb
      obtain⟨q,hq,rfl⟩:=zty.1 hb;obtain⟨i,hi,rfl⟩:=q2x hq;have:=hv i hi;exact⟨this.1,this.2⟩
   refine⟨s1,h1,h2,?_⟩
   rw [qca]
   have a1:=h1 0 sI
   have a2:=h2 ⟨⟨-1073741823,-1073741823⟩,⟨1073741823,1073741823⟩⟩ (fun i hi=>by
    have:=(qbi _).1 (qd3 hok hi)
    exact this)
   rw [qbi,qbi]
   unfold inR at a1;unfold inB at a2
   simp only at a2
   omega
/- plain laws of objects and queries: what the statements of chapter 6 say -/
theorem qjn {o:Ob} (h:ckOb o=0):(qdj o=true/\okBx (qbz o)=true)\/(o.kind=4/\qdj o=false/\qbn o.pts=0):=by
 obtain⟨k,l⟩:=o;unfold ckOb at h
 simp only at h
 split at h
 · rename_i e
   subst e
   left
   split at h
   · exact⟨rfl,by simpa [okBx,qbz] using h⟩
   · omega
 · split at h
   · rename_i e
     subst e
     left
     split at h
     · refine⟨rfl, ?_⟩
       unfold qk3 at h
       split at h
       · rename_i hp
         split at h
         · omega
         · rw [qca]
           simp only [qbz,qbi] at*
           simp
           omega
       · omega
     · omega
   · split at h
     · rename_i e
       subst e
       left
       split at h
       · exact⟨rfl,by simpa [okBx,qbz] using h⟩
       · omega
     · split at h
       · rename_i n1 n2 n3 e
         subst e;exact .inr ⟨rfl,rfl,h⟩
       · omega
theorem qfy {o:Ob} (h:ckOb o=0):okBx (qa2 o)=true:=by
 rcases qjn h with ⟨h1,h2⟩|⟨_,h1,h2⟩
 · rw [qa2,h1];exact h2
 · rw [qa2,h1]
   obtain⟨a,_,b⟩:=qn6 h2;exact(qp4 oQ b).2.2.2
theorem qhc {r:Bx}:okBx r=true↔qa4 r=0:=by unfold okBx;rw [decide_eq_true_eq]
theorem q0m {a b:Bx} (ha:qa4 a=0) (hb:qa4 b=0):(qb8 [a,b]).2=0/\okBx (qb8 [a,b]).1=true/\inB (qb8 [a,b]).1 a/\inB (qb8 [a,b]).1 b:=by
 have h:=qf6 [a,b] a (by intro c hc;simp at hc;rcases hc with rfl|rfl<;>assumption)
 obtain⟨h1,h2,h3,h4⟩:=h;have hA:=(qca a).1 (qhc.2 ha);have hB:=(qca b).1 (qhc.2 hb);refine⟨h1,?_,h3 a sI,h3 b sI⟩
 have hl:inB ⟨⟨-1073741823,-1073741823⟩,⟨1073741823,1073741823⟩⟩ (qb8 [a,b]).1:=h4 _ (by rw [qbi,qbi] at hA;unfold inB;simp only;omega) (by
  intro c hc;rw [qbi,qbi] at hA hB
  simp at hc
  rcases hc with rfl|rfl<;>(unfold inB;simp only;omega))
 have h3a:=h3 a sI
 have e:(qb8 [a,b]).1=(qb1 a [a,b]).1:=rfl
 rw [qca,qbi,qbi,e]
 rw [e] at hl;unfold inB at hl h3a
 simp only at hl
 rw [qbi,qbi] at hA
 omega
structure Fr where
 num:Nat
 den:Nat
instance:DecidableEq Fr:=fun a b=>
 if h:a.num=b.num/\a.den=b.den then isTrue (by cases a;cases b;simp_all) else isFalse (fun e=>h (by subst e;exact⟨rfl,rfl⟩))
instance:Inhabited Fr:=⟨⟨0,0⟩⟩
def qnf:Fr:=⟨0,0⟩
def lowF (n d:Nat):Fr:=⟨n/Nat.gcd d (n%d),d/Nat.gcd d (n%d)⟩
def cmpP (a b c d:Nat):Int:=sgn (((a*b:Nat):Int)-((c*d:Nat):Int))
def cmpF (a b:Fr):Int:=
 if a.den=0 then(if b.den=0 then 0 else 1) else if b.den=0 then -1 else cmpP a.num b.den b.num a.den
def qli (o:Fr):List Fr->Fr
 | []=>o
 | d::r=>qli (if cmpF d o<0 then d else o) r
def minF:List Fr->Fr
 | []=>qnf
 | d::r=>qli d r
theorem q1y (d n:Nat):Nat.gcd d (n%d)=Nat.gcd n d:=by rw [Nat.gcd_comm n d,Nat.gcd_rec d n,Nat.gcd_comm]
theorem qzo {n d:Nat} (hd:0<d):(lowF n d).num*d=n*(lowF n d).den/\0<(lowF n d).den/\(lowF n d).den<=d/\(lowF n d).num<=n:=by
 unfold lowF
 rw [q1y]
 have h1:=Nat.gcd_dvd_left n d;have h2:=Nat.gcd_dvd_right n d;have h3:0<Nat.gcd n d:=Nat.gcd_pos_of_pos_right n hd
 simp only
 refine⟨?_,Nat.div_pos (Nat.le_of_dvd hd h2) h3,Nat.div_le_self _ _,Nat.div_le_self _ _⟩
 rw [<-Nat.mul_div_assoc _ h2,Nat.div_mul_right_comm h1]
theorem qzn (n:Nat):lowF n 1=⟨n,1⟩:=by unfold lowF;simp
theorem q2p (n:Int):sgn n<0↔n<0:=by unfold sgn;split<;>(try split)<;>omega
theorem qwr (l:List Fr):∀o,qli o l=o\/qli o l∈l:=by
 induction l with
 | nil=>intro o;exact .inl rfl
 | cons d r ih=>
   intro o
   rw [qli]
   rcases ih (if cmpF d o<0 then d else o) with h|h
   · rw [h]
     split
     · exact .inr sI
     · exact .inl rfl
   · exact .inr (by simp [h])
theorem qzl {l:List Fr} (h:l≠ []):minF l∈l:=by
 cases l with
 | nil=>exact absurd rfl h
 | cons d r=>
   rw [minF]
   rcases qwr r d with h|h
   · rw [h];simp
   · simp [h]
def sqs (x y:Int):Nat:=x.natAbs*x.natAbs+y.natAbs*y.natAbs
def boxN (b:Bx) (p:Pt):Nat:=sqs (gap p.x b.lo.x b.hi.x) (gap p.y b.lo.y b.hi.y)
def segF (a b p:Pt):Fr:=
 if okPt a&&okPt b&&okPt p then
  (if a=b\/dotR a b p<=0 then⟨sqs (a.x-p.x) (a.y-p.y),1⟩
   else if dotR b a p<=0 then⟨sqs (b.x-p.x) (b.y-p.y),1⟩
   else lowF ((qbu a b p).natAbs*(qbu a b p).natAbs) (sqs (a.x-b.x) (a.y-b.y)))
 else qnf
def qg8 (l:List Pt) (p:Pt):List Fr:=(List.range l.length).map fun i=>segF (pt l i) (nx l i) p
def qci (o:Ob) (p:Pt):Fr:=
 if ckOb o=0/\okPt p=true then(if qdj o then⟨boxN (qbz o) p,1⟩ else if rhas o.pts p then⟨0,1⟩ else minF (qg8 o.pts p)) else qnf
theorem qye {x y:Int} (h:sqs x y=0):x=0/\y=0:=by
 unfold sqs at h;have h1:x.natAbs*x.natAbs=0:=oQ
 have h2:y.natAbs*y.natAbs=0:=oQ
 have h3:=Nat.mul_eq_zero.1 h1;have h4:=Nat.mul_eq_zero.1 h2
 omega
theorem qpt {a b:Pt} (h:a≠b):0<sqs (a.x-b.x) (a.y-b.y):=by
 rcases Nat.eq_zero_or_pos (sqs (a.x-b.x) (a.y-b.y)) with h0|h0
 · obtain⟨h1,h2⟩:=qye h0
   exact absurd (Pt.ext' oQ oQ) h
 · exact h0
theorem qxi {o:Ob} {p:Pt} (ho:ckOb o=0) (op:okPt p=true) (h:qdj o=true):qci o p=⟨boxN (qbz o) p,1⟩:=by
 unfold qci;rw [if_pos ⟨ho,op⟩,if_pos h]
theorem qmd {o:Ob} {p:Pt} (ho:ckOb o=0) (op:okPt p=true) (h:qdj o=false):qci o p=if rhas o.pts p then⟨0,1⟩ else minF (qg8 o.pts p):=by
 unfold qci;rw [if_pos ⟨ho,op⟩,if_neg (by simp [h])]
theorem qol {l:List Pt} {p:Pt} {x:Fr} (h:x∈qg8 l p):∃i,i<l.length/\segF (pt l i) (nx l i) p=x:=by
 unfold qg8 at h;obtain⟨i,hi,e⟩:=zty.1 h;exact⟨i,List.mem_range.1 hi,e⟩
def cX (b:Bx):Int:=b.lo.x+b.hi.x
def cY (b:Bx):Int:=b.lo.y+b.hi.y
def ahd (l:List Bx) (i k:Nat):Bool:=
 decide (cX (l.getD i qcg)<cX (l.getD k qcg))||(decide (cX (l.getD i qcg)=cX (l.getD k qcg))&&(decide (cY (l.getD i qcg)<cY (l.getD k qcg))||(decide (cY (l.getD i qcg)=cY (l.getD k qcg))&&decide (i<k))))
def rank (l:List Bx) (i:Nat):Nat:=(List.range l.length).countP fun k=>ahd l k i
def qix (l:List Bx):List Bool:=(List.range l.length).map fun i=>decide (l.length-l.length/2<=rank l i)
theorem qs6 (l:List Bx):(qix l).length=l.length:=by simp [qix]
end Pg
