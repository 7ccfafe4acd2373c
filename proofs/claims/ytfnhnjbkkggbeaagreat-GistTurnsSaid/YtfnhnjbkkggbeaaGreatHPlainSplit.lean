/-Plain definitions-/
import Derived.Below
set_option linter.unusedVariables false
set_option linter.unusedSimpArgs false
abbrev zay:= @Option.bind_some
abbrev zby:= @List.getElem?_eq_getElem
abbrev zcy:= @Nat.le_trans
abbrev zdy:= @List.map_cons
abbrev zey:= @List.map_nil
abbrev zfy:= @Bool.not_false
abbrev zgy:= @Bool.not_true
abbrev zhy:= @Nat.le_refl
abbrev ziy:= @Bool.and_eq_true
abbrev zjy:= @List.mem_of_getElem?
abbrev zky:= @Nat.lt_of_lt_of_le
abbrev zly:= @Nat.zero_le
abbrev zmy:= @List.take_of_length_le
abbrev zny:= @List.length_append
abbrev zoy:= @List.getElem?_eq_none
abbrev zpy:= @List.getD_eq_getElem?_getD
abbrev zqy:= @Array.getElem?_eq_some_iff
abbrev zry:= @Nat.lt_or_ge
abbrev zsy:= @List.getElem?_eq_some_iff
abbrev zty:= @List.mem_map
abbrev zuy:= @Nat.mul_le_mul_right
abbrev zvy:= @List.flatMap_cons
abbrev zwy:= @List.take_add_one
abbrev zxy:= @Array.getElem?_eq_none
abbrev zyy:= @List.length_map
abbrev zzy:= @Nat.mod_eq_of_lt
abbrev zax:= @List.length_cons
abbrev zbx:= @List.eq_nil_of_length_eq_zero
abbrev zcx:= @Int.mul_le_mul_of_nonneg_left
abbrev zdx:= @List.getElem?_append_right
abbrev zex:= @List.getElem?_append_left
abbrev zfx:= @List.map_append
abbrev zgx:= @List.drop_eq_getElem_cons
abbrev zhx:= @List.mem_singleton
abbrev zix:= @Nat.lt_of_le_of_lt
abbrev zjx:= @Option.some.inj
abbrev zkx:= @List.length_set
abbrev zpx:= @List.getElem?_map
theorem oQ {p:Prop} (h:p:=by omega):p:=h
theorem dE {p:Prop} (h:p:=by decide):p:=h
theorem sI {p:Prop} (h:p:=by simp):p:=h
theorem lAq:(∀(α:Type) (l:List α) (i:Nat),l.toArray[i]? =l[i]?)/\(∀(α:Type) (a:α) (l:List α),(a::l)[0]? =some a)/\∀(α:Type) (a:α) (l:List α) (i:Nat),(a::l)[i+1]? =l[i]? :=⟨fun _ _ _=>List.getElem?_toArray,fun _ _ _=>List.getElem?_cons_zero,fun _ _ _ _=>List.getElem?_cons_succ⟩
theorem lSq:(∀(α:Type) (l:List α) (i:Nat) (a:α),l.toArray.setIfInBounds i a=(l.set i a).toArray)/\(∀(α:Type) (l:List α) (a b:α),(a::l).set 0 b=b::l)/\∀(α:Type) (l:List α) (n:Nat) (a b:α),(a::l).set (n+1) b=a::l.set n b:=⟨fun _ _ _ _=>List.setIfInBounds_toArray ..,fun _ _ _ _=>List.set_cons_zero,fun _ _ _ _ _=>List.set_cons_succ⟩

namespace Pg
theorem lcz {α:Type _} {a:α} {l:List α}:(a::l)[0]? =some a:=List.getElem?_cons_zero
theorem lcs {α:Type _} {a:α} {l:List α} {i:Nat}:(a::l)[i+1]? =l[i]? :=List.getElem?_cons_succ
theorem lta {α:Type _} {l:List α} {i:Nat}:l.toArray[i]? =l[i]? :=List.getElem?_toArray
theorem lsi {α:Type _} (l:List α) (i:Nat) (a:α):l.toArray.setIfInBounds i a=(l.set i a).toArray:=List.setIfInBounds_toArray l i a
theorem lsz {α:Type _} {l:List α} {a b:α}:(a::l).set 0 b=b::l:=List.set_cons_zero
theorem lss {α:Type _} {l:List α} {n:Nat} {a b:α}:(a::l).set (n+1) b=a::l.set n b:=List.set_cons_succ
theorem ldz {α:Type _} {a d:α} {l:List α}:(a::l).getD 0 d=a:=List.getD_cons_zero
theorem lds {α:Type _} {a d:α} {l:List α} {n:Nat}:(a::l).getD (n+1) d=l.getD n d:=List.getD_cons_succ
structure Pt where
 x:Int
 y:Int
instance:DecidableEq Pt:=fun a b=>
 if h:a.x=b.x/\a.y=b.y then isTrue (by cases a;cases b;simp_all) else isFalse (fun e=>h (by subst e;exact⟨rfl,rfl⟩))
instance:Inhabited Pt:=⟨⟨0,0⟩⟩
theorem Pt.ext' {a b:Pt} (hx:a.x=b.x) (hy:a.y=b.y):a=b:=by cases a;cases b;simp_all
structure Bx where
 lo:Pt
 hi:Pt
def farB (n:Int):Bool:=decide (n< -1073741823)||decide (1073741823<n)
def okPt (p:Pt):Bool:= !(farB p.x||farB p.y)
def qa4 (b:Bx):Nat:=if okPt b.lo&&okPt b.hi then(if decide (b.hi.x<b.lo.x)||decide (b.hi.y<b.lo.y) then 1 else 0) else 2
def okBx (b:Bx):Bool:=decide (qa4 b=0)
def qae (a b c:Pt):Int:=(b.x-a.x)*(c.y-a.y)-(b.y-a.y)*(c.x-a.x)
def qdn (a b c:Pt):Int:=if okPt a&&okPt b&&okPt c then qae a b c else 0
def sgn (n:Int):Int:=if n<0 then -1 else if 0<n then 1 else 0
def qbz (a b c:Pt):Int:=sgn (qdn a b c)
def qo8 (b:Bx) (p:Pt):Bool:=decide (b.lo.x<=p.x)&&decide (p.x<=b.hi.x)&&decide (b.lo.y<=p.y)&&decide (p.y<=b.hi.y)
def bhas (b:Bx) (p:Pt):Bool:=okBx b&&okPt p&&qo8 b p
def qie (a b:Bx):Bool:=decide (a.lo.x<=b.hi.x)&&decide (b.lo.x<=a.hi.x)&&decide (a.lo.y<=b.hi.y)&&decide (b.lo.y<=a.hi.y)
def qcd (a b:Bx):Bool:=okBx a&&okBx b&&qie a b
def qg6 (a b:Bx):Bool:=okBx a&&bhas b a.lo&&bhas b a.hi
def qml (a b:Bx):Bx:=⟨⟨min a.lo.x b.lo.x,min a.lo.y b.lo.y⟩,⟨max a.hi.x b.hi.x,max a.hi.y b.hi.y⟩⟩
def qcu:Bx:=⟨⟨0,0⟩,⟨0,0⟩⟩
def qca (u:Bx):List Bx->Bx×Nat
 | []=>(u,0)
 | b::r=>if qa4 b=0 then qca (qml u b) r else(qcu,qa4 b)
def qco:List Bx->Bx×Nat
 | []=>(qcu,1)
 | b::r=>qca b (b::r)
structure Ds where
 hi:Nat
 lo:Nat
 den:Nat
instance:DecidableEq Ds:=fun a b=>
 if h:a.hi=b.hi/\a.lo=b.lo/\a.den=b.den then isTrue (by cases a;cases b;simp_all) else isFalse (fun e=>h (by subst e;exact⟨rfl,rfl,rfl⟩))
def gap (n l h:Int):Int:=max (max (l-n) (n-h)) 0
def dotR (o a b:Pt):Int:=(a.x-o.x)*(b.x-o.x)+(a.y-o.y)*(b.y-o.y)
def span (a b:Pt):Bx:=⟨⟨min a.x b.x,min a.y b.y⟩,⟨max a.x b.x,max a.y b.y⟩⟩
def onS (a b p:Pt):Bool:=okPt a&&okPt b&&okPt p&&decide (qae a b p=0)&&qo8 (span a b) p
def qcp (a b c d:Pt):Bool:=decide (qbz a b c*qbz a b d<0)&&decide (qbz c d a*qbz c d b<0)
def qbr (a b c d:Pt):Bool:=okPt a&&okPt b&&okPt c&&okPt d&&(qcp a b c d||onS a b c||onS a b d||onS c d a||onS c d b)
def mbox (a b:Pt) (r:Bx):Bool:=okPt a&&okPt b&&okBx r&&(bhas r a||bhas r b||qbr a b r.lo r.hi||qbr a b ⟨r.lo.x,r.hi.y⟩ ⟨r.hi.x,r.lo.y⟩)
def qzl (a b:Pt) (r:Bx):Bool:=okPt a&&okPt b&&okBx r&&(bhas r a||bhas r b||qbr a b r.lo ⟨r.hi.x,r.lo.y⟩||qbr a b ⟨r.hi.x,r.lo.y⟩ r.hi||qbr a b r.hi ⟨r.lo.x,r.hi.y⟩||qbr a b ⟨r.lo.x,r.hi.y⟩ r.lo)
def pt (l:List Pt) (i:Nat):Pt:=l.getD i ⟨0,0⟩
def nx (l:List Pt) (i:Nat):Pt:=pt l ((i+1)%l.length)
def qmq (l:List Pt) (i k:Nat):Bool:=
 if pt l i=pt l k then true
 else if (i+1)%l.length=k then onS (pt l i) (nx l i) (nx l k)||onS (pt l k) (nx l k) (pt l i)
 else if (k+1)%l.length=i then onS (pt l k) (nx l k) (nx l i)||onS (pt l i) (nx l i) (pt l k)
 else qbr (pt l i) (nx l i) (pt l k) (nx l k)
def qeq (l:List Pt):Bool:=(List.range l.length).any fun i=>(List.range l.length).any fun k=>decide (k≠i)&&qmq l i k
def qbi (l:List Pt):Nat:=if l.length<3\/64<l.length then 3 else if l.all okPt then(if qeq l then 4 else 0) else 2
def qix (a c b:Pt):Bool:=decide (a≠c)&&decide (b≠c)&&decide (qdn c a b=0)&&decide (0<dotR c a b)
def clash (l:List Pt) (i j:Nat):Bool:=
 if j=i+1 then qix (pt l i) (pt l (i+1)) (nx l j)
 else if i=0/\j+1=l.length then qix (pt l (i+1)) (pt l i) (pt l j)
 else qbr (pt l i) (pt l (i+1)) (pt l j) (nx l j)
def qeu (l:List Pt):Bool:=(List.range l.length).any fun i=>(List.range l.length).any fun j=>decide (i<j)&&(decide (pt l i=pt l j)||clash l i j)
def qdb (l:List Pt):Nat:=if l.length<3\/64<l.length then 3 else if l.all okPt then(if qeu l then 4 else 0) else 2
def qs2 (l:List Pt) (p:Pt):Bool:=(List.range l.length).any fun i=>onS (pt l i) (nx l i) p
def qbv (a b p:Pt):Bool:=
 if b.y<a.y then decide (b.y<=p.y)&&decide (p.y<a.y)&&decide (0<qdn b a p)
 else decide (a.y<=p.y)&&decide (p.y<b.y)&&decide (0<qdn a b p)
def qc7 (l:List Pt) (p:Pt):Nat->Bool
 | 0=>false
 | k+1=>xor (qc7 l p k) (qbv (pt l k) (nx l k) p)
def qr4 (l:List Pt) (p:Pt):Bool:=qs2 l p||qc7 l p l.length
def rhas (l:List Pt) (p:Pt):Bool:=decide (qbi l=0)&&okPt p&&qr4 l p
def qal (l:List Pt):Bx:=(qco (l.map fun p=>⟨p,p⟩)).1
structure Ob where
 kind:Int
 pts:List Pt
structure Qu where
 kind:Int
 box:Bx
 ring:List Pt
def qb2 (o:Ob):Bx:=
 if o.kind=1 then⟨pt o.pts 0,pt o.pts 0⟩
 else if o.kind=2 then⟨⟨(pt o.pts 0).x,0⟩,⟨(pt o.pts 0).y,0⟩⟩
 else if o.kind=3 then⟨pt o.pts 0,pt o.pts 1⟩
 else qcu
def qdk (o:Ob):Bool:=decide (o.kind=1\/o.kind=2\/o.kind=3)
def qmh (p:Pt):Nat:=if okPt p then(if p.y<p.x then 1 else 0) else 2
def ckOb (o:Ob):Nat:=
 if o.kind=1 then(if o.pts.length=1 then qa4 ⟨pt o.pts 0,pt o.pts 0⟩ else 3)
 else if o.kind=2 then(if o.pts.length=1 then qmh (pt o.pts 0) else 3)
 else if o.kind=3 then(if o.pts.length=2 then qa4 ⟨pt o.pts 0,pt o.pts 1⟩ else 3)
 else if o.kind=4 then qbi o.pts else 5
def qel (o:Ob):Nat:=
 if o.kind=1 then(if o.pts.length=1 then(if okPt (pt o.pts 0) then 0 else 2) else 3)
 else if o.kind=2 then(if o.pts.length=1 then qmh (pt o.pts 0) else 3)
 else if o.kind=3 then(if o.pts.length=2 then qa4 ⟨pt o.pts 0,pt o.pts 1⟩ else 3)
 else if o.kind=4 then qdb o.pts else 5
def ckQu (q:Qu):Nat:=
 if q.kind=1\/q.kind=2 then qa4 q.box else if q.kind=3 then(if okPt q.box.lo then 0 else 2) else if q.kind=4 then qbi q.ring else 5
def qja (q:Qu):Nat:=
 if q.kind=1\/q.kind=2 then qa4 q.box else if q.kind=3 then(if okPt q.box.lo then 0 else 2) else if q.kind=4 then qdb q.ring else 5
def cutS (l:List Pt) (b:Bx):Bool:=(List.range l.length).any (fun i=>mbox (pt l i) (nx l i) b)||rhas l b.lo
def qkr (a b:List Pt):Bool:=(List.range a.length).any fun i=>(List.range b.length).any fun k=>qbr (pt a i) (nx a i) (pt b k) (nx b k)
def qhq (a b:List Pt):Bool:=qcd (qal a) (qal b)&&(qkr a b||(rhas a (pt b 0)||rhas b (pt a 0)))
def qas (o:Ob):Bx:=if qdk o then qb2 o else qal o.pts
def qen (a b:Ob):Bool:=
 if qdk a then(if qdk b then qcd (qb2 a) (qb2 b) else cutS b.pts (qb2 a))
 else if qdk b then cutS a.pts (qb2 b) else qhq a.pts b.pts
def qbu (o:Ob) (q:Qu):Bool:=
 if ckOb o=0/\ckQu q=0 then
  (if q.kind=1 then qen o ⟨3, [q.box.lo,q.box.hi]⟩ else if q.kind=2 then qg6 (qas o) q.box else if q.kind=3 then qen o ⟨1, [q.box.lo]⟩ else qen o ⟨4,q.ring⟩)
 else false
def vint (v:Nat):List Nat:=if v<128 then [v] else(v%128+128)::vint (v/128)
termination_by v
decreasing_by omega
theorem qde {v:Nat} (h:v<128):vint v= [v]:=by rw [vint,if_pos h]
theorem qfg {v:Nat} (h:¬ v<128):vint v=(v%128+128)::vint (v/128):=by rw [vint,if_neg h]
theorem q4l:∀(n v:Nat),v<n->∀c∈vint v,c<256:=by
 intro n
 induction n with
 | zero=>intro v h;omega
 | succ n ih=>
   intro v h c hc
   by_cases h1:v<128
   · rw [qde h1] at hc
     simp at hc
     omega
   · rw [qfg h1] at hc
     rcases List.mem_cons.1 hc with h2|h2
     · omega
     · exact ih _ oQ c h2
theorem qxo {v c:Nat} (h:c∈vint v):c<256:=q4l (v+1) v oQ c h
theorem qn2 (v:Nat):1<=(vint v).length:=by
 by_cases h:v<128
 · rw [qde h];simp
 · rw [qfg h];simp
theorem q1b:∀(k v:Nat),v<128 ^ (k+1)->(vint v).length<=k+1:=by
 intro k
 induction k with
 | zero=>intro v h;rw [qde (by simpa using h)];simp
 | succ k ih=>
   intro v h
   by_cases h1:v<128
   · rw [qde h1];simp
   · rw [qfg h1]
     have:=ih (v/128) (by rw [Nat.pow_succ] at h;omega)
     simp only [zax]
     omega
theorem qjg {v:Nat} (h:v<18446744073709551616):(vint v).length<=10:=q1b 9 v (zky h dE)
def uv:List Nat->Nat->Nat->Nat×Nat
 | [],_,_=>(0,0)
 | c::r,i,v=>if 10<=i then(0,0) else if i=9/\1<c then(0,0) else if c<128 then(if c=0/\0<i then(0,0) else(v+c%128*2 ^ (7*i),i+1)) else uv r (i+1) (v+c%128*2 ^ (7*i))
theorem pow7 (i:Nat):2 ^ (7*(i+1))=2 ^ (7*i)*128:=by rw [show 7*(i+1)=7*i+7 by omega,Nat.pow_add]
theorem q4m:∀(n x i acc:Nat) (r:List Nat),x<n->i<=9->x*2 ^ (7*i)<18446744073709551616->(0<i->0<x)->uv (vint x++r) i acc=(acc+x*2 ^ (7*i),i+(vint x).length):=by
 intro n
 induction n with
 | zero=>intro x i acc r h;omega
 | succ n ih=>
   intro x i acc r hx hi hb h0
   by_cases h1:x<128
   · rw [qde h1]
     simp only [List.cons_append,List.nil_append,uv,zax,List.length_nil]
     rw [if_neg oQ,if_neg,if_pos h1,if_neg oQ,zzy h1]
     rintro⟨rfl,h⟩;have:(2:Nat) ^ (7*9)=9223372036854775808:=by decide
     omega
   · rw [qfg h1]
     simp only [List.cons_append,uv,zax]
     have h2:i<=8:=by
      rcases zry i 9 with h|h
      · omega
      · obtain rfl:i=9:=oQ
        have:(2:Nat) ^ (7*9)=9223372036854775808:=by decide
        omega
     rw [if_neg oQ,if_neg oQ,if_neg oQ]
     have hp:=pow7 i
     have e:x*2 ^ (7*i)=x%128*2 ^ (7*i)+x/128*2 ^ (7*(i+1)):=by
      rw [hp]
      conv=>lhs;rw [<-Nat.mod_add_div x 128]
      rw [Nat.add_mul]
      congr 1
      rw [Nat.mul_comm (2 ^ (7*i)) 128,<-Nat.mul_assoc,Nat.mul_comm 128]
     rw [ih (x/128) (i+1) _ r oQ oQ oQ oQ,e]
     rw [show (x%128+128)%128=x%128 by omega]
     congr 1<;>omega
theorem q31:∀(l:List Nat) (i acc v n:Nat),(∀c∈l,c<256)->uv l i acc=(v,n)->n≠0->
 ∃x r,l=vint x++r/\n=i+(vint x).length/\v=acc+x*2 ^ (7*i)/\(0<i->0<x)/\x*2 ^ (7*i)<18446744073709551616/\i<=9:=by
 intro l
 induction l with
 | nil=>intro i acc v n _ h hn;simp [uv] at h;omega
 | cons c r ih=>
   intro i acc v n hl h hn;have hc:c<256:=hl c sI
   simp only [uv] at h
   split at h
   · simp at h;omega
   rename_i h1
   split at h
   · simp at h;omega
   rename_i h2
   split at h
   · rename_i h3
     split at h
     · simp at h;omega
     rename_i h4
     simp only [Prod.mk.injEq] at h;refine⟨c,r,by rw [qde h3];rfl,by rw [qde h3];simp;omega,by rw [<-h.1,zzy h3],by omega,?_,by omega⟩
     have hh:i=0\/i=1\/i=2\/i=3\/i=4\/i=5\/i=6\/i=7\/i=8\/i=9:=oQ
     rcases hh with rfl|rfl|rfl|rfl|rfl|rfl|rfl|rfl|rfl|rfl<;>simp only [Nat.mul_zero,Nat.pow_zero,Nat.reduceMul,Nat.reducePow,Nat.mul_one]<;>omega
   · rename_i h3
     obtain⟨x,r',e1,e2,e3,e4,e5,e6⟩:=ih (i+1) _ v n (fun c hc=>hl c (by simp [hc])) h hn
     have hx:=e4 oQ
     have hp:=pow7 i;refine⟨x*128+(c-128),r',?_,?_,?_,by omega,?_,by omega⟩
     · rw [qfg oQ,show (x*128+(c-128))%128+128=c by omega,show (x*128+(c-128))/128=x by omega,e1]
       rfl
     · rw [qfg oQ,show (x*128+(c-128))/128=x by omega,e2]
       simp only [zax]
       omega
     · rw [e3,hp,show c%128=c-128 by omega,Nat.add_mul]
       have:x*(2 ^ (7*i)*128)=x*128*2 ^ (7*i):=by rw [Nat.mul_comm (2 ^ (7*i)) 128,Nat.mul_assoc]
       omega
     · rw [hp] at e5
       have h8:i<=8:=oQ
       have hh:i=0\/i=1\/i=2\/i=3\/i=4\/i=5\/i=6\/i=7\/i=8:=oQ
       rcases hh with rfl|rfl|rfl|rfl|rfl|rfl|rfl|rfl|rfl
       · simp only [Nat.reduceMul,Nat.reducePow] at e5 ⊢
         have hx2:x<144115188075855872:=oQ
         have hx3:x*128+(c-128)<=18446744073709551615:=oQ
         exact zix (zuy 1 hx3) dE
       · simp only [Nat.reduceMul,Nat.reducePow] at e5 ⊢
         have hx2:x<1125899906842624:=oQ
         have hx3:x*128+(c-128)<=144115188075855871:=oQ
         exact zix (zuy 128 hx3) dE
       · simp only [Nat.reduceMul,Nat.reducePow] at e5 ⊢
         have hx2:x<8796093022208:=oQ
         have hx3:x*128+(c-128)<=1125899906842623:=oQ
         exact zix (zuy 16384 hx3) dE
       · simp only [Nat.reduceMul,Nat.reducePow] at e5 ⊢
         have hx2:x<68719476736:=oQ
         have hx3:x*128+(c-128)<=8796093022207:=oQ
         exact zix (zuy 2097152 hx3) dE
       · simp only [Nat.reduceMul,Nat.reducePow] at e5 ⊢
         have hx2:x<536870912:=oQ
         have hx3:x*128+(c-128)<=68719476735:=oQ
         exact zix (zuy 268435456 hx3) dE
       · simp only [Nat.reduceMul,Nat.reducePow] at e5 ⊢
         have hx2:x<4194304:=oQ
         have hx3:x*128+(c-128)<=536870911:=oQ
         exact zix (zuy 34359738368 hx3) dE
       · simp only [Nat.reduceMul,Nat.reducePow] at e5 ⊢
         have hx2:x<32768:=oQ
         have hx3:x*128+(c-128)<=4194303:=oQ
         exact zix (zuy 4398046511104 hx3) dE
       · simp only [Nat.reduceMul,Nat.reducePow] at e5 ⊢
         have hx2:x<256:=oQ
         have hx3:x*128+(c-128)<=32767:=oQ
         exact zix (zuy 562949953421312 hx3) dE
       · simp only [Nat.reduceMul,Nat.reducePow] at e5 ⊢
         have hx2:x<2:=oQ
         have hx3:x*128+(c-128)<=255:=oQ
         exact zix (zuy 72057594037927936 hx3) dE
def zig (n:Int):Nat:=if n<0 then 2*(-(n+1)).toNat+1 else 2*n.toNat
def qkb (v:Nat):Int:=if v%2=1 then -((v/2:Nat):Int)-1 else((v/2:Nat):Int)
def in64 (n:Int):Prop:= -9223372036854775808<=n/\n<=9223372036854775807
theorem qtp {n:Int} (h:in64 n):zig n<18446744073709551616:=by unfold in64 at h;unfold zig;split<;>omega
theorem qxr (n:Int):qkb (zig n)=n:=by
 unfold qkb zig
 split
 · rw [if_pos oQ];omega
 · rw [if_neg oQ];omega
theorem qxm (v:Nat):zig (qkb v)=v:=by
 unfold qkb zig
 split<;>split<;>omega
theorem q1d {v:Nat} (h:v<18446744073709551616):in64 (qkb v):=by
 unfold in64 qkb
 split
 · have:v/2<9223372036854775808:=oQ
   omega
 · have:v/2<9223372036854775808:=oQ
   omega
def sint (n:Int):List Nat:=vint (zig n)
theorem qee {n:Int} (h:in64 n):1<=(sint n).length/\(sint n).length<=10:=⟨qn2 _,qjg (qtp h)⟩
def dec (l:List Nat):Option (Int×List Nat):=if (uv l 0 0).2=0 then none else some (qkb (uv l 0 0).1,l.drop (uv l 0 0).2)
theorem q4n {x:Int} (h:in64 x) (r:List Nat):uv (sint x++r) 0 0=(zig x,(sint x).length):=by
 have:=q4m (zig x+1) (zig x) 0 0 r oQ oQ (by have:=qtp h;simpa using this) oQ
 rw [sint,this]
 simp
theorem qkp {x:Int} (h:in64 x) (r:List Nat):dec (sint x++r)=some (x,r):=by
 unfold dec
 rw [q4n h]
 have:=(qee h).1
 rw [if_neg (by simp only;omega)]
 simp [qxr]
theorem qgh {l r:List Nat} {x:Int} (hl:∀c∈l,c<256) (h:dec l=some (x,r)):in64 x/\l=sint x++r:=by
 unfold dec at h
 split at h
 · cases h
 rename_i h1
 obtain⟨y,r',e1,e2,e3,e4,e5,e6⟩:=q31 l 0 0 (uv l 0 0).1 (uv l 0 0).2 hl rfl h1;simp only [Option.some.injEq,Prod.mk.injEq] at h;obtain⟨h2,h3⟩:=h;simp only [Nat.mul_zero,Nat.pow_zero,Nat.mul_one,Nat.zero_add] at e3 e5 e2;rw [e3] at h2;subst h2
 rw [sint,qxm]
 refine⟨q1d e5,?_⟩;rw [e2] at h3;subst h3
 conv=>lhs;rw [e1]
 rw [e1]
 simp
def keyL (b:Bx):List Nat:=sint b.lo.x++(sint b.lo.y++(sint b.hi.x++sint b.hi.y))
def qbw (l:List Nat):Option Bx:=
 match dec l with
 | none=>none
 | some (a,l1)=>match dec l1 with
   | none=>none
   | some (b,l2)=>match dec l2 with
     | none=>none
     | some (c,l3)=>match dec l3 with
       | none=>none
       | some (d,l4)=>if l4= []/\okBx ⟨⟨a,b⟩,⟨c,d⟩⟩=true then some ⟨⟨a,b⟩,⟨c,d⟩⟩ else none
def inBx (b:Bx):Prop:=in64 b.lo.x/\in64 b.lo.y/\in64 b.hi.x/\in64 b.hi.y
theorem qe9 {b:Bx} (h:okBx b=true):inBx b:=by
 unfold okBx qa4 okPt farB at h;simp only [decide_eq_true_eq] at h
 split at h
 · split at h
   · cases h
   · rename_i h1 _
     simp only [ziy,Bool.not_eq_true',Bool.or_eq_false_iff,decide_eq_false_iff_not] at h1;unfold inBx in64
     omega
 · cases h
theorem qgn {b:Bx} (h:inBx b):qbw (keyL b)=if okBx b=true then some b else none:=by
 obtain⟨h1,h2,h3,h4⟩:=h;have e:=qkp h4 [];rw [List.append_nil] at e;unfold qbw keyL
 rw [qkp h1,]
 simp only
 rw [qkp h2]
 simp only
 rw [qkp h3]
 simp only
 rw [e]
 simp
theorem qxs {l:List Nat} {b:Bx} (hl:∀c∈l,c<256) (h:qbw l=some b):okBx b=true/\l=keyL b:=by
 unfold qbw at h
 split at h
 · cases h
 rename_i a l1 d1
 split at h
 · cases h
 rename_i c l2 d2
 split at h
 · cases h
 rename_i d l3 d3
 split at h
 · cases h
 rename_i f l4 d4
 split at h
 · rename_i hh
   obtain⟨rfl,ho⟩:=hh;obtain⟨i1,e1⟩:=qgh hl d1;have hl1:∀c∈l1,c<256:=fun c hc=>hl c (by rw [e1];simp [hc])
   obtain⟨i2,e2⟩:=qgh hl1 d2;have hl2:∀c∈l2,c<256:=fun c hc=>hl1 c (by rw [e2];simp [hc])
   obtain⟨i3,e3⟩:=qgh hl2 d3;have hl3:∀c∈l3,c<256:=fun c hc=>hl2 c (by rw [e3];simp [hc])
   obtain⟨i4,e4⟩:=qgh hl3 d4;rw [List.append_nil] at e4;simp only [Option.some.injEq] at h;subst h;exact⟨ho,by rw [e1,e2,e3,e4];rfl⟩
 · cases h
theorem qi5 {b:Bx} {c:Nat} (h:c∈keyL b):c<256:=by
 unfold keyL at h;simp only [List.mem_append] at h
 rcases h with h|h|h|h<;>exact qxo h
theorem qi4 {b:Bx} (h:inBx b):4<=(keyL b).length/\(keyL b).length<=40:=by
 obtain⟨h1,h2,h3,h4⟩:=h;have:=qee h1;have:=qee h2;have:=qee h3;have:=qee h4;unfold keyL
 simp only [zny]
 omega
theorem qa6 (p:Pt):okPt p=true↔(-1073741823<=p.x/\p.x<=1073741823)/\(-1073741823<=p.y/\p.y<=1073741823):=by
 simp [okPt,farB]
theorem q1m (n:Int):(sgn n==0)=decide (n=0):=by
 unfold sgn
 split
 · have:n≠0:=oQ
   simp [this]
 · split
   · have:n≠0:=oQ
     simp [this]
   · have:n=0:=oQ
     simp [this]
theorem qy3 {a b:Pt} (ha:okPt a=true) (hb:okPt b=true):okBx (span a b)=true:=by
 have h1:okPt (span a b).lo=true:=by rw [qa6] at*;simp only [span];omega
 have h2:okPt (span a b).hi=true:=by rw [qa6] at*;simp only [span];omega
 have h3:¬ (span a b).hi.x<(span a b).lo.x:=by simp only [span];omega
 have h4:¬ (span a b).hi.y<(span a b).lo.y:=by simp only [span];omega
 simp [okBx,qa4,h1,h2,h3,h4]
theorem q6w (a b p:Pt):onS a b p=((okPt a&&okPt b&&okPt p)&&(qbz a b p==0)&&bhas (span a b) p):=by
 by_cases h:(okPt a&&okPt b&&okPt p)=true
 · have ha:okPt a=true:=by simp_all
   have hb:okPt b=true:=by simp_all
   have hp:okPt p=true:=by simp_all
   rw [qbz,q1m,qdn,if_pos h,onS,h,bhas,qy3 ha hb,hp]
   simp
 · have h:(okPt a&&okPt b&&okPt p)=false:=by simpa using h
   rw [onS,h]
   simp
/- plain law of rings: the program's look at a ring is the reference's -/
theorem qx8 (n:Int):sgn (-n)= - sgn n:=by unfold sgn;split<;>split<;>(try split)<;>(try split)<;>omega
theorem qru (m n:Int):sgn m*sgn n<0↔(m<0/\0<n)\/(0<m/\n<0):=by
 unfold sgn
 split
 · split
   · simp;omega
   · split<;>simp<;>omega
 · split
   · split
     · simp;omega
     · split<;>simp<;>omega
   · split
     · simp;omega
     · split<;>simp<;>omega
theorem qbx (a b c:Pt):qae b a c= - qae a b c:=by unfold qae;grind
theorem qwy (a b:Pt):qae a b a=0:=by unfold qae;grind
theorem qln (a b c:Pt):qbz b a c= - qbz a b c:=by
 unfold qbz qdn
 rw [<-qx8]
 congr 1
 by_cases h:(okPt a&&okPt b&&okPt c)=true
 · rw [if_pos h,if_pos (by simp_all),qbx]
 · rw [if_neg h,if_neg (by simp_all)]
   rfl
theorem qx4 (a b:Pt):span b a=span a b:=by unfold span;congr 1<;>congr 1<;>omega
theorem qkm (a b p:Pt):onS b a p=onS a b p:=by
 unfold onS
 rw [qx4,qbx,Bool.and_comm (okPt b) (okPt a)]
 congr 2
 rw [decide_eq_decide]
 omega
theorem qog (a b c d:Pt):qcp b a c d=qcp a b c d:=by
 unfold qcp
 rw [qln a b c,qln a b d,Int.neg_mul_neg,Int.mul_comm (qbz c d b)]
theorem qof (a b c d:Pt):qcp c d a b=qcp a b c d:=by
 unfold qcp
 rw [Bool.and_comm]
theorem qib (a b c d:Pt):qbr c d a b=qbr a b c d:=by
 unfold qbr
 rw [qof]
 cases okPt a<;>cases okPt b<;>cases okPt c<;>cases okPt d<;>simp
 cases qcp a b c d<;>cases onS a b c<;>cases onS a b d<;>cases onS c d a<;>cases onS c d b<;>rfl
theorem qly (a b c d:Pt):qbr b a c d=qbr a b c d:=by
 unfold qbr
 rw [qog,qkm a b c,qkm a b d]
 cases okPt a<;>cases okPt b<;>cases okPt c<;>cases okPt d<;>simp
 cases qcp a b c d<;>cases onS a b c<;>cases onS a b d<;>cases onS c d a<;>cases onS c d b<;>rfl
theorem qia (a b c d:Pt):qbr a b d c=qbr a b c d:=by
 rw [qib,qly,qib]
theorem qe8 (a b p:Pt):onS a b p=true↔(okPt a=true/\okPt b=true/\okPt p=true)/\qae a b p=0/\(min a.x b.x<=p.x/\p.x<=max a.x b.x)/\(min a.y b.y<=p.y/\p.y<=max a.y b.y):=by
 simp only [onS,qo8,ziy,decide_eq_true_eq,and_assoc]
 rfl
theorem qlj {a b c d:Pt} (ha:okPt a=true) (hb:okPt b=true) (hc:okPt c=true) (hd:okPt d=true):qcp a b c d=true↔
 ((qae a b c<0/\0<qae a b d)\/(0<qae a b c/\qae a b d<0))/\((qae c d a<0/\0<qae c d b)\/(0<qae c d a/\qae c d b<0)):=by
 simp only [qcp,qbz,qdn,ha,hb,hc,hd,Bool.and_self,if_true,ziy,decide_eq_true_eq,qru]
theorem qlz (a b c d:Pt):qbr a b c d=true↔(okPt a=true/\okPt b=true/\okPt c=true/\okPt d=true)/\(qcp a b c d=true\/onS a b c=true\/onS a b d=true\/onS c d a=true\/onS c d b=true):=by
 simp [qbr,and_assoc,or_assoc]
theorem shorter (p q r s:Int) (hp:0<=p) (hq:0<=q) (hr:0<=r) (hs:0<=s) (h:p*s=q*r):(r<=p/\s<=q)\/(p<=r/\q<=s):=by
 by_cases h1:r<=p
 · by_cases h2:s<=q
   · exact .inl ⟨h1,h2⟩
   · right
     refine⟨?_,by omega⟩
     apply Int.not_lt.1
     intro h3;have e1:p*(q+1)<=p*s:=zcx oQ hp
     have e2:q*r<=q*p:=zcx oQ hq
     grind
 · by_cases h2:q<=s
   · exact .inr ⟨by omega,h2⟩
   · exfalso
     have e1:q*(p+1)<=q*r:=zcx oQ hq
     have e2:p*s<=p*q:=zcx oQ hp
     grind
theorem q1q (p q r s:Int) (h:p*s=q*r) (hd:0<p*r+q*s):
 ((min p 0<=r/\r<=max p 0)/\(min q 0<=s/\s<=max q 0))\/((min r 0<=p/\p<=max r 0)/\(min s 0<=q/\q<=max s 0)):=by
 have key:0<=p*r/\0<=q*s:=by
  have e:(p*r)*(q*s)=(q*r)*(q*r):=by
   have:(p*r)*(q*s)=(p*s)*(q*r):=by grind
   rw [this,h]
  have e2:0<=(q*r)*(q*r):=by
   rcases Int.le_total 0 (q*r) with h|h
   · exact Int.mul_nonneg h h
   · exact Int.mul_nonneg_of_nonpos_of_nonpos h h
  generalize p*r=X at*;generalize q*s=Y at*
  constructor
  · apply Int.not_lt.1
    intro hx;have:X*Y<0:=Int.mul_neg_of_neg_of_pos hx oQ
    omega
  · apply Int.not_lt.1
    intro hy;have:X*Y<0:=Int.mul_neg_of_pos_of_neg oQ hy
    omega
 obtain⟨k1,k2⟩:=key
 have sgn2:∀a b:Int,0<=a*b->(0<=a/\0<=b)\/(a<=0/\b<=0):=fun a b hab=>by
  rcases Int.lt_trichotomy a 0 with ha|ha|ha
  · right
    refine⟨by omega,?_⟩
    apply Int.not_lt.1
    intro hb;have:=Int.mul_neg_of_neg_of_pos ha hb
    omega
  · omega
  · left
    refine⟨by omega,?_⟩
    apply Int.not_lt.1
    intro hb;have:=Int.mul_neg_of_pos_of_neg ha hb
    omega
 rcases sgn2 _ _ k1 with ⟨a1,a2⟩|⟨a1,a2⟩<;>rcases sgn2 _ _ k2 with ⟨b1,b2⟩|⟨b1,b2⟩
 · have:=shorter p q r s a1 b1 a2 b2 h
   omega
 · have:=shorter p (-q) r (-s) a1 oQ a2 oQ (by grind)
   omega
 · have:=shorter (-p) q (-r) s oQ b1 oQ b2 (by grind)
   omega
 · have:=shorter (-p) (-q) (-r) (-s) oQ oQ oQ oQ (by grind)
   omega
theorem qpr (p q r s:Int) (hn:r≠0\/s≠0) (hb:(min p 0<=r/\r<=max p 0)/\(min q 0<=s/\s<=max q 0)):0<p*r+q*s:=by
 have k:∀a b:Int,(min a 0<=b/\b<=max a 0)->0<=a*b/\(b≠0->0<a*b):=fun a b hab=>by
  rcases Int.lt_trichotomy b 0 with hb|hb|hb
  · have:=Int.mul_pos_of_neg_of_neg (a:=a) (b:=b) oQ hb
    exact⟨by omega,fun _=>this⟩
  · subst hb;simp
  · have:=Int.mul_pos (a:=a) (b:=b) oQ hb
    exact⟨by omega,fun _=>this⟩
 have k1:=k p r hb.1;have k2:=k q s hb.2
 rcases hn with hn|hn
 · have:=k1.2 hn;omega
 · have:=k2.2 hn;omega
theorem qyw {a c b:Pt} (ha:okPt a=true) (hc:okPt c=true) (hb:okPt b=true) (hac:a≠c) (hbc:b≠c):(onS a c b||onS c b a)=qix a c b:=by
 rw [Bool.eq_iff_iff,Bool.or_eq_true,qe8,qe8]
 have hx:qdn c a b=qae c a b:=by simp [qdn,ha,hb,hc]
 simp only [qix,hx,ha,hb,hc,ziy,decide_eq_true_eq,ne_eq,hac,hbc,not_false_eq_true,true_and,and_true]
 have e1:qae a c b=0↔(a.x-c.x)*(b.y-c.y)=(a.y-c.y)*(b.x-c.x):=by unfold qae;grind
 have e2:qae c b a=0↔(a.x-c.x)*(b.y-c.y)=(a.y-c.y)*(b.x-c.x):=by unfold qae;grind
 have e3:qae c a b=0↔(a.x-c.x)*(b.y-c.y)=(a.y-c.y)*(b.x-c.x):=by unfold qae;grind
 have n1:a.x-c.x≠0\/a.y-c.y≠0:=by
  apply Decidable.byContradiction
  intro h;exact hac (Pt.ext' oQ oQ)
 have n2:b.x-c.x≠0\/b.y-c.y≠0:=by
  apply Decidable.byContradiction
  intro h;exact hbc (Pt.ext' oQ oQ)
 rw [e1,e2,e3]
 unfold dotR
 constructor
 · rintro(⟨h,h1⟩|⟨h,h1⟩)
   · exact⟨h,qpr _ _ _ _ n2 oQ⟩
   · have:=qpr (b.x-c.x) (b.y-c.y) (a.x-c.x) (a.y-c.y) n1 oQ
     exact⟨h,by grind⟩
 · rintro⟨h,h1⟩
   rcases q1q _ _ _ _ h h1 with h2|h2
   · exact .inl ⟨h,by omega⟩
   · exact .inr ⟨h,by omega⟩
theorem qb6 (n:Nat) (f:Nat->Bool):(List.range n).any f=true↔∃i,i<n/\f i=true:=by
 simp [List.any_eq_true]
theorem qiz {l:List Pt} {i:Nat} (h:i+1<l.length):nx l i=pt l (i+1):=by rw [nx,zzy h]
theorem qsg {l:List Pt} {i:Nat} (h:i+1=l.length):nx l i=pt l 0:=by rw [nx,h,Nat.mod_self]
theorem qcc {l:List Pt} (h:l.all okPt=true) {i:Nat} (hi:i<l.length):okPt (pt l i)=true:=by
 rw [List.all_eq_true] at h;have e:pt l i=l[i]:=by rw [pt,zpy,zby hi];rfl
 rw [e]
 exact h _ (List.getElem_mem hi)
theorem qds {l:List Pt} (h:l.all okPt=true) {i:Nat} (hi:i<l.length):okPt (nx l i)=true:=qcc h (Nat.mod_lt _ oQ)
theorem qh2 {l:List Pt} (h3:3<=l.length) (hok:l.all okPt=true) (hd:∀i j,i<l.length->j<l.length->i≠j->pt l i≠pt l j) {i k:Nat} (hik:i<k) (hk:k<l.length):
 qmq l i k=clash l i k/\qmq l k i=clash l i k:=by
 have hi:i<l.length:=oQ
 have hne:pt l i≠pt l k:=hd i k hi hk oQ
 have hm:(i+1)%l.length=i+1:=zzy oQ
 unfold qmq clash
 rw [if_neg hne,if_neg (Ne.symm hne)]
 by_cases h1:k=i+1
 · subst h1
   have hw:¬ (i+1+1)%l.length=i:=by
    by_cases e:i+1+1=l.length
    · rw [e,Nat.mod_self];omega
    · rw [zzy oQ];omega
   have hnx:nx l i=pt l (i+1):=qiz oQ
   have hb:nx l (i+1)≠pt l (i+1):=by
    by_cases e:i+1+1=l.length
    · rw [qsg e];exact hd _ _ oQ hk oQ
    · rw [qiz oQ];exact hd _ _ oQ hk oQ
   rw [if_pos hm,if_pos rfl,if_neg hw,if_pos hm,hnx,qyw (qcc hok hi) (qcc hok hk) (qds hok hk) hne hb]
   exact⟨rfl,rfl⟩
 · rw [if_neg h1]
   have hm1:¬ (i+1)%l.length=k:=oQ
   rw [if_neg hm1,if_neg hm1]
   by_cases h2:i=0/\k+1=l.length
   · obtain⟨rfl,hl⟩:=h2
     have hw:(k+1)%l.length=0:=by rw [hl,Nat.mod_self]
     have hnx:nx l 0=pt l 1:=qiz oQ
     have hnk:nx l k=pt l 0:=qsg hl
     have e:(onS (pt l k) (nx l k) (nx l 0)||onS (pt l 0) (nx l 0) (pt l k))=qix (pt l 1) (pt l 0) (pt l k):=by
      rw [hnx,hnk,<-qyw (qcc hok oQ) (qcc hok hi) (qcc hok hk) (hd _ _ oQ hi oQ) (Ne.symm hne),qkm (pt l 1) (pt l 0),qkm (pt l 0) (pt l k),Bool.or_comm]
     rw [if_pos hw,if_pos hw,if_pos ⟨rfl,hl⟩,e]
     exact⟨rfl,rfl⟩
   · have hw:¬ (k+1)%l.length=i:=by
      by_cases e:k+1=l.length
      · rw [e,Nat.mod_self];omega
      · rw [zzy oQ];omega
     rw [if_neg hw,if_neg hw,if_neg h2,qiz oQ,qib]
     exact⟨rfl,rfl⟩
theorem qrq {l:List Pt} (h3:3<=l.length) (hok:l.all okPt=true):qeq l=qeu l:=by
 by_cases hd:∀i j,i<l.length->j<l.length->i≠j->pt l i≠pt l j
 · rw [Bool.eq_iff_iff]
   unfold qeq qeu
   simp only [qb6,ziy,decide_eq_true_eq,Bool.or_eq_true]
   constructor
   · rintro⟨i,hi,k,hk,hn,hs⟩
     rcases zry i k with h|h
     · exact⟨i,hi,k,hk,h,.inr ((qh2 h3 hok hd h hk).1 ▸ hs)⟩
     · have hki:k<i:=oQ
       exact⟨k,hk,i,hi,hki,.inr ((qh2 h3 hok hd hki hi).2 ▸ hs)⟩
   · rintro⟨i,hi,k,hk,h,hs|hs⟩
     · exact absurd hs (hd i k hi hk oQ)
     · exact⟨i,hi,k,hk,by omega,(qh2 h3 hok hd h hk).1 ▸ hs⟩
 · have:∃i j,i<j/\j<l.length/\pt l i=pt l j:=by
    apply Classical.byContradiction
    intro hno
    apply hd
    intro i j hi hj hij e
    rcases zry i j with h|h
    · exact hno ⟨i,j,h,hj,e⟩
    · exact hno ⟨j,i,by omega,hi,e.symm⟩
   obtain⟨i,j,hij,hj,e⟩:=this
   have e1:qeq l=true:=by
    unfold qeq
    simp only [qb6,ziy,decide_eq_true_eq]
    exact⟨i,by omega,j,hj,by omega,by unfold qmq;rw [if_pos e]⟩
   have e2:qeu l=true:=by
    unfold qeu
    simp only [qb6,ziy,decide_eq_true_eq,Bool.or_eq_true]
    exact⟨i,by omega,j,hj,hij,.inl e⟩
   rw [e1,e2]
theorem qmg (l:List Pt):qbi l=qdb l:=by
 unfold qbi qdb
 by_cases h:l.length<3\/64<l.length
 · rw [if_pos h,if_pos h]
 · rw [if_neg h,if_neg h]
   by_cases hok:l.all okPt=true
   · rw [if_pos hok,if_pos hok,qrq oQ hok]
   · rw [if_neg hok,if_neg hok]
theorem qnu (p:Pt):qa4 ⟨p,p⟩=if okPt p then 0 else 2:=by
 unfold qa4
 cases h:okPt p<;>simp
theorem q0j (o:Ob):ckOb o=qel o:=by
 unfold ckOb qel
 rw [qmg,qnu]
theorem q5z (q:Qu):ckQu q=qja q:=by
 unfold ckQu qja
 rw [qmg]
/- plain law of a segment and a box: by the separating axes -/
theorem q0x {p q r s u v u' v' :Int} (hu:0<u) (hv:0<v) (hu' :0<u') (hv' :0<v') (hs:u+v=u' +v') (h:p*u+q*v=r*u' +s*v'):min r s<=max p q:=by
 apply Int.not_lt.1
 intro hlt;have hp:p<=max p q:=oQ
 have hq:q<=max p q:=oQ
 have hr:max p q+1<=r:=oQ
 have hs' :max p q+1<=s:=oQ
 generalize max p q=M at*;have e1:=Int.mul_le_mul_of_nonneg_right hp (Int.le_of_lt hu);have e2:=Int.mul_le_mul_of_nonneg_right hq (Int.le_of_lt hv);have e3:=Int.mul_le_mul_of_nonneg_right hr (Int.le_of_lt hu');have e4:=Int.mul_le_mul_of_nonneg_right hs' (Int.le_of_lt hv');have e5:M*u+M*v=M*u' +M*v' :=by rw [<-Int.mul_add,<-Int.mul_add,hs]
 grind
theorem qku {p q r s u v u' v' :Int} (hu:0<u) (hv:0<v) (hu' :0<u') (hv' :0<v') (hs:u+v=u' +v') (h:p*u+q*v=r*u' +s*v'):min r s<=max p q/\min p q<=max r s:=
 ⟨q0x hu hv hu' hv' hs h,q0x hu' hv' hu hv hs.symm h.symm⟩
theorem qms {a b c d:Pt} (h1:(qae a b c<0/\0<qae a b d)\/(0<qae a b c/\qae a b d<0)) (h2:(qae c d a<0/\0<qae c d b)\/(0<qae c d a/\qae c d b<0)):
 (min a.x b.x<=max c.x d.x/\min c.x d.x<=max a.x b.x)/\(min a.y b.y<=max c.y d.y/\min c.y d.y<=max a.y b.y):=by
 have e0:qae a b d-qae a b c=qae c d a-qae c d b:=by unfold qae;grind
 have ex:c.x*qae a b d-d.x*qae a b c=b.x*qae c d a-a.x*qae c d b:=by unfold qae;grind
 have ey:c.y*qae a b d-d.y*qae a b c=b.y*qae c d a-a.y*qae c d b:=by unfold qae;grind
 generalize qae a b d=F2 at*;generalize qae a b c=F1 at*;generalize qae c d a=G1 at*;generalize qae c d b=G2 at*
 rcases h1 with h1|h1
 · have k:G2<0/\0<G1:=oQ
   have x:=qku (p:=c.x) (q:=d.x) (r:=b.x) (s:=a.x) (u:=F2) (v:= -F1) (u' :=G1) (v' := -G2) oQ oQ oQ oQ oQ (by grind)
   have y:=qku (p:=c.y) (q:=d.y) (r:=b.y) (s:=a.y) (u:=F2) (v:= -F1) (u' :=G1) (v' := -G2) oQ oQ oQ oQ oQ (by grind)
   omega
 · have k:0<G2/\G1<0:=oQ
   have x:=qku (p:=c.x) (q:=d.x) (r:=b.x) (s:=a.x) (u:= -F2) (v:=F1) (u' := -G1) (v' :=G2) oQ oQ oQ oQ oQ (by grind)
   have y:=qku (p:=c.y) (q:=d.y) (r:=b.y) (s:=a.y) (u:= -F2) (v:=F1) (u' := -G1) (v' :=G2) oQ oQ oQ oQ oQ (by grind)
   omega
def inR (r:Bx) (p:Pt):Prop:=(r.lo.x<=p.x/\p.x<=r.hi.x)/\(r.lo.y<=p.y/\p.y<=r.hi.y)
def qf4 (a b:Pt) (r:Bx):Prop:=(0<qae a b r.lo/\0<qae a b ⟨r.hi.x,r.lo.y⟩)/\(0<qae a b r.hi/\0<qae a b ⟨r.lo.x,r.hi.y⟩)
def sat (a b:Pt) (r:Bx):Prop:=
 ((min a.x b.x<=r.hi.x/\r.lo.x<=max a.x b.x)/\(min a.y b.y<=r.hi.y/\r.lo.y<=max a.y b.y))/\¬ qf4 a b r/\¬ qf4 b a r
theorem qi1 {t u v:Int} (h:u<=v):(0<=t->t*u<=t*v)/\(t<=0->t*v<=t*u):=
 ⟨fun ht=>zcx h ht,fun ht=>Int.mul_le_mul_of_nonpos_left ht h⟩
theorem qa0 {a b:Pt} {r:Bx} (h:qf4 a b r) {c:Pt} (hc:inR r c):0<qae a b c:=by
 obtain⟨⟨h1,h2⟩,h3,h4⟩:=h;obtain⟨⟨x1,x2⟩,y1,y2⟩:=hc;unfold qae at*
 simp only at*
 have X1:=qi1 (t:=b.y-a.y) (Int.sub_le_sub_right x1 a.x);have X2:=qi1 (t:=b.y-a.y) (Int.sub_le_sub_right x2 a.x);have Y1:=qi1 (t:=b.x-a.x) (Int.sub_le_sub_right y1 a.y);have Y2:=qi1 (t:=b.x-a.x) (Int.sub_le_sub_right y2 a.y)
 rcases Int.le_total 0 (b.y-a.y) with hy|hy<;>rcases Int.le_total 0 (b.x-a.x) with hx|hx
 · have:=X2.1 hy;have:=Y1.1 hx;omega
 · have:=X2.1 hy;have:=Y2.2 hx;omega
 · have:=X1.2 hy;have:=Y1.1 hx;omega
 · have:=X1.2 hy;have:=Y2.2 hx;omega
theorem qf9 {a b c:Pt} {r:Bx} (hc:inR r c) (h0:qae a b c=0):¬ qf4 a b r/\¬ qf4 b a r:=by
 constructor
 · intro h;have:=qa0 h hc;omega
 · intro h;have:=qa0 h hc;rw [qbx] at this;omega
theorem qla {a b:Pt} {r:Bx} (h:inR r a):sat a b r:=by
 refine⟨?_,qf9 h (qwy a b)⟩;unfold inR at h
 omega
theorem qhe {a b:Pt} {r:Bx} (h:sat a b r):sat b a r:=by
 obtain⟨h1,h2,h3⟩:=h;exact⟨by omega,h3,h2⟩
theorem qd6 {a b c d:Pt} {r:Bx} (hc:inR r c) (hd:inR r d) (h:qbr a b c d=true):sat a b r:=by
 rw [qlz] at h;obtain⟨⟨oa,ob,oc,od⟩,h⟩:=h
 rcases h with h|h|h|h|h
 · rw [qlj oa ob oc od] at h
   obtain⟨h1,h2⟩:=h;have:=qms h1 h2;unfold inR at hc hd;refine⟨by omega,fun k=> ?_,fun k=> ?_⟩
   · have:=qa0 k hc;have:=qa0 k hd;omega
   · have u1:=qa0 k hc;have u2:=qa0 k hd;rw [qbx] at u1 u2;omega
 · rw [qe8] at h
   refine⟨?_,qf9 hc h.2.1⟩;unfold inR at hc;omega
 · rw [qe8] at h
   refine⟨?_,qf9 hd h.2.1⟩;unfold inR at hd;omega
 · rw [qe8] at h
   exact qla (by unfold inR at*;omega)
 · rw [qe8] at h
   exact qhe (qla (by unfold inR at*;omega))
theorem q1p {a b:Pt} {r u:Bx} (h:sat a b r) (hlo:inR u r.lo) (hhi:inR u r.hi):sat a b u:=by
 obtain⟨h1,h2,h3⟩:=h;unfold inR at hlo hhi;refine⟨by omega,fun k=>h2 ?_,fun k=>h3 ?_⟩
 · exact⟨⟨qa0 k (by unfold inR;omega),qa0 k (by unfold inR;simp only;omega)⟩,qa0 k (by unfold inR;omega),qa0 k (by unfold inR;simp only;omega)⟩
 · exact⟨⟨qa0 k (by unfold inR;omega),qa0 k (by unfold inR;simp only;omega)⟩,qa0 k (by unfold inR;omega),qa0 k (by unfold inR;simp only;omega)⟩
section core
variable {lx ly hx hy ax ay bx b_y:Int}
theorem mz {p q:Int} (h:p*q=0):p=0\/q=0:=Int.mul_eq_zero.1 h
theorem q7j (hW:lx<=hx) (hH:ly<=hy) (dx:ax<=bx) (dy:ay<=b_y) (o:(ax<=hx/\lx<=bx)/\(ay<=hy/\ly<=b_y)) (ha:ax<lx\/ay<ly) (hb:hx<bx\/hy<b_y)
 (h:(bx-ax)*(ly-ay)-(b_y-ay)*(hx-ax)=0):(ax<=hx/\hx<=bx)/\(ay<=ly/\ly<=b_y):=by
 refine⟨⟨o.1.1,?_⟩,?_,o.2.2⟩
 · apply Int.not_lt.1
   intro k
   -- b.x < hx, so b.y > hy
   have hby:hy<b_y:=oQ
   have e:(b_y-ay)*(bx-ax+1)<=(b_y-ay)*(hx-ax):=zcx oQ oQ
   have e2:(bx-ax)*(ly-ay)<=(bx-ax)*(b_y-ay):=zcx oQ oQ
   have e3:0<b_y-ay:=oQ
   grind
 · apply Int.not_lt.1
   intro k;have hax:ax<lx:=oQ
   have e:0<=(b_y-ay)*(hx-ax):=Int.mul_nonneg oQ oQ
   have e2:0<(bx-ax)*(ay-ly):=Int.mul_pos oQ oQ
   grind
theorem q76 (hW:lx<=hx) (hH:ly<=hy) (dx:ax<=bx) (dy:ay<=b_y) (o:(ax<=hx/\lx<=bx)/\(ay<=hy/\ly<=b_y)) (ha:ax<lx\/ay<ly)
 (h:(bx-ax)*(ly-ay)-(b_y-ay)*(lx-ax)=0):(ax<=lx/\lx<=bx)/\(ay<=ly/\ly<=b_y):=by
 refine⟨⟨?_,o.1.2⟩,?_,o.2.2⟩
 · apply Int.not_lt.1
   intro k;have:0<(b_y-ay)*(ax-lx):=Int.mul_pos oQ oQ
   have:0<=(bx-ax)*(ly-ay):=Int.mul_nonneg oQ oQ
   grind
 · apply Int.not_lt.1
   intro k;have:0<(bx-ax)*(ay-ly):=Int.mul_pos oQ oQ
   have:0<=(b_y-ay)*(lx-ax):=Int.mul_nonneg oQ oQ
   grind
theorem q77 (hW:lx<=hx) (hH:ly<=hy) (dx:ax<=bx) (dy:ay<=b_y) (o:(ax<=hx/\lx<=bx)/\(ay<=hy/\ly<=b_y)) (ha:ax<lx\/ay<ly) (hb:hx<bx\/hy<b_y)
 (h1:(bx-ax)*(ly-ay)-(b_y-ay)*(hx-ax)<0) (h2:0<(bx-ax)*(hy-ay)-(b_y-ay)*(lx-ax)):
 (hx-lx)*(ay-hy)-(ly-hy)*(ax-lx)<0/\0<(hx-lx)*(b_y-hy)-(ly-hy)*(bx-lx):=by
 have W:=hW
 constructor
 · apply Int.not_le.1
   intro k
   rcases ha with ha|ha
   · have e1:0<=(hx-lx)*(hy-ay):=Int.mul_nonneg oQ oQ
     have e2:0<=(hy-ly)*(lx-ax):=Int.mul_nonneg oQ oQ
     have z1:(hx-lx)*(hy-ay)=0:=by (simp only [Int.sub_mul,Int.mul_sub,Int.add_mul,Int.mul_add,Int.neg_mul,Int.mul_neg,Int.mul_comm,Int.mul_left_comm,Int.mul_assoc] at*;omega)
     have z2:(hy-ly)*(lx-ax)=0:=by (simp only [Int.sub_mul,Int.mul_sub,Int.add_mul,Int.mul_add,Int.neg_mul,Int.mul_neg,Int.mul_comm,Int.mul_left_comm,Int.mul_assoc] at*;omega)
     have hl:hy=ly:=by rcases mz z2 with h|h<;>omega
     rcases mz z1 with h|h
     · have:hx=lx:=oQ
       subst this hl
       omega
     · have:hy=ay:=oQ
       subst this;have e3:0<=(b_y-hy)*(lx-ax):=Int.mul_nonneg oQ oQ
       (simp only [Int.sub_mul,Int.mul_sub,Int.add_mul,Int.mul_add,Int.neg_mul,Int.mul_neg,Int.mul_comm,Int.mul_left_comm,Int.mul_assoc] at*;omega)
   · have e1:0<=(hx-lx)*(ly-ay):=Int.mul_nonneg oQ oQ
     have e2:0<=(hy-ly)*(hx-ax):=Int.mul_nonneg oQ oQ
     have z1:(hx-lx)*(ly-ay)=0:=by (simp only [Int.sub_mul,Int.mul_sub,Int.add_mul,Int.mul_add,Int.neg_mul,Int.mul_neg,Int.mul_comm,Int.mul_left_comm,Int.mul_assoc] at*;omega)
     have z2:(hy-ly)*(hx-ax)=0:=by (simp only [Int.sub_mul,Int.mul_sub,Int.add_mul,Int.mul_add,Int.neg_mul,Int.mul_neg,Int.mul_comm,Int.mul_left_comm,Int.mul_assoc] at*;omega)
     have hl:hx=lx:=by rcases mz z1 with h|h<;>omega
     rcases mz z2 with h|h
     · have:hy=ly:=oQ
       subst this hl
       omega
     · have:hx=ax:=oQ
       subst this;have e3:0<=(bx-hx)*(ly-ay):=Int.mul_nonneg oQ oQ
       (simp only [Int.sub_mul,Int.mul_sub,Int.add_mul,Int.mul_add,Int.neg_mul,Int.mul_neg,Int.mul_comm,Int.mul_left_comm,Int.mul_assoc] at*;omega)
 · apply Int.not_le.1
   intro k
   rcases hb with hb|hb
   · have e1:0<=(hx-lx)*(b_y-ly):=Int.mul_nonneg oQ oQ
     have e2:0<=(hy-ly)*(bx-hx):=Int.mul_nonneg oQ oQ
     have z1:(hx-lx)*(b_y-ly)=0:=by (simp only [Int.sub_mul,Int.mul_sub,Int.add_mul,Int.mul_add,Int.neg_mul,Int.mul_neg,Int.mul_comm,Int.mul_left_comm,Int.mul_assoc] at*;omega)
     have z2:(hy-ly)*(bx-hx)=0:=by (simp only [Int.sub_mul,Int.mul_sub,Int.add_mul,Int.mul_add,Int.neg_mul,Int.mul_neg,Int.mul_comm,Int.mul_left_comm,Int.mul_assoc] at*;omega)
     have hl:hy=ly:=by rcases mz z2 with h|h<;>omega
     rcases mz z1 with h|h
     · have:hx=lx:=oQ
       subst this hl
       omega
     · have:b_y=ly:=oQ
       subst this;have e3:0<=(b_y-ay)*(bx-hx):=Int.mul_nonneg oQ oQ
       (simp only [Int.sub_mul,Int.mul_sub,Int.add_mul,Int.mul_add,Int.neg_mul,Int.mul_neg,Int.mul_comm,Int.mul_left_comm,Int.mul_assoc] at*;omega)
   · have e1:0<=(hx-lx)*(b_y-hy):=Int.mul_nonneg oQ oQ
     have e2:0<=(hy-ly)*(bx-lx):=Int.mul_nonneg oQ oQ
     have z1:(hx-lx)*(b_y-hy)=0:=by (simp only [Int.sub_mul,Int.mul_sub,Int.add_mul,Int.mul_add,Int.neg_mul,Int.mul_neg,Int.mul_comm,Int.mul_left_comm,Int.mul_assoc] at*;omega)
     have z2:(hy-ly)*(bx-lx)=0:=by (simp only [Int.sub_mul,Int.mul_sub,Int.add_mul,Int.mul_add,Int.neg_mul,Int.mul_neg,Int.mul_comm,Int.mul_left_comm,Int.mul_assoc] at*;omega)
     have hl:hx=lx:=by rcases mz z1 with h|h<;>omega
     rcases mz z2 with h|h
     · have:hy=ly:=oQ
       subst this hl
       omega
     · have:bx=lx:=oQ
       subst this;have e3:0<=(bx-ax)*(b_y-hy):=Int.mul_nonneg oQ oQ
       (simp only [Int.sub_mul,Int.mul_sub,Int.add_mul,Int.mul_add,Int.neg_mul,Int.mul_neg,Int.mul_comm,Int.mul_left_comm,Int.mul_assoc] at*;omega)
theorem q7i (hW:lx<=hx) (hH:ly<=hy) (dx:ax<=bx) (dy:ay<=b_y) (o:(ax<=hx/\lx<=bx)/\(ay<=hy/\ly<=b_y)) (ha:ax<lx\/ay<ly) (hb:hx<bx\/hy<b_y)
 (h1:(bx-ax)*(ly-ay)-(b_y-ay)*(hx-ax)<0) (h2:0<(bx-ax)*(ly-ay)-(b_y-ay)*(lx-ax)):
 (hx-lx)*(ay-ly)<0/\0<(hx-lx)*(b_y-ly):=by
 have hW' :lx<hx:=by
  rcases Int.lt_or_eq_of_le hW with h|h
  · exact h
  · subst h;omega
 have ya:ay<ly:=by
  apply Int.not_le.1
  intro k;have:ax<lx:=oQ
  have e1:0<=(bx-ax)*(ay-ly):=Int.mul_nonneg oQ oQ
  have e2:0<=(b_y-ay)*(lx-ax):=Int.mul_nonneg oQ oQ
  (simp only [Int.sub_mul,Int.mul_sub,Int.add_mul,Int.mul_add,Int.neg_mul,Int.mul_neg,Int.mul_comm,Int.mul_left_comm,Int.mul_assoc] at*;omega)
 have yb:ly<b_y:=by
  apply Int.not_le.1
  intro k;have hl:b_y=ly:=oQ
  subst hl;have e1:0<=(b_y-ay)*(bx-hx):=Int.mul_nonneg oQ oQ
  (simp only [Int.sub_mul,Int.mul_sub,Int.add_mul,Int.mul_add,Int.neg_mul,Int.mul_neg,Int.mul_comm,Int.mul_left_comm,Int.mul_assoc] at*;omega)
 exact⟨Int.mul_neg_of_pos_of_neg oQ oQ,Int.mul_pos oQ oQ⟩
end core
/- a segment and a box: the program's look, the reference's look, and 'no axis parts them' are one -/
theorem qgz {a b c d:Pt} (oa:okPt a=true) (ob:okPt b=true) (oc:okPt c=true) (od:okPt d=true)
 (h:((qae a b c<0/\0<qae a b d)\/(0<qae a b c/\qae a b d<0))/\((qae c d a<0/\0<qae c d b)\/(0<qae c d a/\qae c d b<0))):qbr a b c d=true:=by
 rw [qlz]
 exact⟨⟨oa,ob,oc,od⟩,.inl ((qlj oa ob oc od).2 h)⟩
theorem qi3 {a b c d:Pt} (oa:okPt a=true) (ob:okPt b=true) (oc:okPt c=true) (od:okPt d=true)
 (h:qae a b c=0/\(min a.x b.x<=c.x/\c.x<=max a.x b.x)/\(min a.y b.y<=c.y/\c.y<=max a.y b.y)):qbr a b c d=true:=by
 rw [qlz]
 exact⟨⟨oa,ob,oc,od⟩,.inr (.inl ((qe8 _ _ _).2 ⟨⟨oa,ob,oc⟩,h⟩))⟩
theorem qqd {a b c d:Pt} (oa:okPt a=true) (ob:okPt b=true) (oc:okPt c=true) (od:okPt d=true)
 (h:qae a b d=0/\(min a.x b.x<=d.x/\d.x<=max a.x b.x)/\(min a.y b.y<=d.y/\d.y<=max a.y b.y)):qbr a b c d=true:=by
 rw [qia]
 exact qi3 oa ob od oc h
theorem qu3 {ax ay bx b_y lx ly hx hy:Int} (oa:okPt ⟨ax,ay⟩=true) (ob:okPt ⟨bx,b_y⟩=true) (ol:okPt ⟨lx,ly⟩=true) (oh:okPt ⟨hx,hy⟩=true) (hW:lx<=hx) (hH:ly<=hy)
 (hs:sat ⟨ax,ay⟩ ⟨bx,b_y⟩ ⟨⟨lx,ly⟩,⟨hx,hy⟩⟩) (dx:ax<=bx) (dy:ay<=b_y) (na:¬ inR ⟨⟨lx,ly⟩,⟨hx,hy⟩⟩ ⟨ax,ay⟩) (nb:¬ inR ⟨⟨lx,ly⟩,⟨hx,hy⟩⟩ ⟨bx,b_y⟩):
 qbr ⟨ax,ay⟩ ⟨bx,b_y⟩ ⟨lx,hy⟩ ⟨hx,ly⟩=true/\(qbr ⟨ax,ay⟩ ⟨bx,b_y⟩ ⟨lx,ly⟩ ⟨hx,ly⟩=true\/qbr ⟨ax,ay⟩ ⟨bx,b_y⟩ ⟨lx,hy⟩ ⟨lx,ly⟩=true):=by
 have o1:okPt ⟨lx,hy⟩=true:=by rw [qa6] at*;simp only at*;omega
 have o2:okPt ⟨hx,ly⟩=true:=by rw [qa6] at*;simp only at*;omega
 obtain⟨h1,h2,h3⟩:=hs;unfold inR at na nb;unfold qf4 at h2 h3;rw [qbx,qbx ⟨ax,ay⟩,qbx ⟨ax,ay⟩,qbx ⟨ax,ay⟩] at h3
 simp only at*
 have o:(ax<=hx/\lx<=bx)/\(ay<=hy/\ly<=b_y):=oQ
 have ha:ax<lx\/ay<ly:=oQ
 have hb:hx<bx\/hy<b_y:=oQ
 have P:(bx-ax)*(ly-ay)<=(bx-ax)*(hy-ay):=zcx oQ oQ
 have Q:(b_y-ay)*(lx-ax)<=(b_y-ay)*(hx-ax):=zcx oQ oQ
 have eLR:qae ⟨ax,ay⟩ ⟨bx,b_y⟩ ⟨hx,ly⟩=(bx-ax)*(ly-ay)-(b_y-ay)*(hx-ax):=rfl;have eHL:qae ⟨ax,ay⟩ ⟨bx,b_y⟩ ⟨lx,hy⟩=(bx-ax)*(hy-ay)-(b_y-ay)*(lx-ax):=rfl;have eLL:qae ⟨ax,ay⟩ ⟨bx,b_y⟩ ⟨lx,ly⟩=(bx-ax)*(ly-ay)-(b_y-ay)*(lx-ax):=rfl;have eHH:qae ⟨ax,ay⟩ ⟨bx,b_y⟩ ⟨hx,hy⟩=(bx-ax)*(hy-ay)-(b_y-ay)*(hx-ax):=rfl;rw [eLR,eHL,eLL,eHH] at h2 h3
 have fLR:(bx-ax)*(ly-ay)-(b_y-ay)*(hx-ax)<=0:=by
  apply Int.not_lt.1
  intro k;exact h2 oQ
 have fHL:0<=(bx-ax)*(hy-ay)-(b_y-ay)*(lx-ax):=by
  apply Int.not_lt.1
  intro k;exact h3 oQ
 clear h2 h3 na nb P Q h1 eHH
 by_cases zLR:(bx-ax)*(ly-ay)-(b_y-ay)*(hx-ax)=0
 · have:=q7j hW hH dx dy o ha hb zLR
   have hm:qae ⟨ax,ay⟩ ⟨bx,b_y⟩ ⟨hx,ly⟩=0/\(min ax bx<=hx/\hx<=max ax bx)/\(min ay b_y<=ly/\ly<=max ay b_y):=by rw [eLR];exact⟨zLR,by omega⟩
   exact⟨qqd oa ob o1 o2 hm,.inl (qqd oa ob ol o2 hm)⟩
 by_cases zHL:(bx-ax)*(hy-ay)-(b_y-ay)*(lx-ax)=0
 · have:=q7j (lx:=ly) (ly:=lx) (hx:=hy) (hy:=hx) (ax:=ay) (ay:=ax) (bx:=b_y) (b_y:=bx) hH hW dy dx ⟨o.2,o.1⟩ oQ oQ oQ
   have hm:qae ⟨ax,ay⟩ ⟨bx,b_y⟩ ⟨lx,hy⟩=0/\(min ax bx<=lx/\lx<=max ax bx)/\(min ay b_y<=hy/\hy<=max ay b_y):=by rw [eHL];exact⟨zHL,by omega⟩
   exact⟨qi3 oa ob o1 o2 hm,.inr (qi3 oa ob o1 ol hm)⟩
 refine⟨qgz oa ob o1 o2 ⟨.inr (by rw [eLR,eHL];omega),.inl ?_⟩,?_⟩
 · have:=q77 hW hH dx dy o ha hb oQ oQ
   exact this
 · by_cases zLL:(bx-ax)*(ly-ay)-(b_y-ay)*(lx-ax)=0
   · have:=q76 hW hH dx dy o ha zLL
     exact .inl (qi3 oa ob ol o2 (by rw [eLL];exact⟨zLL,by simp only;omega⟩))
   by_cases pLL:0<(bx-ax)*(ly-ay)-(b_y-ay)*(lx-ax)
   · left
     have:=q7i hW hH dx dy o ha hb oQ pLL
     refine qgz oa ob ol o2 ⟨.inr (by rw [eLR,eLL];omega),.inl ?_⟩
     unfold qae
     simp only [Int.sub_self,Int.zero_mul,Int.sub_zero]
     exact this
   · right
     have:=q7i (lx:=ly) (ly:=lx) (hx:=hy) (hy:=hx) (ax:=ay) (ay:=ax) (bx:=b_y) (b_y:=bx) hH hW dy dx ⟨o.2,o.1⟩ oQ oQ oQ oQ
     refine qgz oa ob o1 ol ⟨.inr (by rw [eHL,eLL];omega),.inl ?_⟩
     unfold qae
     simp only [Int.sub_self,Int.zero_mul,Int.zero_sub]
     have e:∀t,-((ly-hy)*t)=(hy-ly)*t:=fun t=>by (simp only [Int.sub_mul,Int.mul_sub,Int.add_mul,Int.mul_add,Int.neg_mul,Int.mul_neg,Int.mul_comm,Int.mul_left_comm,Int.mul_assoc] at*;omega)
     rw [e,e]
     exact this
def ry (p:Pt):Pt:=⟨p.x,-p.y⟩
theorem qdy (p:Pt):okPt (ry p)=okPt p:=by
 rw [Bool.eq_iff_iff,qa6,qa6]
 simp only [ry]
 omega
theorem qf1 (a b c:Pt):qae (ry a) (ry b) (ry c)= - qae a b c:=by unfold qae ry;(simp only [Int.sub_mul,Int.mul_sub,Int.add_mul,Int.mul_add,Int.neg_mul,Int.mul_neg,Int.mul_comm,Int.mul_left_comm,Int.mul_assoc] at*;omega)
theorem qug (a b p:Pt):onS (ry a) (ry b) (ry p)=onS a b p:=by
 rw [Bool.eq_iff_iff,qe8,qe8,qdy,qdy,qdy,qf1]
 simp only [ry]
 constructor<;>rintro ⟨h,h1⟩<;>exact ⟨h,by omega⟩
theorem qiy (a b c:Pt):qbz (ry a) (ry b) (ry c)= - qbz a b c:=by
 unfold qbz qdn
 rw [qdy,qdy,qdy,qf1,<-qx8]
 congr 1
 split<;>omega
theorem qor (a b c d:Pt):qbr (ry a) (ry b) (ry c) (ry d)=qbr a b c d:=by
 unfold qbr qcp
 rw [qdy,qdy,qdy,qdy,qug,qug,qug,qug,qiy,qiy,qiy,qiy,Int.neg_mul_neg,Int.neg_mul_neg]
theorem qbd (r:Bx):okBx r=true↔(okPt r.lo=true/\okPt r.hi=true)/\r.lo.x<=r.hi.x/\r.lo.y<=r.hi.y:=by
 unfold okBx qa4
 cases h1:okPt r.lo<;>cases h2:okPt r.hi<;>simp
theorem qho {r:Bx} {p:Pt} (hr:okBx r=true) (hp:okPt p=true):bhas r p=true↔inR r p:=by
 simp [bhas,hr,hp,qo8,inR,and_assoc]
theorem q6p {a b:Pt} {lx ly hx hy:Int} (h:sat a b ⟨⟨lx,ly⟩,⟨hx,hy⟩⟩):sat (ry a) (ry b) ⟨⟨lx,-hy⟩,⟨hx,-ly⟩⟩:=by
 obtain⟨h1,h2,h3⟩:=h
 have e:∀a b:Pt,¬ qf4 a b ⟨⟨lx,ly⟩,⟨hx,hy⟩⟩->¬ qf4 (ry b) (ry a) ⟨⟨lx,-hy⟩,⟨hx,-ly⟩⟩:=fun a b hn k=>by
  apply hn
  unfold qf4 at*
  simp only at*
  have c1:=qf1 b a ⟨lx,ly⟩;have c2:=qf1 b a ⟨hx,ly⟩;have c3:=qf1 b a ⟨lx,hy⟩;have c4:=qf1 b a ⟨hx,hy⟩;rw [qbx a b] at c1 c2 c3 c4
  simp only [ry] at*
  omega
 refine⟨?_,e b a h3,e a b h2⟩
 simp only [ry] at*
 omega
theorem q4d {a b:Pt} {r:Bx} (oa:okPt a=true) (ob:okPt b=true) (hr:okBx r=true) (hs:sat a b r) (dx:a.x<=b.x) (na:¬ inR r a) (nb:¬ inR r b):
 (qbr a b r.lo r.hi=true\/qbr a b ⟨r.lo.x,r.hi.y⟩ ⟨r.hi.x,r.lo.y⟩=true)/\
 (((qbr a b r.lo ⟨r.hi.x,r.lo.y⟩=true\/qbr a b ⟨r.hi.x,r.lo.y⟩ r.hi=true)\/qbr a b r.hi ⟨r.lo.x,r.hi.y⟩=true)\/qbr a b ⟨r.lo.x,r.hi.y⟩ r.lo=true):=by
 obtain⟨⟨ol,oh⟩,hW,hH⟩:=(qbd r).1 hr;obtain⟨⟨lx,ly⟩,⟨hx,hy⟩⟩:=r;obtain⟨ax,ay⟩:=a;obtain⟨bx,b_y⟩:=b
 simp only at*
 rcases Int.le_total ay b_y with dy|dy
 · obtain⟨m1,m2⟩:=qu3 oa ob ol oh hW hH hs dx dy na nb
   refine⟨.inr m1,?_⟩
   rcases m2 with m2|m2
   · exact .inl (.inl (.inl m2))
   · exact .inr m2
 · have h:=q6p hs
   have hn:∀x y,¬ inR ⟨⟨lx,ly⟩,⟨hx,hy⟩⟩ ⟨x,y⟩->¬ inR ⟨⟨lx,-hy⟩,⟨hx,-ly⟩⟩ ⟨x,-y⟩:=fun x y h k=>h (by unfold inR at*;simp only at*;omega)
   have r1:=qdy ⟨lx,hy⟩;have r2:=qdy ⟨hx,ly⟩
   obtain⟨m1,m2⟩:=qu3 (ax:=ax) (ay:= -ay) (bx:=bx) (b_y:= -b_y) (lx:=lx) (ly:= -hy) (hx:=hx) (hy:= -ly) (by have:=qdy ⟨ax,ay⟩;rw [oa] at this;exact this) (by have:=qdy ⟨bx,b_y⟩;rw [ob] at this;exact this)
    (by rw [qa6] at*;simp only at*;omega) (by rw [qa6] at*;simp only at*;omega) hW oQ h dx oQ (hn _ _ na) (hn _ _ nb)
   have k1:=qor ⟨ax,ay⟩ ⟨bx,b_y⟩ ⟨lx,ly⟩ ⟨hx,hy⟩;have k2:=qor ⟨ax,ay⟩ ⟨bx,b_y⟩ ⟨lx,hy⟩ ⟨hx,hy⟩;have k3:=qor ⟨ax,ay⟩ ⟨bx,b_y⟩ ⟨lx,ly⟩ ⟨lx,hy⟩;simp only [ry] at k1 k2 k3;rw [k1] at m1;rw [k2,k3] at m2;refine⟨.inl m1,?_⟩
   rcases m2 with m2|m2
   · rw [qia] at m2
     exact .inl (.inr m2)
   · rw [qia] at m2
     exact .inr m2
theorem qu4 {a b:Pt} {r:Bx} (oa:okPt a=true) (ob:okPt b=true) (hr:okBx r=true) (hs:sat a b r) (na:¬ inR r a) (nb:¬ inR r b):
 (qbr a b r.lo r.hi=true\/qbr a b ⟨r.lo.x,r.hi.y⟩ ⟨r.hi.x,r.lo.y⟩=true)/\
 (((qbr a b r.lo ⟨r.hi.x,r.lo.y⟩=true\/qbr a b ⟨r.hi.x,r.lo.y⟩ r.hi=true)\/qbr a b r.hi ⟨r.lo.x,r.hi.y⟩=true)\/qbr a b ⟨r.lo.x,r.hi.y⟩ r.lo=true):=by
 rcases Int.le_total a.x b.x with dx|dx
 · exact q4d oa ob hr hs dx na nb
 · have:=q4d ob oa hr (qhe hs) dx nb na
   simp only [qly a b] at this;exact this
theorem ql4 {r:Bx} (hr:okBx r=true):(inR r r.lo/\inR r r.hi)/\inR r ⟨r.lo.x,r.hi.y⟩/\inR r ⟨r.hi.x,r.lo.y⟩:=by
 have:=(qbd r).1 hr;unfold inR
 simp only
 omega
theorem qkn {a b:Pt} {r:Bx} (oa:okPt a=true) (ob:okPt b=true) (hr:okBx r=true):mbox a b r=true↔sat a b r:=by
 obtain⟨⟨c1,c2⟩,c3,c4⟩:=ql4 hr
 simp only [mbox,oa,ob,hr,Bool.and_self,Bool.true_and,Bool.or_eq_true,qho hr oa,qho hr ob]
 constructor
 · rintro(((h|h)|h)|h)
   · exact qla h
   · exact qhe (qla h)
   · exact qd6 c1 c2 h
   · exact qd6 c3 c4 h
 · intro h
   by_cases na:inR r a
   · exact .inl (.inl (.inl na))
   by_cases nb:inR r b
   · exact .inl (.inl (.inr nb))
   rcases(qu4 oa ob hr h na nb).1 with m|m
   · exact .inl (.inr m)
   · exact .inr m
theorem qqe {a b:Pt} {r:Bx} (oa:okPt a=true) (ob:okPt b=true) (hr:okBx r=true):qzl a b r=true↔sat a b r:=by
 obtain⟨⟨c1,c2⟩,c3,c4⟩:=ql4 hr
 simp only [qzl,oa,ob,hr,Bool.and_self,Bool.true_and,Bool.or_eq_true,qho hr oa,qho hr ob]
 constructor
 · rintro(((((h|h)|h)|h)|h)|h)
   · exact qla h
   · exact qhe (qla h)
   · exact qd6 c1 c4 h
   · exact qd6 c4 c2 h
   · exact qd6 c2 c3 h
   · exact qd6 c3 c1 h
 · intro h
   by_cases na:inR r a
   · exact .inl (.inl (.inl (.inl (.inl na))))
   by_cases nb:inR r b
   · exact .inl (.inl (.inl (.inl (.inr nb))))
   rcases(qu4 oa ob hr h na nb).2 with ((m|m)|m)|m
   · exact .inl (.inl (.inl (.inr m)))
   · exact .inl (.inl (.inr m))
   · exact .inl (.inr m)
   · exact .inr m
theorem q5f (a b:Pt) (r:Bx):mbox a b r=qzl a b r:=by
 by_cases h:(okPt a&&okPt b&&okBx r)=true
 · have oa:okPt a=true:=by simp_all
   have ob:okPt b=true:=by simp_all
   have hr:okBx r=true:=by simp_all
   rw [Bool.eq_iff_iff,qkn oa ob hr,qqe oa ob hr]
 · have h:(okPt a&&okPt b&&okBx r)=false:=by simpa using h
   rw [mbox,qzl,h]
   rfl
/- the qc7 of a ray's crossings: it telescopes;it stays where no edge is met -/
def parF (c:Nat->Bool):Nat->Bool
 | 0=>false
 | k+1=>xor (parF c k) (c k)
theorem qh6 (l:List Pt) (p:Pt) (k:Nat):qc7 l p k=parF (fun i=>qbv (pt l i) (nx l i) p) k:=by
 induction k with
 | zero=>rfl
 | succ k ih=>rw [qc7,parF,ih]
theorem q2d (c d:Nat->Bool) (k:Nat):xor (parF c k) (parF d k)=parF (fun i=>xor (c i) (d i)) k:=by
 induction k with
 | zero=>rfl
 | succ k ih=>
   rw [parF,parF,parF,<-ih]
   cases parF c k<;>cases parF d k<;>cases c k<;>cases d k<;>rfl
theorem qp5 {c:Nat->Bool} {l:List Pt} {g:Pt->Bool} (h:∀i,i<l.length->c i=xor (g (pt l i)) (g (nx l i))):parF c l.length=false:=by
 have step:∀k,k<l.length->parF c k=xor (g (pt l 0)) (g (pt l k)):=by
  intro k
  induction k with
  | zero=>intro _;rw [parF];cases g (pt l 0)<;>rfl
  | succ k ih=>
    intro hk
    rw [parF,ih oQ,h k oQ,qiz hk]
    cases g (pt l 0)<;>cases g (pt l k)<;>cases g (pt l (k+1))<;>rfl
 cases hn:l.length with
 | zero=>rfl
 | succ m=>
   rw [parF,step m oQ,h m oQ,qsg oQ]
   cases g (pt l 0)<;>cases g (pt l m)<;>rfl
theorem qh7 {l:List Pt} {p q:Pt} {g:Pt->Bool} (h:∀i,i<l.length->xor (qbv (pt l i) (nx l i) p) (qbv (pt l i) (nx l i) q)=xor (g (pt l i)) (g (nx l i))):
 qc7 l p l.length=qc7 l q l.length:=by
 have e:xor (qc7 l p l.length) (qc7 l q l.length)=false:=by
  rw [qh6,qh6,q2d]
  exact qp5 h
 revert e
 cases qc7 l p l.length<;>cases qc7 l q l.length<;>simp
theorem qd0 (a b p:Pt):qbv b a p=qbv a b p:=by
 unfold qbv
 by_cases h1:b.y<a.y
 · rw [if_pos h1,if_neg oQ]
 · rw [if_neg h1]
   by_cases h2:a.y<b.y
   · rw [if_pos h2]
   · rw [if_neg h2]
     have e:a.y=b.y:=oQ
     have e1:(decide (b.y<=p.y)&&decide (p.y<a.y))=false:=by
      rw [Bool.and_eq_false_iff]
      by_cases h:b.y<=p.y
      · right;simp;omega
      · left;simp;omega
     have e2:(decide (a.y<=p.y)&&decide (p.y<b.y))=false:=by
      rw [Bool.and_eq_false_iff]
      by_cases h:a.y<=p.y
      · right;simp;omega
      · left;simp;omega
     rw [e1,e2]
     rfl
theorem qda {a b p:Pt} (oa:okPt a=true) (ob:okPt b=true) (op:okPt p=true) (h:a.y<=b.y):qbv a b p=decide (a.y<=p.y/\p.y<b.y/\0<qae a b p):=by
 have e:qdn a b p=qae a b p:=by simp [qdn,oa,ob,op]
 rw [qbv,if_neg oQ,e]
 by_cases h1:a.y<=p.y<;>by_cases h2:p.y<b.y<;>by_cases h3:0<qae a b p<;>simp [h1,h2,h3]
theorem qft {a b p:Pt} (h1:a.y<=p.y) (h2:p.y<b.y) (ha:a.x<p.x) (hb:b.x<p.x):qae a b p<0:=by
 unfold qae;have e1:(b.x-a.x)*(p.y-a.y)<=(p.x-a.x)*(p.y-a.y):=Int.mul_le_mul_of_nonneg_right oQ oQ
 have e2:0<(p.x-a.x)*(b.y-p.y):=Int.mul_pos oQ oQ
 (simp only [Int.sub_mul,Int.mul_sub,Int.add_mul,Int.mul_add,Int.neg_mul,Int.mul_neg,Int.mul_comm,Int.mul_left_comm,Int.mul_assoc] at*;omega)
theorem qgp {a b p:Pt} (h1:a.y<=p.y) (h2:p.y<b.y) (ha:p.x<a.x) (hb:p.x<b.x):0<qae a b p:=by
 unfold qae;have e1:(p.x-a.x)*(p.y-a.y)<=(b.x-a.x)*(p.y-a.y):=Int.mul_le_mul_of_nonneg_right oQ oQ
 have e2:0<(a.x-p.x)*(b.y-p.y):=Int.mul_pos oQ oQ
 (simp only [Int.sub_mul,Int.mul_sub,Int.add_mul,Int.mul_add,Int.neg_mul,Int.mul_neg,Int.mul_comm,Int.mul_left_comm,Int.mul_assoc] at*;omega)
theorem qol {a b:Pt} {u:Bx} (h:¬ sat a b u):(u.hi.x<a.x/\u.hi.x<b.x)\/(a.x<u.lo.x/\b.x<u.lo.x)\/(u.hi.y<a.y/\u.hi.y<b.y)\/(a.y<u.lo.y/\b.y<u.lo.y)\/qf4 a b u\/qf4 b a u:=by
 unfold sat at h
 by_cases h1:qf4 a b u
 · simp [h1]
 by_cases h2:qf4 b a u
 · simp [h2]
 simp only [h1,h2,not_false_eq_true,and_true,or_false] at*
 omega
theorem qlb {a b p q:Pt} {u:Bx} (h:¬ sat a b u) (hp:inR u p) (hq:inR u q) (p1:a.y<=p.y) (p2:p.y<b.y) (q1:a.y<=q.y) (q2:q.y<b.y):0<qae a b p↔0<qae a b q:=by
 have hn:=qol h;have hp' :=hp;have hq' :=hq;unfold inR at hp hq
 rcases hn with k|k|k|k|k|k
 · have:=qgp p1 p2 oQ oQ
   have:=qgp q1 q2 oQ oQ
   omega
 · have:=qft p1 p2 oQ oQ
   have:=qft q1 q2 oQ oQ
   omega
 · omega
 · omega
 · have:=qa0 k hp'
   have:=qa0 k hq'
   omega
 · have k1:=qa0 k hp'
   have k2:=qa0 k hq';rw [qbx] at k1 k2
   omega
theorem qno (a b:Pt) (x:Int):qae a b ⟨x,b.y⟩=(b.y-a.y)*(b.x-x):=by unfold qae;(simp only [Int.sub_mul,Int.mul_sub,Int.add_mul,Int.mul_add,Int.neg_mul,Int.mul_neg,Int.mul_comm,Int.mul_left_comm,Int.mul_assoc] at*;omega)
theorem qnp (a b:Pt) (x:Int):qae a b ⟨x,a.y⟩=(b.y-a.y)*(a.x-x):=by unfold qae;(simp only [Int.sub_mul,Int.mul_sub,Int.add_mul,Int.mul_add,Int.neg_mul,Int.mul_neg,Int.mul_comm,Int.mul_left_comm,Int.mul_assoc] at*;omega)
theorem qgd {t v:Int} (ht:0<t):(0<t*v↔0<v)/\(t*v<0↔v<0):=by
 rcases Int.lt_trichotomy v 0 with h|h|h
 · have:=Int.mul_neg_of_pos_of_neg ht h
   omega
 · subst h;simp
 · have:=Int.mul_pos ht h
   omega
theorem q6j {a b p:Pt} {u:Bx} (h:¬ sat a b u) (hp:inR u p) (hb:inR u ⟨p.x,b.y⟩) (p1:a.y<=p.y) (p2:p.y<b.y):0<qae a b p↔p.x<b.x:=by
 have hn:=qol h;have hp' :=hp;have hb' :=hb;have hc:=qno a b p.x;have hm:=qgd (t:=b.y-a.y) (v:=b.x-p.x) oQ
 rw [<-hc] at hm;unfold inR at hp hb
 simp only at hb
 rcases hn with k|k|k|k|k|k
 · have:=qgp p1 p2 oQ oQ
   omega
 · have:=qft p1 p2 oQ oQ
   omega
 · omega
 · omega
 · have:=qa0 k hp'
   have:=qa0 k hb'
   omega
 · have k1:=qa0 k hp'
   have k2:=qa0 k hb';rw [qbx] at k1 k2
   omega
theorem q6k {a b p:Pt} {u:Bx} (h:¬ sat a b u) (hp:inR u p) (ha:inR u ⟨p.x,a.y⟩) (p1:a.y<=p.y) (p2:p.y<b.y):0<qae a b p↔p.x<a.x:=by
 have hn:=qol h;have hp' :=hp;have ha' :=ha;have hc:=qnp a b p.x;have hm:=qgd (t:=b.y-a.y) (v:=a.x-p.x) oQ
 rw [<-hc] at hm;unfold inR at hp ha
 simp only at ha
 rcases hn with k|k|k|k|k|k
 · have:=qgp p1 p2 oQ oQ
   omega
 · have:=qft p1 p2 oQ oQ
   omega
 · omega
 · omega
 · have:=qa0 k hp'
   have:=qa0 k ha'
   omega
 · have k1:=qa0 k hp'
   have k2:=qa0 k ha';rw [qbx] at k1 k2
   omega
theorem q4u {a b:Pt} {x:Int} {u:Bx} (h:¬ sat a b u) (ha:inR u ⟨x,a.y⟩) (hb:inR u ⟨x,b.y⟩) (hab:a.y<=b.y):x<a.x↔x<b.x:=by
 have hn:=qol h;have ha' :=ha;have hb' :=hb;unfold inR at ha hb
 simp only at ha hb
 have ca:=qnp a b x;have cb:=qno a b x
 have key:∀t:Int,0<=t->(0<t*(a.x-x)->0<t*(b.x-x)->(x<a.x↔x<b.x))/\(t*(a.x-x)<0->t*(b.x-x)<0->(x<a.x↔x<b.x)):=by
  intro t ht
  rcases Int.lt_or_eq_of_le ht with h|h
  · have m1:=qgd (v:=a.x-x) h
    have m2:=qgd (v:=b.x-x) h
    constructor<;>intro _ _<;>omega
  · subst h
    simp
 have key:=key (b.y-a.y) oQ
 rw [<-ca,<-cb] at key
 rcases hn with k|k|k|k|k|k
 · omega
 · omega
 · omega
 · omega
 · exact key.1 (qa0 k ha') (qa0 k hb')
 · have k1:=qa0 k ha'
   have k2:=qa0 k hb';rw [qbx] at k1 k2;exact key.2 oQ oQ
theorem q61 {a b p q:Pt} {u:Bx} (oa:okPt a=true) (ob:okPt b=true) (op:okPt p=true) (oq:okPt q=true) (h:¬ sat a b u) (hp:inR u p) (hq:inR u q) (e:p.y=q.y):qbv a b p=qbv a b q:=by
 have go:∀a b:Pt,okPt a=true->okPt b=true->¬ sat a b u->a.y<=b.y->qbv a b p=qbv a b q:=by
  intro a b oa ob h hab
  rw [qda oa ob op hab,qda oa ob oq hab,decide_eq_decide,e]
  constructor
  · rintro⟨h1,h2,h3⟩
    exact⟨h1,h2,(qlb h hp hq oQ oQ h1 h2).1 h3⟩
  · rintro⟨h1,h2,h3⟩
    exact⟨h1,h2,(qlb h hp hq oQ oQ h1 h2).2 h3⟩
 rcases Int.le_total a.y b.y with hab|hab
 · exact go a b oa ob h hab
 · rw [<-qd0 a b p,<-qd0 a b q]
   exact go b a ob oa (fun k=>h (qhe k)) hab
def passed (x y y' :Int) (v:Pt):Bool:=decide (y<v.y/\v.y<=y' /\x<v.x)
theorem q37 {a b p q:Pt} {u:Bx} (oa:okPt a=true) (ob:okPt b=true) (op:okPt p=true) (oq:okPt q=true) (h:¬ sat a b u) (hp:inR u p) (hq:inR u q) (e:p.x=q.x) (hy:p.y<=q.y):
 xor (qbv a b p) (qbv a b q)=xor (passed p.x p.y q.y a) (passed p.x p.y q.y b):=by
 have go:∀a b:Pt,okPt a=true->okPt b=true->¬ sat a b u->a.y<=b.y->xor (qbv a b p) (qbv a b q)=xor (passed p.x p.y q.y a) (passed p.x p.y q.y b):=by
  intro a b oa ob h hab
  rw [qda oa ob op hab,qda oa ob oq hab]
  unfold passed;have hmid:∀y,p.y<=y->y<=q.y->inR u ⟨p.x,y⟩:=fun y h1 h2=>by unfold inR at*;simp only at*;omega
  by_cases c1:b.y<=p.y
  · rw [decide_eq_false oQ,decide_eq_false oQ,decide_eq_false oQ,decide_eq_false oQ]
  by_cases c2:q.y<a.y
  · rw [decide_eq_false oQ,decide_eq_false oQ,decide_eq_false oQ,decide_eq_false oQ]
  by_cases c3:a.y<=p.y
  · by_cases c4:b.y<=q.y
    · have k:=q6j h hp (hmid b.y oQ c4) c3 oQ
      rw [decide_eq_false (p:=a.y<=q.y/\_) oQ,decide_eq_false (p:=p.y<a.y/\_) oQ,Bool.xor_false,Bool.false_xor,decide_eq_decide]
      omega
    · have k:=qlb h hp hq c3 oQ oQ oQ
      rw [decide_eq_false (p:=p.y<a.y/\_) oQ,decide_eq_false (p:=p.y<b.y/\b.y<=q.y/\_) oQ]
      have e:decide (a.y<=p.y/\p.y<b.y/\0<qae a b p)=decide (a.y<=q.y/\q.y<b.y/\0<qae a b q):=by
       rw [decide_eq_decide];omega
      rw [e]
      cases decide (a.y<=q.y/\q.y<b.y/\0<qae a b q)<;>rfl
  · by_cases c4:b.y<=q.y
    · have k:=q4u h (hmid a.y oQ oQ) (hmid b.y oQ c4) hab
      rw [decide_eq_false (p:=a.y<=p.y/\_) oQ,decide_eq_false (p:=a.y<=q.y/\_) oQ]
      have e:decide (p.y<a.y/\a.y<=q.y/\p.x<a.x)=decide (p.y<b.y/\b.y<=q.y/\p.x<b.x):=by
       rw [decide_eq_decide];omega
      rw [e]
      cases decide (p.y<b.y/\b.y<=q.y/\p.x<b.x)<;>rfl
    · have hm:=hmid a.y oQ oQ
      rw [e] at hm;have k:=q6k h hq hm oQ oQ
      rw [decide_eq_false (p:=a.y<=p.y/\_) oQ,decide_eq_false (p:=p.y<b.y/\b.y<=q.y/\_) oQ,Bool.xor_false,Bool.false_xor,decide_eq_decide]
      omega
 rcases Int.le_total a.y b.y with hab|hab
 · exact go a b oa ob h hab
 · rw [<-qd0 a b p,<-qd0 a b q,Bool.xor_comm (passed p.x p.y q.y a)]
   exact go b a ob oa (fun k=>h (qhe k)) hab
theorem qv8 {l:List Pt} {u:Bx} {p q:Pt} (hok:l.all okPt=true) (op:okPt p=true) (oq:okPt q=true) (hn:∀i,i<l.length->¬ sat (pt l i) (nx l i) u) (hp:inR u p) (hq:inR u q):
 qc7 l p l.length=qc7 l q l.length:=by
 have om:okPt ⟨p.x,q.y⟩=true:=by rw [qa6] at*;simp only;omega
 have hm:inR u ⟨p.x,q.y⟩:=by unfold inR at*;simp only;omega
 have e1:qc7 l ⟨p.x,q.y⟩ l.length=qc7 l q l.length:=by
  apply qh7 (g:=fun _=>false)
  intro i hi
  rw [q61 (qcc hok hi) (qds hok hi) om oq (hn i hi) hm hq rfl]
  cases qbv (pt l i) (nx l i) q<;>rfl
 rw [<-e1]
 rcases Int.le_total p.y q.y with h|h
 · exact qh7 fun i hi=>q37 (qcc hok hi) (qds hok hi) op om (hn i hi) hp hm rfl h
 · exact(qh7 fun i hi=>q37 (qcc hok hi) (qds hok hi) om op (hn i hi) hm hp rfl h).symm
/- plain laws of rings and boxes: the program's looks are the reference's -/
def inB (v b:Bx):Prop:=(v.lo.x<=b.lo.x/\b.hi.x<=v.hi.x)/\v.lo.y<=b.lo.y/\b.hi.y<=v.hi.y
theorem qgo (bs:List Bx):∀u:Bx,(∀b,b∈bs->qa4 b=0)->(qca u bs).2=0/\inB (qca u bs).1 u/\(∀b,b∈bs->inB (qca u bs).1 b)/\(∀v,inB v u->(∀b,b∈bs->inB v b)->inB v (qca u bs).1):=by
 induction bs with
 | nil=>intro u _;exact⟨rfl,by unfold inB qca;simp only;omega,fun b hb=>by simp at hb,fun v h _=>h⟩
 | cons b r ih=>
   intro u h;have h0:=h b sI
   rw [qca,if_pos h0]
   obtain⟨i1,i2,i3,i4⟩:=ih (qml u b) fun c hc=>h c (by simp [hc])
   refine⟨i1,?_,?_,?_⟩
   · revert i2
     generalize (qca (qml u b) r).1=R;unfold inB qml
     simp only
     omega
   · intro c hc
     rcases List.mem_cons.1 hc with rfl|hc
     · revert i2
       generalize (qca (qml u c) r).1=R;unfold inB qml
       simp only
       omega
     · exact i3 c hc
   · intro v hu hb
     refine i4 v ?_ fun c hc=>hb c (by simp [hc])
     have hbb:=hb b sI
     revert hu hbb;unfold inB qml
     simp only
     omega
theorem qe4 {l:List Pt} (h:qbi l=0):3<=l.length/\l.length<=64/\l.all okPt=true:=by
 unfold qbi at h
 split at h
 · omega
 · rename_i hn
   split at h
   · rename_i hok
     exact⟨by omega,by omega,hok⟩
   · omega
theorem q65 {l:List Pt} {i:Nat} (h:i<l.length):pt l i∈l:=by
 have e:pt l i=l[i]:=by rw [pt,zpy,zby h];rfl
 rw [e]
 exact List.getElem_mem h
theorem q6u {l:List Pt} {p:Pt} (h:p∈l):∃i,i<l.length/\pt l i=p:=by
 obtain⟨i,hi,e⟩:=List.getElem_of_mem h;exact⟨i,hi,by rw [pt,zpy,zby hi];exact e⟩
theorem qd7 {l:List Pt} (hl:1<=l.length) (hok:l.all okPt=true):(qco (l.map fun p=>⟨p,p⟩)).2=0/\(∀i,i<l.length->inR (qal l) (pt l i))/\(∀v,(∀i,i<l.length->inR v (pt l i))->inB v (qal l))/\okBx (qal l)=true:=by
 have hck:∀p,p∈l->qa4 ⟨p,p⟩=0:=fun p hp=>by rw [qnu,if_pos (List.all_eq_true.1 hok p hp)]
 match l,hl,hok,hck with
 | p::r,_,hok,hck=>
   have hs:=qgo ((p::r).map fun p=>⟨p,p⟩) ⟨p,p⟩ (by
    intro b hb;obtain⟨q,hq,rfl⟩:=zty.1 hb
    exact hck q hq)
   obtain⟨s1,s2,s3,s4⟩:=hs
   have h1:∀i,i<(p::r).length->inR (qal (p::r)) (pt (p::r) i):=by
    intro i hi;have:=s3 ⟨pt (p::r) i,pt (p::r) i⟩ (zty.2 ⟨_,q65 hi,rfl⟩);unfold inB at this;unfold inR;exact⟨this.1,this.2⟩
   have h2:∀v,(∀i,i<(p::r).length->inR v (pt (p::r) i))->inB v (qal (p::r)):=by
    intro v hv;refine s4 v ?_ ?_
    · have:=hv 0 sI
      exact⟨this.1,this.2⟩
    · intro b hb
      obtain⟨q,hq,rfl⟩:=zty.1 hb;obtain⟨i,hi,rfl⟩:=q6u hq;have:=hv i hi;exact⟨this.1,this.2⟩
   refine⟨s1,h1,h2,?_⟩
   rw [qbd]
   have a1:=h1 0 sI
   have a2:=h2 ⟨⟨-1073741823,-1073741823⟩,⟨1073741823,1073741823⟩⟩ (fun i hi=>by
    have:=(qa6 _).1 (qcc hok hi)
    exact this)
   rw [qa6,qa6]
   unfold inR at a1;unfold inB at a2
   simp only at a2
   omega
theorem qt4 {l:List Pt} {p:Pt} (hl:1<=l.length) (hok:l.all okPt=true) (op:okPt p=true) (h:qr4 l p=true):inR (qal l) p:=by
 obtain⟨_,hin,_,_⟩:=qd7 hl hok;have hin2:∀i,i<l.length->inR (qal l) (nx l i):=fun i hi=>hin _ (Nat.mod_lt _ oQ)
 apply Classical.byContradiction
 intro hno;unfold qr4 at h;rw [Bool.or_eq_true] at h
 rcases h with h|h
 · unfold qs2 at h
   rw [qb6] at h;obtain⟨i,hi,h⟩:=h;rw [qe8] at h;have h1:=hin i hi;have h2:=hin2 i hi
   apply hno
   unfold inR at*
   omega
 · have hz:qc7 l p l.length=false:=by
    have hup:∀(g:Pt->Bool),(∀a b:Pt,okPt a=true->okPt b=true->inR (qal l) a->inR (qal l) b->a.y<=b.y->qbv a b p=xor (g a) (g b))->qc7 l p l.length=false:=by
     intro g hg
     rw [qh6]
     apply qp5 (g:=g)
     intro i hi
     rcases Int.le_total (pt l i).y (nx l i).y with k|k
     · exact hg _ _ (qcc hok hi) (qds hok hi) (hin i hi) (hin2 i hi) k
     · have:=hg _ _ (qds hok hi) (qcc hok hi) (hin2 i hi) (hin i hi) k
       rw [qd0,Bool.xor_comm] at this;exact this
    by_cases c1:p.y<(qal l).lo.y
    · refine hup (fun _=>false) fun a b oa ob ha hb hab=> ?_
      rw [qda oa ob op hab]
      unfold inR at ha hb
      rw [decide_eq_false oQ]
      rfl
    by_cases c2:(qal l).hi.y<p.y
    · refine hup (fun _=>false) fun a b oa ob ha hb hab=> ?_
      rw [qda oa ob op hab]
      unfold inR at ha hb
      rw [decide_eq_false oQ]
      rfl
    by_cases c3:(qal l).hi.x<p.x
    · refine hup (fun _=>false) fun a b oa ob ha hb hab=> ?_
      rw [qda oa ob op hab]
      unfold inR at ha hb
      rw [decide_eq_false]
      · rfl
      · rintro⟨k1,k2,k3⟩
        have:=qft (a:=a) (b:=b) k1 k2 oQ oQ
        omega
    by_cases c4:p.x<(qal l).lo.x
    · refine hup (fun v=>decide (v.y<=p.y)) fun a b oa ob ha hb hab=> ?_
      rw [qda oa ob op hab]
      unfold inR at ha hb
      by_cases k1:a.y<=p.y
      · by_cases k2:p.y<b.y
        · have:=qgp (a:=a) (b:=b) k1 k2 oQ oQ
          rw [decide_eq_true oQ,decide_eq_true k1,decide_eq_false oQ]
          rfl
        · rw [decide_eq_false oQ,decide_eq_true k1,decide_eq_true oQ]
          rfl
      · rw [decide_eq_false oQ,decide_eq_false k1,decide_eq_false oQ]
        rfl
    · exfalso
      apply hno
      unfold inR
      omega
   rw [hz] at h
   cases h
def qob (l:List Pt) (b:Bx):Bool:=qr4 l b.lo||(List.range l.length).any (fun i=>qzl (pt l i) (nx l i) b)
theorem qoc {l:List Pt} {p:Pt} (h:qbi l=0) (op:okPt p=true):rhas l p=qr4 l p:=by simp [rhas,h,op]
theorem q5v {l:List Pt} {b:Bx} (h:qbi l=0) (hb:okBx b=true):cutS l b=qob l b:=by
 have ob:=((qbd b).1 hb).1.1;unfold cutS qob
 rw [qoc h ob,Bool.or_comm]
 congr 1;congr 1
 funext i
 exact q5f _ _ _
theorem q0f {l:List Pt} {a u:Bx} (h:qbi l=0) (ha:okBx a=true) (hu:okBx u=true) (hau:inB u a) (hc:cutS l a=true):cutS l u=true:=by
 obtain⟨h3,_,hok⟩:=qe4 h;have oa:=(qbd a).1 ha;have ou:=(qbd u).1 hu;have u1:inR u a.lo:=by unfold inB at hau;unfold inR;omega
 have u2:inR u a.hi:=by unfold inB at hau;unfold inR;omega
 have aa:inR a a.lo:=by unfold inR;omega
 unfold cutS at*
 rw [Bool.or_eq_true] at*
 by_cases hs:∃i,i<l.length/\sat (pt l i) (nx l i) u
 · obtain⟨i,hi,hs⟩:=hs
   left
   rw [qb6]
   exact⟨i,hi,(qkn (qcc hok hi) (qds hok hi) hu).2 hs⟩
 · have hn:∀i,i<l.length->¬ sat (pt l i) (nx l i) u:=fun i hi k=>hs ⟨i,hi,k⟩
   rcases hc with hc|hc
   · rw [qb6] at hc
     obtain⟨i,hi,hc⟩:=hc;exact absurd (q1p ((qkn (qcc hok hi) (qds hok hi) ha).1 hc) u1 u2) (hn i hi)
   · right
     rw [qoc h oa.1.1] at hc
     rw [qoc h ou.1.1]
     unfold qr4 at*
     rw [Bool.or_eq_true] at*
     rcases hc with hc|hc
     · exfalso
       unfold qs2 at hc;rw [qb6] at hc;obtain⟨i,hi,hc⟩:=hc;rw [qe8] at hc;refine hn i hi ⟨?_,qf9 u1 hc.2.1⟩;unfold inR at u1
       omega
     · right
       rw [<-qv8 hok oa.1.1 ou.1.1 hn u1 (by unfold inR;omega)]
       exact hc
/- plain laws of objects and queries: what the statements of chapter 6 say -/
theorem qev {o:Ob} (h:ckOb o=0):(qdk o=true/\okBx (qb2 o)=true)\/(o.kind=4/\qdk o=false/\qbi o.pts=0):=by
 obtain⟨k,l⟩:=o;unfold ckOb at h
 simp only at h
 split at h
 · rename_i e
   subst e
   left
   split at h
   · exact⟨rfl,by simpa [okBx,qb2] using h⟩
   · omega
 · split at h
   · rename_i e
     subst e
     left
     split at h
     · refine⟨rfl, ?_⟩
       unfold qmh at h
       split at h
       · rename_i hp
         split at h
         · omega
         · rw [qbd]
           simp only [qb2,qa6] at*
           simp
           omega
       · omega
     · omega
   · split at h
     · rename_i e
       subst e
       left
       split at h
       · exact⟨rfl,by simpa [okBx,qb2] using h⟩
       · omega
     · split at h
       · rename_i n1 n2 n3 e
         subst e;exact .inr ⟨rfl,rfl,h⟩
       · omega
theorem qb4 {o:Ob} (h:ckOb o=0):okBx (qas o)=true:=by
 rcases qev h with ⟨h1,h2⟩|⟨_,h1,h2⟩
 · rw [qas,h1];exact h2
 · rw [qas,h1]
   obtain⟨a,_,b⟩:=qe4 h2;exact(qd7 oQ b).2.2.2
theorem qcw {r:Bx}:okBx r=true↔qa4 r=0:=by unfold okBx;rw [decide_eq_true_eq]
theorem qgf {o:Ob} {r:Bx} {l:List Pt} (ho:ckOb o=0) (hr:qa4 r=0):qbu o ⟨1,r,l⟩=if qdk o then qcd (qb2 o) r else cutS o.pts r:=by
 unfold qbu
 rw [if_pos ⟨ho,by simpa [ckQu] using hr⟩,if_pos rfl]
 rfl
theorem q2w {o:Ob} {r:Bx} {l:List Pt} (ho:ckOb o=0) (hr:qa4 r=0):qbu o ⟨2,r,l⟩=qg6 (qas o) r:=by
 unfold qbu
 rw [if_pos ⟨ho,by simpa [ckQu] using hr⟩,if_neg sI,if_pos rfl]
theorem q34 {a b:Bx} (ha:qa4 a=0) (hb:qa4 b=0):(qco [a,b]).2=0/\okBx (qco [a,b]).1=true/\inB (qco [a,b]).1 a/\inB (qco [a,b]).1 b:=by
 have h:=qgo [a,b] a (by intro c hc;simp at hc;rcases hc with rfl|rfl<;>assumption)
 obtain⟨h1,h2,h3,h4⟩:=h;have hA:=(qbd a).1 (qcw.2 ha);have hB:=(qbd b).1 (qcw.2 hb);refine⟨h1,?_,h3 a sI,h3 b sI⟩
 have hl:inB ⟨⟨-1073741823,-1073741823⟩,⟨1073741823,1073741823⟩⟩ (qco [a,b]).1:=h4 _ (by rw [qa6,qa6] at hA;unfold inB;simp only;omega) (by
  intro c hc;rw [qa6,qa6] at hA hB
  simp at hc
  rcases hc with rfl|rfl<;>(unfold inB;simp only;omega))
 have h3a:=h3 a sI
 have e:(qco [a,b]).1=(qca a [a,b]).1:=rfl
 rw [qbd,qa6,qa6,e]
 rw [e] at hl;unfold inB at hl h3a
 simp only at hl
 rw [qa6,qa6] at hA
 omega
theorem qf2 {a b:Bx} (ha:okBx a=true) (hb:okBx b=true):qcd a b=true↔(a.lo.x<=b.hi.x/\b.lo.x<=a.hi.x)/\a.lo.y<=b.hi.y/\b.lo.y<=a.hi.y:=by
 simp [qcd,ha,hb,qie,and_assoc]
theorem qtl {a b:Bx} (ha:okBx a=true) (hb:okBx b=true):qg6 a b=true↔inB b a:=by
 have hA:=(qbd a).1 ha
 simp only [qg6,ha,Bool.true_and,ziy,qho hb hA.1.1,qho hb hA.1.2]
 unfold inR inB
 omega
theorem qv9 {o:Ob} {a u:Bx} (ho:ckOb o=0) (ha:qa4 a=0) (hu:okBx u=true) (h:inB u a) (hm:qbu o ⟨1,a,[]⟩=true):qbu o ⟨1,u,[]⟩=true:=by
 rw [qgf ho ha] at hm
 rw [qgf ho (qcw.1 hu)]
 rcases qev ho with ⟨h1,h2⟩|⟨_,h1,h2⟩
 · rw [h1,if_pos rfl] at hm
   rw [h1,if_pos rfl]
   rw [qf2 h2 (qcw.2 ha)] at hm
   rw [qf2 h2 hu]
   unfold inB at h
   omega
 · rw [h1,if_neg sI] at hm
   rw [h1,if_neg sI]
   exact q0f h2 (qcw.2 ha) hu h hm
theorem qlu {o:Ob} (ho:ckOb o=0):qbu o ⟨1,qas o,[]⟩=true:=by
 have hb:=qb4 ho
 rw [qgf ho (qcw.1 hb)]
 rcases qev ho with ⟨h1,h2⟩|⟨_,h1,h2⟩
 · have e:qas o=qb2 o:=by rw [qas,h1];rfl
   rw [h1,if_pos rfl,e,qf2 h2 h2]
   have:=(qbd _).1 h2
   omega
 · have e:qas o=qal o.pts:=by rw [qas,h1];rfl
   rw [h1,if_neg sI,e]
   obtain⟨h3,_,hok⟩:=qe4 h2;obtain⟨_,hin,_,hbk⟩:=qd7 oQ hok
   unfold cutS
   rw [Bool.or_eq_true]
   left
   rw [qb6]
   refine⟨0,by omega,?_⟩
   rw [qkn (qcc hok oQ) (qds hok oQ) hbk]
   exact qla (hin 0 oQ)
structure Fr where
 num:Nat
 den:Nat
instance:DecidableEq Fr:=fun a b=>
 if h:a.num=b.num/\a.den=b.den then isTrue (by cases a;cases b;simp_all) else isFalse (fun e=>h (by subst e;exact⟨rfl,rfl⟩))
instance:Inhabited Fr:=⟨⟨0,0⟩⟩
def qo0:Fr:=⟨0,0⟩
def lowF (n d:Nat):Fr:=⟨n/Nat.gcd d (n%d),d/Nat.gcd d (n%d)⟩
def cmpP (a b c d:Nat):Int:=sgn (((a*b:Nat):Int)-((c*d:Nat):Int))
def cmpF (a b:Fr):Int:=
 if a.den=0 then(if b.den=0 then 0 else 1) else if b.den=0 then -1 else cmpP a.num b.den b.num a.den
def qmv (o:Fr):List Fr->Fr
 | []=>o
 | d::r=>qmv (if cmpF d o<0 then d else o) r
def minF:List Fr->Fr
 | []=>qo0
 | d::r=>qmv d r
theorem q5p (d n:Nat):Nat.gcd d (n%d)=Nat.gcd n d:=by rw [Nat.gcd_comm n d,Nat.gcd_rec d n,Nat.gcd_comm]
theorem qot {n d:Nat} (hd:0<d):(lowF n d).num*d=n*(lowF n d).den/\0<(lowF n d).den/\(lowF n d).den<=d/\(lowF n d).num<=n:=by
 unfold lowF
 rw [q5p]
 have h1:=Nat.gcd_dvd_left n d;have h2:=Nat.gcd_dvd_right n d;have h3:0<Nat.gcd n d:=Nat.gcd_pos_of_pos_right n hd
 simp only
 refine⟨?_,Nat.div_pos (Nat.le_of_dvd hd h2) h3,Nat.div_le_self _ _,Nat.div_le_self _ _⟩
 rw [<-Nat.mul_div_assoc _ h2,Nat.div_mul_right_comm h1]
theorem q2y (n:Nat):lowF n 1=⟨n,1⟩:=by unfold lowF;simp
theorem q6m (n:Int):sgn n<=0↔n<=0:=by unfold sgn;split<;>(try split)<;>omega
theorem q6l (n:Int):sgn n<0↔n<0:=by unfold sgn;split<;>(try split)<;>omega
theorem qo4 {a b:Fr} (ha:0<a.den) (hb:0<b.den):cmpF a b<=0↔a.num*b.den<=b.num*a.den:=by
 unfold cmpF
 rw [if_neg oQ,if_neg oQ]
 unfold cmpP
 rw [q6m]
 omega
theorem qzg (l:List Fr):∀o,qmv o l=o\/qmv o l∈l:=by
 induction l with
 | nil=>intro o;exact .inl rfl
 | cons d r ih=>
   intro o
   rw [qmv]
   rcases ih (if cmpF d o<0 then d else o) with h|h
   · rw [h]
     split
     · exact .inr sI
     · exact .inl rfl
   · exact .inr (by simp [h])
theorem qon {l:List Fr} (h:l≠ []):minF l∈l:=by
 cases l with
 | nil=>exact absurd rfl h
 | cons d r=>
   rw [minF]
   rcases qzg r d with h|h
   · rw [h];simp
   · simp [h]
def sqs (x y:Int):Nat:=x.natAbs*x.natAbs+y.natAbs*y.natAbs
def boxN (b:Bx) (p:Pt):Nat:=sqs (gap p.x b.lo.x b.hi.x) (gap p.y b.lo.y b.hi.y)
def segF (a b p:Pt):Fr:=
 if okPt a&&okPt b&&okPt p then
  (if a=b\/dotR a b p<=0 then⟨sqs (a.x-p.x) (a.y-p.y),1⟩
   else if dotR b a p<=0 then⟨sqs (b.x-p.x) (b.y-p.y),1⟩
   else lowF ((qae a b p).natAbs*(qae a b p).natAbs) (sqs (a.x-b.x) (a.y-b.y)))
 else qo0
def qgq (l:List Pt) (p:Pt):List Fr:=(List.range l.length).map fun i=>segF (pt l i) (nx l i) p
def qcf (o:Ob) (p:Pt):Fr:=
 if ckOb o=0/\okPt p=true then(if qdk o then⟨boxN (qb2 o) p,1⟩ else if rhas o.pts p then⟨0,1⟩ else minF (qgq o.pts p)) else qo0
theorem qtz {x y:Int} (h:sqs x y=0):x=0/\y=0:=by
 unfold sqs at h;have h1:x.natAbs*x.natAbs=0:=oQ
 have h2:y.natAbs*y.natAbs=0:=oQ
 have h3:=Nat.mul_eq_zero.1 h1;have h4:=Nat.mul_eq_zero.1 h2
 omega
theorem qrp (x y:Int):((sqs x y:Nat):Int)=x*x+y*y:=by
 unfold sqs
 rw [Int.natCast_add,Int.natAbs_mul_self,Int.natAbs_mul_self]
theorem qqb (x:Int):((x.natAbs*x.natAbs:Nat):Int)=x*x:=Int.natAbs_mul_self
theorem qx2 (x:Int):0<=x*x:=by rw [<-qqb];omega
theorem qjl {a b:Pt} (h:a≠b):0<sqs (a.x-b.x) (a.y-b.y):=by
 rcases Nat.eq_zero_or_pos (sqs (a.x-b.x) (a.y-b.y)) with h0|h0
 · obtain⟨h1,h2⟩:=qtz h0
   exact absurd (Pt.ext' oQ oQ) h
 · exact h0
theorem qt0 {x y x' y' :Int} (h1:x.natAbs<=x'.natAbs) (h2:y.natAbs<=y'.natAbs):sqs x y<=sqs x' y' :=Nat.add_le_add (Nat.mul_le_mul h1 h1) (Nat.mul_le_mul h2 h2)
theorem q1o {a b p:Pt} (oa:okPt a=true) (ob:okPt b=true) (op:okPt p=true):0<(segF a b p).den:=by
 unfold segF
 rw [oa,ob,op]
 simp only [Bool.and_self,↓reduceIte]
 split
 · exact Nat.one_pos
 · rename_i h
   split
   · exact Nat.one_pos
   · exact(qot (qjl (fun e=>h (.inl e)))).2.1
theorem qqw {o:Ob} {p:Pt} (ho:ckOb o=0) (op:okPt p=true) (h:qdk o=true):qcf o p=⟨boxN (qb2 o) p,1⟩:=by
 unfold qcf;rw [if_pos ⟨ho,op⟩,if_pos h]
theorem qjx {o:Ob} {p:Pt} (ho:ckOb o=0) (op:okPt p=true) (h:qdk o=false):qcf o p=if rhas o.pts p then⟨0,1⟩ else minF (qgq o.pts p):=by
 unfold qcf;rw [if_pos ⟨ho,op⟩,if_neg (by simp [h])]
theorem qmj {o:Ob} (h:qdk o=true):qas o=qb2 o:=by unfold qas;rw [if_pos h]
theorem qka {o:Ob} (h:qdk o=false):qas o=qal o.pts:=by unfold qas;rw [if_neg (by simp [h])]
theorem qy4 {p:Pt} (op:okPt p=true):okBx ⟨p,p⟩=true:=by
 rw [qbd]
 exact⟨⟨op,op⟩,Int.le_refl _,Int.le_refl _⟩
theorem quz (n l h:Int) (hl:l<=h):gap n l h=0↔l<=n/\n<=h:=by unfold gap;omega
theorem qwp (n l h:Int):0<=gap n l h:=by unfold gap;omega
theorem q0n {b:Bx} {p:Pt} (hb:okBx b=true):boxN b p=0↔inR b p:=by
 obtain⟨_,h1,h2⟩:=(qbd b).1 hb;unfold boxN inR
 rw [<-quz p.x _ _ h1,<-quz p.y _ _ h2]
 refine⟨qtz,?_⟩;rintro⟨h1,h2⟩
 rw [h1,h2]
 rfl
theorem q0q {b:Bx} {p:Pt} (hb:okBx b=true) (op:okPt p=true):qcd b ⟨p,p⟩=true↔inR b p:=by
 rw [qf2 hb (qy4 op)]
 unfold inR;exact⟨fun h=>⟨⟨h.1.1,h.1.2⟩,h.2.1,h.2.2⟩,fun h=>⟨⟨h.1.1,h.1.2⟩,h.2.1,h.2.2⟩⟩
theorem qt2 {l:List Pt} (h:1<=l.length) (p:Pt):qgq l p≠ []:=by
 intro e;have:=congrArg List.length e
 simp [qgq] at this
 rw [this] at h
 simp at h
theorem qi2 {l:List Pt} {p:Pt} {x:Fr} (h:x∈qgq l p):∃i,i<l.length/\segF (pt l i) (nx l i) p=x:=by
 unfold qgq at h;obtain⟨i,hi,e⟩:=zty.1 h;exact⟨i,List.mem_range.1 hi,e⟩
theorem qi8 {o:Ob} {p:Pt} (ho:ckOb o=0) (op:okPt p=true):0<(qcf o p).den:=by
 unfold qcf
 rw [if_pos ⟨ho,op⟩]
 split
 · exact Nat.one_pos
 · rename_i hb
   split
   · exact Nat.one_pos
   · rcases qev ho with ⟨h1,_⟩|⟨_,_,h2⟩
     · exact absurd h1 hb
     · obtain⟨a,_,b⟩:=qe4 h2
       obtain⟨i,hi,e⟩:=qi2 (qon (qt2 (l:=o.pts) oQ p))
       rw [<-e]
       exact q1o (qcc b hi) (qds b hi) op
theorem q3b {o:Ob} {r:Bx} (ho:ckOb o=0) (hr:qa4 r=0) (h:qbu o ⟨2,r,[]⟩=true):qbu o ⟨1,r,[]⟩=true:=by
 have hb:=qb4 ho;rw [q2w ho hr] at h;exact qv9 ho (qcw.1 hb) (qcw.2 hr) ((qtl hb (qcw.2 hr)).1 h) (qlu ho)
theorem qfk {o:Ob} {r:Bx} (ho:ckOb o=0) (hr:qa4 r=0) (h:qbu o ⟨1,r,[]⟩=true):qcd (qas o) r=true:=by
 have hb:=qb4 ho;have hr' :=qcw.2 hr;rw [qgf ho hr] at h
 rcases qev ho with ⟨h1,h2⟩|⟨_,h1,h2⟩
 · rw [if_pos h1] at h
   unfold qas
   rw [if_pos h1]
   exact h
 · rw [if_neg (by simp [h1]),q5v h2 hr'] at h
   unfold qas at hb ⊢
   rw [if_neg (by simp [h1])] at hb ⊢
   obtain⟨a,_,b⟩:=qe4 h2
   rw [qf2 hb hr']
   obtain⟨⟨o1,o2⟩,o3,o4⟩:=(qbd r).1 hr';unfold qob at h;rw [Bool.or_eq_true,qb6] at h
   rcases h with h|⟨i,hi,hm⟩
   · have:=qt4 oQ b o1 h
     unfold inR at this
     omega
   · obtain⟨⟨⟨s1,s2⟩,s3,s4⟩,_⟩:=(qqe (qcc b hi) (qds b hi) hr').1 hm
     have k1:=(qd7 oQ b).2.1 i hi
     have k2:=(qd7 (l:=o.pts) oQ b).2.1 ((i+1)%o.pts.length) (Nat.mod_lt _ oQ)
     have k3:inR (qal o.pts) (nx o.pts i):=k2;unfold inR at k1 k3
     omega
theorem q4b {n lo hi x:Int} (h1:lo<=x) (h2:x<=hi):(gap n lo hi).natAbs<=(x-n).natAbs:=by unfold gap;omega
theorem q4i {b:Bx} {a p:Pt} (h:inR b a):boxN b p<=sqs (a.x-p.x) (a.y-p.y):=
 qt0 (q4b h.1.1 h.1.2) (q4b h.2.1 h.2.2)
theorem qlw {x y:Int} (h0:0<=x) (h:x<=y):x*x<=y*y:=Int.mul_le_mul h h h0 oQ
theorem qnm {n lo hi a b s t N d:Int} (hN:N=s+t) (hs:0<=s) (ht:0<=t) (a1:lo<=a) (a2:a<=hi) (b1:lo<=b) (b2:b<=hi) (hd:d=N*n-(s*a+t*b)):
 (N*gap n lo hi)*(N*gap n lo hi)<=d*d:=by
 have g0:=qwp n lo hi;have x1:=zcx a1 hs;have x2:=zcx a2 hs;have x3:=zcx b1 ht;have x4:=zcx b2 ht;have N0:0<=N:=oQ
 have y0:=Int.mul_nonneg N0 g0;have eN:N*lo=s*lo+t*lo:=by rw [hN,Int.add_mul]
 have eH:N*hi=s*hi+t*hi:=by rw [hN,Int.add_mul]
 rcases(show gap n lo hi=0\/gap n lo hi=lo-n\/gap n lo hi=n-hi by unfold gap;omega) with e|e|e
 · rw [e,Int.mul_zero]
   exact qx2 d
 · rw [e] at y0 ⊢
   have:N*(lo-n)<= -d:=by rw [Int.mul_sub];omega
   have:=qlw y0 this;rw [Int.neg_mul_neg] at this;exact this
 · rw [e] at y0 ⊢
   have:N*(n-hi)<=d:=by rw [Int.mul_sub];omega
   exact qlw y0 this
theorem q52 {b:Bx} {a c p:Pt} (ha:inR b a) (hc:inR b c) (hne:a≠c) (d1:0<=dotR a c p) (d2:0<=dotR c a p):
 boxN b p*sqs (a.x-c.x) (a.y-c.y)<=(qae a c p).natAbs*(qae a c p).natAbs:=by
 have hpos:=qjl hne
 have hN:((sqs (a.x-c.x) (a.y-c.y):Nat):Int)=dotR c a p+dotR a c p:=by
  rw [qrp];unfold dotR;grind
 have eb:((boxN b p:Nat):Int)=gap p.x b.lo.x b.hi.x*gap p.x b.lo.x b.hi.x+gap p.y b.lo.y b.hi.y*gap p.y b.lo.y b.hi.y:=by unfold boxN;rw [qrp]
 have ec:(((qae a c p).natAbs*(qae a c p).natAbs:Nat):Int)=qae a c p*qae a c p:=qqb _;have hN2:((sqs (a.x-c.x) (a.y-c.y):Nat):Int)=(a.x-c.x)*(a.x-c.x)+(a.y-c.y)*(a.y-c.y):=qrp _ _;generalize sqs (a.x-c.x) (a.y-c.y)=N at*;have gx:=qnm (n:=p.x) (lo:=b.lo.x) (hi:=b.hi.x) (a:=a.x) (b:=c.x) (d:= -(qae a c p*(c.y-a.y))) hN d2 d1 ha.1.1 ha.1.2 hc.1.1 hc.1.2 (by rw [hN2];unfold qae dotR;grind)
 have gy:=qnm (n:=p.y) (lo:=b.lo.y) (hi:=b.hi.y) (a:=a.y) (b:=c.y) (d:=qae a c p*(c.x-a.x)) hN d2 d1 ha.2.1 ha.2.2 hc.2.1 hc.2.2 (by rw [hN2];unfold qae dotR;grind)
 have key:(N:Int)*((N:Int)*(boxN b p:Nat))<=(N:Int)*(qae a c p*qae a c p):=by
  rw [eb]
  have e1:(N:Int)*((N:Int)*(gap p.x b.lo.x b.hi.x*gap p.x b.lo.x b.hi.x+gap p.y b.lo.y b.hi.y*gap p.y b.lo.y b.hi.y))=(N*gap p.x b.lo.x b.hi.x)*(N*gap p.x b.lo.x b.hi.x)+(N*gap p.y b.lo.y b.hi.y)*(N*gap p.y b.lo.y b.hi.y):=by grind
  have e2:(N:Int)*(qae a c p*qae a c p)=(-(qae a c p*(c.y-a.y)))*(-(qae a c p*(c.y-a.y)))+(qae a c p*(c.x-a.x))*(qae a c p*(c.x-a.x)):=by rw [hN2];grind
  rw [e1,e2]
  omega
 have hN0:(0:Int)<N:=oQ
 have:=Int.le_of_mul_le_mul_left key hN0;rw [<-ec] at this;have h3:((N*boxN b p:Nat):Int)<=(((qae a c p).natAbs*(qae a c p).natAbs:Nat):Int):=by rw [Int.natCast_mul];exact this
 rw [Nat.mul_comm]
 omega
theorem q51 {b:Bx} {a c p:Pt} (oa:okPt a=true) (oc:okPt c=true) (op:okPt p=true) (ha:inR b a) (hc:inR b c):boxN b p*(segF a c p).den<=(segF a c p).num:=by
 unfold segF
 rw [oa,oc,op]
 simp only [Bool.and_self,↓reduceIte]
 split
 · simp only [Nat.mul_one];exact q4i ha
 · rename_i h
   split
   · simp only [Nat.mul_one];exact q4i hc
   · rename_i h2
     have hne:a≠c:=fun e=>h (.inl e)
     have hpos:=qjl hne;obtain⟨l1,l2,_⟩:=qot (n:=(qae a c p).natAbs*(qae a c p).natAbs) hpos;have hm:=q52 (p:=p) ha hc hne (by have:=fun e=>h (.inr e);omega) oQ
     generalize lowF _ _=f at*;generalize sqs _ _=N at*;generalize (qae a c p).natAbs*(qae a c p).natAbs=C at*
     have h3:(boxN b p*f.den)*N<=f.num*N:=by
      rw [l1]
      calc (boxN b p*f.den)*N=(boxN b p*N)*f.den:=by grind
       _<=C*f.den:=zuy _ hm
     exact Nat.le_of_mul_le_mul_right h3 hpos
theorem q3s {o:Ob} {p:Pt} (ho:ckOb o=0) (op:okPt p=true):cmpF ⟨boxN (qas o) p,1⟩ (qcf o p)<=0:=by
 rw [qo4 Nat.one_pos (qi8 ho op)]
 simp only [Nat.mul_one]
 rcases qev ho with ⟨h1,h2⟩|⟨_,h1,h2⟩
 · rw [qqw ho op h1,qmj h1]
   simp
 · rw [qjx ho op h1,qka h1]
   obtain⟨a,_,b⟩:=qe4 h2;have hsp:=qd7 (l:=o.pts) oQ b
   cases hr:rhas o.pts p
   · simp only [Bool.false_eq_true,↓reduceIte]
     obtain⟨i,hi,e2⟩:=qi2 (qon (qt2 (l:=o.pts) oQ p))
     rw [<-e2]
     exact q51 (qcc b hi) (qds b hi) op (hsp.2.1 i hi) (hsp.2.1 ((i+1)%o.pts.length) (Nat.mod_lt _ oQ))
   · simp only [↓reduceIte]
     rw [qoc h2 op] at hr;have:=(q0n hsp.2.2.2).2 (qt4 oQ b op hr)
     omega
def cX (b:Bx):Int:=b.lo.x+b.hi.x
def cY (b:Bx):Int:=b.lo.y+b.hi.y
def ahd (l:List Bx) (i k:Nat):Bool:=
 decide (cX (l.getD i qcu)<cX (l.getD k qcu))||(decide (cX (l.getD i qcu)=cX (l.getD k qcu))&&(decide (cY (l.getD i qcu)<cY (l.getD k qcu))||(decide (cY (l.getD i qcu)=cY (l.getD k qcu))&&decide (i<k))))
def rank (l:List Bx) (i:Nat):Nat:=(List.range l.length).countP fun k=>ahd l k i
def qj4 (l:List Bx):List Bool:=(List.range l.length).map fun i=>decide (l.length-l.length/2<=rank l i)
theorem qvo (l:List Bx):(qj4 l).length=l.length:=by simp [qj4]
end Pg
