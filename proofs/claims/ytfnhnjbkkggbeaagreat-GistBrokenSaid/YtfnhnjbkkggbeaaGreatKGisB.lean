/-A map from numbers to whatever values,in memory-/
import Derived.Test.YtfnhnjbkkggbeaaGreatKNearP
import Derived.Test.YtfnhnjbkkggbeaaGreatKCloP
import Derived.Test.YtfnhnjbkkggbeaaGreatKLexR
import Derived.LaidEqlPtr
set_option linter.unusedVariables false
set_option linter.unusedSimpArgs false
set_option maxHeartbeats 2000000
namespace Pg
open Go Go.RowKit Go.Maps
structure Turn (X:List Nat) (a w:World):Prop where
 os:w.os=a.os
 tape:w.tape=a.tape
 output:w.output=a.output
 size:a.heap.size<=w.heap.size
 block:∀k,k<a.heap.size->k ∉ X->w.heap[k]? =a.heap[k]?
namespace Turn
variable {X Y:List Nat} {a b c w:World} {B:Nat}
theorem of_below (h:Below a.heap.size a w):Turn X a w:=⟨h.os,h.tape,h.output,h.size,fun k hk _=>h.block k hk⟩
theorem below (h:Turn X a w) (hB:B<=a.heap.size) (hX:∀x∈X,B<=x):Below B a w:=
 ⟨h.os,h.tape,h.output,h.size,fun k hk=>h.block k oQ fun hx=>by have:=hX k hx;omega⟩
theorem trans (h:Turn X a b) (k:Turn X b c):Turn X a c:=
 ⟨k.os.trans h.os,k.tape.trans h.tape,k.output.trans h.output,zcy h.size k.size,fun i hi hx=>(k.block i (zky hi h.size) hx).trans (h.block i hi hx)⟩
theorem alloc (h:Turn X a w) (o:Obj):Turn X a (w.alloc o):=⟨h.os,h.tape,h.output,by simp;have:=h.size;omega,fun k hk hx=>(Below.heap_alloc w o k (by have:=h.size;omega)).trans (h.block k hk hx)⟩
theorem setCell (h:Turn X a w) {p:Addr} (hp:p.block∈X\/a.heap.size<=p.block) (u:Value):Turn X a (w.setCell p u):=
 ⟨h.os,h.tape,h.output,by simp [World.setCell];exact h.size,fun k hk hx=>(Below.heap_setCell w p u k (fun e=>by
  subst e
  rcases hp with h1|h1
  · exact hx h1
  · omega)).trans (h.block k hk hx)⟩
theorem cell (h:Turn X a w) {p:Addr} (hp:p.block<a.heap.size) (hx:p.block ∉ X):w.cell? p=a.cell? p:=World.cell?_of_block (w:=a) (h.block p.block hp hx)
theorem blk (h:Turn X a w) {g:Nat} {t:TypeId} {cs:Array Value} (hB:Blk a g t cs) (hx:g ∉ X):Blk w g t cs:=(h.block g hB.lt hx).trans hB
end Turn
def qba (w:World) (P:Program) (k:TypeId) (b:Nat) (V:List (Int×Value)):Prop:=w.ownsMap P k RV b V.length (toD V)
def MapO (w:World) (P:Program) (k:TypeId) (ob:Option Nat) (V:List (Int×Value)):Prop:=match ob with|none=>V= []|some b=>qba w P k b V
section
variable {w w' :World} {P:Program} {k t e:TypeId} {b:Nat} {V:List (Int×Value)} {ob:Option Nat} {id:Int} {z v:Value}
theorem qba.of {n:Nat} (h:w.ownsMap P k RV b n (toD V)):qba w P k b V:=by
 obtain⟨es,clock,hb,F,hs,hD⟩:=h;refine⟨es,clock,hb,F,?_,hD⟩;have h1:=congrArg Maps.size hD;rw [qjb,Maps.size_eq,length_sorted,zyy] at h1
 rw [h1]
 simp
theorem qba.lt (h:qba w P k b V):b<w.heap.size:=World.ownsMap.lt h
theorem qba.made (w:World) (P:Program) (k:TypeId):qba (w.alloc (.map #[] 0)) P k w.heap.size []:=World.ownsMap_made w P k RV
theorem qba.turn {X:List Nat} (h:qba w P k b V) (ht:Turn X w w') (hx:b ∉ X):qba w' P k b V:=by
 have hlt:=h.lt;obtain⟨es,clock,hb,r⟩:=h;exact⟨es,clock,(ht.block b hlt hx).trans hb,r⟩
theorem qba.tr (h:qba w P k b V) (hb:Below w.heap.size w w'):qba w' P k b V:=h.turn (Turn.of_below hb (X:= [])) sI
theorem qba.alloc (h:qba w P k b V) (o:Obj):qba (w.alloc o) P k b V:=World.ownsMap.alloc h o
theorem qzu (hk:P.underlying k=some (.int .i64)) (h0: -9223372036854775808<=id) (h1:id<=9223372036854775807):keyOf P k (.int .i64 id)=some (.int .i64 id):=
 keyOf_int_mk hk (by simp [Lit.wf,IntKind.min,IntKind.max,IntKind.signed,IntKind.bits];omega)
theorem q3w {u:Value} {d:DataW Value} {ps:List MemPlace} (h:RV u=some (d,ps)):d=.held u:=by
 unfold RV at h;simp only [Option.some.injEq,Prod.mk.injEq] at h;exact h.1.symm
theorem MapO.look (h:MapO w P k ob V) (hk:P.underlying k=some (.int .i64)) (ht:P.underlying t=some (.map k e)) (hz:(zeroValue e).run P w=.ok z w) (h0: -9223372036854775808<=id) (h1:id<=9223372036854775807):
 (Instr.lookup t (.map ob) (.int .i64 id) false).run P w=.ok ((getK id V).getD z) w:=by
 cases ob with
 | none=>
   obtain rfl:V= []:=h
   rw [Maps.look_nil false (int_keyed hk) ht hz (qzu hk h0 h1)]
   rfl
 | some b=>
   obtain⟨v,ps,hr,hv⟩:=World.ownsMap.lookup h (int_keyed hk) ht hz (zd:=.held z) (zp:= []) rfl (qzu hk h0 h1);rw [q2k] at hv;have hv:=q3w hv;injection hv with hv
   rw [hr,<-hv]
theorem qba.store (h:qba w P k b V) (hk:P.underlying k=some (.int .i64)) (ht:P.underlying t=some (.map k e)) (hn:V.length<maxLen) (v:Value) (h0: -9223372036854775808<=id) (h1:id<=9223372036854775807):
 ∃w',(Instr.mapUpdate t (.map (some b)) (.int .i64 id) v).run P w=.ok () w' /\qba w' P k b (putK id v V)/\w.grownBy w' (some b):=by
 obtain⟨w',hr,h2,h3⟩:=World.ownsMap.update h (int_keyed hk) ht hn (qzu hk h0 h1) (val:=v) (d:=.held v) (ps:= []) rfl;rw [q01] at h2;exact⟨w',hr,qba.of h2,h3⟩
theorem qba.drop (h:qba w P k b V) (hk:P.underlying k=some (.int .i64)) (ht:P.underlying t=some (.map k e)) (ty:TypeId) (h0: -9223372036854775808<=id) (h1:id<=9223372036854775807):
 ∃w',(Builtin.delete_ #[t,k] ty #[.map (some b),.int .i64 id]).run P w=.ok (.tuple #[]) w' /\qba w' P k b (delK id V)/\w.grownBy w' (some b):=by
 obtain⟨w',hr,h2,h3⟩:=World.ownsMap.drop h (int_keyed hk) ht (qzu hk h0 h1) ty;rw [q02] at h2;exact⟨w',hr,qba.of h2,h3.grown⟩
end
section
variable {P:Program} (w:World) {ops:Array Oper} {rest:List Oper} {o:Oper} {a:Act} {Q:Exit->Act->World->Prop} {k t e:TypeId} {ob:Option Nat} {b:Nat} {V:List (Int×Value)} {id:Int} {z:Value}
theorem qdg (hg:o.guard=none) (m x:Operand) (t:TypeId) (hop:o.op=Op.lookup t m x false) (hm:a.eval m=.map ob) (hx:a.eval x=.int .i64 id) (h:MapO w P k ob V) (hk:P.underlying k=some (.int .i64)) (ht:P.underlying t=some (.map k e)) (hz:(zeroValue e).run P w=.ok z w)
 (h0: -9223372036854775808<=id) (h1:id<=9223372036854775807) (hK:wpList P ops Q rest (a.put o.dst ((getK id V).getD z)) w):wpList P ops Q (o::rest) a w:=by
 refine wpList_plain hg fun K' hK' => ?_
 unfold Oper.wp
 simp [execOp,hop,hm,hx,h.look hk ht hz h0 h1,Result.andThen]
 exact hK' _ _ hK
theorem qef {K:Act->World->Prop} (m x:Operand) (t:TypeId) (hop:o.op=Op.lookup t m x false) (hm:a.eval m=.map ob) (hx:a.eval x=.int .i64 id) (h:MapO w P k ob V) (hk:P.underlying k=some (.int .i64)) (ht:P.underlying t=some (.map k e)) (hz:(zeroValue e).run P w=.ok z w)
 (h0: -9223372036854775808<=id) (h1:id<=9223372036854775807) (hK:K (a.put o.dst ((getK id V).getD z)) w):o.wp P a w K Q:=by
 unfold Oper.wp
 simp [execOp,hop,hm,hx,h.look hk ht hz h0 h1,Result.andThen]
 exact hK
theorem qnp {K:Act->World->Prop} (m x y:Operand) (t:TypeId) (hop:o.op=Op.mapUpdate t m x y) (hm:a.eval m=.map (some b)) (hx:a.eval x=.int .i64 id) (v:Value) (hy:a.eval y=v) (h:qba w P k b V) (hk:P.underlying k=some (.int .i64)) (ht:P.underlying t=some (.map k e)) (hn:V.length<maxLen)
 (h0: -9223372036854775808<=id) (h1:id<=9223372036854775807) (hK:∀w',qba w' P k b (putK id v V)->w.grownBy w' (some b)->K (a.put o.dst undef) w'):o.wp P a w K Q:=by
 obtain⟨w',hr,r1,r2⟩:=h.store hk ht hn v h0 h1;unfold Oper.wp
 simp [execOp,hop,hm,hx,hy,hr,Result.andThen]
 exact hK w' r1 r2
end
theorem Blk.kept {w w' :World} {g:Nat} {t:TypeId} {cs:Array Value} {row:Option Nat} (h:Blk w g t cs) (hg:w.grownBy w' row) (hne:row≠some g):Blk w' g t cs:=(hg.block g h.lt (fun e=>hne e.symm)).trans h
theorem Blk.ne {w:World} {g g' :Nat} {t t' :TypeId} {cs cs' :Array Value} (h:Blk w g t cs) (h' :Blk w g' t' cs') (ht:t≠t'):g≠g' :=by
 rintro rfl;unfold Blk at h h'
 rw [h] at h'
 injection h' with h'
 injection h' with _ h'
 exact ht h'
theorem qij {w:World} {base size n:Nat} {e:TypeId} {v:Value} {xs:List Value} {g:Nat} (h:w.ownsRow base e size v n xs) (hg:v.ownBlock=some g):∃cur,Blk w g e cur:=by
 rcases h.2 with ⟨rfl,_⟩|⟨g',cap,cur,rfl,_,hgg,_⟩
 · cases hg
 · cases hg
   exact⟨cur,hgg⟩
theorem qe1 {w:World} {base size n:Nat} {e:TypeId} {v:Value} {xs:List Value} {g:Nat} {t:TypeId} {cs:Array Value} (h:w.ownsRow base e size v n xs) (hb:Blk w g t cs) (ht:e≠t):v.ownBlock≠some g:=by
 intro hg;obtain⟨cur,hc⟩:=qij h hg;exact hc.ne hb ht rfl
theorem qfi {w:World} {P:Program} {k:TypeId} {b g:Nat} {V:List (Int×Value)} {t:TypeId} {cs:Array Value} (h:qba w P k b V) (hb:Blk w g t cs):b≠g:=by
 rintro rfl;obtain⟨es,clock,hm,_⟩:=h;unfold Blk at hb;rw [hm] at hb
 cases hb
theorem qv5 {w:World} {P:Program} {k:TypeId} {b:Nat} {V:List (Int×Value)} {base size n:Nat} {e:TypeId} {v:Value} {xs:List Value} (h:qba w P k b V) (ho:w.ownsRow base e size v n xs):v.ownBlock≠some b:=by
 intro hg;obtain⟨cur,hc⟩:=qij ho hg;exact qfi h hc rfl
theorem qba.kept {w w' :World} {P:Program} {k:TypeId} {b:Nat} {V:List (Int×Value)} {row:Option Nat} (h:qba w P k b V) (hg:w.grownBy w' row) (hne:row≠some b):qba w' P k b V:=World.ownsMap.kept h hg (fun e=>hne e.symm)
theorem qaq {w w' :World} {base size n:Nat} {e:TypeId} {v:Value} {xs:List Value} {row:Option Nat} (h:w.ownsRow base e size v n xs) (hg:w.grownBy w' row) (hne:∀g,row=some g->v.ownBlock≠some g):w'.ownsRow base e size v n xs:=by
 refine h.kept hg ?_
 cases hv:v.ownBlock with
 | none=>exact .inl rfl
 | some k=>exact .inr fun e=>by have:=hne k e.symm;exact this hv
theorem qb2 (w:World) (p:Addr) (u:Value):w.grownBy (w.setCell p u) (some p.block):=
 ⟨rfl,rfl,rfl,by simp [World.setCell],fun k _ hk=>Below.heap_setCell w p u k (fun e=>hk (by rw [e]))⟩
theorem qag {w w' :World} (h:Below w.heap.size w w'):w.grownBy w' none:=⟨h.os,h.tape,h.output,h.size,fun k hk _=>h.block k hk⟩
theorem qi6 {P:Program} {w:World} {t ty e:TypeId} {i:TypeInfo} {z:Value} {base size bytes:Nat} (ht:P.underlying t=some (.slice e)) (hi:P.info? e=some i) (hz:i.zero=some z)
 (hsize:i.size=size) (hby:i.bytes=bytes) {v:Value} {n:Nat} {xs:List Value} (hown:w.ownsRow base e size v n xs)
 {a:Addr} {m c:Nat} {news:List Value} (hl:news.length=m*size) (hnews:∀j u,news[j]? =some u->w.cell? (a.add j)=some u) (h1:∀u∈news,u.oneCell' =true)
 (h63:n+m<=maxLen) (hbytes:(n+m)*bytes<=140737488355328) (hm:0<m) {v' :Value} {w' :World} (hr:(Builtin.append_ #[t,t] ty #[v,.slice (some a) m c]).run P w=.ok v' w'):v'.ownBlock=v.ownBlock\/v'.ownBlock=some w.heap.size:=by
 subst hsize;subst hby;have hsmall:n+m<=9223372036854775807:=by simp only [maxLen] at h63;omega
 rcases hown.2 with ⟨rfl,rfl⟩|⟨g,cap,cur,rfl,hbg,hg,hnc,hcm,hcs,htake⟩
 · have hr2:=run_append_nil (P:=P) w t ty e i z ht hi hz a m c news hl hnews hm oQ (by have hb:=hbytes;simp only [Nat.zero_add] at hb;omega)
   rw [hr2] at hr;injection hr with e1 _
   subst e1;exact .inr rfl
 · by_cases hroom:n+m<=cap
   · have hfit:n*i.size+news.length<=cur.size:=by rw [hl,hcs,<-Nat.add_mul];exact zuy _ hroom
     have hr2:=run_append_room (P:=P) w t ty e i ht hi g n cap cur hg a m c news hl hnews h1 hroom hfit;rw [hr2] at hr;injection hr with e1 _
     subst e1;exact .inl rfl
   · have holds:∀j u,xs[j]? =some u->w.cell? ((⟨g,0,none⟩:Addr).add j)=some u:=hown.cells (g:=g) rfl
     have hr2:=run_append_grow (P:=P) w t ty e i z ht hi hz ⟨g,0,none⟩ n cap xs hown.1 holds a m c news hl hnews oQ oQ (growslice_fits oQ hbytes)
     rw [hr2] at hr;injection hr with e1 _
     subst e1;exact .inr rfl
theorem qcl {P:Program} (w:World) {o:Oper} {a:Act} {K:Act->World->Prop} {Q:Exit->Act->World->Prop} (s x:Operand) (t:TypeId)
 (ho:o.op=.call {callee:=.builtin .append,args:= #[s,x],argTypes:= #[t,t]})
 (e:TypeId) (i:TypeInfo) (z:Value) (size bytes:Nat) (ht:P.underlying t=some (.slice e)) (hi:P.info? e=some i) (hz:i.zero=some z)
 (hsize:i.size=size) (hby:i.bytes=bytes) (hzs:z.cells.size=size) (hsz:0<size)
 (v:Value) (n:Nat) (xs:List Value) (hs:a.eval s=v) (hown:w.ownsRow 0 e size v n xs)
 (ad:Addr) (m c:Nat) (news:List Value) (hx:a.eval x=.slice (some ad) m c) (hl:news.length=m*size) (hnews:∀j u,news[j]? =some u->w.cell? (ad.add j)=some u) (h1:∀u∈news,u.oneCell' =true)
 (h63:n+m<=maxLen) (hbytes:(n+m)*bytes<=140737488355328) (hm:0<m)
 (h:∀v' w',w'.ownsRow 0 e size v' (n+m) (xs++news)->w.grownBy w' v.ownBlock->(v'.ownBlock=v.ownBlock\/v'.ownBlock=some w.heap.size)->K (a.put o.dst v') w'):o.wp P a w K Q:=by
 obtain⟨v',w',hr,h2,h3,h4⟩:=run_append_own (P:=P) w 0 t o.type e i z size bytes ht hi hz hsize hby hzs hsz v n xs hown ad m c news hl hnews h1 h63 hbytes (zly _);have hw:=qi6 ht hi hz hsize hby hown hl hnews h1 h63 hbytes hm hr;unfold Oper.wp execOp
 simp only [ho,resolve,invoke,builtin,Sem.run_bind,Sem.run_pure,Result.andThen_ok,List.map_toArray,zdy,zey,hs,hx,hr]
 exact h v' w' h2 h3 hw
theorem qb4 {P:Program} (w:World) {ops:Array Oper} {rest:List Oper} {o:Oper} {a:Act} {Q:Exit->Act->World->Prop} (hgd:o.guard=none) (s x:Operand) (t:TypeId)
 (ho:o.op=.call {callee:=.builtin .append,args:= #[s,x],argTypes:= #[t,t]})
 (e:TypeId) (i:TypeInfo) (z:Value) (size bytes:Nat) (ht:P.underlying t=some (.slice e)) (hi:P.info? e=some i) (hz:i.zero=some z)
 (hsize:i.size=size) (hby:i.bytes=bytes) (hzs:z.cells.size=size) (hsz:0<size)
 (v:Value) (n:Nat) (xs:List Value) (hs:a.eval s=v) (hown:w.ownsRow 0 e size v n xs)
 (ad:Addr) (m c:Nat) (news:List Value) (hx:a.eval x=.slice (some ad) m c) (hl:news.length=m*size) (hnews:∀j u,news[j]? =some u->w.cell? (ad.add j)=some u) (h1:∀u∈news,u.oneCell' =true)
 (h63:n+m<=maxLen) (hbytes:(n+m)*bytes<=140737488355328) (hm:0<m)
 (h:∀v' w',w'.ownsRow 0 e size v' (n+m) (xs++news)->w.grownBy w' v.ownBlock->(v'.ownBlock=v.ownBlock\/v'.ownBlock=some w.heap.size)->wpList P ops Q rest (a.put o.dst v') w'):wpList P ops Q (o::rest) a w:=
 wpList_plain hgd fun _ hK=>qcl w s x t ho e i z size bytes ht hi hz hsize hby hzs hsz v n xs hs hown ad m c news hx hl hnews h1 h63 hbytes hm fun v' w' h2 h3 h4=>hK _ _ (h v' w' h2 h3 h4)
structure TurnF (F:Nat->Prop) (a w:World):Prop where
 os:w.os=a.os
 tape:w.tape=a.tape
 output:w.output=a.output
 size:a.heap.size<=w.heap.size
 block:∀k,k<a.heap.size->¬ F k->w.heap[k]? =a.heap[k]?
section
variable {F F' :Nat->Prop} {a b w:World}
theorem TurnF.refl (F:Nat->Prop) (w:World):TurnF F w w:=⟨rfl,rfl,rfl,zhy _,fun _ _ _=>rfl⟩
theorem TurnF.trans (h:TurnF F a b) (k:TurnF F' b w) (hF:∀x,F' x->F x\/a.heap.size<=x):TurnF F a w:=
 ⟨k.os.trans h.os,k.tape.trans h.tape,k.output.trans h.output,zcy h.size k.size,fun i hi hx=>(k.block i (zky hi h.size) fun hy=>by
  rcases hF i hy with q|q
  · exact hx q
  · omega).trans (h.block i hi hx)⟩
theorem TurnF.grown {row:Option Nat} (h:TurnF F a b) (hg:b.grownBy w row) (hr:∀k,row=some k->F k\/a.heap.size<=k):TurnF F a w:=
 ⟨hg.os.trans h.os,hg.tape.trans h.tape,hg.output.trans h.output,zcy h.size hg.size,fun k hk hx=>(hg.block k (by have:=h.size;omega) (fun e=>by
  rcases hr k e.symm with h1|h1
  · exact hx h1
  · omega)).trans (h.block k hk hx)⟩
theorem TurnF.below (h:TurnF F a b) (k:Below b.heap.size b w):TurnF F a w:=h.grown (qag k) sI
theorem TurnF.set_ (h:TurnF F a w) {p:Addr} (hp:F p.block\/a.heap.size<=p.block) (u:Value):TurnF F a (w.setCell p u):=h.grown (qb2 w p u) fun k e=>by cases e;exact hp
theorem TurnF.alloc (h:TurnF F a w) (o:Obj):TurnF F a (w.alloc o):=h.grown (World.grownBy_alloc w o none) sI
theorem TurnF.drew (h:TurnF F a w):TurnF F a w.drew:=⟨h.os,h.tape,h.output,h.size,h.block⟩
theorem TurnF.cell (h:TurnF F a w) {p:Addr} (hp:p.block<a.heap.size) (hx:¬ F p.block):w.cell? p=a.cell? p:=World.cell?_of_block (w:=a) (h.block p.block hp hx)
theorem TurnF.blk (h:TurnF F a w) {g:Nat} {t:TypeId} {cs:Array Value} (hB:Blk a g t cs) (hx:¬ F g):Blk w g t cs:=(h.block g hB.lt hx).trans hB
structure Grow (a w:World) (own imm own' imm' :Nat->Prop):Prop where
 turn:TurnF own a w
 oo:∀x,own' x->own x\/a.heap.size<=x
 ii:∀x,imm' x->imm x\/a.heap.size<=x
 o:∀x,own x->own' x
 i:∀x,imm x->imm' x
variable {own imm own' imm' own'' imm'' :Nat->Prop}
theorem Grow.refl (own imm:Nat->Prop) (w:World):Grow w w own imm own imm:=⟨TurnF.refl _ _,fun _ h=> .inl h,fun _ h=> .inl h,fun _ h=>h,fun _ h=>h⟩
theorem Grow.trans (h:Grow a b own imm own' imm') (k:Grow b w own' imm' own'' imm''):Grow a w own imm own'' imm'' :=
 ⟨h.turn.trans k.turn h.oo,fun x hx=>by
  rcases k.oo x hx with q|q
  · exact h.oo x q
  · exact .inr (zcy h.turn.size q),fun x hx=>by
  rcases k.ii x hx with q|q
  · exact h.ii x q
  · exact .inr (zcy h.turn.size q),fun x hx=>k.o x (h.o x hx),fun x hx=>k.i x (h.i x hx)⟩
theorem Grow.of_turn (h:TurnF own a w):Grow a w own imm own imm:=⟨h,fun _ h=> .inl h,fun _ h=> .inl h,fun _ h=>h,fun _ h=>h⟩
theorem Grow.of_below (h:Below a.heap.size a w):Grow a w own imm own imm:=Grow.of_turn ((TurnF.refl own a).below h)
theorem Grow.size (h:Grow a w own imm own' imm'):a.heap.size<=w.heap.size:=h.turn.size
end
end Pg
namespace Go.Proofs.YtfnhnjbkkggbeaaGreat
open Go Go.RowKit Go.Maps Pg
theorem qbb {w:World} {base base' :Nat} {e:TypeId} {size:Nat} {v:Value} {n:Nat} {xs:List Value} (h:w.ownsRow base e size v n xs) (hb:base' <=base):w.ownsRow base' e size v n xs:=by
 obtain⟨h1,h2|⟨g,cap,cur,hv,hg,hh,r⟩⟩:=h
 · exact⟨h1,.inl h2⟩
 · exact⟨h1,.inr ⟨g,cap,cur,hv,zcy hb hg,hh,r⟩⟩
def qdv (w:World) (Z:Nat->Prop) (A:Option Addr) (cs:List Value):Prop:=0<cs.length->∃b off,A=some ⟨b,off,none⟩/\Z b/\b<w.heap.size/\∀k u,cs[k]? =some u->w.cell? ⟨b,off+k,none⟩=some u
theorem qdv.kept {w w' :World} {Z:Nat->Prop} {A:Option Addr} {cs:List Value} {row:Option Nat} (h:qdv w Z A cs) (hg:w.grownBy w' row) (hne:∀g,row=some g->¬ Z g):qdv w' Z A cs:=by
 intro hn;obtain⟨b,off,e,hZ,hb,hc⟩:=h hn;refine⟨b,off,e,hZ,zky hb hg.size,fun k u hu=> ?_⟩
 exact(World.cell?_of_block (w:=w) (hg.block b hb (fun q=>hne b q.symm hZ))).trans (hc k u hu)
theorem qdv.more {w:World} {Z Z' :Nat->Prop} {A:Option Addr} {cs:List Value} (h:qdv w Z A cs) (hZ:∀b,b<w.heap.size->Z b->Z' b):qdv w Z' A cs:=by
 intro hn;obtain⟨b,off,e,h1,h2,h3⟩:=h hn;exact⟨b,off,e,hZ b h2 h1,h2,h3⟩
def qdf (w:World) (Z:Nat->Prop) (v:Value) (kb:List Nat):Prop:=(∀x∈kb,x<256)/\kb.length<=1000000/\∃A c,v=.slice A kb.length c/\kb.length<=c/\(A=none->c=0)/\qdv w Z A (qap kb)
def qla (w:World) (Z:Nat->Prop) (v:Value) (l:List Pt):Prop:=l.length<=1000000/\∃A c,v=.slice A l.length c/\l.length<=c/\(A=none->c=0)/\qdv w Z A (qbp l)
theorem qdf.kept {w w' :World} {Z:Nat->Prop} {v:Value} {kb:List Nat} {row:Option Nat} (h:qdf w Z v kb) (hg:w.grownBy w' row) (hne:∀g,row=some g->¬ Z g):qdf w' Z v kb:=by
 obtain⟨h1,h2,A,c,e,h3,h4,h5⟩:=h;exact⟨h1,h2,A,c,e,h3,h4,h5.kept hg hne⟩
theorem qla.kept {w w' :World} {Z:Nat->Prop} {v:Value} {l:List Pt} {row:Option Nat} (h:qla w Z v l) (hg:w.grownBy w' row) (hne:∀g,row=some g->¬ Z g):qla w' Z v l:=by
 obtain⟨h2,A,c,e,h3,h4,h5⟩:=h;exact⟨h2,A,c,e,h3,h4,h5.kept hg hne⟩
theorem qdf.more {w:World} {Z Z' :Nat->Prop} {v:Value} {kb:List Nat} (h:qdf w Z v kb) (hZ:∀b,b<w.heap.size->Z b->Z' b):qdf w Z' v kb:=by
 obtain⟨h1,h2,A,c,e,h3,h4,h5⟩:=h;exact⟨h1,h2,A,c,e,h3,h4,h5.more hZ⟩
theorem qla.more {w:World} {Z Z' :Nat->Prop} {v:Value} {l:List Pt} (h:qla w Z v l) (hZ:∀b,b<w.heap.size->Z b->Z' b):qla w Z' v l:=by
 obtain⟨h2,A,c,e,h3,h4,h5⟩:=h;exact⟨h2,A,c,e,h3,h4,h5.more hZ⟩
theorem tyNE:(79:TypeId)≠96:=by decide
theorem tyNI:(79:TypeId)≠100:=by decide
theorem tyNT:(79:TypeId)≠82:=by decide
theorem tyEI:(96:TypeId)≠100:=by decide
theorem tyET:(96:TypeId)≠82:=by decide
theorem tyIT:(100:TypeId)≠82:=by decide
abbrev gP (g:Nat):Value:=.pointer (some ⟨g,0,none⟩)
def gO (o:Option Nat):Value:=match o with|none=> .pointer none|some g=>gP g
def qdz (lf:Bool) (e:En):List Value:= [e.kv,.int .i64 e.id,if lf then .pointer none else gP e.kid]
def qam (lf:Bool) (l:List En):List Value:=l.flatMap (qdz lf)
structure Lay (w:World) (own imm:Nat->Prop) (tb mb:Nat) (cl:Value) (t:Tr) (H:Nat->Prop) (L:Int->Prop):Prop where
 hd:Blk w tb 82 #[cl,.int .i64 t.fan,gP t.root,.map (some mb)]
 mp:qba w Tryz.prog 3 mb (t.items.map fun p=>(p.1,gP p.2.blk))
 nd:∀b l,t.lv b=some l->Blk w b 79 #[gO (t.up b),.bool (decide (l=0)),t.sl b]
 row:∀b l,t.lv b=some l->¬ H b->w.ownsRow 0 96 3 (t.sl b) (t.es b).length (qam (decide (l=0)) (t.es b))
 it:∀id x,getK id t.items=some x->∃z,Blk w x.blk 100 #[.int .i64 x.ob.kind,x.ov,x.kv,z]/\(¬ L id->z=gP (t.leaf id))
 ikey:∀id x,getK id t.items=some x->qdf w imm x.kv x.kb/\qla w imm x.ov x.ob.pts
 ekey:∀b l e,t.lv b=some l->e∈t.es b->qdf w imm e.kv e.kb
 apR:∀b b' l l' g,t.lv b=some l->t.lv b' =some l' ->¬ H b->¬ H b' ->(t.sl b).ownBlock=some g->(t.sl b').ownBlock=some g->b=b'
 apI:∀i i' x x',getK i t.items=some x->getK i' t.items=some x' ->x.blk=x'.blk->i=i'
 oT:own tb
 oM:own mb
 oN:∀b l,t.lv b=some l->own b
 oR:∀b l g,t.lv b=some l->¬ H b->(t.sl b).ownBlock=some g->own g
 oI:∀id x,getK id t.items=some x->own x.blk
 sep:∀b,own b->¬ imm b
 lim:∀b,own b\/imm b->b<w.heap.size
section
variable {w w' :World} {own own' imm imm' :Nat->Prop} {tb mb:Nat} {cl:Value} {t:Tr} {H:Nat->Prop} {L:Int->Prop}
theorem Lay.kept {row:Option Nat} (h:Lay w own imm tb mb cl t H L) (hg:w.grownBy w' row) (hne:∀g,row=some g->¬ own g/\¬ imm g):Lay w' own imm tb mb cl t H L where
 hd:=Blk.kept h.hd hg fun e=>(hne _ e).1 h.oT
 mp:=qba.kept h.mp hg fun e=>(hne _ e).1 h.oM
 nd b l hb:=Blk.kept (h.nd b l hb) hg fun e=>(hne _ e).1 (h.oN b l hb)
 row b l hb hH:=qaq (h.row b l hb hH) hg fun g e q=>(hne _ e).1 (h.oR b l g hb hH q)
 it id x hx:=by
  obtain⟨z,h1,h2⟩:=h.it id x hx;exact⟨z,Blk.kept h1 hg fun e=>(hne _ e).1 (h.oI id x hx),h2⟩
 ikey id x hx:=⟨(h.ikey id x hx).1.kept hg fun g e=>(hne _ e).2,(h.ikey id x hx).2.kept hg fun g e=>(hne _ e).2⟩
 ekey b l e hb he:=(h.ekey b l e hb he).kept hg fun g e=>(hne _ e).2
 apR:=h.apR
 apI:=h.apI
 oT:=h.oT
 oM:=h.oM
 oN:=h.oN
 oR:=h.oR
 oI:=h.oI
 sep:=h.sep
 lim b hb:=zky (h.lim b hb) hg.size
theorem Lay.tr (h:Lay w own imm tb mb cl t H L) (hb:Below w.heap.size w w'):Lay w' own imm tb mb cl t H L:=h.kept (qag hb) sI
theorem Lay.drew (h:Lay w own imm tb mb cl t H L):Lay w.drew own imm tb mb cl t H L:=h.tr (Below.refl _ _).drew
theorem Lay.alloc (h:Lay w own imm tb mb cl t H L) (o:Obj):Lay (w.alloc o) own imm tb mb cl t H L:=h.kept (World.grownBy_alloc w o none) sI
theorem Lay.less {H' :Nat->Prop} {L' :Int->Prop} (h:Lay w own imm tb mb cl t H L) (hH:∀b,H b->H' b) (hL:∀i,L i->L' i):Lay w own imm tb mb cl t H' L' :=
 {h with
  row:=fun b l hb hn=>h.row b l hb fun q=>hn (hH b q)
  it:=fun id x hx=>by
   obtain⟨z,h1,h2⟩:=h.it id x hx;exact⟨z,h1,fun hn=>h2 fun q=>hn (hL id q)⟩
  apR:=fun b b' l l' g h1 h2 h3 h4=>h.apR b b' l l' g h1 h2 (fun q=>h3 (hH b q)) fun q=>h4 (hH b' q)
  oR:=fun b l g hb hn=>h.oR b l g hb fun q=>hn (hH b q)}
theorem Lay.more (h:Lay w own imm tb mb cl t H L) (ho:∀b,own b->own' b) (hi:∀b,imm b->imm' b) (hs:∀b,own' b->¬ imm' b) (hl:∀b,own' b\/imm' b->b<w.heap.size):Lay w own' imm' tb mb cl t H L:=
 {h with
  ikey:=fun id x hx=>⟨(h.ikey id x hx).1.more fun b _=>hi b,(h.ikey id x hx).2.more fun b _=>hi b⟩
  ekey:=fun b l e hb he=>(h.ekey b l e hb he).more fun b _=>hi b
  oT:=ho _ h.oT
  oM:=ho _ h.oM
  oN:=fun b l hb=>ho _ (h.oN b l hb)
  oR:=fun b l g hb hH q=>ho _ (h.oR b l g hb hH q)
  oI:=fun id x hx=>ho _ (h.oI id x hx)
  sep:=hs
  lim:=hl}
theorem Lay.node {b l:Nat} {t' :Tr} {H' :Nat->Prop} (h:Lay w own imm tb mb cl t H L) (hb:t.lv b=some l) {i:Nat} {v:Value} (hw:w' =w.setCell ⟨b,i,none⟩ v)
 (hfan:t'.fan=t.fan) (hroot:t'.root=t.root) (hlv:t'.lv=t.lv) (hleaf:t'.leaf=t.leaf) (hitems:t'.items=t.items)
 (hup:∀x,x≠b->t'.up x=t.up x) (hsl:∀x,x≠b->t'.sl x=t.sl x) (hes:∀x,x≠b->t'.es x=t.es x) (hH:∀x,x≠b->¬ H' x->¬ H x)
 (hcs:(#[gO (t.up b),.bool (decide (l=0)),t.sl b]:Array Value).setIfInBounds i v= #[gO (t'.up b),.bool (decide (l=0)),t'.sl b])
 (hrow:¬ H' b->w.ownsRow 0 96 3 (t'.sl b) (t'.es b).length (qam (decide (l=0)) (t'.es b))/\∀g,(t'.sl b).ownBlock=some g->own g/\∀b' l',t.lv b' =some l' ->b' ≠b->¬ H b' ->(t.sl b').ownBlock≠some g)
 (hkey:∀e∈t'.es b,qdf w imm e.kv e.kb):Lay w' own imm tb mb cl t' H' L:=by
 subst hw;have hg:=qb2 w ⟨b,i,none⟩ v;have hB:=h.nd b l hb;have hib:∀g,some b=some g->¬ imm g:=fun g e=>by cases e;exact h.sep b (h.oN b l hb)
 refine⟨?_,?_,?_,?_,?_,?_,?_,?_,?_,h.oT,h.oM,?_,?_,?_,h.sep,fun b hb=>zky (h.lim b hb) hg.size⟩
 · rw [hfan,hroot]
   exact Blk.kept h.hd hg (fun e=>hB.ne h.hd tyNT (by simpa using e))
 · rw [hitems]
   exact qba.kept h.mp hg (fun e=>qfi h.mp hB (by simpa using e.symm))
 · intro x m hx
   rw [hlv] at hx
   by_cases hxb:x=b
   · subst hxb
     rw [hb] at hx
     cases hx
     rw [<-hcs]
     exact hB.set_ i v
   · rw [hup x hxb,hsl x hxb]
     exact Blk.kept (h.nd x m hx) hg (fun e=>hxb (by simpa using e.symm))
 · intro x m hx hn
   rw [hlv] at hx
   by_cases hxb:x=b
   · subst hxb
     rw [hb] at hx
     cases hx
     have:=(hrow hn).1;exact qaq this hg fun g e=>by cases e;exact qe1 this hB (Ne.symm tyNE)
   · rw [hsl x hxb,hes x hxb]
     have:=h.row x m hx (hH x hxb hn);exact qaq this hg fun g e=>by cases e;exact qe1 this hB (Ne.symm tyNE)
 · intro id x hx
   rw [hitems] at hx
   rw [hleaf]
   obtain⟨z,h1,h2⟩:=h.it id x hx;exact⟨z,Blk.kept h1 hg (fun e=>hB.ne h1 tyNI (by simpa using e)),h2⟩
 · intro id x hx
   rw [hitems] at hx;exact⟨(h.ikey id x hx).1.kept hg hib,(h.ikey id x hx).2.kept hg hib⟩
 · intro x m e hx he
   rw [hlv] at hx
   by_cases hxb:x=b
   · subst hxb
     exact(hkey e he).kept hg hib
   · rw [hes x hxb] at he
     exact(h.ekey x m e hx he).kept hg hib
 · intro x x' m m' g hx hx' hn hn' h1 h2
   rw [hlv] at hx hx'
   by_cases hxb:x=b
   · subst hxb
     by_cases hxb' :x' =x
     · exact hxb'.symm
     · rw [hsl x' hxb'] at h2
       exact absurd h2 (((hrow hn).2 g h1).2 x' m' hx' hxb' (hH x' hxb' hn'))
   · by_cases hxb' :x' =b
     · subst hxb'
       rw [hsl x hxb] at h1;exact absurd h1 (((hrow hn').2 g h2).2 x m hx hxb (hH x hxb hn))
     · rw [hsl x hxb] at h1
       rw [hsl x' hxb'] at h2;exact h.apR x x' m m' g hx hx' (hH x hxb hn) (hH x' hxb' hn') h1 h2
 · rw [hitems];exact h.apI
 · rw [hlv];exact h.oN
 · intro x m g hx hn h1
   rw [hlv] at hx
   by_cases hxb:x=b
   · subst hxb
     exact((hrow hn).2 g h1).1
   · rw [hsl x hxb] at h1
     exact h.oR x m g hx (hH x hxb hn) h1
 · rw [hitems];exact h.oI
theorem Lay.setUp {b l u:Nat} (h:Lay w own imm tb mb cl t H L) (hb:t.lv b=some l):Lay (w.setCell ⟨b,0,none⟩ (gP u)) own imm tb mb cl {t with up:=updT t.up b (some u)} H L:=by
 refine Lay.node h hb rfl rfl rfl rfl rfl rfl (fun x hx=>qai hx) (fun _ _=>rfl) (fun _ _=>rfl) (fun _ _ h=>h) ?_ ?_ (fun e he=>h.ekey b l e hb he)
 · simp [qaf,gO]
 · intro hn
   exact⟨h.row b l hb hn,fun g hg=>⟨h.oR b l g hb hn hg,fun b' l' hb' hne hn' q=>hne (h.apR b' b l' l g hb' hb hn' hn q hg)⟩⟩
theorem Lay.noUp {b l:Nat} (h:Lay w own imm tb mb cl t H L) (hb:t.lv b=some l):Lay (w.setCell ⟨b,0,none⟩ (.pointer none)) own imm tb mb cl {t with up:=updT t.up b none} H L:=by
 refine Lay.node h hb rfl rfl rfl rfl rfl rfl (fun x hx=>qai hx) (fun _ _=>rfl) (fun _ _=>rfl) (fun _ _ h=>h) ?_ ?_ (fun e he=>h.ekey b l e hb he)
 · simp [qaf,gO]
 · intro hn
   exact⟨h.row b l hb hn,fun g hg=>⟨h.oR b l g hb hn hg,fun b' l' hb' hne hn' q=>hne (h.apR b' b l' l g hb' hb hn' hn q hg)⟩⟩
theorem Lay.setRow {b l:Nat} {v:Value} {es:List En} (h:Lay w own imm tb mb cl t H L) (hb:t.lv b=some l) (hrow:w.ownsRow 0 96 3 v es.length (qam (decide (l=0)) es))
 (hv:∀g,v.ownBlock=some g->own g/\∀b' l',t.lv b' =some l' ->b' ≠b->¬ H b' ->(t.sl b').ownBlock≠some g) (hkey:∀e∈es,qdf w imm e.kv e.kb):
 Lay (w.setCell ⟨b,2,none⟩ v) own imm tb mb cl {t with es:=updT t.es b es,sl:=updT t.sl b v} (fun x=>H x/\x≠b) L:=by
 refine Lay.node h hb rfl rfl rfl rfl rfl rfl (fun _ _=>rfl) (fun x hx=>qai hx) (fun x hx=>qai hx) (fun x hx hn q=>hn ⟨q,hx⟩) ?_ ?_ ?_
 · simp [qaf]
 · intro _
   simp only [qaf]
   exact⟨hrow,hv⟩
 · simp only [qaf]
   exact hkey
theorem Lay.rowTurn {b l g:Nat} {es:List En} (h:Lay w own imm tb mb cl t H L) (hb:t.lv b=some l) (hn:¬ H b) (hg0:(t.sl b).ownBlock=some g) (hg:w.grownBy w' (some g))
 (hrow:w'.ownsRow 0 96 3 (t.sl b) es.length (qam (decide (l=0)) es)) (hkey:∀e∈es,qdf w imm e.kv e.kb):
 Lay w' own imm tb mb cl {t with es:=updT t.es b es} H L:=by
 obtain⟨cur,hB⟩:=qij (h.row b l hb hn) hg0;have hib:∀k,some g=some k->¬ imm k:=fun k e=>by cases e;exact h.sep g (h.oR b l g hb hn hg0)
 refine⟨?_,?_,?_,?_,?_,?_,?_,h.apR,h.apI,h.oT,h.oM,h.oN,h.oR,h.oI,h.sep,fun b hb=>zky (h.lim b hb) hg.size⟩
 · exact Blk.kept h.hd hg (fun e=>hB.ne h.hd tyET (by simpa using e))
 · exact qba.kept h.mp hg (fun e=>qfi h.mp hB (by simpa using e.symm))
 · intro x m hx
   exact Blk.kept (h.nd x m hx) hg (fun e=>hB.ne (h.nd x m hx) (Ne.symm tyNE) (by simpa using e))
 · intro x m hx hnx
   by_cases hxb:x=b
   · subst hxb
     rw [hb] at hx
     cases hx
     simp only [qaf]
     exact hrow
   · simp only [qai hxb]
     refine qaq (h.row x m hx hnx) hg fun k e q=>hxb ?_
     cases e
     exact h.apR x b m l g hx hb hnx hn q hg0
 · intro id x hx
   obtain⟨z,h1,h2⟩:=h.it id x hx;exact⟨z,Blk.kept h1 hg (fun e=>hB.ne h1 tyEI (by simpa using e)),h2⟩
 · intro id x hx
   exact⟨(h.ikey id x hx).1.kept hg hib,(h.ikey id x hx).2.kept hg hib⟩
 · intro x m e hx he
   by_cases hxb:x=b
   · subst hxb
     simp only [qaf] at he;exact(hkey e he).kept hg hib
   · simp only [qai hxb] at he
     exact(h.ekey x m e hx he).kept hg hib
theorem Lay.rowLost {b l:Nat} (h:Lay w own imm tb mb cl t H L) (hb:t.lv b=some l) (hn:¬ H b) (hg:w.grownBy w' (t.sl b).ownBlock):
 Lay w' own imm tb mb cl t (fun x=>H x\/x=b) L:=by
 cases hs:(t.sl b).ownBlock with
 | none=>
   rw [hs] at hg;exact(h.kept hg sI).less (fun _ q=> .inl q) fun _ q=>q
 | some g=>
   rw [hs] at hg;obtain⟨cur,hB⟩:=qij (h.row b l hb hn) hs;have hib:∀k,some g=some k->¬ imm k:=fun k e=>by cases e;exact h.sep g (h.oR b l g hb hn hs)
   refine⟨?_,?_,?_,?_,?_,?_,?_,?_,h.apI,h.oT,h.oM,h.oN,?_,h.oI,h.sep,fun b hb=>zky (h.lim b hb) hg.size⟩
   · exact Blk.kept h.hd hg (fun e=>hB.ne h.hd tyET (by simpa using e))
   · exact qba.kept h.mp hg (fun e=>qfi h.mp hB (by simpa using e.symm))
   · intro x m hx
     exact Blk.kept (h.nd x m hx) hg (fun e=>hB.ne (h.nd x m hx) (Ne.symm tyNE) (by simpa using e))
   · intro x m hx hnx
     refine qaq (h.row x m hx fun q=>hnx (.inl q)) hg fun k e q=>hnx (.inr ?_)
     cases e
     exact h.apR x b m l g hx hb (fun q=>hnx (.inl q)) hn q hs
   · intro id x hx
     obtain⟨z,h1,h2⟩:=h.it id x hx;exact⟨z,Blk.kept h1 hg (fun e=>hB.ne h1 tyEI (by simpa using e)),h2⟩
   · intro id x hx
     exact⟨(h.ikey id x hx).1.kept hg hib,(h.ikey id x hx).2.kept hg hib⟩
   · intro x m e hx he
     exact(h.ekey x m e hx he).kept hg hib
   · intro x x' m m' k hx hx' hn1 hn2
     exact h.apR x x' m m' k hx hx' (fun q=>hn1 (.inl q)) fun q=>hn2 (.inl q)
   · intro x m k hx hnx
     exact h.oR x m k hx fun q=>hnx (.inl q)
theorem Lay.setLeaf {id:Int} {x:It} {b:Nat} (h:Lay w own imm tb mb cl t H L) (hx:getK id t.items=some x):Lay (w.setCell ⟨x.blk,3,none⟩ (gP b)) own imm tb mb cl {t with leaf:=updT t.leaf id b} H (fun i=>L i/\i≠id):=by
 obtain⟨z,hB,_⟩:=h.it id x hx;have hg:=qb2 w ⟨x.blk,3,none⟩ (gP b);have hib:∀k,some x.blk=some k->¬ imm k:=fun k e=>by cases e;exact h.sep _ (h.oI id x hx)
 refine⟨?_,?_,?_,?_,?_,?_,?_,h.apR,h.apI,h.oT,h.oM,h.oN,h.oR,h.oI,h.sep,fun b hb=>zky (h.lim b hb) hg.size⟩
 · exact Blk.kept h.hd hg (fun e=>hB.ne h.hd tyIT (by simpa using e))
 · exact qba.kept h.mp hg (fun e=>qfi h.mp hB (by simpa using e.symm))
 · intro y m hy
   exact Blk.kept (h.nd y m hy) hg (fun e=>hB.ne (h.nd y m hy) (Ne.symm tyNI) (by simpa using e))
 · intro y m hy hn
   exact qaq (h.row y m hy hn) hg fun k e=>by cases e;exact qe1 (h.row y m hy hn) hB tyEI
 · intro i y hy
   by_cases hi:i=id
   · subst hi
     have hyx:y=x:=by rw [hx] at hy;cases hy;rfl
     subst hyx;refine⟨gP b,?_,fun _=>by simp only [qaf]⟩
     have:=hB.set_ 3 (gP b);exact this
   · obtain⟨z',h1,h2⟩:=h.it i y hy
     refine⟨z',Blk.kept h1 hg (fun e=>hi (h.apI i id y x hy hx (by simpa using e.symm))),fun hn=> ?_⟩
     simp only [qai hi]
     exact h2 fun q=>hn ⟨q,hi⟩
 · intro i y hy
   exact⟨(h.ikey i y hy).1.kept hg hib,(h.ikey i y hy).2.kept hg hib⟩
 · intro y m e hy he
   exact(h.ekey y m e hy he).kept hg hib
theorem Lay.setRoot {r:Nat} (h:Lay w own imm tb mb cl t H L):Lay (w.setCell ⟨tb,2,none⟩ (gP r)) own imm tb mb cl {t with root:=r} H L:=by
 have hB:=h.hd;have hg:=qb2 w ⟨tb,2,none⟩ (gP r);have hib:∀k,some tb=some k->¬ imm k:=fun k e=>by cases e;exact h.sep _ h.oT
 refine⟨?_,?_,?_,?_,?_,?_,?_,h.apR,h.apI,h.oT,h.oM,h.oN,h.oR,h.oI,h.sep,fun b hb=>zky (h.lim b hb) hg.size⟩
 · exact hB.set_ 2 (gP r)
 · exact qba.kept h.mp hg (fun e=>qfi h.mp hB (by simpa using e.symm))
 · intro y m hy
   exact Blk.kept (h.nd y m hy) hg (fun e=>hB.ne (h.nd y m hy) (Ne.symm tyNT) (by simpa using e))
 · intro y m hy hn
   exact qaq (h.row y m hy hn) hg fun k e=>by cases e;exact qe1 (h.row y m hy hn) hB tyET
 · intro i y hy
   obtain⟨z',h1,h2⟩:=h.it i y hy;exact⟨z',Blk.kept h1 hg (fun e=>hB.ne h1 (Ne.symm tyIT) (by simpa using e)),h2⟩
 · intro i y hy
   exact⟨(h.ikey i y hy).1.kept hg hib,(h.ikey i y hy).2.kept hg hib⟩
 · intro y m e hy he
   exact(h.ekey y m e hy he).kept hg hib
theorem Lay.born {b l:Nat} {v:Value} {es:List En} {u:Option Nat} (h:Lay w own imm tb mb cl t H L) (hb:Blk w b 79 #[gO u,.bool (decide (l=0)),v]) (ho:own b) (hn:t.lv b=none)
 (hrow:w.ownsRow 0 96 3 v es.length (qam (decide (l=0)) es)) (hv:∀g,v.ownBlock=some g->own g/\∀b' l',t.lv b' =some l' ->¬ H b' ->(t.sl b').ownBlock≠some g) (hkey:∀e∈es,qdf w imm e.kv e.kb):
 Lay w own imm tb mb cl {t with lv:=updT t.lv b (some l),up:=updT t.up b u,es:=updT t.es b es,sl:=updT t.sl b v} H L:=by
 have hout:∀{x m},updT t.lv b (some l) x=some m->x≠b->t.lv x=some m:=fun {x m} hx hne=>by rwa [qai hne] at hx
 refine⟨h.hd,h.mp,?_,?_,h.it,h.ikey,?_,?_,h.apI,h.oT,h.oM,?_,?_,h.oI,h.sep,h.lim⟩
 · intro x m hx
   by_cases hxb:x=b
   · subst hxb
     simp only [qaf] at hx ⊢
     cases hx
     exact hb
   · simp only [qai hxb]
     exact h.nd x m (hout hx hxb)
 · intro x m hx hnx
   by_cases hxb:x=b
   · subst hxb
     simp only [qaf] at hx ⊢
     cases hx
     exact hrow
   · simp only [qai hxb]
     exact h.row x m (hout hx hxb) hnx
 · intro x m e hx he
   by_cases hxb:x=b
   · subst hxb
     simp only [qaf] at he;exact hkey e he
   · simp only [qai hxb] at he
     exact h.ekey x m e (hout hx hxb) he
 · intro x x' m m' g hx hx' hn1 hn2 h1 h2
   by_cases hxb:x=b
   · subst hxb
     by_cases hxb' :x' =x
     · exact hxb'.symm
     · simp only [qaf,qai hxb'] at h1 h2
       exact absurd h2 ((hv g h1).2 x' m' (hout hx' hxb') hn2)
   · by_cases hxb' :x' =b
     · subst hxb'
       simp only [qaf,qai hxb] at h1 h2;exact absurd h1 ((hv g h2).2 x m (hout hx hxb) hn1)
     · simp only [qai hxb,qai hxb'] at h1 h2
       exact h.apR x x' m m' g (hout hx hxb) (hout hx' hxb') hn1 hn2 h1 h2
 · intro x m hx
   by_cases hxb:x=b
   · rw [hxb];exact ho
   · exact h.oN x m (hout hx hxb)
 · intro x m g hx hnx h1
   by_cases hxb:x=b
   · subst hxb
     simp only [qaf] at h1;exact(hv g h1).1
   · simp only [qai hxb] at h1
     exact h.oR x m g (hout hx hxb) hnx h1
theorem Lay.forget {lv:Nat->Option Nat} (h:Lay w own imm tb mb cl t H L) (hl:∀b l,lv b=some l->t.lv b=some l):Lay w own imm tb mb cl {t with lv:=lv} H L:=
 ⟨h.hd,h.mp,fun b l hb=>h.nd b l (hl b l hb),fun b l hb=>h.row b l (hl b l hb),h.it,h.ikey,fun b l e hb=>h.ekey b l e (hl b l hb),fun b b' l l' g hb hb' =>h.apR b b' l l' g (hl b l hb) (hl b' l' hb'),h.apI,h.oT,h.oM,fun b l hb=>h.oN b l (hl b l hb),fun b l g hb=>h.oR b l g (hl b l hb),h.oI,h.sep,h.lim⟩
theorem Lay.put {id:Int} {x:It} {z:Value} (h:Lay w own imm tb mb cl t H L) (hr:qdo t.items) (hno:getK id t.items=none) (hB:Blk w x.blk 100 #[.int .i64 x.ob.kind,x.ov,x.kv,z]) (ho:own x.blk) (hap:∀i y,getK i t.items=some y->y.blk≠x.blk)
 (hk:qdf w imm x.kv x.kb) (hp:qla w imm x.ov x.ob.pts) (hL:L id) (hg:w.grownBy w' (some mb)) (hm:qba w' Tryz.prog 3 mb (putK id (gP x.blk) (t.items.map fun p=>(p.1,gP p.2.blk)))):
 Lay w' own imm tb mb cl {t with items:=putK id x t.items} H L:=by
 have hib:∀k,some mb=some k->¬ imm k:=fun k e=>by cases e;exact h.sep _ h.oM
 have hget:∀i,getK i (putK id x t.items)=if i=id then some x else getK i t.items:=fun i=>get_put hr id x i
 refine⟨?_,?_,?_,?_,?_,?_,?_,h.apR,?_,h.oT,h.oM,h.oN,h.oR,?_,h.sep,fun b hb=>zky (h.lim b hb) hg.size⟩
 · exact Blk.kept h.hd hg (fun e=>qfi h.mp h.hd (by simpa using e))
 · have e:(putK id x t.items).map (fun p=>(p.1,gP p.2.blk))=putK id (gP x.blk) (t.items.map fun p=>(p.1,gP p.2.blk)):=by
    unfold putK
    rw [<-qnc (fun y:It=>gP y.blk)]
    congr 1;unfold delK
    rw [List.filter_map]
    rfl
   simp only
   rw [e]
   exact hm
 · intro y m hy
   exact Blk.kept (h.nd y m hy) hg (fun e=>qfi h.mp (h.nd y m hy) (by simpa using e))
 · intro y m hy hn
   exact qaq (h.row y m hy hn) hg fun k e=>by cases e;exact qv5 h.mp (h.row y m hy hn)
 · intro i y hy
   simp only [hget] at hy
   split at hy
   · rename_i hi
     cases hy
     exact⟨z,Blk.kept hB hg (fun e=>qfi h.mp hB (by simpa using e)),fun hn=>absurd (hi ▸ hL) hn⟩
   · obtain⟨z',h1,h2⟩:=h.it i y hy
     exact⟨z',Blk.kept h1 hg (fun e=>qfi h.mp h1 (by simpa using e)),h2⟩
 · intro i y hy
   simp only [hget] at hy
   split at hy
   · cases hy
     exact⟨hk.kept hg hib,hp.kept hg hib⟩
   · exact⟨(h.ikey i y hy).1.kept hg hib,(h.ikey i y hy).2.kept hg hib⟩
 · intro y m e hy he
   exact(h.ekey y m e hy he).kept hg hib
 · intro i i' y y' hy hy' e
   simp only [hget] at hy hy'
   split at hy
   · rename_i h1
     split at hy'
     · rename_i h2
       rw [h1,h2]
     · cases hy
       exact absurd e.symm (hap i' y' hy')
   · split at hy'
     · cases hy'
       exact absurd e (hap i y hy)
     · exact h.apI i i' y y' hy hy' e
 · intro i y hy
   simp only [hget] at hy
   split at hy
   · cases hy;exact ho
   · exact h.oI i y hy
theorem Lay.del {id:Int} (h:Lay w own imm tb mb cl t H L) (hr:qdo t.items) (hg:w.grownBy w' (some mb)) (hm:qba w' Tryz.prog 3 mb (delK id (t.items.map fun p=>(p.1,gP p.2.blk)))):
 Lay w' own imm tb mb cl {t with items:=delK id t.items} H L:=by
 have hib:∀k,some mb=some k->¬ imm k:=fun k e=>by cases e;exact h.sep _ h.oM
 have hget:∀{i y},getK i (delK id t.items)=some y->getK i t.items=some y:=fun {i y} hy=>by
  rw [qkq hr] at hy
  split at hy
  · cases hy
  · exact hy
 refine⟨?_,?_,?_,?_,?_,?_,?_,h.apR,fun i i' y y' hy hy' =>h.apI i i' y y' (hget hy) (hget hy'),h.oT,h.oM,h.oN,h.oR,fun i y hy=>h.oI i y (hget hy),h.sep,fun b hb=>zky (h.lim b hb) hg.size⟩
 · exact Blk.kept h.hd hg (fun e=>qfi h.mp h.hd (by simpa using e))
 · have e:(delK id t.items).map (fun p=>(p.1,gP p.2.blk))=delK id (t.items.map fun p=>(p.1,gP p.2.blk)):=by
    unfold delK
    rw [List.filter_map]
    rfl
   simp only
   rw [e]
   exact hm
 · intro y m hy
   exact Blk.kept (h.nd y m hy) hg (fun e=>qfi h.mp (h.nd y m hy) (by simpa using e))
 · intro y m hy hn
   exact qaq (h.row y m hy hn) hg fun k e=>by cases e;exact qv5 h.mp (h.row y m hy hn)
 · intro i y hy
   obtain⟨z',h1,h2⟩:=h.it i y (hget hy);exact⟨z',Blk.kept h1 hg (fun e=>qfi h.mp h1 (by simpa using e)),h2⟩
 · intro i y hy
   exact⟨(h.ikey i y (hget hy)).1.kept hg hib,(h.ikey i y (hget hy)).2.kept hg hib⟩
 · intro y m e hy he
   exact(h.ekey y m e hy he).kept hg hib
end
theorem qee (lf:Bool) (l:List En):(qam lf l).length=l.length*3:=by
 unfold qam
 induction l with
 | nil=>rfl
 | cons a r ih=>rw [zvy,zny,ih];simp [qdz];omega
theorem qcc (lf:Bool) (l m:List En):qam lf (l++m)=qam lf l++qam lf m:=by unfold qam;rw [List.flatMap_append]
theorem qkv (lf:Bool) (l:List En) (k:Nat):(qam lf l).take (k*3)=qam lf (l.take k):=by
 induction l generalizing k with
 | nil=>simp [qam]
 | cons a r ih=>
   cases k with
   | zero=>simp [qam]
   | succ k=>
     rw [List.take_succ_cons]
     show (qdz lf a++qam lf r).take ((k+1)*3)=qdz lf a++qam lf (r.take k)
     rw [<-ih,List.take_append]
     simp [qdz]
     rw [show (k+1)*3-3=k*3 by omega]
     simp [show (k+1)*3=k*3+1+1+1 by omega]
theorem qkw (lf:Bool) (l:List En) (k:Nat):(qam lf l).drop (k*3)=qam lf (l.drop k):=by
 induction l generalizing k with
 | nil=>simp [qam]
 | cons a r ih=>
   cases k with
   | zero=>simp
   | succ k=>
     rw [List.drop_succ_cons]
     show (qdz lf a++qam lf r).drop ((k+1)*3)=qam lf (r.drop k)
     rw [<-ih,show (k+1)*3=3+k*3 by omega,<-List.drop_drop]
     simp [qdz]
theorem qxf {lf:Bool} {l:List En} {k:Nat} {e:En} (h:l[k]? =some e):(qam lf l)[k*3]? =some e.kv/\(qam lf l)[k*3+1]? =some (.int .i64 e.id)/\(qam lf l)[k*3+2]? =some (if lf then .pointer none else gP e.kid):=by
 have h1:=qkw lf l k
 have h2:l.drop k=e::l.drop (k+1):=by
  have hk:k<l.length:=by
   rcases zry k l.length with q|q
   · exact q
   · rw [zoy q] at h;cases h
  rw [zgx hk]
  rw [zby hk] at h;injection h with h
  rw [h]
 rw [h2] at h1
 have h3:∀j,(qam lf l)[k*3+j]? =(qdz lf e++qam lf (l.drop (k+1)))[j]? :=fun j=>by
  rw [<-List.getElem?_drop,h1];rfl
 exact⟨h3 0,h3 1,h3 2⟩
theorem qt7 {lf:Bool} {l:List En} {k:Nat} (kv:Value) (kb:List Nat):(qam lf l).set (k*3) kv=if k<l.length then qam lf (l.modify k fun e=>{e with kv:=kv,kb:=kb}) else qam lf l:=by
 induction l generalizing k with
 | nil=>simp [qam]
 | cons a r ih=>
   cases k with
   | zero=>simp [qam,qdz]
   | succ k=>
     show (qdz lf a++qam lf r).set ((k+1)*3) kv=_
     rw [List.set_append_right _ _ (by simp [qdz];omega)]
     have:(k+1)*3-(qdz lf a).length=k*3:=by simp [qdz];omega
     rw [this,ih,List.modify_succ_cons]
     by_cases hk:k<r.length
     · rw [if_pos hk,if_pos (by simp;omega)];rfl
     · rw [if_neg hk,if_neg (by simp;omega)];rfl
theorem qqu (lf:Bool) (e:En):qam lf [e]=qdz lf e:=by simp [qam]
theorem qcf {w:World} {lf:Bool} {v:Value} {es:List En} (h:w.ownsRow 0 96 3 v es.length (qam lf es)) {k:Nat} {e:En} (hk:es[k]? =some e):
 ∃g c,v=.slice (some ⟨g,0,none⟩) es.length c/\g<w.heap.size/\w.cell? ⟨g,k*3,none⟩=some e.kv/\w.cell? ⟨g,k*3+1,none⟩=some (.int .i64 e.id)/\w.cell? ⟨g,k*3+2,none⟩=some (if lf then .pointer none else gP e.kid):=by
 have hkl:k<es.length:=by
  rcases zry k es.length with q|q
  · exact q
  · rw [zoy q] at hk;cases hk
 have h2:=h
 rcases h2.2 with ⟨_,h0⟩|⟨g,cap,cur,rfl,_,hg,_⟩
 · omega
 · obtain⟨c0,c1,c2⟩:=qxf (lf:=lf) hk
   refine⟨g,cap,rfl,(zqy.1 hg).1,?_,?_,?_⟩
   · rw [h.cellAt _ oQ];exact c0
   · rw [h.cellAt _ oQ];exact c1
   · rw [h.cellAt _ oQ];exact c2
theorem qas {w:World} {e:TypeId} {base size n:Nat} {v:Value} {xs:List Value} (h:w.ownsRow base e size v n xs):∃A c,v=.slice A n c/\n<=c/\(A=none->c=0)/\∀a,A=some a->a.block<w.heap.size:=by
 rcases h.2 with ⟨rfl,rfl⟩|⟨g,cap,cur,rfl,_,hg,hc,_⟩
 · exact⟨none,0,rfl,zhy _,fun _=>rfl,by simp⟩
 · exact⟨_,cap,rfl,hc,by simp,fun a e=>by cases e;exact(zqy.1 hg).1⟩
theorem qdf.bys {w:World} {Z:Nat->Prop} {v:Value} {kb:List Nat} (h:qdf w Z v kb):∃A c,v=.slice A kb.length c/\kb.length<=c/\(A=none->c=0)/\qbm w w.heap.size A kb.length kb:=by
 obtain⟨h1,h2,A,c,e,h3,h4,h5⟩:=h;refine⟨A,c,e,h3,h4,rfl,fun hn=> ?_⟩
 obtain⟨b,off,ea,_,hb,hc⟩:=h5 (by simpa [qap] using hn)
 exact⟨b,off,ea,hb,fun k x hk=>hc k _ (by simp [qap,hk])⟩
theorem qla.pts {w:World} {Z:Nat->Prop} {v:Value} {l:List Pt} (h:qla w Z v l):∃A c,v=.slice A l.length c/\l.length<=c/\(A=none->c=0)/\qal w w.heap.size A l.length l:=by
 obtain⟨h2,A,c,e,h3,h4,h5⟩:=h;refine⟨A,c,e,h3,h4,rfl,fun hn=> ?_⟩
 obtain⟨b,off,ea,_,hb,hc⟩:=h5 (by rw [qb9];omega)
 refine⟨b,off,ea,hb,fun k p hk=> ?_⟩
 obtain⟨c0,c1⟩:=qig l k p hk;exact⟨hc _ _ c0,by rw [Nat.add_assoc];exact hc _ _ c1⟩
theorem ql8 {w:World} {base:Nat} {v:Value} {kb:List Nat} {Z:Nat->Prop} (h:w.ownsRow base 5 1 v kb.length (qap kb)) (h1:∀x∈kb,x<256) (h2:kb.length<=1000000) (hZ:∀g,v.ownBlock=some g->Z g):qdf w Z v kb:=by
 have h' :=h
 rcases h'.2 with ⟨rfl,h0⟩|⟨g,cap,cur,rfl,_,hg,hc,_⟩
 · refine⟨h1,h2,none,0,by rw [h0],by omega,fun _=>rfl,fun hn=> ?_⟩
   simp [qap] at hn
   have:kb.length=0:=h0
   omega
 · refine⟨h1,h2,_,cap,rfl,hc,by simp,fun hn=>⟨g,0,rfl,hZ g rfl,(zqy.1 hg).1,fun k u hk=> ?_⟩⟩
   have hkl:k<kb.length*1:=by
    have:k<(qap kb).length:=by
     rcases zry k (qap kb).length with q|q
     · exact q
     · rw [zoy q] at hk;cases hk
    simpa [qap] using this
   rw [Nat.zero_add,h.cellAt k hkl]
   exact hk
theorem qi1 {w:World} {base:Nat} {v:Value} {l:List Pt} {Z:Nat->Prop} (h:w.ownsRow base 46 2 v l.length (qbp l)) (h2:l.length<=1000000) (hZ:∀g,v.ownBlock=some g->Z g):qla w Z v l:=by
 have h' :=h
 rcases h'.2 with ⟨rfl,h0⟩|⟨g,cap,cur,rfl,_,hg,hc,_⟩
 · refine⟨h2,none,0,by rw [h0],by omega,fun _=>rfl,fun hn=> ?_⟩
   rw [qb9] at hn
   omega
 · refine⟨h2,_,cap,rfl,hc,by simp,fun hn=>⟨g,0,rfl,hZ g rfl,(zqy.1 hg).1,fun k u hk=> ?_⟩⟩
   have hkl:k<l.length*2:=by
    have:k<(qbp l).length:=by
     rcases zry k (qbp l).length with q|q
     · exact q
     · rw [zoy q] at hk;cases hk
    rwa [qb9] at this
   rw [Nat.zero_add,h.cellAt k hkl]
   exact hk
end Go.Proofs.YtfnhnjbkkggbeaaGreat
namespace Go.Proofs.YtfnhnjbkkggbeaaGreat
open Go Go.RowKit Pg
theorem qck {P:Program} {c:Code} {Q:Exit->Act->World->Prop} {a:Act} {w:World} (R:World->Prop) (h:R w) (k:∀w2,R w2->c.wp P Q a w2):c.wp P Q a w:=k w h
theorem qvz {P:Program} {f:Func} {Q:Ending->World->Prop} {x:Exit} {a:Act} {w:World} (R:World->Prop) (h:R w) (k:∀w2,R w2->bodyPost P f Q x a w2):bodyPost P f Q x a w:=k w h
theorem qya {W:World} {g:Nat} {t:TypeId} {x y a b:Value} (h:Blk W g t #[x,y]):Blk ((W.setCell ⟨g,0,none⟩ a).setCell ⟨g,1,none⟩ b) g t #[a,b]:=((h.set_ 0 a).set_ 1 b).eq_ sI
section
variable {w:World} {own imm:Nat->Prop} {tb mb:Nat} {ct:TypeId} {cv:Value} {t:Tr} {H:Nat->Prop} {L:Int->Prop}
theorem Lay.c0 {cl:Value} (h:Lay w own imm tb mb cl t H L):w.cell? ⟨tb,0,none⟩=some cl/\w.cell? ⟨tb,1,none⟩=some (.int .i64 t.fan)/\w.cell? ⟨tb,2,none⟩=some (gP t.root)/\w.cell? ⟨tb,3,none⟩=some (.map (some mb))/\tb<w.heap.size:=by
 refine⟨?_,?_,?_,?_,h.hd.lt⟩<;>rw [h.hd.cell]<;>rfl
theorem Lay.n0 {cl:Value} {b l:Nat} (h:Lay w own imm tb mb cl t H L) (hb:t.lv b=some l):w.cell? ⟨b,0,none⟩=some (gO (t.up b))/\w.cell? ⟨b,1,none⟩=some (.bool (decide (l=0)))/\w.cell? ⟨b,2,none⟩=some (t.sl b)/\b<w.heap.size:=by
 refine⟨?_,?_,?_,(h.nd b l hb).lt⟩<;>rw [(h.nd b l hb).cell]<;>rfl
theorem qc9 (h:Lay w own imm tb mb (.iface ct cv) t H L):C9 25 #[gP tb] w (Ret w (.bool false)):=by
 obtain⟨c0,c1,c2,c3,lt⟩:=h.c0;clear h
 try simp only [gP] at*
 go_enter Tryz.func25,Tryz.ntmps25
 go_wp2;go_ret;exact⟨rfl,bel⟩
theorem qkl {cl:Value} (h:Lay w own imm tb mb cl t H L) (hf:t.fan<=1000):C9 45 #[gP tb] w (Ret w (.int .i64 ((t.fan/2:Nat):Int))):=by
 obtain⟨c0,c1,c2,c3,lt⟩:=h.c0;clear h;have e:(t.fan:Int).tdiv 2=((t.fan/2:Nat):Int):=by rw [Int.tdiv_eq_ediv_of_nonneg oQ];rfl
 have e2:IntKind.i64.wrap ((t.fan/2:Nat):Int)=((t.fan/2:Nat):Int):=IntWalk.i64_in _ ⟨by omega,by omega⟩
 generalize (t.fan/2:Nat)=m at*;generalize t.fan=f at*
 try simp only [gP] at*
 go_enter Tryz.func45,Tryz.ntmps45
 go_wp2;go_ret;exact⟨by simp [e,e2],bel⟩
end
theorem qv7 (B n c:Nat) (k:Int) (A:Option Addr) (l:List Pt) (w:World) (hl:qal w B A n l) (hB:B<=w.heap.size) (hn:0<n) (hn2:n<=1000000):
 C9 40 #[.agg #[.int .i64 k,.slice A n c]] w fun e w' =>∃g c',e=.returned (.agg #[.int .i64 k,.slice (some ⟨g,0,none⟩) n c'])/\w'.ownsRow w.heap.size 46 2 (.slice (some ⟨g,0,none⟩) n c') n (qbp l)/\Below w.heap.size w w' :=by
 have HL:=hdQ hl;clear hl;have HC:=hdQ (fun W (hW:Below w.heap.size w W)=>qme B n c A l W (HL.out.below (hW.mono hB)) (zcy hB hW.size) hn hn2)
 try simp only [gP] at*
 go_enter Tryz.func40,Tryz.ntmps40
 go_wp2_with (go_at_call 28;(with_reducible refine(HC.out _ bel).mono ?_);rintro e w1 ⟨g,c',rfl,ho,hb1⟩;obtain⟨hc1,hf1,hz1⟩:=bc3 hb1;(try simp at hz1);obtain⟨hx1,hx2⟩:=ol2 w w1;have HO:=hdQ ho;clear ho;have hBx:Blk w1 w.heap.size 40 #[.int .i64 k,.slice A n c]:=blkA;obtain⟨cx0,cx1⟩:=ce2 hBx)
 have h1:w1.ownsRow w.heap.size 46 2 (.slice (some ⟨g,0,none⟩) n c') n (qbp l):=qbb HO.out (by simp;omega)
 have hg0:=(HO.out.lt g rfl).1
 simp at hg0
 refine qvz (fun w2=>Blk w2 (w.heap.size+1) 40 #[.int .i64 k,.slice (some ⟨g,0,none⟩) n c']/\w2.ownsRow w.heap.size 46 2 (.slice (some ⟨g,0,none⟩) n c') n (qbp l)/\Below w.heap.size w w2) ⟨?_,?_,bel⟩ ?_
 · exact qya (x:=.int .i64 0) (y:=.slice none 0 0) blkA
 · repeat(first|with_reducible assumption|(refine qaq ?_ (qb2 _ _ _) ?_;rotate_left;focus(intro k hk hq;simp [Value.ownBlock] at hk hq;omega)))
 rintro w2 ⟨HR,hO2,hb2⟩;obtain⟨r0,r1⟩:=ce2 HR;exact bodyPost_ret (v:=.agg #[.int .i64 k,.slice (some ⟨g,0,none⟩) n c']) (by simp [results,Tryz.results40,go_sem,r0,r1]) rfl ⟨_,_,rfl,hO2,hb2⟩
def idxK (k:Nat):List En->Nat->Int
 | [],_=> -1
 | e::r,i=>if e.kid=k then(i:Int) else idxK k r (i+1)
theorem qw3 {k:Nat} {l:List En} {i:Nat} {e:En} (h:l[i]? =some e):idxK k (l.drop i) i=if e.kid=k then(i:Int) else idxK k (l.drop (i+1)) (i+1):=by
 have hi:i<l.length:=by
  rcases zry i l.length with q|q
  · exact q
  · rw [zoy q] at h;cases h
 rw [zgx hi]
 rw [zby hi] at h;injection h with h
 rw [h]
 rfl
theorem qor {k:Nat}:∀{l:List En} (i:Nat),(∃e∈l,e.kid=k)->∃j x,idxK k l i=((i+j:Nat):Int)/\l[j]? =some x/\x.kid=k
 | [],_,h=>by obtain⟨e,he,_⟩:=h;cases he
 | e::r,i,h=>by
   unfold idxK
   by_cases hk:e.kid=k
   · exact⟨0,e,by rw [if_pos hk];rfl,rfl,hk⟩
   · obtain⟨e',he',hk'⟩:=h
     have:∃e∈r,e.kid=k:=by
      rcases List.mem_cons.1 he' with q|q
      · exact absurd (q ▸ hk') hk
      · exact⟨e',q,hk'⟩
     obtain⟨j,x,h1,h2,h3⟩:=qor (i+1) this;exact⟨j+1,x,by rw [if_neg hk,h1];congr 1;omega,by simpa using h2,h3⟩
theorem Tryz.infoNdG:(Tryz.prog.info? 79).map (fun i=>(i.zero,i.size,i.bytes))=some (some (.agg #[.pointer none,.bool false,.slice none 0 0]),3,40):=by kernel_rfl
theorem qtm (kv:Value) (id:Int) (k' k g:Nat) (w:World) (hg:w.cell? ⟨g,0,none⟩=some (gP k)) (hlt:g<w.heap.size) (h1:∃cs,Blk w k' 79 cs) (h2:∃cs,Blk w k 79 cs):
 C9 71 #[.agg #[kv,.int .i64 id,gP k'],.pointer (some ⟨g,0,none⟩)] w (Ret w (.bool (decide (k' =k)))):=by
 obtain⟨i0,hi,iz0,iz1,iz2⟩:=info_parts Tryz.infoNdG;obtain⟨c1,h1⟩:=h1;obtain⟨c2,h2⟩:=h2
 by_cases e:k' =k
 · subst e
   have hE:=fun w=>run_eql_ptr_same (P:=Tryz.prog) (tp:=76) (te:=79) (j:=i0) w ⟨k',0,none⟩ Tryz.underlying76 hi
   have hd:decide (k' =k')=true:=sI
   rw [hd]
   clear h1 h2
   simp only [gP] at*
   go_enter Tryz.func71,Tryz.ntmps71
   go_wp2;go_ret;exact⟨rfl,bel⟩
 · have hE:=run_eql_ptr_other (P:=Tryz.prog) (tp:=76) (te:=79) (j:=i0) (w.alloc (.cells #[kv,.int .i64 id,gP k'] 96)) (a:=⟨k',0,none⟩) (b:=⟨k,0,none⟩) Tryz.underlying76 hi (by rw [iz1];decide) (fun q=>e (by injection q)) (h1.alloc _) (h2.alloc _)
   have hd:decide (k' =k)=false:=decide_eq_false e
   rw [hd]
   clear h1 h2
   simp only [gP] at*
   go_enter Tryz.func71,Tryz.ntmps71
   go_wp2;go_ret;exact⟨rfl,bel⟩
theorem qoe (l:List En) (g k:Nat) (v:Value) (w:World) (h:w.ownsRow 0 96 3 v l.length (qam false l)) (hg:w.cell? ⟨g,0,none⟩=some (gP k)) (hlt:g<w.heap.size) (hn:l.length<=1000000) (hk0:∃cs,Blk w k 79 cs) (hkk:∀e∈l,∃cs,Blk w e.kid 79 cs):
 C9 70 #[v,.func (.func 71) #[] #[.pointer (some ⟨g,0,none⟩)]] w (Ret w (.int .i64 (idxK k l 0))):=by
 obtain⟨A,c,rfl,hnc,hAn,hAb⟩:=qas h;have HR:=hdQ h;have HKK:=hdQ hkk
 have HP:=hdQ (fun kv id k' W (hW:Below w.heap.size w W) (h1:∃cs,Blk W k' 79 cs)=>qtm kv id k' k g W (((qa1 hW).1 g 0 hlt).trans hg) (zky hlt hW.size) h1 (by
  obtain⟨cs,hb⟩:=hk0
  exact⟨cs,hb.tr hW⟩))
 clear h hnc hAn hAb hkk;generalize hl:l.length=n at*
 simp only [gP] at*
 go_enter Tryz.func70,Tryz.ntmps70
 go_wp2_with fail
 go_loopw [8] (fun vi wr=>∃i:Nat,i<=n/\vi=.int .i64 i/\idxK k (l.drop i) i=idxK k l 0/\Below w.heap.size w wr) (fun vi _=>n-(Go.RowKit.intOf vi).toNat)
 case atStart=>exact ⟨0,by omega,rfl,rfl,bel⟩
 case round=>
  obtain⟨i,hi,rfl,he,hb⟩:=hrel
  by_cases hlt' :i<n
  case neg=>
   obtain rfl:n=i:=oQ
   have HE:Hid (idxK k l 0= -1):=by
    unfold Hid
    rw [<-he,List.drop_of_length_le oQ]
    rfl
   clear he;go_wp2_with fail;go_ret;exact⟨by rw [HE.out];rfl,bel⟩
  have hi1:(i:Int)<(n:Int):=oQ
  obtain⟨x,hx⟩:∃x,l[i]? =some x:=⟨l[i]'oQ,zby _⟩
  have hr:=HR.out;rw [<-hl] at hr;obtain⟨g',c',hv,hgl,r0,r1,r2⟩:=qcf hr hx;obtain⟨csx,hbx⟩:=HKK.out x (zjy hx);have HBX:=hdQ (show ∃cs,Blk wr x.kid 79 cs from ⟨csx,hbx.tr hb⟩)
  clear hbx;injection hv with hv1 hv2 hv3
  subst hv1 hv3;obtain⟨hc,hf,hz⟩:=bc3 hb;rw [<-hc g' _ hgl] at r0 r1 r2;have hgw:g' <wr.heap.size:=oQ
  rw [qw3 hx] at he;simp only [Bool.false_eq_true,if_false,gP] at r2;clear hr hv2 hc hf
  by_cases hk:x.kid=k
  · rw [if_pos hk] at he
    have HE:=hdQ he;have hd:decide (x.kid=k)=true:=decide_eq_true hk;clear he hk
    go_wp2_with (go_at_call 71;(with_reducible refine(HP.out _ _ _ _ bel HBX.out).mono ?_);rintro e w1 ⟨rfl,hb1⟩;obtain⟨hc1,hf1⟩:=qa1 hb1;rw [hd])
    go_ret;exact⟨by rw [HE.out];rfl,bel⟩
  · rw [if_neg hk] at he
    have HE:=hdQ he;have hd:decide (x.kid=k)=false:=decide_eq_false hk;clear he hk
    go_wp2_with (go_at_call 71;(with_reducible refine(HP.out _ _ _ _ bel HBX.out).mono ?_);rintro e w1 ⟨rfl,hb1⟩;obtain⟨hc1,hf1⟩:=qa1 hb1;rw [hd])
    go_roundw
    case rel=>exact ⟨i+1,by omega,by go_num,HE.out,bel⟩
    case measure=>simp [Go.RowKit.intOf];omega
theorem Tryz.infoEnG:(Tryz.prog.info? 96).map (fun i=>(i.zero,i.size,i.bytes))=some (some (.agg #[.slice none 0 0,.int .i64 0,.pointer none]),3,40):=by kernel_rfl
end Go.Proofs.YtfnhnjbkkggbeaaGreat
