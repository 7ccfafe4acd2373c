/-Delete-/
import Derived.Test.YteodamnfgcnmmaaGreatDoorTDelC
import Derived.Deep.CutBlock
import Derived.Deep.DeepCutAuto
set_option linter.unusedVariables false
set_option linter.unusedSimpArgs false
set_option maxHeartbeats 4000000
set_option maxRecDepth 20000
namespace Pg
open Go Go.RowKit
section
variable {U:List (List Nat)->List Nat} {t t' :Tr} {L:Int->Prop} {n u l i:Nat}
structure Climb (U:List (List Nat)->List Nat) (t:Tr) (out:List Int) (n:Nat):Prop where
 shape:Shape t fun i=>i∈out
 fill:Fill t (· =n)
 keyed:Keyed U t (· =n)
 most:(t.es n).length<=t.fan
 nd:out.Nodup
 has:∀i∈out,∃it,getK i t.items=some it
theorem Climb.start {id:Int} {v:Value} (h:Shape t fun _=>False) (hf:Fill t fun _=>False) (hk:Keyed U t fun _=>False) (hn:t.lv n=some 0) (hid:t.leaf id=n) (ht:t' ={t with es:=updT t.es n ((t.es n).filter fun e=> !decide (e.id=id)),sl:=updT t.sl n v,items:=delK id t.items}):Climb U t' [] n:=by
 have hs:=h.cutLeaf hn hid ht;subst ht;refine⟨hs.less fun i=>by simp,fun b l hb hX=> ?_,fun b l u e hb hu hX he hek=> ?_,?_,List.nodup_nil,by simp⟩
 · simp only [qai hX]
   exact hf b l hb fun q=>q
 · have hun:u≠n:=fun q=>by
    have:=(h.up b l u hb hu).1;rw [q,hn] at this
    cases this
   simp only [qai hX,qai hun] at he ⊢
   exact hk b l u e hb hu (fun q=>q) he hek
 · simp only [qah]
   exact zcy (List.length_filter_le _ _) (hf n 0 hn fun q=>q).1
theorem q6r (h:Shape t L) {x:En} (hu:t.lv u=some (l+1)) (hx:(t.es u)[i]? =some x) (e:En):e∈(t.es u).eraseIdx i↔e∈t.es u/\e.kid≠x.kid:=by
 have hnd:=h.kids u l hu
 constructor
 · intro he
   rw [List.mem_eraseIdx_iff_getElem?] at he;obtain⟨j,hj,he⟩:=he;refine⟨zjy he,fun q=>hj (qn8 hnd he hx q)⟩
 · rintro⟨he,hne⟩
   rw [List.mem_eraseIdx_iff_getElem?]
   obtain⟨j,hj⟩:=List.mem_iff_getElem?.1 he;exact⟨j,fun q=>hne (by rw [q,hx] at hj;cases hj;rfl),hj⟩
theorem Climb.up {out:List Int} (c:Climb U t out n) (hn:t.lv n=some l) (hu:t.up n=some u):t.lv u=some (l+1)/\u≠n:=by
 have h1:=(c.shape.up n l u hn hu).1;refine⟨h1,fun q=> ?_⟩
 rw [q,hn] at h1;injection h1 with h1
 omega
open Classical in
theorem Climb.drop {out:List Int} {x:En} {v:Value} (c:Climb U t out n) (hn:t.lv n=some l) (hu:t.up n=some u) (hx:(t.es u)[i]? =some x) (hxk:x.kid=n)
 (ht:t' ={t with es:=updT t.es u ((t.es u).eraseIdx i),sl:=updT t.sl u v,lv:=fun b=>if Und t.up n b then none else t.lv b}):Climb U t' (out++below t l n) u:=by
 obtain⟨hul,hun⟩:=c.up hn hu;have hs:=c.shape.drop hn hu (fun e=>by rw [q6r c.shape hul hx,hxk]) ((c.shape.kids u l hul).sublist ((List.eraseIdx_sublist _ _).map _)) ht
 subst ht
 have hlv:∀{b m},(if Und t.up n b then none else t.lv b)=some m->t.lv b=some m/\b≠n:=fun {b m} hb=>by
  split at hb
  · cases hb
  · rename_i q
    exact⟨hb,fun e=>q (e ▸ .refl)⟩
 refine⟨hs.less fun i=>by rw [List.mem_append],fun b m hb hX=> ?_,fun b m v' e hb hv hX he hek=> ?_,?_,?_,?_⟩
 · obtain⟨hb1,hb2⟩:=hlv hb
   simp only [qai hX]
   exact c.fill b m hb1 hb2
 · obtain⟨hb1,hb2⟩:=hlv hb
   simp only [qai hX]
   refine c.keyed b m v' e hb1 hv hb2 ?_ hek
   by_cases q:v' =u
   · subst q
     simp only [qah] at he;exact(List.eraseIdx_sublist _ _).subset he
   · simp only [qai q] at he
     exact he
 · simp only [qah]
   exact zcy (List.eraseIdx_sublist _ _).length_le (c.fill u _ hul hun).1
 · rw [List.nodup_append]
   refine⟨c.nd,c.shape.below_nodup hn,fun a ha b hb e=> ?_⟩
   subst e;obtain⟨b,hb0,_,e,he,rfl⟩:=(c.shape.mem_below hn).1 hb;exact c.shape.lost b e hb0 he ha
 · intro j hj
   rcases List.mem_append.1 hj with q|q
   · exact c.has j q
   · obtain⟨b,hb0,_,e,he,rfl⟩:=(c.shape.mem_below hn).1 q
     obtain⟨_,it,hit,_⟩:=c.shape.ent b e hb0 he;exact⟨it,hit⟩
theorem Climb.key {out:List Int} {x:En} (c:Climb U t out n) (hn:t.lv n=some l) (hu:t.up n=some u) (hx:(t.es u)[i]? =some x) (hxk:x.kid=n) (hlen:t.fan/2<=(t.es n).length) (kv:Value):Climb U (qdn t u i kv (U ((t.es n).map En.kb))) out u:=by
 obtain⟨hul,hun⟩:=c.up hn hu;have ha:=qkb (t:=t) (i:=i) kv (U ((t.es n).map En.kb)) hul
 have hf:Fill t fun _=>False:=fun b m hb _=>by
  by_cases q:b=n
  · subst q
    refine⟨c.most,fun _=>hlen,fun e _=> ?_⟩
    have:=c.shape.root.2;rw [<-e,hu] at this
    cases this
  · exact c.fill b m hb q
 refine⟨c.shape.alike ha,(Fill.alike hf ha).more fun _ q=>q.elim,qna c.shape c.keyed kv hn hu hx hxk,?_,c.nd,c.has⟩
 rw [ha.len]
 exact(hf u _ hul fun q=>q).1
structure Top (U:List (List Nat)->List Nat) (t:Tr) (out:List Int):Prop where
 shape:Shape t fun i=>i∈out
 fill:Fill t (· =t.root)
 keyed:Keyed U t fun _=>False
 most:(t.es t.root).length<=t.fan
 nd:out.Nodup
 has:∀i∈out,∃it,getK i t.items=some it
theorem Climb.top {out:List Int} (c:Climb U t out n) (hn:t.lv n=some l) (hu:t.up n=none):Top U t out:=by
 have e:n=t.root:=c.shape.one n l hn hu;subst e;exact⟨c.shape,c.fill,qnb c.shape c.keyed hu,c.most,c.nd,c.has⟩
theorem Top.done {out:List Int} (c:Top U t out) (hl:t.lv t.root=some l) (h:l=0\/2<=(t.es t.root).length):Fill t fun _=>False:=fun b m hb _=>by
 by_cases q:b=t.root
 · subst q
   rw [hl] at hb
   cases hb
   refine⟨c.most,fun q=>absurd rfl q,fun _ h0=> ?_⟩
   rcases h with h|h
   · omega
   · exact h
 · exact c.fill b m hb q
theorem Top.sink {out:List Int} {x:En} (c:Top U t out) (hl:t.lv t.root=some (l+1)) (hes:t.es t.root= [x]) (ht:t' ={t with root:=x.kid,lv:=updT t.lv t.root none,up:=updT t.up x.kid none}):Top U t' out/\t'.lv t'.root=some l:=by
 have hs:=c.shape.sink hl hes ht;have hx:x∈t.es t.root:=by rw [hes];simp
 obtain⟨hk,hku⟩:=c.shape.kid _ _ _ hl hx;have hne:x.kid≠t.root:=fun q=>by rw [q,hl] at hk;injection hk with hk;omega
 subst ht
 have hlv:∀{b m},updT t.lv t.root none b=some m->t.lv b=some m/\b≠t.root:=fun {b m} hb=>by
  by_cases q:b=t.root
  · rw [q,qah] at hb;cases hb
  · rw [qai q] at hb;exact⟨hb,q⟩
 refine⟨⟨hs,fun b m hb hX=> ?_,fun b m u e hb hu _ he hek=> ?_,?_,c.nd,c.has⟩,?_⟩
 · obtain⟨h1,h2⟩:=hlv hb
   obtain⟨q1,q2,q3⟩:=c.fill b m h1 h2;exact⟨q1,fun _=>q2 h2,fun q=>absurd q hX⟩
 · obtain⟨h1,h2⟩:=hlv hb
   simp only at hu
   by_cases q:b=x.kid
   · rw [q,qah] at hu;cases hu
   · rw [qai q] at hu
     exact c.keyed b m u e h1 hu (fun q=>q) he hek
 · exact(c.fill x.kid l hk hne).1
 · simp only [qai hne]
   exact hk
theorem Top.empty {out:List Int} {r:Nat} (c:Top U t out) (hl:t.lv t.root=some (l+1)) (hes:t.es t.root= []) (ht:t' ={t with root:=r,lv:=fun b=>if b=r then some 0 else none,up:=updT t.up r none,es:=updT t.es r [],sl:=updT t.sl r (.slice none 0 0)}):Top U t' out/\t'.lv t'.root=some 0:=by
 have hL:∀i it,getK i t.items=some it->i∈out:=fun i it hi=>by
  refine Classical.byContradiction fun q=> ?_
  have:=(c.shape.mem_root hl (id:=i)).2 ⟨q,it,hi⟩
  simp [below,hes] at this
 subst ht
 have hb0:∀{b m},(if b=r then some 0 else none:Option Nat)=some m->b=r/\m=0:=fun {b m} hb=>by
  split at hb
  · rename_i q;exact⟨q,by cases hb;rfl⟩
  · cases hb
 refine⟨⟨Shape.empty rfl rfl (by simp [qah]) (by simp [qah]) c.shape.rise hL,fun b m hb hX=>absurd (hb0 hb).1 hX,fun b m u e hb hu _ he hek=> ?_,?_,c.nd,c.has⟩,by simp⟩
 · rw [(hb0 hb).1] at hu
   simp [qah] at hu
 · simp [qah]
end
open Go.Maps
theorem q0r {w:World} {P:Program} {k t e:TypeId} {b:Nat} {V:List (Int×Value)} {id:Int} {o:Oper} {a:Act} {Q:Exit->Act->World->Prop} {K:Act->World->Prop} (m x:Operand) (hop:o.op=Op.call {callee:=Callee.builtin Builtin.delete,args:= #[m,x],argTypes:= #[t,k]}) (hm:a.eval m=.map (some b)) (hx:a.eval x=.int .i64 id) (h:qbr w P k b V) (hk:P.underlying k=some (.int .i64)) (ht:P.underlying t=some (.map k e))
 (h0: -9223372036854775808<=id) (h1:id<=9223372036854775807) (hK:∀w',qbr w' P k b (delK id V)->w.grownBy w' (some b)->K (a.put o.dst (.tuple #[])) w'):o.wp P a w K Q:=by
 obtain⟨w',hr,r1,r2⟩:=h.drop hk ht o.type h0 h1;unfold Oper.wp
 simp [execOp,hop,resolve,invoke,builtin,hm,hx,hr,Result.andThen]
 exact hK w' r1 r2
end Pg
namespace Go.Proofs.YteodamnfgcnmmaaGreatDoor
open Go Go.RowKit Pg
section
variable {w w' :World} {own imm:Nat->Prop} {tb mb:Nat} {cl:Value} {t:Tr} {L L' :Int->Prop}
theorem Lay.shrunk (h:Lay w own imm tb mb cl t (fun _=>False) L) {b l g m c m' :Nat} (hb:t.lv b=some l) (hsl:t.sl b=.slice (some ⟨g,0,none⟩) m c) (hg:w.grownBy w' (some g)) {es:List En}
 (hrow:w'.ownsRow 0 122 3 (.slice (some ⟨g,0,none⟩) m' c) m' (qar (decide (l=0)) es)) (hm:m' =es.length) (hsub:∀e∈es,e∈t.es b):
 Lay (w'.setCell ⟨b,2,none⟩ (.slice (some ⟨g,0,none⟩) m' c)) own imm tb mb cl {t with es:=updT t.es b es,sl:=updT t.sl b (.slice (some ⟨g,0,none⟩) m' c)} (fun _=>False) L/\Grow w (w'.setCell ⟨b,2,none⟩ (.slice (some ⟨g,0,none⟩) m' c)) own imm own imm:=by
 have hg0:(t.sl b).ownBlock=some g:=by rw [hsl];rfl
 have hog:=h.oR b l g hb (fun q=>q) hg0
 have h1:=h.rowLost hb (fun q=>q) (by rw [hg0];exact hg)
 subst hm
 have h2:=h1.setRow hb hrow (fun g' e=>by
  have e' :g=g' :=by simpa [Value.ownBlock] using e
  subst e'
  exact⟨hog,fun b' l' hb' hne _ q=>hne (h.apR b' b l' l g hb' hb (fun q=>q) (fun q=>q) q hg0)⟩) (fun e he=>h1.ekey b l e hb (hsub e he))
 refine⟨h2.less (fun x hx=> ?_) (fun _ q=>q),Grow.of_turn (((TurnF.refl own w).grown hg fun k e=>by cases e;exact .inl hog).set_ (p:=⟨b,2,none⟩) (.inl (h.oN b l hb)) _)⟩
 rcases hx with ⟨q|q,hne⟩
 · exact q
 · exact hne q
end
end Go.Proofs.YteodamnfgcnmmaaGreatDoor
namespace Pg
open Go Go.RowKit
theorem qo4 {P:Program} {w:World} {t ty e:TypeId} {i:TypeInfo} {z:Value} {base size bytes:Nat} (ht:P.underlying t=some (.slice e)) (hi:P.info? e=some i) (hz:i.zero=some z)
 (hsize:i.size=size) (hby:i.bytes=bytes) {v:Value} {n:Nat} {xs:List Value} (hown:w.ownsRow base e size v n xs)
 {a:Addr} {m c:Nat} {news:List Value} (hl:news.length=m*size) (hnews:∀j u,news[j]? =some u->w.cell? (a.add j)=some u) (h1:∀u∈news,u.oneCell' =true)
 (h63:n+m<=maxLen) (hbytes:(n+m)*bytes<=140737488355328) (hm:v=.slice none 0 0->0<m) {v' :Value} {w' :World} (hr:(Builtin.append_ #[t,t] ty #[v,.slice (some a) m c]).run P w=.ok v' w'):v'.ownBlock=v.ownBlock\/v'.ownBlock=some w.heap.size:=by
 by_cases h0:0<m
 · exact qka ht hi hz hsize hby hown hl hnews h1 h63 hbytes h0 hr
 subst hsize;subst hby;have hsmall:n+m<=9223372036854775807:=by simp only [maxLen] at h63;omega
 rcases hown.2 with ⟨rfl,rfl⟩|⟨g,cap,cur,rfl,hbg,hg,hnc,hcm,hcs,htake⟩
 · exact absurd (hm rfl) h0
 · have hroom:n+m<=cap:=oQ
   have hfit:n*i.size+news.length<=cur.size:=by rw [hl,hcs,<-Nat.add_mul];exact zuy _ hroom
   have hr2:=run_append_room (P:=P) w t ty e i ht hi g n cap cur hg a m c news hl hnews h1 hroom hfit;rw [hr2] at hr;injection hr with e1 _
   subst e1;exact .inl rfl
theorem qh4 {P:Program} {w:World} {ops:Array Oper} {rest:List Oper} {o:Oper} {a:Act} {Q:Exit->Act->World->Prop} (hgd:o.guard=none) (s x:Operand) (t:TypeId)
 (ho:o.op=.call {callee:=.builtin .append,args:= #[s,x],argTypes:= #[t,t]})
 (e:TypeId) (i:TypeInfo) (z:Value) (size bytes:Nat) (ht:P.underlying t=some (.slice e)) (hi:P.info? e=some i) (hz:i.zero=some z)
 (hsize:i.size=size) (hby:i.bytes=bytes) (hzs:z.cells.size=size) (hsz:0<size)
 (v:Value) (n:Nat) (xs:List Value) (hs:a.eval s=v) (hown:w.ownsRow 0 e size v n xs) (base2:Nat) (v2:Value) (m:Nat) (ys:List Value) (hx:a.eval x=v2) (hown2:w.ownsRow base2 e size v2 m ys) (h1:∀u∈ys,u.oneCell' =true)
 (h63:n+m<=maxLen) (hbytes:(n+m)*bytes<=140737488355328)
 (h:∀v' w',w'.ownsRow 0 e size v' (n+m) (xs++ys)->w.grownBy w' v.ownBlock->(v'.ownBlock=v.ownBlock\/v'.ownBlock=some w.heap.size)->wpList P ops Q rest (a.put o.dst v') w'):wpList P ops Q (o::rest) a w:=by
 have hl:=hown2.1
 rcases hown2.2 with ⟨e1,h0⟩|⟨g,cap,cur,e1,hg,hh,hc⟩
 · subst e1 h0
   have hys:ys= []:=by simpa using hl
   subst hys;exact wpList_append_own_none hgd s x t ho 0 e i size ht hi v n xs hs hown hx (h v w (by simpa using hown) ⟨rfl,rfl,rfl,zhy _,fun _ _ _=>rfl⟩ (.inl rfl))
 · subst e1
   refine wpList_plain hgd fun _ hK=> ?_
   have hnews:∀j u,ys[j]? =some u->w.cell? ((⟨g,0,none⟩:Addr).add j)=some u:=hown2.cells (g:=g) rfl;obtain⟨v',w',hr,h2,h3,h4⟩:=run_append_own (P:=P) w 0 t o.type e i z size bytes ht hi hz hsize hby hzs hsz v n xs hown ⟨g,0,none⟩ m cap ys hl hnews h1 h63 hbytes (zly _)
   have hw:v'.ownBlock=v.ownBlock\/v'.ownBlock=some w.heap.size:=by
    by_cases q:v=.slice none 0 0/\m=0
    · have q1:=h4.2 q
      rw [q1,q.1]
      exact .inl rfl
    · exact qo4 ht hi hz hsize hby hown hl hnews h1 h63 hbytes (fun e=>by
       rcases Nat.eq_zero_or_pos m with r|r
       · exact absurd ⟨e,r⟩ q
       · exact r) hr
   unfold Oper.wp execOp
   simp only [ho,resolve,invoke,builtin,Sem.run_bind,Sem.run_pure,Result.andThen_ok,List.map_toArray,zdy,zey,hs,hx,hr]
   exact hK _ _ (h v' w' h2 h3 hw)
theorem Climb.lens {U:List (List Nat)->List Nat} {t:Tr} {out:List Int} {n:Nat} (c:Climb U t out n):∀b l,t.lv b=some l->(t.es b).length<=t.fan:=fun b l hb=>by
 by_cases q:b=n
 · rw [q];exact c.most
 · exact(c.fill b l hb q).1
theorem Top.lens {U:List (List Nat)->List Nat} {t:Tr} {out:List Int} (c:Top U t out):∀b l,t.lv b=some l->(t.es b).length<=t.fan:=fun b l hb=>by
 by_cases q:b=t.root
 · rw [q];exact c.most
 · exact(c.fill b l hb q).1
theorem qzz {α:Type} {id:Int} {m:List (Int×α)} (h:getK id m=none):delK id m=m:=by
 unfold delK
 rw [List.filter_eq_self]
 intro p hp;have:=qdh.1 h p hp
 simpa using this
theorem qzq {m:List (Int×It)} {out:List Int} (hnd:out.Nodup) (h:∀i∈out,∃it,getK i m=some it):out.length<=m.length:=by
 have:=qlm (m:=m.map (·.1)) hnd fun i hi=>by
  obtain⟨it,hit⟩:=h i hi;exact zty.2 ⟨_,qga hit,rfl⟩
 rwa [zyy] at this
end Pg
namespace Go.Proofs.YteodamnfgcnmmaaGreatDoor
open Go Go.RowKit Pg
theorem qx7 (lf:Bool) (l:List En) (g n c i:Nat) (w:World) (h:w.ownsRow 0 122 3 (.slice (some ⟨g,0,none⟩) n c) n (qar lf l)) (hone:∀e∈l,e.kv.oneCell' =true) (hi:i<n) (hn:n<=1000000):
 C9 64 #[.slice (some ⟨g,0,none⟩) n c,.int .i64 (i:Int),.int .i64 ((i:Int)+1)] w fun e w' =>e=.returned (.slice (some ⟨g,0,none⟩) (n-1) c)/\w'.ownsRow 0 122 3 (.slice (some ⟨g,0,none⟩) (n-1) c) (n-1) (qar lf (l.eraseIdx i))/\w.grownBy w' (some g):=by
 have h1:=q1b lf l g n c i w h hone hi hn
 rwa [show ((i+1:Nat):Int)=(i:Int)+1 from by omega] at h1
section
variable {w W W' :World} {own imm own' imm' :Nat->Prop} {v v' :Value} {out ys:List Int}
structure LostAt (w W:World) (own imm:Nat->Prop) (v:Value) (out:List Int):Prop where
 row:W.ownsRow 0 3 1 v out.length (idcs out)
 no:∀k,v.ownBlock=some k->w.heap.size<=k/\¬ own k/\¬ imm k
theorem LostAt.nil:LostAt w W own imm (.slice none 0 0) []:=⟨World.ownsRow_nil _ _ _ _,fun k e=>by cases e⟩
theorem LostAt.grow (h:LostAt w W own imm v out) (hg:Grow W W' own imm own' imm'):LostAt w W' own' imm' v out:=
 ⟨qp2 h.row hg.turn fun g q=>(h.no g q).2.1,fun k q=>⟨(h.no k q).1,fun r=>(hg.oo k r).elim (h.no k q).2.1 fun s=>by have:=(h.row.lt k q).2;omega,fun r=>(hg.ii k r).elim (h.no k q).2.2 fun s=>by have:=(h.row.lt k q).2;omega⟩⟩
theorem LostAt.tr (h:LostAt w W own imm v out) (hb:Below W.heap.size W W'):LostAt w W' own imm v out:=h.grow (Grow.of_below hb)
theorem LostAt.more (h:LostAt w W own imm v out) (hlim:∀b,own b\/imm b->b<W.heap.size) (hw:w.heap.size<=W.heap.size) (hrow:W'.ownsRow 0 3 1 v' (out.length+ys.length) (idcs out++idcs ys)) (hwh:v'.ownBlock=v.ownBlock\/v'.ownBlock=some W.heap.size):LostAt w W' own imm v' (out++ys):=by
 refine⟨by rw [zny];unfold idcs;rw [zfx];exact hrow,fun k q=> ?_⟩
 rcases hwh with e|e
 · exact h.no k (by rw [<-e];exact q)
 · rw [e] at q
   cases q
   exact⟨hw,fun r=>by have:=hlim _ (.inl r);omega,fun r=>by have:=hlim _ (.inr r);omega⟩
theorem LostAt.at_ {A:Option Addr} {n c i:Nat} {z:Int} (h:LostAt w W own imm (.slice A n c) out) (hz:out[i]? =some z):∃g,A=some ⟨g,0,none⟩/\g<W.heap.size/\W.cell? ⟨g,i,none⟩=some (.int .i64 z):=by
 have hi:i<out.length:=(zsy.1 hz).1
 rcases h.row.2 with ⟨_,h0⟩|⟨g,cap,cur,e,_⟩
 · omega
 · injection e with e1 e2 e3
   subst e1;have hr:=h.row;rw [e2,e3] at hr;refine⟨g,rfl,(hr.lt g rfl).2,?_⟩
   rw [hr.cellAt i oQ]
   unfold idcs
   rw [zpx,hz]
   rfl
end
section
variable {C:Cl} {cl:Value} {w W W' :World} {own imm0 imm:Nat->Prop} {tb mb n l u i m g c:Nat} {t t3:Tr} {id:Int} {out:List Int} {x:En}
structure ClimbAt (C:Cl) (cl:Value) (w W:World) (own imm0:Nat->Prop) (tb mb:Nat) (t:Tr) (id:Int) (t3:Tr) (out:List Int) (imm:Nat->Prop) (n l:Nat):Prop where
 lay:Lay W own imm tb mb cl t3 (fun _=>False) fun i=>i∈out
 grow:Grow w W own imm0 own imm
 climb:Climb C.un t3 out n
 lv:t3.lv n=some l
 its:t3.items=delK id t.items
 fan:t3.fan=t.fan
 old:∀b l,t3.lv b=some l->t.lv b=some l
theorem ClimbAt.kept {row:Option Nat} (h:ClimbAt C cl w W own imm0 tb mb t id t3 out imm n l) (hg:W.grownBy W' row) (hne:∀g,row=some g->w.heap.size<=g/\¬ own g/\¬ imm g):ClimbAt C cl w W' own imm0 tb mb t id t3 out imm n l:=
 {h with
  lay:=h.lay.kept hg fun g e=>(hne g e).2
  grow:=⟨h.grow.turn.grown hg fun k e=> .inr (hne k e).1,h.grow.oo,h.grow.ii,h.grow.o,h.grow.i⟩}
theorem ClimbAt.tr (h:ClimbAt C cl w W own imm0 tb mb t id t3 out imm n l) (hb:Below W.heap.size W W'):ClimbAt C cl w W' own imm0 tb mb t id t3 out imm n l:=h.kept (qaf hb) sI
open Classical in
theorem ClimbAt.dropped (h:ClimbAt C cl w W own imm0 tb mb t id t3 out imm n l) (hu:t3.up n=some u) (hx:(t3.es u)[i]? =some x) (hxk:x.kid=n) (hsl:t3.sl u=.slice (some ⟨g,0,none⟩) m c) (hm:(t3.es u).length=m) (hg:W.grownBy W' (some g)) (hrow:W'.ownsRow 0 122 3 (.slice (some ⟨g,0,none⟩) (m-1) c) (m-1) (qar false ((t3.es u).eraseIdx i))):
 ∃t4,ClimbAt C cl w (W'.setCell ⟨u,2,none⟩ (.slice (some ⟨g,0,none⟩) (m-1) c)) own imm0 tb mb t id t4 (out++below t3 l n) imm u (l+1)/\Grow W (W'.setCell ⟨u,2,none⟩ (.slice (some ⟨g,0,none⟩) (m-1) c)) own imm own imm:=by
 obtain⟨hul,hun⟩:=h.climb.up h.lv hu;have hi:i<(t3.es u).length:=(zsy.1 hx).1;obtain⟨hL,hG⟩:=h.lay.shrunk (b:=u) (l:=l+1) (m:=m) (es:=(t3.es u).eraseIdx i) hul hsl hg (by simpa using hrow) (by rw [List.length_eraseIdx,if_pos hi,hm]) (fun e he=>(List.eraseIdx_sublist _ _).subset he)
 have hlv:∀b m,(if Und t3.up n b then none else t3.lv b)=some m->t3.lv b=some m:=fun b m hb=>by
  split at hb
  · cases hb
  · exact hb
 refine⟨_,⟨(hL.forget (lv:=fun b=>if Und t3.up n b then none else t3.lv b) hlv).less (fun _ q=>q) (fun i q=>List.mem_append_left _ q),h.grow.trans hG,h.climb.drop (v:=.slice (some ⟨g,0,none⟩) (m-1) c) h.lv hu hx hxk rfl,?_,h.its,h.fan,fun b l hb=>h.old b l (hlv b l hb)⟩,hG⟩
 have hnu:¬ Und t3.up n u:=fun q=>by
  obtain⟨m',h1,h2,_⟩:=h.climb.shape.und_lv hul q;rw [h.lv] at h2;injection h2 with h2
  omega
 show (if Und t3.up n u then none else t3.lv u)=some (l+1)
 rw [if_neg hnu]
 exact hul
theorem ClimbAt.keyed {kv:Value} {kb:List Nat} {B:Nat} (h:ClimbAt C cl w W own imm0 tb mb t id t3 out imm n l) (hu:t3.up n=some u) (hx:(t3.es u)[i]? =some x) (hxk:x.kid=n) (hlen:t3.fan/2<=(t3.es n).length) (hsl:t3.sl u=.slice (some ⟨g,0,none⟩) m c) (hW:Below W.heap.size W W') (ho:W'.ownsRow B 5 1 kv kb.length (qaw kb)) (hB:W.heap.size<=B) (hkb:kb=C.un ((t3.es n).map En.kb)) (h1:∀x∈kb,x<256) (h2:kb.length<=1000000):
 ∃t4 imm4,ClimbAt C cl w (W'.setCell ⟨g,i*3,none⟩ kv) own imm0 tb mb t id t4 out imm4 u (l+1)/\Grow W (W'.setCell ⟨g,i*3,none⟩ kv) own imm own imm4:=by
 subst hkb;obtain⟨hul,_⟩:=h.climb.up h.lv hu;obtain⟨imm4,hL,hG⟩:=h.lay.refreshed hW hul (fun q=>q) hsl (zsy.1 hx).1 ho hB h1 h2
 exact⟨_,imm4,⟨hL,h.grow.trans hG,h.climb.key h.lv hu hx hxk hlen kv,hul,h.its,h.fan,h.old⟩,hG⟩
structure TopAt (C:Cl) (cl:Value) (w W:World) (own0 imm0:Nat->Prop) (tb mb:Nat) (t:Tr) (id:Int) (t3:Tr) (out:List Int) (own imm:Nat->Prop) (l:Nat):Prop where
 lay:Lay W own imm tb mb cl t3 (fun _=>False) fun i=>i∈out
 grow:Grow w W own0 imm0 own imm
 top:Top C.un t3 out
 lv:t3.lv t3.root=some l
 its:t3.items=delK id t.items
 fan:t3.fan=t.fan
theorem ClimbAt.top (h:ClimbAt C cl w W own imm0 tb mb t id t3 out imm n l) (hu:t3.up n=none):TopAt C cl w W own imm0 tb mb t id t3 out own imm l:=
 ⟨h.lay,h.grow,h.climb.top h.lv hu,by rw [<-h.climb.shape.one n l h.lv hu];exact h.lv,h.its,h.fan⟩
variable {own0:Nat->Prop}
theorem TopAt.sunk (h:TopAt C cl w W own0 imm0 tb mb t id t3 out own imm (l+1)) (hes:t3.es t3.root= [x]):
 TopAt C cl w ((W.setCell ⟨tb,2,none⟩ (gP x.kid)).setCell ⟨x.kid,0,none⟩ (.pointer none)) own0 imm0 tb mb t id {t3 with root:=x.kid,lv:=updT t3.lv t3.root none,up:=updT t3.up x.kid none} out own imm l/\Grow W ((W.setCell ⟨tb,2,none⟩ (gP x.kid)).setCell ⟨x.kid,0,none⟩ (.pointer none)) own imm own imm/\(∀b m,updT t3.lv t3.root none b=some m->t3.lv b=some m)/\t3.lv x.kid=some l:=by
 obtain⟨h1,h2⟩:=h.top.sink h.lv hes rfl;have hk:=(h.top.shape.kid _ _ x h.lv (by rw [hes];simp)).1
 have hL1:=(h.lay.setRoot (r:=x.kid)).noUp (b:=x.kid) (l:=l) hk
 have hlv:∀b m,updT t3.lv t3.root none b=some m->t3.lv b=some m:=fun b m hb=>by
  unfold updT at hb
  split at hb
  · cases hb
  · exact hb
 have hG:Grow W ((W.setCell ⟨tb,2,none⟩ (gP x.kid)).setCell ⟨x.kid,0,none⟩ (.pointer none)) own imm own imm:=Grow.of_turn (((TurnF.refl own W).set_ (p:=⟨tb,2,none⟩) (.inl h.lay.oT) _).set_ (p:=⟨x.kid,0,none⟩) (.inl (h.lay.oN _ _ hk)) _);exact⟨⟨hL1.forget (lv:=updT t3.lv t3.root none) hlv,h.grow.trans hG,h1,h2,h.its,h.fan⟩,hG,hlv,hk⟩
theorem TopAt.emptied (h:TopAt C cl w W own0 imm0 tb mb t id t3 out own imm (l+1)) (hes:t3.es t3.root= []):
 ∃t4 own4,TopAt C cl w ((W.setCell ⟨tb,2,none⟩ (gP W.heap.size)).alloc (.cells #[.pointer none,.bool true,.slice none 0 0] 111)) own0 imm0 tb mb t id t4 out own4 imm 0/\Grow W ((W.setCell ⟨tb,2,none⟩ (gP W.heap.size)).alloc (.cells #[.pointer none,.bool true,.slice none 0 0] 111)) own imm own4 imm:=by
 have h1:=h.lay.setRoot (r:=W.heap.size);have h2:=h1.bornNew (W:=(W.setCell ⟨tb,2,none⟩ (gP W.heap.size)).alloc (.cells #[.pointer none,.bool true,.slice none 0 0] 111)) (o:=W.heap.size) (l:=0) (h.lay.fresh (zhy _)) bel sI (Blk.new sI rfl)
 have h3:=h2.1.forget (lv:=fun b=>if b=W.heap.size then some 0 else none) (fun b m hb=>by
  by_cases q:b=W.heap.size
  · rw [if_pos q] at hb
    rw [q]
    show updT t3.lv W.heap.size (some 0) W.heap.size=some m
    rw [qah]
    exact hb
  · rw [if_neg q] at hb
    cases hb)
 obtain⟨h4,h5⟩:=h.top.empty (r:=W.heap.size) h.lv hes rfl;have hG:=(Grow.of_turn ((TurnF.refl own W).set_ (p:=⟨tb,2,none⟩) (.inl h.lay.oT) (gP W.heap.size)):Grow W _ own imm own imm).trans h2.2;exact⟨_,_,⟨h3,h.grow.trans hG,h4,h5,h.its,h.fan⟩,hG⟩
structure DoneAt (C:Cl) (cl:Value) (w W:World) (own0 imm0:Nat->Prop) (tb mb:Nat) (t:Tr) (id:Int) (t3:Tr) (L:Int->Prop) (own imm:Nat->Prop):Prop where
 lay:Lay W own imm tb mb cl t3 (fun _=>False) L
 grow:Grow w W own0 imm0 own imm
 shape:Shape t3 L
 fill:Fill t3 fun _=>False
 keyed:Keyed C.un t3 fun _=>False
 its:t3.items=delK id t.items
 fan:t3.fan=t.fan
theorem TopAt.done (h:TopAt C cl w W own0 imm0 tb mb t id t3 out own imm l) (hz:l=0\/2<=(t3.es t3.root).length):DoneAt C cl w W own0 imm0 tb mb t id t3 (fun i=>i∈out) own imm:=
 ⟨h.lay,h.grow,h.top.shape,h.top.done h.lv hz,h.top.keyed,h.its,h.fan⟩
variable {L L' :Int->Prop}
theorem DoneAt.less (h:DoneAt C cl w W own0 imm0 tb mb t id t3 L own imm) (hL:∀i,L i↔L' i):DoneAt C cl w W own0 imm0 tb mb t id t3 L' own imm:=
 {h with lay:=h.lay.less (fun _ q=>q) (fun i q=>(hL i).1 q),shape:=h.shape.less hL}
def DelG (C:Cl) (cl:Value) (w w' :World) (own imm:Nat->Prop) (tb mb:Nat) (t:Tr) (id:Int):Prop:=
 ∃t' own' imm',GAt C cl w' own' imm' tb mb t' /\Grow w w' own imm own' imm' /\t'.fan=t.fan/\t'.items=delK id t.items
theorem DoneAt.gat {own' imm' :Nat->Prop} (h:DoneAt C cl w W own imm tb mb t id t3 L own' imm') (hL:∀i,¬ L i) (hG:GAt C cl w own imm tb mb t):DelG C cl w W own imm tb mb t id:=by
 have h' :=h.less (L' :=fun _=>False) fun i=>⟨fun q=>hL i q,fun q=>q.elim⟩
 refine⟨t3,own',imm',⟨h'.lay,h'.shape,h'.fill,h'.keyed,by rw [h.fan];exact hG.fan4,by rw [h.fan];exact hG.fan16,fun j y hj=> ?_⟩,h.grow,h.fan,h.its⟩
 rw [h.its,qlx hG.shape.rise] at hj
 split at hj
 · cases hj
 · exact hG.its j y hj
end
section
variable {w w' :World} {own imm:Nat->Prop} {tb mb:Nat} {t:Tr} {L L' :Int->Prop}
theorem qsu {ct:TypeId} {cv:Value} (h:Lay w own imm tb mb (.iface ct cv) t (fun _=>False) L) (id:Int) (hid: -9223372036854775808<=id/\id<=9223372036854775807) (hget:getK id t.items=none):
 C9 31 #[gP tb,.int .i64 id] w fun e w' =>∃v,e=.returned v/\ErrX w' v 7 ⟨#[100,101,108,101,116,101]⟩ id/\Below w.heap.size w w' :=by
 have HM:=hdQ h.mp;obtain⟨t0,t1,t2,t3,tl⟩:=h.c0;have HG:=hdQ (fun W (hW:Below w.heap.size w W)=>qhp (h.tr hW))
 have HN:=hdQ (qly hget);have hF:=hdQ (fun W=>qi5 ⟨#[100,101,108,101,116,101]⟩ id (.iface 105 (.int .i64 7)) 7 W (.inr ⟨by decide,0,rfl⟩))
 obtain⟨hid1,hid2⟩:=hid;clear h hget
 simp only [gP] at*
 go_enter Tryz.func31,Tryz.ntmps31
 go_wp2_with fail;refine qac kr kr pq ?_
 simp only [zdy,zey,ldz,lds,bare,qak,lcz,lcs,zay]
 repeat' ((try simp only [Act.put,lsi,lsz,lss]);first|(refine qbw ?_ ?_;focus(simp only [lAq,zgy,zfy];done))|(refine qbg ?_ ?_ ?_;(focus(simp only [lAq,zgy,zfy];done));(focus(exact bel)))|(refine qay (X:= ?_) ?_ ?_ (fun hg=> ?_) (fun hg=> ?_);rotate_left;(focus(simp only [lAq];with_reducible rfl));(focus(exact bel));all_goals(try simp only [zgy,zfy] at hg))|(refine lqx ?_)|(refine qab qaa rfl (fun K hK=> ?_);(refine qfz _ _ _ _ rfl rfl rfl (show MapO _ _ _ (some mb) _ from qbr.tr HM.out bel) Tryz.underlying3 Tryz.underlying112 (Tryz.zeroItG _) oQ oQ ?_;rw [HN.out];simp only [Option.getD_none]);refine hK.out _ _ bel ?_;clear hK K)|(refine qab qaa rfl (fun K hK=> ?_);go_simp;((first |  (go_at_call 47;(with_reducible refine(HG.out _ bel).monoR ?_);rintro w1 hb1 hc1 hf1 hz1;(try simp at hz1);have hy0:=ol1 w w1)  | skip)<;>(refine hK.out _ _ bel ?_;clear hK K))))
 (all_goals try simp only [Act.put,lsi,lsz,lss]);all_goals(refine qae ?_)
 go_wp2_with (go_at_call 23;(refine(hF.out _).mono ?_);rintro e w2 ⟨v',rfl,hE2,hb2⟩;have HE2:=hdQ hE2;clear hE2;have HB2:=hdQ hb2;obtain⟨hc2,hf2⟩:=qbc hb2)
 go_ret;exact⟨_,rfl,HE2.out,bel⟩
theorem qst {C:Cl} {ct:TypeId} {cv:Value} {fM fC fD fU fS fP:Nat} (hC:ClAt ct cv C fM fC fD fU fS) (hP:PenAt ct cv fP) (hGA:GAt C (.iface ct cv) w own imm tb mb t) (hcount:t.items.length<=100000) (id:Int) (hid: -9223372036854775808<=id/\id<=9223372036854775807) (x:It) (hget:getK id t.items=some x):
 C9 31 #[gP tb,.int .i64 id] w fun e w' =>e=.returned .nilIface/\DelG C (.iface ct cv) w w' own imm tb mb t id:=by
 have h:=hGA.lay;have hs:=hGA.shape;have hlen:∀b l,t.lv b=some l->(t.es b).length<=16:=fun b l hb=>zcy (hGA.fill b l hb (fun q=>q)).1 hGA.fan16
 have HGA:=hdQ hGA;have HCC:=hdQ hC;have HPP:=hdQ hP;obtain⟨D,hD⟩:=hs.deep;have HD:=hdQ hD;have HCt:=hdQ hcount;obtain⟨i0,hi0,iz0,iz1,iz2⟩:=info_parts Tryz.infoIY;clear hC hP hD hcount;clear hGA;have HM:=hdQ h.mp;obtain⟨t0,t1,t2,t3,tl⟩:=h.c0;have HG:=hdQ (fun W (hW:Below w.heap.size w W)=>qhp (h.tr hW))
 have HN:=hdQ (qe1 hget);obtain⟨z,hBi,hz⟩:=h.it id x hget;have hz:=hz (fun q=>q)
 subst hz;obtain⟨hlv,⟨e0,he0,hid0⟩⟩:=hs.itm id x hget (fun q=>q)
 obtain⟨nf,hnf⟩:∃nf,t.leaf id=nf:=⟨_,rfl⟩;rw [hnf] at hBi hlv he0;obtain⟨n0,n1,n2,nlt⟩:=h.n0 hlv;have i3:=hBi.cell 3;have ilt:=hBi.lt;simp only [lAq] at i3;have hrow:=h.row nf 0 hlv (fun q=>q)
 obtain⟨A,c,hsl,hnc,hAn,hAb⟩:=qao hrow
 obtain⟨g,rfl⟩:∃g,A=some ⟨g,0,none⟩:=by
  obtain⟨g,c',e,_⟩:=qct hrow (k:=0) (e:=(t.es nf)[0]'(List.length_pos_of_mem he0)) (zby _);rw [hsl] at e;injection e with e1 _ _
  exact⟨g,e1⟩
 obtain⟨n,hn⟩:∃n,(t.es nf).length=n:=⟨_,rfl⟩;rw [hn] at hsl;rw [hsl] at n2;have hn16:n<=16:=by rw [<-hn];exact hlen nf _ hlv
 have hid' :=hid;obtain⟨hid1,hid2⟩:=hid;have HH:=hdQ (And.intro h (And.intro hlv (And.intro hsl (And.intro hn hnf))));have HS:=hdQ hs;clear h hget hs hlen hBi hrow hsl hnc hAn hAb hn hnf he0 hid0 hlv
 simp only [gP] at*
 go_enter Tryz.func31,Tryz.ntmps31
 go_wp2_with fail;refine qac kr kr pq ?_
 simp only [zdy,zey,ldz,lds,bare,qak,lcz,lcs,zay]
 repeat' ((try simp only [Act.put,lsi,lsz,lss]);first|(refine qbw ?_ ?_;focus(simp only [lAq,zgy,zfy];done))|(refine qbg ?_ ?_ ?_;(focus(simp only [lAq,zgy,zfy];done));(focus(exact bel)))|(refine qay (X:= ?_) ?_ ?_ (fun hg=> ?_) (fun hg=> ?_);rotate_left;(focus(simp only [lAq];with_reducible rfl));(focus(exact bel));all_goals(try simp only [zgy,zfy] at hg))|(refine lqx ?_)|(refine qab qaa rfl (fun K hK=> ?_);(refine qfz _ _ _ _ rfl rfl rfl (show MapO _ _ _ (some mb) _ from qbr.tr HM.out bel) Tryz.underlying3 Tryz.underlying112 (Tryz.zeroItG _) oQ oQ ?_;rw [HN.out];simp only [Option.getD_some,gP]);refine hK.out _ _ bel ?_;clear hK K)|(refine qab qaa rfl (fun K hK=> ?_);go_simp;((first |  (go_at_call 47;(with_reducible refine(HG.out _ bel).monoR ?_);rintro w1 hb1 hc1 hf1 hz1;(try simp at hz1);have hy0:=ol1 w w1)  | skip)<;>(refine hK.out _ _ bel ?_;clear hK K))))
 (all_goals try simp only [Act.put,lsi,lsz,lss]);all_goals(refine qae ?_)
 go_wp2_with fail;have gB:Blk w1 w.heap.size 3 #[.int .i64 id]:=blkA;have hbw:Below w.heap.size w w1:=bel;have HBW:=hdQ hbw;obtain⟨hcx,_⟩:=qbc hbw;have q0:=gB.cell 0;have ql:=gB.lt;simp only [lAq] at q0;have s0:=(hcx tb 0 tl).trans t0;have s1:=(hcx tb 1 tl).trans t1;have s2:=(hcx tb 2 tl).trans t2;have s3:=(hcx tb 3 tl).trans t3;have m0:=(hcx nf 0 nlt).trans n0;have m1:=(hcx nf 1 nlt).trans n1;have m2:=(hcx nf 2 nlt).trans n2;have j3:=(hcx x.blk 3 ilt).trans i3;have hsz:=hbw.size;have tl1:tb<w1.heap.size:=oQ
 have nlt1:nf<w1.heap.size:=oQ
 have ilt1:x.blk<w1.heap.size:=oQ
 have HQ:=hdQ (And.intro gB (And.intro tl (And.intro nlt ilt)));clear t0 t1 t2 t3 n0 n1 n2 i3 tl nlt ilt hb1 hc1 hf1 hz1 hcx gB HG;refine qac kr kr pq ?_
 simp only [zdy,zey,ldz,lds,bare,qak,lcz,lcs,zay]
 repeat' ((try simp only [Act.put,lsi,lsz,lss]);first|(refine lqx ?_)|(refine qab qaa rfl (fun K hK=> ?_);(refine qfz _ _ _ _ rfl rfl rfl (show MapO _ _ _ (some mb) _ from qbr.tr HM.out bel) Tryz.underlying3 Tryz.underlying112 (Tryz.zeroItG _) oQ oQ ?_;rw [HN.out];simp only [Option.getD_some,gP]);refine hK.out _ _ bel ?_;clear hK K)|(refine qab qaa rfl (fun K hK=> ?_);go_simp;((first|fail  | skip)<;>(refine hK.out _ _ bel ?_;clear hK K))))
 (all_goals try simp only [Act.put,lsi,lsz,lss]);all_goals(refine qae ?_)
 go_wp2_with fail;refine qck (fun W=>Below w1.heap.size w1 W) bel ?_
 rintro w2 hb2;obtain⟨hcx,_⟩:=qbc hb2;have q0' :=(hcx _ 0 ql).trans q0;have s0' :=(hcx tb 0 tl1).trans s0;have s1' :=(hcx tb 1 tl1).trans s1;have s2' :=(hcx tb 2 tl1).trans s2;have s3' :=(hcx tb 3 tl1).trans s3;have m0' :=(hcx nf 0 nlt1).trans m0;have m1' :=(hcx nf 1 nlt1).trans m1;have m2' :=(hcx nf 2 nlt1).trans m2;have hsz2:=hb2.size;have tl2:tb<w2.heap.size:=oQ
 have nlt2:nf<w2.heap.size:=oQ
 have ql2:w.heap.size<w2.heap.size:=oQ
 clear q0 s0 s1 s2 s3 m0 m1 m2 j3 hcx tl1 nlt1 ilt1 ql hy0;refine qa0 [0,1,2,3,4] [5] kr kr pq ?_
 simp only [zdy,zey,ldz,lds,bare,qak,lcz,lcs,zay,qdr,Option.isNone_none,Bool.and_true,Bool.true_and,Bool.false_and,Bool.and_self]
 repeat((try simp only [Act.put,lsi,lsz,lss]);first|(refine qb0 (v:= ?_) qaa rfl ?_ ?_;rotate_left;focus(intro wq;go_simp;try with_reducible rfl))|(refine qbl (v:= ?_) qaa rfl ?_ ?_;rotate_left;focus(intro wq hq;obtain⟨hcq,hfq⟩:=qbc hq;go_simp;try with_reducible rfl))|(refine qbp qaa rfl (fun K hK=> ?_);go_simp;((first|fail|skip)<;>(refine hK.out _ _ bel ?_;clear hK K))))
 (all_goals try simp only [Act.put,lsi,lsz,lss])
 refine qce ?_;refine qat (fun K hK=> ?_)
 (refine q0r _ _ rfl rfl rfl (show qbr _ _ _ mb _ from qbr.tr HM.out bel) Tryz.underlying3 Tryz.underlying112 oQ oQ ?_);(intro w9 hm9 hg9)
 refine hK.out _ _ ?_;clear hK K
 (try simp only [Act.put,lsi,lsz,lss])
 refine qcd ?_;have hW2:Below w.heap.size w w2.drew:=(HBW.out.trans (hb2.mono hsz)).drew;have hLa:=HH.out.1.tr hW2;have L9:=hLa.del HS.out.rise hg9 hm9;have hGa:Grow w w9 own imm own imm:=(Grow.of_below hW2).trans (Grow.of_turn ((TurnF.refl own _).grown hg9 fun k e=>by cases e;exact .inl hLa.oM))
 have hmb:mb<w.heap.size:=HH.out.1.lim mb (.inl HH.out.1.oM);have gB9:Blk w9 w.heap.size 3 #[.int .i64 id]:=Blk.kept ((HQ.out.1.tr hb2).drew) hg9 fun e=>by injection e with e;omega
 obtain⟨hlv,hsl,hln,hlf⟩:=HH.out.2;have hogo:own g:=HH.out.1.oR nf 0 g hlv (fun q=>q) (by rw [hsl];rfl)
 have hgl:g<w.heap.size:=HH.out.1.lim g (.inl hogo)
 have hrow9:w9.ownsRow 0 122 3 (.slice (some ⟨g,0,none⟩) n c) n (qar true (t.es nf)):=by
  have h:=L9.row nf 0 hlv (fun q=>q)
  rw [show (({t with items:=delK id t.items}:Tr).sl nf)=.slice (some ⟨g,0,none⟩) n c from hsl,show (({t with items:=delK id t.items}:Tr).es nf).length=n from hln] at h
  exact h
 have HDF:=hdQ (fun W (hW:Below w9.heap.size w9 W)=>qx8 (t.es nf) g w.heap.size n c id W (qal hrow9 (qaf hW) sI) (((gB9.tr hW).cell 0).trans rfl) (gB9.tr hW).lt oQ oQ (fun e he=>by
  obtain⟨Ak,ck,ekv,_⟩:=(L9.ekey nf 0 e hlv he).bys
  exact⟨Ak,_,ck,ekv⟩))
 have nd9:=L9.nd nf 0 hlv;have hng:nf≠g:=fun e=>qdt hrow9 nd9 dE (by rw [e];rfl)
 obtain⟨t0,t1,t2,t3,tl⟩:=L9.c0;obtain⟨n0,n1,n2,nlt⟩:=L9.n0 hlv;rw [show (({t with items:=delK id t.items}:Tr).sl nf)=.slice (some ⟨g,0,none⟩) n c from hsl] at n2
 have q09:=gB9.cell 0;have ql9:=gB9.lt;simp only [lAq] at q09;have HL9:=hdQ (And.intro L9 (And.intro hGa (And.intro gB9 (And.intro nd9 hng))));clear hb2 hsz hsz2 hLa hGa hmb gB9 hlv hsl hln hlf hogo hgl hrow9 nd9 hng hW2 hm9 hg9 q0' s0' s1' s2' s3' m0' m1' m2' tl2 nlt2 ql2 L9 hbw
 simp only [gP] at*
 go_upto_block 0 with (go_at_call 59;(refine(HDF.out _ bel).mono ?_);rintro e' wa ⟨m,hm,rfl,hro,hgr⟩;have HRO:=hdQ (And.intro hm (And.intro hro hgr));clear hm;have nda:Blk wa nf _ _:=Blk.kept HL9.out.2.2.2.1 hgr (fun e=>by injection e with e;exact HL9.out.2.2.2.2 e.symm);have na2:=nda.cell 2;have naf:=nda.frozen 2;have nal:=nda.lt;simp only [lAq] at na2;clear hro hgr nda)
 refine qck (fun W=>∃t2,ClimbAt C (.iface ct cv) w W own imm tb mb t id t2 [] imm nf 0) ?_ ?_
 · obtain⟨hlv,hsl,hln,hlf⟩:=HH.out.2
   obtain⟨L9,hGa,gB9,nd9,hng⟩:=HL9.out;obtain⟨hm,hro,hgr⟩:=HRO.out;obtain⟨hL,hG⟩:=L9.shrunk (b:=nf) (l:=0) (m:=n) (es:=(t.es nf).filter fun e=> !decide (e.id=id)) hlv hsl hgr hro hm (fun e he=>(List.mem_filter.1 he).1)
   exact⟨_,hL.less (fun _ q=>q) (fun _ q=>q.elim),hGa.trans hG,Climb.start HGA.out.shape HGA.out.fill HGA.out.keyed hlv hlf rfl,hlv,rfl,rfl,fun _ _ q=>q⟩
 clear HL9 HRO HDF HH HS HM HN HQ HBW t0 t1 t2 t3 tl n0 n1 n2 nlt q09 ql9 na2 naf nal hz;rintro wb ⟨t2,hCl⟩;have HB:=hdQ hCl;clear hCl
 go_cut [6] (fun v6 wx=>∃(t3:Tr) (out:List Int) (A:Option Addr) (c l:Nat) (imm3:Nat->Prop),v6=.slice A out.length c/\TopAt C (.iface ct cv) w wx own imm tb mb t id t3 out own imm3 l/\(∀b l,t3.lv b=some l->t.lv b=some l)/\LostAt w wx own imm3 (.slice A out.length c) out)
 case first=>as_aux_lemma=>
  go_wp2_with fail
  go_loopw [5,6] (fun v5 v6 wr=>∃(t3:Tr) (out:List Int) (A:Option Addr) (c l u:Nat) (imm3:Nat->Prop),v5=gP u/\v6=.slice A out.length c/\ClimbAt C (.iface ct cv) w wr own imm tb mb t id t3 out imm3 u l/\LostAt w wr own imm3 (.slice A out.length c) out) (fun v5 _ wr=>D-lvOf t v5)
  case atStart=>exact ⟨t2, [],none,0,0,nf,imm,rfl,rfl,HB.out,LostAt.nil⟩
  case round=>
   clear HB;obtain⟨t3,out,A,c3,l,u,imm3,rfl,rfl,hCl,hLo⟩:=hrel;have hl:=hCl.lv;obtain⟨t0,t1,t2',t3',tl⟩:=hCl.lay.c0;obtain⟨n0,n1,n2,nlt⟩:=hCl.lay.n0 hl;have HCl:=hdQ hCl;have HLo:=hdQ hLo;clear hCl hLo
   cases hup:t3.up u with
   | none=>
     rw [hup] at n0;have HT:=hdQ (HCl.out.top hup);clear hup hl
     simp only [gO,gP] at*
     go_wp2_with fail
     go_meet
     exact⟨t3,out,A,c3,l,imm3,rfl,HT.out,HCl.out.old,HLo.out⟩
   | some p=>
     rw [hup] at n0;have hul:=(HCl.out.climb.up hl hup).1;have HUl:=hdQ (And.intro hl (And.intro hup hul));have hfan:t3.fan<=16:=by rw [HCl.out.fan];exact HGA.out.fan16
     have hlens:=HCl.out.climb.lens;obtain⟨p0,p1,p2,plt⟩:=HCl.out.lay.n0 hul;have HLe:=hdQ (fun W (hW:Below wr.heap.size wr W)=>qqi (HCl.out.lay.tr hW) oQ)
     obtain⟨_,e0,he0,hek0⟩:=HCl.out.climb.shape.up u l p hl hup;obtain⟨g,c,cur,hsl,hmc,hBg⟩:=HCl.out.lay.rowAt hul (fun q=>q) he0
     obtain⟨Au,cu,hsu,_,_,_⟩:=qao (HCl.out.lay.row u l hl (fun q=>q))
     rw [hsu] at n2;rw [hsl] at p2;obtain⟨k,hk⟩:∃k,(t3.es u).length=k:=⟨_,rfl⟩;rw [hk] at n2;obtain⟨m,hm⟩:∃m,(t3.es p).length=m:=⟨_,rfl⟩;rw [hm] at p2 hmc hsl;have HFan:=hdQ hfan
     have HFw:Hid (out.length<=100000/\out.length+(below t3 l u).length<=200000/\t3.items.length<=100000):=by
      have h1:=qzq HCl.out.climb.nd HCl.out.climb.has;have h2:=HCl.out.climb.shape.below_len hl;have h3:t3.items.length<=100000:=by rw [HCl.out.its];exact zcy (qko _ _) HCt.out
      exact⟨by omega,by omega,h3⟩
     have hm16:m<=16:=by have:=hlens p _ hul;omega
     have hk16:k<=16:=by have:=hlens u _ hl;omega
     obtain⟨q,hq⟩:∃q,t3.fan/2=q:=⟨_,rfl⟩;rw [hq] at HLe;have HQ:=hdQ (And.intro hk (And.intro hm hq));have HPl:=hdQ (fun W imm' out' (h:ClimbAt C (.iface ct cv) w W own imm tb mb t id t3 out' imm' u l)=>qjm h.lay hl hup hul ⟨e0,he0,hek0⟩ (fun e he=>⟨_,(HCl.out.climb.shape.kid p l e hul he).1⟩) (fun q=>q) oQ)
     have hng:p≠g:=fun e=>qdt (HCl.out.lay.row p _ hul (fun q=>q)) (HCl.out.lay.nd p _ hul) dE (by rw [hsl,<-e];rfl)
     have HSl:=hdQ (And.intro hsl hng);have fR:=hBg.frozen;have hgl:=hBg.lt;clear hup hsu hk hq hm hsl hul hl hlens hng e0 he0 hek0 hfan
     simp only [gO,gP] at*
     go_wp2_with fail;refine qac kr kr pq ?_
     simp only [zdy,zey,ldz,lds,bare,qak,lcz,lcs,zay]
     repeat' ((try simp only [Act.put,lsi,lsz,lss]);first|(refine lqx ?_)|(refine qab qaa rfl (fun K hK=> ?_);go_simp;((first |  (go_at_call 61;(with_reducible refine(HLe.out _ bel).monoR ?_);rintro wl hbl hcl hfl hzl;(try simp at hzl))|skip)<;>(refine hK.out _ _ bel ?_;clear hK K))))
     (all_goals try simp only [Act.put,lsi,lsz,lss]);all_goals(refine qae ?_)
     by_cases hkq:k<q
     · have hkI:(k:Int)<(q:Int):=oQ
       have HBl:=hdQ (fun W (hW:Below wr.heap.size wr W)=>q0h HCl.out.climb.shape (fun b l hb=>zcy (HCl.out.climb.lens b l hb) HFan.out) HFw.out.2.2 l u W HUl.out.1 (HCl.out.lay.tr hW))
       have hf1:=HFw.out.1;have hf2:=HFw.out.2.1
       go_wp2_with (first
        | (go_at_call 62;(with_reducible refine(HBl.out _ bel).mono ?_);rintro e5 w5 ⟨v5,rfl,ho5,hb5⟩;have HO5:=hdQ ho5;clear ho5;have HB5:=hdQ (show Below wr.heap.size wr w5 from bel);have HR5:=hdQ (HLo.out.tr HB5.out).row)
        | (at_builtin;go_must (refine qh4 rfl _ _ 52 rfl 3 i0 (.int .i64 0) 1 8 Tryz.underlying52 hi0 iz0 iz1 iz2 rfl dE _ _ _ rfl HR5.out _ _ _ _ rfl HO5.out (qi4 _) ?c3 ?c4 ?_)))
       case c3=>unfold maxLen;omega
       case c4=>omega
       intro v8 w8 hown8 hg8 hwh8;have hC5:=HCl.out.tr HB5.out;have hL5:=HLo.out.tr HB5.out;have hC8:=hC5.kept hg8 (fun g e=>hL5.no g e)
       have hL8:=hL5.more hC5.lay.lim hC5.grow.size hown8 hwh8;obtain⟨A8,c8,rfl,_,_,_⟩:=qao hown8;clear n0 n1 n2 nlt p0 p1 p2 plt t0 t1 t2' t3' tl fR hgl hcl hfl hbl hzl hb5;obtain⟨p0,p1,p2,plt⟩:=hC8.lay.n0 HUl.out.2.2;rw [HSl.out.1] at p2;have HC8:=hdQ hC8;have HL8:=hdQ hL8;clear hC5 hL5 hC8 hL8 hown8 hg8 hwh8 hf1 hf2;have HPl8:=hdQ (fun W (hW:Below w8.heap.size w8 W)=>HPl.out W _ _ (HC8.out.tr hW))
       have HPB:=hdQ (HC8.out.lay.nd p _ HUl.out.2.2)
       have HSD:=hdQ (fun W i (hW:Below w8.heap.size w8 W) (hi:i<m)=>qx7 false (t3.es p) g m c i W (by
        have h:=(HC8.out.tr hW).lay.row p _ HUl.out.2.2 (fun q=>q)
        rw [HSl.out.1,HQ.out.2.1,show decide (l+1=0)=false by simp] at h
        exact h) (fun e he=>by
        obtain⟨Ak,ck,ekv,_⟩:=(HC8.out.lay.ekey p _ e HUl.out.2.2 he).bys
        rw [ekv]
        rfl) hi oQ)
       simp only [gP] at*
       go_wp2_with (first
        | (go_at_call 63;(with_reducible refine(HPl8.out _ bel).mono ?_);rintro e9 w9 ⟨i,x9,hx,hxk,rfl,hb9⟩;have HX:=hdQ (And.intro hx hxk);have hil:i<m:=(by have:=(zsy.1 hx).1;rw [HQ.out.2.1] at this;exact this);have hil0:(i:Int)<(m:Int):=oQ;obtain⟨hc9,hf9,hz9⟩:=bc3 hb9;(try simp at hz9);have HB9:=hdQ hb9;clear hx hxk)
        | (go_at_call 64;(with_reducible refine(HSD.out _ _ bel hil).mono ?_);rintro ea wa ⟨rfl,hro,hgr⟩;have HRO:=hdQ (And.intro hro hgr);have nda:=Blk.kept (Blk.tr HPB.out HB9.out) hgr (fun e=>HSl.out.2 (by injection e with e;exact e.symm));have na2:=nda.cell 2;have naf:=nda.frozen 2;have nal:=nda.lt;simp only [lAq] at na2;clear hro hgr nda))
       go_roundw
       case rel=>
        obtain⟨hro,hgr⟩:=HRO.out;obtain⟨t4,hC4,hG4⟩:=(HC8.out.tr HB9.out).dropped HUl.out.2.1 HX.out.1 HX.out.2 HSl.out.1 HQ.out.2.1 hgr hro;exact⟨t4,out++below t3 l u,A8,c8,l+1,p,imm3,rfl,by rw [zny],hC4,by rw [zny];exact(HL8.out.tr HB9.out).grow hG4⟩
       case measure=>
        have h1:=HCl.out.old _ _ HUl.out.1;have h2:=HCl.out.old _ _ HUl.out.2.2;have h3:=HD.out _ _ h2
        simp only [lvOf,h1,h2,Option.getD_some]
        omega
     · have hkI:¬ (k:Int)<(q:Int):=oQ
       go_wp2_with fail;refine qck (fun W=>Below wr.heap.size wr W) bel ?_
       clear n0 n1 n2 nlt p0 p1 p2 plt t0 t1 t2' t3' tl fR hgl hcl hfl hbl hzl;rintro w2 hb2;have HC2:=hdQ (HCl.out.tr hb2);have HL2:=hdQ (HLo.out.tr hb2);clear hb2;obtain⟨t0,t1,t2',t3',tl⟩:=HC2.out.lay.c0;obtain⟨p0,p1,p2,plt⟩:=HC2.out.lay.n0 HUl.out.2.2;rw [HSl.out.1] at p2;obtain⟨cur2,hBg⟩:=qie (HC2.out.lay.row p _ HUl.out.2.2 (fun q=>q)) (by rw [HSl.out.1];rfl)
       have fR:=hBg.frozen;have hgl:=hBg.lt;have HRow:=hdQ (HC2.out.lay.row p _ HUl.out.2.2 (fun q=>q))
       have HPl2:=hdQ (fun W (hW:Below w2.heap.size w2 W)=>HPl.out W _ _ (HC2.out.tr hW))
       have HUn2:=hdQ (fun W (hW:Below w2.heap.size w2 W)=>qhg HCC.out (HC2.out.lay.tr hW) HUl.out.1 (fun q=>q) (by have:=HQ.out.1;omega))
       have hkk:∀k∈(t3.es u).map En.kb,(∀x∈k,x<256)/\k.length<=1000000:=fun k hk' =>by
        obtain⟨e,he,rfl⟩:=zty.1 hk';have:=HC2.out.lay.ekey u _ e HUl.out.1 he;exact⟨this.1,this.2.1⟩
       have hform:=HCC.out.formU _ (fun k hk=>(hkk k hk).1) (fun k hk=>(hkk k hk).2)
       have HREF:=hdQ (fun W (i:Nat) x9 kv (hW:Below w2.heap.size w2 W) (hx:(t3.es p)[i]? =some x9) (hxk:x9.kid=u) (ho:W.ownsRow w2.heap.size 5 1 kv (C.un ((t3.es u).map En.kb)).length (qaw (C.un ((t3.es u).map En.kb))))=>HC2.out.keyed HUl.out.2.1 hx hxk (by rw [HQ.out.1,HQ.out.2.2];omega) HSl.out.1 hW ho (zhy _) rfl hform.1 hform.2)
       clear hkk hform hBg;generalize C.un ((t3.es u).map En.kb)=U at*
       simp only [gP] at*
       refine qa0 [0,1,2,3,4,6,7,5,8,9,10] [11] kr kr pq ?_
       simp only [zdy,zey,ldz,lds,bare,qak,lcz,lcs,zay,qdr,Option.isNone_none,Bool.and_true,Bool.true_and,Bool.false_and,Bool.and_self]
       repeat((try simp only [Act.put,lsi,lsz,lss]);first|(refine qb0 (v:= ?_) qaa rfl ?_ ?_;rotate_left;focus(intro wq;go_simp;try with_reducible rfl))|(refine qbl (v:= ?_) qaa rfl ?_ ?_;rotate_left;focus(intro wq hq;obtain⟨hcq,hfq⟩:=qbc hq;go_simp;try with_reducible rfl))|(refine qbp qaa rfl (fun K hK=> ?_);go_simp;((first|(go_at_call 63;(with_reducible refine(HPl2.out _ bel).mono ?_);rintro e w5 ⟨i,x9,hx,hxk,rfl,hb5⟩;obtain⟨hc5,hf5,hz5⟩:=bc3 hb5;(try simp at hz5);have hg5:g<w5.heap.size:=oQ;have HX:=hdQ (And.intro hx hxk);have hil:i<m:=(by have:=(zsy.1 hx).1;rw [HQ.out.2.1] at this;exact this);have hil0:(i:Int)<(m:Int):=oQ;have hrw:=HRow.out;obtain⟨g',c',hv',_,r0,_,_⟩:=qct hrw hx;rw [HSl.out.1] at hv';injection hv' with hv1 hv2 hv3;injection hv1 with hv1;injection hv1 with hv1;subst hv1;have r5:w5.cell? ⟨g,i*3,none⟩=some x9.kv:=(hc5 g _ (by simpa using hgl)).trans (by simpa using r0);have f5:w5.frozen? ⟨g,i*3,none⟩=false:=(hf5 g _ (by simpa using hgl)).trans (by simpa using fR _);clear hv2 hv3 hrw hx hxk)|(go_at_call 65;(with_reducible refine(HUn2.out _ bel).mono ?_);rintro e w6 ⟨v6,rfl,ho6,hb6⟩;obtain⟨A6,c6,rfl,_,_,_,_⟩:=qb2 ho6;have HO6:=hdQ ho6;clear ho6;obtain⟨hc6,hf6,hz6⟩:=bc3 hb6;(try simp at hz6);have r6:w6.cell? ⟨g,i*3,none⟩=some x9.kv:=(hc6 g _ (by simpa using hg5)).trans (by simpa using r5);have f6:w6.frozen? ⟨g,i*3,none⟩=false:=(hf6 g _ (by simpa using hg5)).trans (by simpa using f5))|skip)<;>(refine hK.out _ _ bel ?_;clear hK K))))
       (all_goals try simp only [Act.put,lsi,lsz,lss])
       refine qce ?_;refine qat (fun K hK=> ?_)
       go_simp
       refine q44 (K:=K) (fun w7=>∃t4 imm4,ClimbAt C (.iface ct cv) w w7 own imm tb mb t id t4 out imm4 p (l+1)/\Grow w2 w7 own imm3 own imm4) ?_ ?_;(focus(refine HREF.out _ i x9 (.slice A6 U.length c6) ?_ HX.out.1 HX.out.2 ?_;(focus(exact bel));(focus(refine qa7 (qal HO6.out (qaf ?_) sI) (by(try simp);omega);exact bel))));rintro w7 ⟨t4,imm4,hC7,hG7⟩
       refine hK.out _ _ ?_;clear hK K
       (try simp only [Act.put,lsi,lsz,lss])
       refine qcd ?_;have HE7:=hdQ (And.intro hC7 hG7);clear hC7 hG7 r0 r5 f5 r6 f6 hc5 hf5 hc6 hf6 hb5 hb6 p0 p1 p2 plt t0 t1 t2' t3' tl fR;go_wp2_with fail
       go_roundw
       case rel=>exact ⟨t4,out,A,c3,l+1,p,imm4,rfl,rfl,HE7.out.1,HL2.out.grow HE7.out.2⟩
       case measure=>
        have h1:=HCl.out.old _ _ HUl.out.1;have h2:=HCl.out.old _ _ HUl.out.2.2;have h3:=HD.out _ _ h2
        simp only [lvOf,h1,h2,Option.getD_some]
        omega
 case rest=>
  obtain⟨t3,out,A,c3,l,imm3,rfl,hT,hold,hLo⟩:=hcut;have HT:=hdQ (And.intro hT (And.intro hold hLo))
  have HOut:Hid (out.Nodup/\(∀j∈out,∃it,getK j (delK id t.items)=some it)/\out.length<=100000):=by
   have h1:∀j∈out,∃it,getK j (delK id t.items)=some it:=by rw [<-hT.its];exact hT.top.has
   exact⟨hT.top.nd,h1,zcy (qzq hT.top.nd h1) (zcy (qko _ _) HCt.out)⟩
  clear hT hold hLo HB
  go_upto_block 2 with fail
  go_cut [] (fun wx=>∃(t4:Tr) (own4 imm4:Nat->Prop),DoneAt C (.iface ct cv) w wx own imm tb mb t id t4 (fun i=>i∈out) own4 imm4/\LostAt w wx own4 imm4 (.slice A out.length c3) out)
  case first=>as_aux_lemma=>
   go_wp2_with fail
   go_loopw [] (fun wr=>∃(t4:Tr) (imm4:Nat->Prop) (l4:Nat),TopAt C (.iface ct cv) w wr own imm tb mb t id t4 out own imm4 l4/\(∀b l,t4.lv b=some l->t.lv b=some l)/\LostAt w wr own imm4 (.slice A out.length c3) out) (fun wr=>lvOf t ((wr.cell? ⟨tb,2,none⟩).getD .nilIface))
   case atStart=>exact ⟨t3,imm3,l,HT.out.1,HT.out.2.1,HT.out.2.2⟩
   case round=>
    clear HT;obtain⟨t4,imm4,l4,hT,hold,hLo⟩:=hrel;obtain⟨c0,c1,c2,c3',tl⟩:=hT.lay.c0;obtain⟨r0,r1,r2,rl⟩:=hT.lay.n0 hT.lv;obtain⟨Ar,cr,hsl,hlc,_,_⟩:=qao (hT.lay.row _ _ hT.lv (fun q=>q))
    rw [hsl] at r2;have HT:=hdQ (And.intro hT (And.intro hold hLo));have HS:=hdQ hsl
    have hle:(t4.es t4.root).length<=16:=by
     have h1:=hT.top.lens _ _ hT.lv;have h2:=HGA.out.fan16;rw [hT.fan] at h1
     omega
    clear hT hold hLo hsl
    cases l4 with
    | zero=>
      rw [show decide ((0:Nat)=0)=true from rfl] at r1
      simp only [gP] at*
      go_wp2_with fail
      go_meet
      exact⟨t4,own,imm4,HT.out.1.done (.inl rfl),HT.out.2.2⟩
    | succ l4=>
      rw [show decide (l4+1=0)=false by simp] at r1
      obtain⟨n,hn⟩:∃n,(t4.es t4.root).length=n:=⟨_,rfl⟩;rw [hn] at r2;have fT:=HT.out.1.lay.hd.frozen 2;have HN:=hdQ hn
      rcases hes:t4.es t4.root with _|⟨y,_|⟨y2,rest⟩⟩
      · rw [hes] at hn
        obtain rfl:n=0:=by simpa using hn.symm
        have HE:=hdQ (HT.out.1.emptied hes);clear hn hes
        simp only [gP] at*
        go_wp2_with fail
        go_meet
        obtain⟨t5,own5,h5,hG5⟩:=HE.out;exact⟨t5,own5,imm4,h5.done (.inl rfl),HT.out.2.2.grow hG5⟩
      · rw [hes] at hn
        obtain rfl:n=1:=by simpa using hn.symm
        have HE:=hdQ (HT.out.1.sunk hes);obtain⟨g,c',hv,hgl,q0,q1,q2⟩:=qct (HT.out.1.lay.row _ _ HT.out.1.lv (fun q=>q)) (k:=0) (e:=y) (by rw [hes];rfl)
        rw [HS.out] at hv;injection hv with hv1 hv2 hv3
        subst hv1;rw [show decide (l4+1=0)=false by simp] at q2
        simp only [Nat.zero_mul,Nat.zero_add,Bool.false_eq_true,if_false] at q2;obtain⟨k0,k1,k2,kl⟩:=HT.out.1.lay.n0 HE.out.2.2.2;have fK:=(HT.out.1.lay.nd _ _ HE.out.2.2.2).frozen 0;clear hn hes hv2 hv3 q0 q1 k1 k2
        simp only [gP] at*
        go_wp2_with fail
        go_roundw
        case rel=>exact ⟨_,imm4,l4,HE.out.1,fun b l hb=>HT.out.2.1 b l (HE.out.2.2.1 b l hb),HT.out.2.2.grow HE.out.2.1⟩
        case measure=>
         have h1:=HT.out.2.1 _ _ HT.out.1.lv;have h2:=HT.out.2.1 _ _ HE.out.2.2.2;have h3:=HE.out.1.lay.c0.2.2.1;have h4:=HT.out.1.lay.c0.2.2.1;simp only [gP] at h3 h4
         rw [h3,h4]
         simp only [lvOf,Option.getD_some,h1,h2]
         omega
      · have hn2:2<=n:=by rw [<-hn,hes];simp
        have HE:=hdQ (show 2<=(t4.es t4.root).length by omega)
        clear hn hes;have hnI:¬ (n:Int)<2:=oQ
        rw [HN.out] at hle
        simp only [gP] at*
        go_wp2_with fail
        go_meet
        exact⟨t4,own,imm4,HT.out.1.done (.inr HE.out),HT.out.2.2⟩
  case rest=>
   obtain⟨t4,own4,imm4,hD,hLo⟩:=hcut;obtain⟨n,hn⟩:∃n,out.length=n:=⟨_,rfl⟩;have HD4:=hdQ (And.intro hD hLo);have HN:=hdQ hn;have hn5:n<=100000:=by have:=HOut.out.2.2;omega
   rw [hn]
   clear hD hLo hn HT;go_wp2_with fail
   go_loopw [148] (fun vi wr=>∃(i:Nat) (t5:Tr) (own5 imm5:Nat->Prop),vi=.int .i64 i/\i<=n/\DoneAt C (.iface ct cv) w wr own imm tb mb t id t5 (fun j=>j∈out.drop i) own5 imm5/\LostAt w wr own5 imm5 (.slice A n c3) out) (fun vi _=>n-(Go.RowKit.intOf vi).toNat)
   case atStart=>
    refine⟨0,t4,own4,imm4,rfl,zly _,HD4.out.1,?_⟩;have:=HD4.out.2;rw [HN.out] at this;exact this
   case round=>
    obtain⟨i,t5,own5,imm5,rfl,hin,hD,hLo⟩:=hrel;have HD5:=hdQ (And.intro hD hLo);clear hD hLo HD4
    by_cases hlt:i<n
    case neg=>
     obtain rfl:n=i:=oQ
     go_wp2_with fail;go_ret;exact⟨rfl,HD5.out.1.gat (fun j hj=>by rw [List.drop_eq_nil_of_le (by rw [HN.out];exact zhy _)] at hj;cases hj) HGA.out⟩
    case pos=>
     have hltI:(i:Int)<(n:Int):=oQ
     obtain⟨z,hz⟩:∃z,out[i]? =some z:=⟨out[i]'(by rw [HN.out];exact hlt),zby _⟩
     have hio:i<out.length:=by rw [HN.out];exact hlt
     obtain⟨g,rfl,hgl,q0⟩:=HD5.out.2.at_ hz
     have hdr:out.drop i=z::out.drop (i+1):=by
      rw [zgx hio]
      rw [zby hio] at hz;injection hz with hz
      rw [hz]
     obtain⟨it,hit⟩:=HOut.out.2.1 z (zjy hz)
     have hL:∀j,(j∈out.drop i/\j≠z)↔j∈out.drop (i+1):=fun j=>by
      have hnd:(out.drop i).Nodup:=HOut.out.1.sublist (List.drop_sublist _ _)
      rw [hdr] at hnd ⊢
      rw [List.nodup_cons] at hnd
      rw [List.mem_cons]
      constructor
      · rintro⟨h|h,h2⟩
        · exact absurd h h2
        · exact h
      · intro h
        exact⟨.inr h,fun e=>hnd.1 (e ▸ h)⟩
     have HAdd:=hdQ (fun W (hW:Below wr.heap.size wr W)=>q0o HCC.out HPP.out (HD5.out.1.lay.tr hW) HD5.out.1.shape HD5.out.1.fill HD5.out.1.keyed (by rw [HD5.out.1.fan];exact HGA.out.fan4) (by rw [HD5.out.1.fan];exact HGA.out.fan16) (fun j y hj=>by
      rw [HD5.out.1.its,qlx HGA.out.shape.rise] at hj
      split at hj
      · cases hj
      · exact(HGA.out.its j y hj).1) (id:=z) (x:=it) (by rw [HD5.out.1.its];exact hit) (by rw [hdr];simp))
     have HL:=hdQ hL;clear hz hdr hit hL hio
     simp only [gP] at*
     go_wp2_with (go_at_call 66;(with_reducible refine(HAdd.out _ bel).mono ?_);rintro e w6 ⟨rfl,t6,own6,imm6,hL6,hS6,hF6,hK6,hI6,hf6,hG6⟩;have H6:=hdQ (show DoneAt C (.iface ct cv) w w6 own imm tb mb t id t6 (fun j=>j∈out.drop (i+1)) own6 imm6/\LostAt w w6 own6 imm6 (.slice (some ⟨g,0,none⟩) n c3) out from ⟨DoneAt.less ⟨hL6,HD5.out.1.grow.trans ((Grow.of_below (show Below wr.heap.size wr _ from bel)).trans hG6),hS6,hF6,hK6,hI6.trans HD5.out.1.its,hf6.trans HD5.out.1.fan⟩ HL.out,(HD5.out.2.tr (show Below wr.heap.size wr _ from bel)).grow hG6⟩);clear hL6 hS6 hF6 hK6 hI6 hf6 hG6)
     go_roundw
     case rel=>exact ⟨i+1,t6,own6,imm6,by go_num,by omega,H6.out.1,H6.out.2⟩
     case measure=>simp [Go.RowKit.intOf];omega
def delE (t:Tr) (id:Int):Nat:=if (getK id t.items).isSome then 0 else 7
theorem qxf {C:Cl} {ct:TypeId} {cv:Value} {fM fC fD fU fS fP:Nat} (hC:ClAt ct cv C fM fC fD fU fS) (hP:PenAt ct cv fP) (hGA:GAt C (.iface ct cv) w own imm tb mb t) (hcount:t.items.length<=100000) (id:Int) (hid: -9223372036854775808<=id/\id<=9223372036854775807):
 C9 31 #[gP tb,.int .i64 id] w fun e w' =>∃v,e=.returned v/\ErrX w' v (delE t id) ⟨#[100,101,108,101,116,101]⟩ id/\DelG C (.iface ct cv) w w' own imm tb mb t id:=by
 unfold delE
 cases hg:getK id t.items with
 | none=>exact (qsu hGA.lay id hid hg).mono fun e w' ⟨v,he,hx,hb⟩=>⟨v,he,hx,t,own,imm,hGA.tr hb,Grow.of_below hb,rfl,(qzz hg).symm⟩
 | some x=>exact (qst hC hP hGA hcount id hid x hg).mono fun e w' ⟨he,h⟩=>⟨_,he,.inl ⟨rfl,rfl⟩,h⟩
end
end Go.Proofs.YteodamnfgcnmmaaGreatDoor
