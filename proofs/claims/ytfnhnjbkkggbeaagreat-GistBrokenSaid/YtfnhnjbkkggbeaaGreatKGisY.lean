/-gist: Nearest, whatever the tree and the class.-/
import Derived.Test.YtfnhnjbkkggbeaaGreatKLawGn
import Derived.Test.YtfnhnjbkkggbeaaGreatKMade
set_option linter.unusedVariables false
set_option linter.unusedSimpArgs false
set_option maxHeartbeats 2000000
set_option maxRecDepth 20000
namespace Go.Proofs.YtfnhnjbkkggbeaaGreat
open Go Go.RowKit Pg
theorem qw1 {C:Cl} {cov:List Nat->Ob->Prop} {good:List Nat->Prop} {t:Tr} {L:Int->Prop} (hLw:Lawful C cov good) (h:Shape t L) (hf:Fill t fun _=>False) (h4:4<=t.fan) (hk:Keyed C.un t fun _=>False) (h0:∀id it,getK id t.items=some it->good it.kb):
 ∀{l u:Nat} {e:En},t.lv u=some l->e∈t.es u->good e.kb:=by
 intro l
 induction l with
 | zero=>
   intro u e hu he;obtain⟨_,it,hit,_,hkb⟩:=h.ent u e hu he
   rw [hkb]
   exact h0 _ _ hit
 | succ l ih=>
   intro u e hu he;obtain⟨h1,h2⟩:=h.kid _ _ _ hu he
   rw [hk e.kid l u e h1 h2 (fun q=>q) he rfl]
   refine(hLw.un _ ?_ fun k hk' => ?_).1
   · intro q
     have h3:=(hf e.kid l h1 (fun q=>q)).2.1 fun e1=>by
      have:=h.root.2;rw [<-e1,h2] at this
      cases this
     have:(t.es e.kid).length=0:=by simpa using congrArg List.length q
     omega
   · obtain⟨e',he',rfl⟩:=zty.1 hk'
     exact ih h1 he'
theorem qt0 {C:Cl} {cov:List Nat->Ob->Prop} {good:List Nat->Prop} {t:Tr} {L:Int->Prop} (hLw:Lawful C cov good) (h:Shape t L) (hf:Fill t fun _=>False) (h4:4<=t.fan) (hk:Keyed C.un t fun _=>False) (h0:∀id it,getK id t.items=some it->good it.kb/\cov it.kb it.ob):
 ∀{l u:Nat} {e:En} {id:Int} {it:It},t.lv u=some l->e∈t.es u->(id=e.id/\l=0\/∃m,l=m+1/\id∈below t m e.kid)->getK id t.items=some it->cov e.kb it.ob:=
 fun{l u e id it}=>Pg.cover (cv:=cov) h hk (fun id it hi=>(h0 id it hi).2) fun n l hn e he o ho=>
  (hLw.un _ (fun q=>by rw [List.map_eq_nil_iff] at q;rw [q] at he;cases he) fun k hk' =>by
    obtain⟨e',he',rfl⟩:=zty.1 hk'
    exact qw1 hLw h hf h4 hk (fun id it hi=>(h0 id it hi).1) hn he').2 _ (zty.2 ⟨e,he,rfl⟩) o ho
structure NearF (Lw:Prop) (C:Cl) (t:Tr) (p:Pt) (lr:Nat) (dist:Int->Fr) (all:List Int) (K:Nat):Prop where
 root:t.lv t.root=some lr
 start:Nq Lw t dist all K lr (t.es t.root) [] [t.root] [] 0
 nd:all.Nodup
 few:all.length<=t.items.length
 done:∀{l:Nat} {r:List En} {h:List Pu} {nodes:List Nat} {out:List (Int×Fr)} {c k:Nat},Nq Lw t dist all K l r h nodes out c->out.length<=k->out.length=k\/(h= []/\r= [])->Lw->out=(q1n (fun o=>qci o p) (t.items.map fun q=>(q.1,q.2.ob))).take k
 ne:∀b l,t.lv b=some l->0<(t.es b).length\/K=0
 hK:K<=2*t.items.length
 len:∀b l,t.lv b=some l->(t.es b).length<=16
 far:∀b l e,t.lv b=some (l+1)->e∈t.es b->t.lv e.kid=some l/\∀id∈below t l e.kid,Lw->cmpF (C.far e.kb p) (dist id)<=0
 ent:∀b e,t.lv b=some 0->e∈t.es b->(0<=e.id/\e.id<=1099511627776)/\∃it,getK e.id t.items=some it/\dist e.id=qci it.ob p/\FrOk (qci it.ob p)
theorem GAt.nearF {C:Cl} {cl:Value} {w:World} {own imm:Nat->Prop} {tb mb:Nat} {t:Tr} {cov:List Nat->Ob->Prop} {good:List Nat->Prop} {Lw:Prop} (h:GAt C cl w own imm tb mb t) (hLw:Lw->Lawful C cov good) {p:Pt} (hp:okPt p=true):∃lr dist all K,NearF Lw C t p lr dist all K:=by
 obtain⟨lr,hr⟩:=Option.isSome_iff_exists.1 h.shape.root.1;have hdist:∀id it,getK id t.items=some it->(fun id=>qci (((getK id t.items).map It.ob).getD ⟨0,[]⟩) p) id=qci it.ob p:=fun id it hi=>by simp [hi]
 revert hdist;generalize (fun id=>qci (((getK id t.items).map It.ob).getD ⟨0,[]⟩) p)=dist
 intro hdist
 have h0:Lw->∀id it,getK id t.items=some it->good it.kb/\cov it.kb it.ob:=fun L id it hi=>by
  obtain⟨_,_,h2,h3⟩:=h.its id it hi
  rw [h3]
  exact((hLw L).made _ h2).2
 have hids:((t.items.map fun q:Int×It=>(q.1,q.2.ob)).map (fun q=>(q.1,qci q.2 p))).map (·.1)=t.items.map (·.1):=by simp [List.map_map,Function.comp_def]
 have hnd:(t.items.map (·.1)).Nodup:=List.Pairwise.map _ (fun a b q=>Int.ne_of_lt q) h.shape.rise
 refine⟨lr,dist,below t lr t.root,cntE t lr t.root,hr,Nq.start Lw t dist hr,h.shape.below_nodup hr,h.shape.below_len hr,?_,?_,h.shape.cntE_le h.fill h.fan4 hr,?_,?_,?_⟩
 · intro l r hh nodes out c k q h1 h2 L
   refine q.ni.done L (qvi (by rw [hids];exact hnd)) ?_ ?_ h1 ?_
   · refine((qid _).map _).trans ?_
     rw [hids]
     refine(List.perm_ext_iff_of_nodup hnd (h.shape.below_nodup hr)).2 fun id=> ?_
     rw [h.shape.mem_root hr]
     constructor
     · intro hm
       obtain⟨⟨i,it⟩,hm2,rfl⟩:=zty.1 hm;exact⟨fun q=>q,it,qgs h.shape.rise hm2⟩
     · rintro⟨_,it,hit⟩
       exact zty.2 ⟨_,qfj hit,rfl⟩
   · intro a ha
     have ha:=(qid _).mem_iff.1 ha;rw [List.map_map] at ha;obtain⟨⟨i,it⟩,hm2,rfl⟩:=zty.1 ha;exact(hdist _ _ (qgs h.shape.rise hm2)).symm
   · rcases h2 with z|⟨z,z2⟩
     · exact .inl z
     · exact .inr ⟨z,by rw [z2,qjp]⟩
 · intro b l hb
   have hf:=h.fill b l hb (fun q=>q)
   have h4:=h.fan4
   by_cases e:b=t.root
   · subst e
     rw [hr] at hb
     cases hb
     cases lr with
     | zero=>
       rcases Nat.eq_zero_or_pos (t.es t.root).length with z|z
       · exact .inr z
       · exact .inl z
     | succ l=>exact .inl (by have:=hf.2.2 rfl oQ;omega)
   · exact .inl (by have:=hf.2.1 e;omega)
 · intro b l hb
   have:=(h.fill b l hb (fun q=>q)).1
   have:=h.fan16
   omega
 · intro b l e hb he
   have h1:=h.shape.kid _ _ _ hb he;refine⟨h1.1,fun id hid L=> ?_⟩
   obtain⟨b',hb',_,e',he',rfl⟩:=(h.shape.mem_below h1.1).1 hid;obtain⟨_,it,hit,_⟩:=h.shape.ent _ _ hb' he'
   rw [hdist _ _ hit]
   exact(hLw L).far _ _ _ (qt0 (hLw L) h.shape h.fill h.fan4 h.keyed (h0 L) hb he (.inr ⟨l,rfl,hid⟩) hit) (h.its _ _ hit).2.1 hp
 · intro b e hb he
   obtain⟨_,it,hit,_⟩:=h.shape.ent _ _ hb he;exact⟨(h.its _ _ hit).1,it,hit,hdist _ _ hit,qo4 (h.its _ _ hit).2.1 hp⟩
structure NearM (w:World) (B:Nat) (F:Nat->Prop) (hb c:Nat) (v v6 v8:Value) (h:List Pu) (nodes:List Nat) (out:List Nr):Prop where
 H:HeapAt w F hb v h c
 r6:w.ownsRow 0 73 4 v6 out.length (nrVs out)
 r8:w.ownsRow 0 76 1 v8 nodes.length (nodes.map gP)
 o6:∀g,v6.ownBlock=some g->¬ F g/\B<=g
 o8:∀g,v8.ownBlock=some g->¬ F g/\B<=g
 o68:∀g,v6.ownBlock=some g->v8.ownBlock=some g->False
 oF:∀k,F k->B<=k
section
variable {w w' :World} {B hb c:Nat} {F F' :Nat->Prop} {v v6 v8:Value} {h:List Pu} {nodes:List Nat} {out:List Nr}
theorem NearM.tr (M:NearM w B F hb c v v6 v8 h nodes out) (hw:Below w.heap.size w w'):NearM w' B F hb c v v6 v8 h nodes out:=
 ⟨M.H.tr hw,qaq M.r6 (qag hw) sI,qaq M.r8 (qag hw) sI,M.o6,M.o8,M.o68,M.oF⟩
theorem NearM.heap {v' :Value} {c' :Nat} {h' :List Pu} (M:NearM w B F hb c v v6 v8 h nodes out) (H' :HeapAt w' F' hb v' h' c') (ht:TurnF F w w') (hF:∀k,F' k->F k\/w.heap.size<=k) (hB:B<=w.heap.size):NearM w' B F' hb c' v' v6 v8 h' nodes out:=by
 refine⟨H',qm0 M.r6 ht (fun g q=>(M.o6 g q).1),qm0 M.r8 ht (fun g q=>(M.o8 g q).1),fun g q=>⟨fun f=> ?_,(M.o6 g q).2⟩,fun g q=>⟨fun f=> ?_,(M.o8 g q).2⟩,M.o68,fun k f=> ?_⟩
 · rcases hF g f with z|z
   · exact(M.o6 g q).1 z
   · have:=(M.r6.lt _ q).2;omega
 · rcases hF g f with z|z
   · exact(M.o8 g q).1 z
   · have:=(M.r8.lt _ q).2;omega
 · rcases hF k f with z|z
   · exact M.oF k z
   · omega
theorem NearM.more6 {v6' :Value} {x:Nr} (M:NearM w B F hb c v v6 v8 h nodes out) (hr:w'.ownsRow 0 73 4 v6' (out.length+1) (nrVs out++nrV x)) (hg:w.grownBy w' v6.ownBlock) (hv:v6'.ownBlock=v6.ownBlock\/∃g,v6'.ownBlock=some g/\w.heap.size<=g) (hB:B<=w.heap.size):
 NearM w' B F hb c v v6' v8 h nodes (out++ [x]):=by
 refine⟨M.H.grown hg fun g e=>(M.o6 g e).1,?_,qaq M.r8 hg fun g e q=>M.o68 g e q,fun g q=> ?_,M.o8,fun g q q8=> ?_,M.oF⟩
 · rw [zny,qqd]
   simpa [nrVs] using hr
 · rcases hv with z|⟨g',z,z2⟩
   · exact M.o6 g (z ▸ q)
   · rw [z] at q
     cases q
     exact⟨fun f=>by have:=M.H.lim _ f;omega,zcy hB z2⟩
 · rcases hv with z|⟨g',z,z2⟩
   · exact M.o68 g (z ▸ q) q8
   · rw [z] at q
     cases q
     have:=(M.r8.lt _ q8).2
     omega
theorem NearM.more8 {v8' :Value} {x:Nat} (M:NearM w B F hb c v v6 v8 h nodes out) (hr:w'.ownsRow 0 76 1 v8' (nodes.length+1) (nodes.map gP++ [gP x])) (hg:w.grownBy w' v8.ownBlock) (hv:v8'.ownBlock=v8.ownBlock\/∃g,v8'.ownBlock=some g/\w.heap.size<=g) (hB:B<=w.heap.size):
 NearM w' B F hb c v v6 v8' h (nodes++ [x]) out:=by
 refine⟨M.H.grown hg fun g e=>(M.o8 g e).1,qaq M.r6 hg fun g e q=>M.o68 g q e,?_,M.o6,fun g q=> ?_,fun g q6 q=> ?_,M.oF⟩
 · rw [zny,zfx]
   exact hr
 · rcases hv with z|⟨g',z,z2⟩
   · exact M.o8 g (z ▸ q)
   · rw [z] at q
     cases q
     exact⟨fun f=>by have:=M.H.lim _ f;omega,zcy hB z2⟩
 · rcases hv with z|⟨g',z,z2⟩
   · exact M.o68 g q6 (z ▸ q)
   · rw [z] at q
     cases q
     have:=(M.r6.lt _ q6).2
     omega
theorem NearM.off {b:Nat} (M:NearM w B F hb c v v6 v8 h nodes out) (hF:¬ F b) (h6:v6.ownBlock≠some b) (h8:v8.ownBlock≠some b) (us:List Value) (o:Nat):NearM (setW w b o us) B F hb c v v6 v8 h nodes out:=
 ⟨M.H.off hF us o,qkf h6 us w o M.r6,qkf h8 us w o M.r8,M.o6,M.o8,M.o68,M.oF⟩
theorem NearM.pop (M:NearM w B F hb c v v6 v8 h nodes out) (hB:B<=w.heap.size) (hn:h.length<=100000) (d1 d0 dd nd:Nat) (id:Int) (it:Bool) (e1:(topE h).1.d.num/18446744073709551616=d1) (e0:(topE h).1.d.num%18446744073709551616=d0) (ed:(topE h).1.d.den=dd) (en:(topE h).1.node=nd) (ei:(topE h).1.id=id) (et:(topE h).1.item=it):
 C9 37 #[.pointer (some ⟨hb,0,none⟩)] w fun e w' =>e=.returned (.tuple #[.agg #[.int .i64 id,.int .u64 (d1:Int),.int .u64 (d0:Int),.int .u64 (dd:Int),.bool it,.int .i64 (nd:Int)],.bool (topE h).2])/\∃v',NearM w' B F hb c v' v6 v8 (popS ltPu h) nodes out/\TurnF F w w' /\Below B w w' :=by
 refine(qp8 M.H hn d1 d0 dd nd id it e1 e0 ed en ei et).mono ?_;rintro e w' ⟨rfl,v',h1,h2⟩;exact⟨rfl,v',M.heap h1 h2 (fun k f=> .inl f) hB,h2,qcu h2 M.oF hB⟩
theorem NearM.push (M:NearM w B F hb c v v6 v8 h nodes out) (hB:B<=w.heap.size) (x:HE) (hx:FrOk x.d) (hn:h.length<=100000) (hc:c<=1000000):
 C9 34 #[.pointer (some ⟨hb,0,none⟩),heV x] w fun e w' =>e=.returned (.tuple #[])/\∃v' F',NearM w' B F' hb (c+1) v' v6 v8 (qhr ltPu h (x,c+1)) nodes out/\TurnF F w w' /\Below B w w' :=by
 refine(qr0 M.H x hx hn hc).mono ?_;rintro e w' ⟨rfl,v',F',h1,h2,h3⟩;exact⟨rfl,v',F',M.heap h1 h2 h3 hB,h2,qcu h2 M.oF hB⟩
end
end Go.Proofs.YtfnhnjbkkggbeaaGreat
namespace Pg
open Go Go.RowKit
def idcs (l:List Int):List Value:=l.map fun i=> .int .i64 i
theorem qh1 (l:List Int):∀u∈idcs l,u.oneCell' =true:=by
 intro u hu;obtain⟨x,_,rfl⟩:=zty.1 hu
 rfl
def qic (t:Tr) (cons:List Nat->Bool) (mt:Int->Bool):Nat->En->List Int
 | 0,e=>if cons e.kb then if mt e.id then [e.id] else [] else []
 | l+1,e=>if cons e.kb then qcm t cons mt l e.kid else []
theorem qn3 (t:Tr) (cons:List Nat->Bool) (mt:Int->Bool) (l n:Nat):qcm t cons mt l n=(t.es n).flatMap (qic t cons mt l):=by
 cases l with
 | zero=>
   simp only [qcm]
   induction t.es n with
   | nil=>rfl
   | cons e r ih=>
     rw [List.filter_cons,zvy,<-ih]
     simp only [qic]
     cases cons e.kb<;>cases mt e.id<;>rfl
 | succ l=>
   simp only [qcm]
   induction t.es n with
   | nil=>rfl
   | cons e r ih=>
     rw [List.filter_cons,zvy,<-ih]
     simp only [qic]
     cases cons e.kb<;>rfl
theorem qi4 {α β:Type} (f:α->List β) (l:List α) (i:Nat):((l.take i).flatMap f).length<=(l.flatMap f).length:=by
 have:l.flatMap f=(l.take i).flatMap f++(l.drop i).flatMap f:=by rw [<-List.flatMap_append,List.take_append_drop]
 rw [this,zny]
 exact Nat.le_add_right _ _
def mtT (t:Tr) (q:Qu) (id:Int):Bool:=match getK id t.items with
 | some it=>qer it.ob q
 | none=>false
end Pg
namespace Go.Proofs.YtfnhnjbkkggbeaaGreat
open Go Go.RowKit Pg
theorem Tryz.infoIY:(Tryz.prog.info? 3).map (fun i=>(i.zero,i.size,i.bytes))=some (some (.int .i64 0),1,8):=by kernel_rfl
theorem qwf {w:World} {a:Value} {t:TypeId}:∀(j:Nat) (v:Value),[a][j]? =some v->(w.alloc (.cells #[a] t)).cell? ((⟨w.heap.size,0,none⟩:Addr).add j)=some v:=by
 intro j v hj
 match j,hj with
 | 0,hj=>simp at hj;subst hj;simp [Addr.add]
theorem qez {P:Program} {w:World} {ops:Array Oper} {rest:List Oper} {o:Oper} {a:Act} {Q:Exit->Act->World->Prop} (hgd:o.guard=none) (s x:Operand) (t:TypeId)
 (ho:o.op=.call {callee:=.builtin .append,args:= #[s,x],argTypes:= #[t,t]})
 (base:Nat) (e:TypeId) (i:TypeInfo) (z:Value) (size bytes:Nat) (ht:P.underlying t=some (.slice e)) (hi:P.info? e=some i) (hz:i.zero=some z)
 (hsize:i.size=size) (hby:i.bytes=bytes) (hzs:z.cells.size=size) (hsz:0<size)
 (v:Value) (n:Nat) (xs:List Value) (hs:a.eval s=v) (hown:w.ownsRow base e size v n xs) (base2:Nat) (v2:Value) (m:Nat) (ys:List Value) (hx:a.eval x=v2) (hown2:w.ownsRow base2 e size v2 m ys) (h1:∀u∈ys,u.oneCell' =true)
 (h63:n+m<=maxLen) (hbytes:(n+m)*bytes<=140737488355328) (hbase:base<=w.heap.size)
 (h:∀v' w',w'.ownsRow base e size v' (n+m) (xs++ys)->w.grownBy w' v.ownBlock->wpList P ops Q rest (a.put o.dst v') w'):wpList P ops Q (o::rest) a w:=by
 have hl:=hown2.1
 rcases hown2.2 with ⟨e1,h0⟩|⟨g,cap,cur,e1,hg,hh,hc⟩
 · subst e1 h0
   have hys:ys= []:=by simpa using hl
   subst hys;exact wpList_append_own_none hgd s x t ho base e i size ht hi v n xs hs hown hx (h v w (by simpa using hown) ⟨rfl,rfl,rfl,zhy _,fun _ _ _=>rfl⟩)
 · subst e1
   exact wpList_append_own w hgd s x t ho base e i z size bytes ht hi hz hsize hby hzs hsz v n xs hs hown ⟨g,0,none⟩ m cap ys hx hl (fun j u hj=>by
    have hjl:=(zsy.1 hj).1;have:=hown2.cellAt j oQ
    rw [hj] at this
    simp only [Addr.add,Nat.zero_add]
    split
    · rename_i h0
      rw [h0] at this;exact this
    · exact this) h1 h63 hbytes hbase fun v' w' h2 h3 _=>h v' w' h2 h3
section
variable {own imm:Nat->Prop} {tb mb:Nat} {t:Tr}
theorem qtb {C:Cl} {ct:TypeId} {cv:Value} {fM fC fD fU fS:Nat} (hC:ClAt ct cv C fM fC fD fU fS) (hS:Shape t fun _=>False) (hlen:∀b l,t.lv b=some l->(t.es b).length<=16) (hcount:t.items.length<=100000) (hids:∀id it,getK id t.items=some it->0<=id/\id<=1099511627776)
 (q:Qu) (A:Option Addr) (m c:Nat) (hm:m<=1000000):∀(l n:Nat) (w:World),t.lv n=some l->Lay w own imm tb mb (.iface ct cv) t (fun _=>False) (fun _=>False)->qal w w.heap.size A m q.ring->
 C9 31 #[gP tb,gP n,quV q.kind q.box A m c] w fun e w' =>∃v,e=.returned v/\w'.ownsRow w.heap.size 3 1 v (qcm t (fun kb=>C.cons kb q) (mtT t q) l n).length (idcs (qcm t (fun kb=>C.cons kb q) (mtT t q) l n))/\Below w.heap.size w w' :=by
 intro l
 induction l using Nat.strongRecOn with
 | _ l ih0=>
 intro n w hn h hq;obtain⟨c0,c1,c2,c3,clt⟩:=h.c0;obtain⟨n0,n1,n2,nlt⟩:=h.n0 hn;obtain⟨Ar,cr,hs,_,_,_⟩:=qas (h.row n l hn (fun q=>q))
 rw [hs] at n2
 have hfew:(qcm t (fun kb=>C.cons kb q) (mtT t q) l n).length<=100000:=by
  have h1:=(qg9 t (fun kb=>C.cons kb q) (mtT t q) l n).length_le
  have h2:=hS.below_len hn
  omega
 obtain⟨k,hk⟩:∃k,(t.es n).length=k:=⟨_,rfl⟩;have HLN:=hdQ hk;rw [hk] at n2;have hk16:k<=16:=by rw [<-hk];exact hlen n _ hn
 have HS:=hdQ hs;have HN:=hdQ hn;have HH:=hdQ h;have HQ:=hdQ hq;have HIH:Hid (∀l' b,l=l' +1->t.lv b=some l' ->∀W,Below w.heap.size w W->C9 31 #[gP tb,gP b,quV q.kind q.box A m c] W fun e w' =>∃v,e=.returned v/\w'.ownsRow W.heap.size 3 1 v (qcm t (fun kb=>C.cons kb q) (mtT t q) l' b).length (idcs (qcm t (fun kb=>C.cons kb q) (mtT t q) l' b))/\Below W.heap.size W w'):=fun l' b e hb W hW=>ih0 l' oQ b W hb (h.tr hW) ((hq.tr hW (zhy _)).more hW.size)
 have HSh:=hdQ hS;have HIds:=hdQ hids;have HCo:Hid (∀(Y:List Nat),(∀x∈Y,x<256)->Y.length<=1000000->ConsAt cv fC Y (C.cons Y)):=hC.cons;have mC:=hC.mC;have nC:=hC.nC
 rw [qn3] at hfew ⊢
 have HFew:=hdQ hfew;have HMt:=hdQ (fun W (hW:Below w.heap.size w W) (o:Ob) (B:Nat) (A' :Option Addr) (c' :Nat) (hl:qal W B A' o.pts.length o.pts) (h1:B<=W.heap.size) (h2:o.pts.length<=1000000)=>qon W.heap.size o.pts.length c' m c o.kind q.kind q.box A' A o.pts q.ring W (hl.more h1) ((hq.tr hW (zhy _)).more hW.size) (zhy _) h2 hm)
 have HMt2' :Hid (∀o:Ob,qer ⟨o.kind,o.pts⟩ ⟨q.kind,q.box,q.ring⟩=qer o q):=fun o=>rfl
 clear hn h hq hS hids hC ih0 hk hs hfew hlen hcount;generalize hbx:q.box=bx at*;obtain⟨⟨x0,y0⟩,x1,y1⟩:=bx;have HBX:=hdQ hbx;clear hbx
 simp only [gP,quV] at*
 go_enter Tryz.func31,Tryz.ntmps31
 go_wp2_with fail;refine qck (fun w2=>Blk w2 w.heap.size 50 #[.int .i64 q.kind,.int .i64 x0,.int .i64 y0,.int .i64 x1,.int .i64 y1,.slice A m c]/\Below w.heap.size w w2/\w.heap.size+1<=w2.heap.size) ⟨blkA,bel,by simp⟩ ?_
 rintro w2 ⟨hB2,hW2,hz2⟩;have HB2:=hdQ hB2;clear hB2
 go_loopw [6,14] (fun v6 vi wr=>∃(i:Nat) (acc:List Int) (A6:Option Addr) (c6:Nat),v6=.slice A6 acc.length c6/\vi=.int .i64 i/\i<=k/\acc=((t.es n).take i).flatMap (qic t (fun kb=>C.cons kb q) (mtT t q) l)/\wr.ownsRow (w.heap.size+1) 3 1 (.slice A6 acc.length c6) acc.length (idcs acc)/\Below (w.heap.size+1) w2 wr) (fun _ vi _=>k-(Go.RowKit.intOf vi).toNat)
 case atStart=>exact ⟨0,[],none,0,rfl,rfl,zly _,by simp,World.ownsRow_nil _ _ _ _,Below.refl _ _⟩
 case round=>
  obtain⟨i,acc,A6,c6,rfl,rfl,hik,hacc,hrow,hb⟩:=hrel;have hWr:Below w.heap.size w wr:=hW2.trans (hb.mono (Nat.le_succ _));have hws:w.heap.size+1<=wr.heap.size:=by have:=hb.size;omega
  by_cases hlt:i<k
  case neg=>
   obtain rfl:k=i:=oQ
   rw [zmy (by rw [HLN.out];exact zhy _)] at hacc
   have HA:=hdQ hacc;have HR:=hdQ (qbb hrow (Nat.le_succ _));have HW:=hdQ hWr;clear hacc hrow hb hWr hlt;go_wp2_with fail;go_ret;exact⟨_,rfl,by rw [<-HA.out];exact HR.out,HW.out⟩
  have L:=HH.out.tr hWr;obtain⟨u0,u1,u2,u3,ult⟩:=L.c0;obtain⟨m0,m1,m2,mlt⟩:=L.n0 HN.out;rw [HS.out,HLN.out] at m2;have hn0:(i:Int)<(k:Int):=oQ
  obtain⟨e,hx⟩:∃e,(t.es n)[i]? =some e:=⟨(t.es n)[i]'(by rw [HLN.out];exact hlt),zby _⟩
  have hmem:=zjy hx
  have hstep:((t.es n).take (i+1)).flatMap (qic t (fun kb=>C.cons kb q) (mtT t q) l)=acc++qic t (fun kb=>C.cons kb q) (mtT t q) l e:=by
   rw [zwy,hx,List.flatMap_append,<-hacc]
   simp
  have hal:(acc++qic t (fun kb=>C.cons kb q) (mtT t q) l e).length<=100000:=by
   rw [<-hstep]
   exact zcy (qi4 _ _ _) HFew.out
  obtain⟨g,c',hv,hgl,r0,r1,r2⟩:=qcf (L.row n l HN.out (fun q=>q)) hx
  rw [HS.out] at hv;injection hv with hv1 hv2 hv3
  subst hv1 hv3;have hPB:=HB2.out.below hb oQ
  obtain⟨p0,p1,p2,p3,p4,p5⟩:=ce6 hPB;have hKx:=L.ekey n l e HN.out hmem;have hk256:=hKx.1;have hkl:=hKx.2.1;obtain⟨Ak,ck,ekv,hkc,hAk,hyk⟩:=hKx.bys;rw [ekv] at r0;have hD:=HCo.out e.kb hk256 hkl;have eC:=hD.enter;have HCl:=hdQ (fun W (hW:Below wr.heap.size wr W)=>qdd wr.heap.size e.kb.length ck Ak e.kb W (hyk.tr hW (zhy _)) hW.size hkl hkc hAk)
  obtain⟨cb,hcb⟩:∃cb,C.cons e.kb q=cb:=⟨_,rfl⟩
  have HDi:Hid (∀W A' c',Below wr.heap.size wr W->qbm W W.heap.size A' e.kb.length e.kb->e.kb.length<=c' ->(A' =none->c' =0)->C9 fC #[cv,.slice A' e.kb.length c',.agg #[.int .i64 q.kind,.int .i64 x0,.int .i64 y0,.int .i64 x1,.int .i64 y1,.slice A m c]] W (Ret W (.bool cb))):=fun W A' c' hW h1 h2 h3=>by
   have hWW:Below w.heap.size w W:=hWr.trans (hW.mono oQ)
   have:=hD.calls W A' c' q A m c h1 h2 h3 ((HQ.out.tr hWW (zhy _)).more hWW.size) hm;rw [hcb,HBX.out] at this;exact this
  have HAcc:=hdQ hacc;have HRow:=hdQ hrow;have HB:=hdQ hb;have HSt:=hdQ hstep;have HAl:=hdQ hal;have HMem:=hdQ hmem;have HWr:=hdQ hWr;have hws2:w.heap.size<wr.heap.size:=oQ
  obtain⟨rv,hrv⟩:∃a,(if decide (l=0)=true then Value.pointer none else .pointer (some ⟨e.kid,0,none⟩))=Value.pointer a:=by
   split
   · exact⟨none,rfl⟩
   · exact⟨_,rfl⟩
  simp only [gP] at r2;rw [hrv] at r2;have HRV:=hdQ hrv;have HCB:=hdQ hcb;clear hx hmem L hv2 ekv hkc hAk hyk hKx hk256 hkl hPB hD hacc hrow hb hstep hal hWr hcb hrv;obtain⟨i0,hi,iz0,iz1,iz2⟩:=info_parts Tryz.infoIY;go_wp2_with fail;refine qah [0,1,2,3,4,5,7,8,9,6,10,11,12] kr kr pq ?_
  simp only [zdy,zey,ldz,lds,bare,qak,lcz,lcs,zay]
  repeat' ((try simp only [Act.put,lsi,lsz,lss]);first|(refine lqx ?_)|(refine qab qaa rfl (fun K hK=> ?_);go_simp;((first|(go_at_call 36;(with_reducible refine(HCl.out _ bel).mono ?_);rintro e' w4 ⟨s4,rfl,ho4,hb4⟩;obtain⟨A4,c4,rfl,hy4,y42,y43,y44⟩:=qa0 ho4;clear ho4 y42;obtain⟨hc4,hf4,hz4⟩:=bc3 hb4;(try simp at hz4))|((refine(HDi.out _ _ _ bel ((hy4.tr bel (zhy _)).more oQ) y44 y43).monoR ?_);rintro w5 hb5 hc5 hf5 hz5;(try simp at hz5);have hy50:=ol1 w w5)|skip)<;>(refine hK.out _ _ bel ?_;clear hK K))))
  (all_goals try simp only [Act.put,lsi,lsz,lss]);all_goals(refine qad ?_)
  cases cb with
  | false=>
    have HB9:=hdQ (HB.out.trans ((show Below wr.heap.size wr w5 from bel).mono oQ))
    have HR9:=hdQ (qaq HRow.out (qag (show Below wr.heap.size wr w5 from bel)) sI)
    have HE:Hid (qic t (fun kb=>C.cons kb q) (mtT t q) l e= []):=by unfold Hid;cases l<;>simp [qic,HCB.out]
    go_wp2_with fail
    go_roundw
    case rel=>exact ⟨i+1,acc,A6,c6,rfl,by go_num,by omega,by rw [HSt.out,HE.out,List.append_nil],HR9.out,HB9.out⟩
    case measure=>simp [Go.RowKit.intOf];omega
  | true=>
    go_wp2_with fail;refine qck (fun W=>Below wr.heap.size wr W/\Blk W wr.heap.size 96 #[.slice Ak e.kb.length ck,.int .i64 e.id,.pointer rv]) ⟨bel,blkA⟩ ?_
    clear hb4 hc4 hf4 hz4 hy4 y43 y44 hb5 hc5 hf5 hz5 hy50 HCl HDi u0 u1 u2 u3 m0 m1 m2 r0 r1 r2 p0 p1 p2 p3 p4 p5;rintro w9 ⟨hb9,hB9⟩;have hW9:Below w.heap.size w w9:=HWr.out.trans (hb9.mono oQ)
    have L:=HH.out.tr hW9;obtain⟨u0,u1,u2,u3,ult9⟩:=L.c0;obtain⟨m0,m1,m2,mlt9⟩:=L.n0 HN.out;have g0:=hB9.cell 0;have g1:=hB9.cell 1;have g2:=hB9.cell 2;have hPB:=(HB2.out.below HB.out oQ).tr hb9
    obtain⟨p0,p1,p2,p3,p4,p5⟩:=ce6 hPB;simp only [lAq] at g0 g1 g2;have hws9:w.heap.size+1<=w9.heap.size:=by have:=hb9.size;omega
    have hws92:w.heap.size<w9.heap.size:=oQ
    have glt:=hB9.lt;have HR9:=hdQ (qaq HRow.out (qag hb9) sI)
    have HB9:=hdQ (HB.out.trans (hb9.mono oQ))
    have HW9:=hdQ hW9;clear hPB
    cases l with
    | zero=>
      rw [show decide (0=0)=true from rfl] at m1
      obtain⟨_,it,hget,_,_⟩:=HSh.out.ent n e HN.out HMem.out;obtain⟨hi0,hi1⟩:=HIds.out _ _ hget;obtain⟨z,hBi,_⟩:=L.it e.id it hget;obtain⟨Ao,co,eov,_,_,hpts⟩:=(L.ikey e.id it hget).2.pts;have hpl:=(L.ikey e.id it hget).2.1;rw [eov] at hBi;obtain⟨q0,q1⟩:=ce2 hBi;have qlt:=hBi.lt;obtain⟨mv,hmv⟩:∃b,qer it.ob q=b:=⟨_,rfl⟩
      have HM:Hid (∀W,Below w9.heap.size w9 W->C9 56 #[.agg #[.int .i64 it.ob.kind,.slice Ao it.ob.pts.length co],.agg #[.int .i64 q.kind,.int .i64 x0,.int .i64 y0,.int .i64 x1,.int .i64 y1,.slice A m c]] W (Ret W (.bool mv))):=fun W hW=>by
       have h1:=HMt.out W (hW9.trans (hW.mono oQ)) it.ob w9.heap.size Ao co (hpts.below hW) hW.size hpl
       rw [HMt2'.out it.ob,hmv] at h1;exact h1
      have HMp:=hdQ L.mp;have HGt:=hdQ (qcy hget)
      have HE:Hid (qic t (fun kb=>C.cons kb q) (mtT t q) 0 e=if mv then [e.id] else []):=by
       unfold Hid
       simp only [qic,mtT,hget,hmv,HCB.out,if_true]
      rw [HE.out] at HSt HAl;clear hget hmv L eov hpl hpts hBi hb9 hB9 hW9;generalize it.ob.pts.length=pl at*;refine qah [0,1,2,3,4,5,6,7,8,9,10,15,11,12,13,14,16,17,18] kr kr pq ?_
      simp only [zdy,zey,ldz,lds,bare,qak,lcz,lcs,zay]
      repeat' ((try simp only [Act.put,lsi,lsz,lss]);first|(refine lqx ?_)|(refine qab qaa rfl (fun K hK=> ?_);(refine qef _ _ _ _ rfl rfl rfl (show MapO _ _ _ (some mb) _ from qba.tr HMp.out bel) Tryz.underlying3 Tryz.underlying80 (Tryz.zeroItG _) oQ oQ ?_;rw [HGt.out];simp only [Option.getD_some]);refine hK.out _ _ bel ?_;clear hK K)|(refine qab qaa rfl (fun K hK=> ?_);go_simp;((first|(go_at_call 56;(with_reducible refine(HM.out _ bel).monoR ?_);rintro w6 hb6 hc6 hf6 hz6;(try simp at hz6);have hy60:=ol1 w w6)  | skip)<;>(refine hK.out _ _ bel ?_;clear hK K)))|(refine qbj ?_ ?_;focus(simp only [lAq,zgy,zfy];done))|(refine qa3 ?_ ?_ ?_;(focus(simp only [lAq,zgy,zfy];done));(focus(exact bel)))|(refine qaw (X:= ?_) ?_ ?_ (fun hg=> ?_) (fun hg=> ?_);rotate_left;(focus(simp only [lAq];with_reducible rfl));(focus(exact bel));all_goals(try simp only [zgy,zfy] at hg)))
      (all_goals try simp only [Act.put,lsi,lsz,lss]);all_goals(refine qad ?_)
      have HB10:=hdQ (HB9.out.trans ((show Below w9.heap.size w9 w6 from bel).mono oQ))
      have HR10:=hdQ (qaq HR9.out (qag (show Below w9.heap.size w9 w6 from bel)) sI)
      obtain⟨hc10,hf10⟩:=qa1 (show Below w9.heap.size w9 w6 from bel)
      have m16:w6.cell? ⟨n,1,none⟩=some (.bool true):=(hc10 n 1 mlt9).trans m1;have g16:w6.cell? ⟨wr.heap.size,1,none⟩=some (.int .i64 e.id):=(hc10 _ 1 glt).trans g1;have hz10:w9.heap.size<=w6.heap.size:=(show Below w9.heap.size w9 w6 from bel).size
      have nlt6:n<w6.heap.size:=oQ
      have wlt6:wr.heap.size<w6.heap.size:=oQ
      clear hc10 hf10
      cases mv with
      | false=>
        go_wp2_with fail
        go_roundw
        case rel=>exact ⟨i+1,acc,A6,c6,rfl,by go_num,by omega,by rw [HSt.out];simp,HR10.out,HB10.out⟩
        case measure=>simp [Go.RowKit.intOf];omega
      | true=>
        go_wp2_with (at_builtin;go_must (refine wpList_append_own _ rfl _ _ 43 rfl (w.heap.size+1) 3 i0 (.int .i64 0) 1 8 Tryz.underlying43 hi iz0 iz1 iz2 rfl dE _ _ _ rfl (HR10.out.alloc _) ⟨w6.heap.size,0,none⟩ 1 1 [.int .i64 e.id] rfl rfl qwf (qh1 [e.id]) ?c3 ?c4 ?c5 ?_))
        case c3=>have:=HAl.out;rw [zny] at this;unfold maxLen;simp at this;omega
        case c4=>have:=HAl.out;rw [zny] at this;simp at this;omega
        case c5=>first|omega|(simp;omega)
        intro v8 w8 hown8 hg8 _;obtain⟨A8,c8,rfl,_,_,_⟩:=qas hown8;have hal:Below w6.heap.size w6 (w6.alloc (.cells #[.int .i64 e.id] 3)):=(Below.refl _ _).alloc (zhy _) _;have HB11:=hdQ (HB10.out.trans ((hal.mono oQ).trans ((Below.refl _ _).grown hg8 (by simp;omega) (fun k e=>(HR10.out.lt k e).1))))
        have hl:(acc++ [e.id]).length=acc.length+1:=sI
        have HR11:=hdQ (show w8.ownsRow (w.heap.size+1) 3 1 (.slice A8 (acc++ [e.id]).length c8) (acc++ [e.id]).length (idcs (acc++ [e.id])) from by
         rw [hl]
         unfold idcs
         rw [zfx]
         exact hown8)
        clear hown8 hg8 hal;go_wp2_with fail
        go_roundw
        case rel=>exact ⟨i+1,acc++ [e.id],A8,c8,by rw [hl],by go_num,by omega,by rw [HSt.out];simp,HR11.out,HB11.out⟩
        case measure=>simp [Go.RowKit.intOf];omega
    | succ l=>
      rw [show decide (l+1=0)=false by simp] at m1
      obtain rfl:rv=some ⟨e.kid,0,none⟩:=by have:=HRV.out;simpa using this.symm
      have hkid:=(HSh.out.kid n l e HN.out HMem.out).1;have HI:=hdQ (fun W (hW:Below w9.heap.size w9 W)=>HIH.out l e.kid rfl hkid W (hW9.trans (hW.mono oQ)))
      have HE:Hid (qic t (fun kb=>C.cons kb q) (mtT t q) (l+1) e=qcm t (fun kb=>C.cons kb q) (mtT t q) l e.kid):=by unfold Hid;simp only [qic];simp [HCB.out]
      rw [HE.out] at HSt HAl;clear HRV hkid hb9 hB9 hW9 L;generalize qcm t (fun kb=>C.cons kb q) (mtT t q) l e.kid=ys at*
      refine qah [0,1,2,3,4,5,6,7,8,9,10,15,11,12,13,14,16,17,18] kr kr pq ?_
      simp only [zdy,zey,ldz,lds,bare,qak,lcz,lcs,zay]
      repeat' ((try simp only [Act.put,lsi,lsz,lss]);first|(refine lqx ?_)|(refine qab qaa rfl (fun K hK=> ?_);go_simp;((first|fail|skip)<;>(refine hK.out _ _ bel ?_;clear hK K)))|(refine qbj ?_ ?_;focus(simp only [lAq,zgy,zfy];done))|(refine qa3 ?_ ?_ ?_;(focus(simp only [lAq,zgy,zfy];done));(focus(exact bel)))|(refine qaw (X:= ?_) ?_ ?_ (fun hg=> ?_) (fun hg=> ?_);rotate_left;(focus(simp only [lAq];with_reducible rfl));(focus(exact bel));all_goals(try simp only [zgy,zfy] at hg)))
      (all_goals try simp only [Act.put,lsi,lsz,lss]);all_goals(refine qad ?_)
      go_wp2_with (first|(go_at_call 31;(refine(HI.out _ bel).mono ?_);rintro e' w7 ⟨v7,rfl,ho7,hb7⟩;have HO7:=hdQ ho7;obtain⟨hc7,hf7,hz7⟩:=bc3 hb7;(try simp at hz7);have HB7:=hdQ (HB9.out.trans ((show Below w9.heap.size w9 w7 from bel).mono oQ));have HR7:=hdQ (qaq HR9.out (qag (show Below w9.heap.size w9 w7 from bel)) sI);clear ho7)|(at_builtin;go_must (refine qez rfl _ _ 43 rfl (w.heap.size+1) 3 i0 (.int .i64 0) 1 8 Tryz.underlying43 hi iz0 iz1 iz2 rfl dE _ _ _ rfl HR7.out _ _ _ _ rfl HO7.out (qh1 _) ?c3 ?c4 ?c5 ?_)))
      case c3=>have:=HAl.out;rw [zny] at this;unfold maxLen;omega
      case c4=>have:=HAl.out;rw [zny] at this;omega
      case c5=>omega
      intro v8 w8 hown8 hg8;obtain⟨A8,c8,rfl,_,_,_⟩:=qas hown8;have HB11:=hdQ (HB7.out.trans ((Below.refl _ _).grown hg8 oQ (fun k e=>(HR7.out.lt k e).1)))
      have hl:(acc++ys).length=acc.length+ys.length:=sI
      have HR11:=hdQ (show w8.ownsRow (w.heap.size+1) 3 1 (.slice A8 (acc++ys).length c8) (acc++ys).length (idcs (acc++ys)) from by
       rw [hl]
       unfold idcs
       rw [zfx]
       exact hown8)
      clear hown8 hg8;go_wp2_with fail
      go_roundw
      case rel=>exact ⟨i+1,acc++ys,A8,c8,by rw [hl],by go_num,by omega,HSt.out.symm,HR11.out,HB11.out⟩
      case measure=>simp [Go.RowKit.intOf];omega
end
end Go.Proofs.YtfnhnjbkkggbeaaGreat
