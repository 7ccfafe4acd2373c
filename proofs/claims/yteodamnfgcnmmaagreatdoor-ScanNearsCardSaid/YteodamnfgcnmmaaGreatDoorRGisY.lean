/-gist: Nearest, whatever the tree and the class.-/
import Derived.Test.YteodamnfgcnmmaaGreatDoorRGisF
import Derived.Test.YteodamnfgcnmmaaGreatDoorRLawCw
set_option linter.unusedVariables false
set_option linter.unusedSimpArgs false
set_option maxHeartbeats 2000000
set_option maxRecDepth 20000
namespace Go.Proofs.YteodamnfgcnmmaaGreatDoor
open Go Go.RowKit Pg
theorem qzk {C:Cl} {cov:List Nat->Ob->Prop} {good:List Nat->Prop} {t:Tr} {L:Int->Prop} (hLw:Lawful C cov good) (h:Shape t L) (hf:Fill t fun _=>False) (h4:4<=t.fan) (hk:Keyed C.un t fun _=>False) (h0:∀id it,getK id t.items=some it->good it.kb):
 ∀{l u:Nat} {e:En},t.lv u=some l->e∈t.es u->good e.kb:=by
 intro l
 induction l with
 | zero=>
   intro u e hu he;obtain⟨_,it,hit,_,hkb⟩:=h.ent u e hu he
   rw [hkb]
   exact h0 _ _ hit
 | succ l ih=>
   intro u e hu he;obtain⟨h1,h2⟩:=h.kid _ _ _ hu he
   rw [hk e.kid l u e h1 h2 (fun q=>q) he rfl]
   refine(hLw.un _ ?_ fun k hk' => ?_).1
   · intro q
     have h3:=(hf e.kid l h1 (fun q=>q)).2.1 fun e1=>by
      have:=h.root.2;rw [<-e1,h2] at this
      cases this
     have:(t.es e.kid).length=0:=by simpa using congrArg List.length q
     omega
   · obtain⟨e',he',rfl⟩:=zty.1 hk'
     exact ih h1 he'
theorem qwn {C:Cl} {cov:List Nat->Ob->Prop} {good:List Nat->Prop} {t:Tr} {L:Int->Prop} (hLw:Lawful C cov good) (h:Shape t L) (hf:Fill t fun _=>False) (h4:4<=t.fan) (hk:Keyed C.un t fun _=>False) (h0:∀id it,getK id t.items=some it->good it.kb/\cov it.kb it.ob):
 ∀{l u:Nat} {e:En} {id:Int} {it:It},t.lv u=some l->e∈t.es u->(id=e.id/\l=0\/∃m,l=m+1/\id∈below t m e.kid)->getK id t.items=some it->cov e.kb it.ob:=
 fun{l u e id it}=>Pg.cover (cv:=cov) h hk (fun id it hi=>(h0 id it hi).2) fun n l hn e he o ho=>
  (hLw.un _ (fun q=>by rw [List.map_eq_nil_iff] at q;rw [q] at he;cases he) fun k hk' =>by
    obtain⟨e',he',rfl⟩:=zty.1 hk'
    exact qzk hLw h hf h4 hk (fun id it hi=>(h0 id it hi).1) hn he').2 _ (zty.2 ⟨e,he,rfl⟩) o ho
structure NearF (C:Cl) (t:Tr) (p:Pt) (lr:Nat) (dist:Int->Fr) (all:List Int) (K:Nat):Prop where
 root:t.lv t.root=some lr
 start:Nq t dist all K lr (t.es t.root) [] [t.root] [] 0
 nd:all.Nodup
 few:all.length<=t.items.length
 done:∀{l:Nat} {r:List En} {h:List Pu} {nodes:List Nat} {out:List (Int×Fr)} {c k:Nat},Nq t dist all K l r h nodes out c->out.length<=k->out.length=k\/(h= []/\r= [])->out=(qdx (fun o=>qbj o p) (t.items.map fun q=>(q.1,q.2.ob))).take k
 ne:∀b l,t.lv b=some l->0<(t.es b).length\/K=0
 hK:K<=2*t.items.length
 len:∀b l,t.lv b=some l->(t.es b).length<=16
 far:∀b l e,t.lv b=some (l+1)->e∈t.es b->t.lv e.kid=some l/\∀id∈below t l e.kid,cmpF (C.far e.kb p) (dist id)<=0
 ent:∀b e,t.lv b=some 0->e∈t.es b->(0<=e.id/\e.id<=1099511627776)/\∃it,getK e.id t.items=some it/\dist e.id=qbj it.ob p/\FrOk (qbj it.ob p)
theorem GAt.nearF {C:Cl} {cl:Value} {w:World} {own imm:Nat->Prop} {tb mb:Nat} {t:Tr} {cov:List Nat->Ob->Prop} {good:List Nat->Prop} (h:GAt C cl w own imm tb mb t) (hLw:Lawful C cov good) {p:Pt} (hp:okPt p=true):∃lr dist all K,NearF C t p lr dist all K:=by
 obtain⟨lr,hr⟩:=Option.isSome_iff_exists.1 h.shape.root.1;have hdist:∀id it,getK id t.items=some it->(fun id=>qbj (((getK id t.items).map It.ob).getD ⟨0,[]⟩) p) id=qbj it.ob p:=fun id it hi=>by simp [hi]
 revert hdist;generalize (fun id=>qbj (((getK id t.items).map It.ob).getD ⟨0,[]⟩) p)=dist
 intro hdist
 have h0:∀id it,getK id t.items=some it->good it.kb/\cov it.kb it.ob:=fun id it hi=>by
  obtain⟨_,_,h2,h3⟩:=h.its id it hi
  rw [h3]
  exact(hLw.made _ h2).2
 have hids:((t.items.map fun q:Int×It=>(q.1,q.2.ob)).map (fun q=>(q.1,qbj q.2 p))).map (·.1)=t.items.map (·.1):=by simp [List.map_map,Function.comp_def]
 have hnd:(t.items.map (·.1)).Nodup:=List.Pairwise.map _ (fun a b q=>Int.ne_of_lt q) h.shape.rise
 refine⟨lr,dist,below t lr t.root,cntE t lr t.root,hr,Nq.start t dist hr,h.shape.below_nodup hr,h.shape.below_len hr,?_,?_,h.shape.cntE_le h.fill h.fan4 hr,?_,?_,?_⟩
 · intro l r hh nodes out c k q h1 h2
   refine q.ni.done (qpr (by rw [hids];exact hnd)) ?_ ?_ h1 ?_
   · refine((qfx _).map _).trans ?_
     rw [hids]
     refine(List.perm_ext_iff_of_nodup hnd (h.shape.below_nodup hr)).2 fun id=> ?_
     rw [h.shape.mem_root hr]
     constructor
     · intro hm
       obtain⟨⟨i,it⟩,hm2,rfl⟩:=zty.1 hm;exact⟨fun q=>q,it,qhh h.shape.rise hm2⟩
     · rintro⟨_,it,hit⟩
       exact zty.2 ⟨_,qf6 hit,rfl⟩
   · intro a ha
     have ha:=(qfx _).mem_iff.1 ha;rw [List.map_map] at ha;obtain⟨⟨i,it⟩,hm2,rfl⟩:=zty.1 ha;exact(hdist _ _ (qhh h.shape.rise hm2)).symm
   · rcases h2 with z|⟨z,z2⟩
     · exact .inl z
     · exact .inr ⟨z,by rw [z2,qki]⟩
 · intro b l hb
   have hf:=h.fill b l hb (fun q=>q)
   have h4:=h.fan4
   by_cases e:b=t.root
   · subst e
     rw [hr] at hb
     cases hb
     cases lr with
     | zero=>
       rcases Nat.eq_zero_or_pos (t.es t.root).length with z|z
       · exact .inr z
       · exact .inl z
     | succ l=>exact .inl (by have:=hf.2.2 rfl oQ;omega)
   · exact .inl (by have:=hf.2.1 e;omega)
 · intro b l hb
   have:=(h.fill b l hb (fun q=>q)).1
   have:=h.fan16
   omega
 · intro b l e hb he
   have h1:=h.shape.kid _ _ _ hb he;refine⟨h1.1,fun id hid=> ?_⟩
   obtain⟨b',hb',_,e',he',rfl⟩:=(h.shape.mem_below h1.1).1 hid;obtain⟨_,it,hit,_⟩:=h.shape.ent _ _ hb' he'
   rw [hdist _ _ hit]
   exact hLw.far _ _ _ (qwn hLw h.shape h.fill h.fan4 h.keyed h0 hb he (.inr ⟨l,rfl,hid⟩) hit) (h.its _ _ hit).2.1 hp
 · intro b e hb he
   obtain⟨_,it,hit,_⟩:=h.shape.ent _ _ hb he;exact⟨(h.its _ _ hit).1,it,hit,hdist _ _ hit,qrg (h.its _ _ hit).2.1 hp⟩
structure NearM (w:World) (B:Nat) (F:Nat->Prop) (hb c:Nat) (v v6 v8:Value) (h:List Pu) (nodes:List Nat) (out:List Nr):Prop where
 H:HeapAt w F hb v h c
 r6:w.ownsRow 0 58 4 v6 out.length (nrVs out)
 r8:w.ownsRow 0 108 1 v8 nodes.length (nodes.map gP)
 o6:∀g,v6.ownBlock=some g->¬ F g/\B<=g
 o8:∀g,v8.ownBlock=some g->¬ F g/\B<=g
 o68:∀g,v6.ownBlock=some g->v8.ownBlock=some g->False
 oF:∀k,F k->B<=k
section
variable {w w' :World} {B hb c:Nat} {F F' :Nat->Prop} {v v6 v8:Value} {h:List Pu} {nodes:List Nat} {out:List Nr}
theorem NearM.tr (M:NearM w B F hb c v v6 v8 h nodes out) (hw:Below w.heap.size w w'):NearM w' B F hb c v v6 v8 h nodes out:=
 ⟨M.H.tr hw,qap M.r6 (qag hw) sI,qap M.r8 (qag hw) sI,M.o6,M.o8,M.o68,M.oF⟩
theorem NearM.heap {v' :Value} {c' :Nat} {h' :List Pu} (M:NearM w B F hb c v v6 v8 h nodes out) (H' :HeapAt w' F' hb v' h' c') (ht:TurnF F w w') (hF:∀k,F' k->F k\/w.heap.size<=k) (hB:B<=w.heap.size):NearM w' B F' hb c' v' v6 v8 h' nodes out:=by
 refine⟨H',qob M.r6 ht (fun g q=>(M.o6 g q).1),qob M.r8 ht (fun g q=>(M.o8 g q).1),fun g q=>⟨fun f=> ?_,(M.o6 g q).2⟩,fun g q=>⟨fun f=> ?_,(M.o8 g q).2⟩,M.o68,fun k f=> ?_⟩
 · rcases hF g f with z|z
   · exact(M.o6 g q).1 z
   · have:=(M.r6.lt _ q).2;omega
 · rcases hF g f with z|z
   · exact(M.o8 g q).1 z
   · have:=(M.r8.lt _ q).2;omega
 · rcases hF k f with z|z
   · exact M.oF k z
   · omega
theorem NearM.more6 {v6' :Value} {x:Nr} (M:NearM w B F hb c v v6 v8 h nodes out) (hr:w'.ownsRow 0 58 4 v6' (out.length+1) (nrVs out++nrV x)) (hg:w.grownBy w' v6.ownBlock) (hv:v6'.ownBlock=v6.ownBlock\/∃g,v6'.ownBlock=some g/\w.heap.size<=g) (hB:B<=w.heap.size):
 NearM w' B F hb c v v6' v8 h nodes (out++ [x]):=by
 refine⟨M.H.grown hg fun g e=>(M.o6 g e).1,?_,qap M.r8 hg fun g e q=>M.o68 g e q,fun g q=> ?_,M.o8,fun g q q8=> ?_,M.oF⟩
 · rw [zny,qgk]
   simpa [nrVs] using hr
 · rcases hv with z|⟨g',z,z2⟩
   · exact M.o6 g (z ▸ q)
   · rw [z] at q
     cases q
     exact⟨fun f=>by have:=M.H.lim _ f;omega,zcy hB z2⟩
 · rcases hv with z|⟨g',z,z2⟩
   · exact M.o68 g (z ▸ q) q8
   · rw [z] at q
     cases q
     have:=(M.r8.lt _ q8).2
     omega
theorem NearM.more8 {v8' :Value} {x:Nat} (M:NearM w B F hb c v v6 v8 h nodes out) (hr:w'.ownsRow 0 108 1 v8' (nodes.length+1) (nodes.map gP++ [gP x])) (hg:w.grownBy w' v8.ownBlock) (hv:v8'.ownBlock=v8.ownBlock\/∃g,v8'.ownBlock=some g/\w.heap.size<=g) (hB:B<=w.heap.size):
 NearM w' B F hb c v v6 v8' h (nodes++ [x]) out:=by
 refine⟨M.H.grown hg fun g e=>(M.o8 g e).1,qap M.r6 hg fun g e q=>M.o68 g q e,?_,M.o6,fun g q=> ?_,fun g q6 q=> ?_,M.oF⟩
 · rw [zny,zfx]
   exact hr
 · rcases hv with z|⟨g',z,z2⟩
   · exact M.o8 g (z ▸ q)
   · rw [z] at q
     cases q
     exact⟨fun f=>by have:=M.H.lim _ f;omega,zcy hB z2⟩
 · rcases hv with z|⟨g',z,z2⟩
   · exact M.o68 g q6 (z ▸ q)
   · rw [z] at q
     cases q
     have:=(M.r6.lt _ q6).2
     omega
theorem NearM.off {b:Nat} (M:NearM w B F hb c v v6 v8 h nodes out) (hF:¬ F b) (h6:v6.ownBlock≠some b) (h8:v8.ownBlock≠some b) (us:List Value) (o:Nat):NearM (setW w b o us) B F hb c v v6 v8 h nodes out:=
 ⟨M.H.off hF us o,qle h6 us w o M.r6,qle h8 us w o M.r8,M.o6,M.o8,M.o68,M.oF⟩
theorem NearM.pop (M:NearM w B F hb c v v6 v8 h nodes out) (hB:B<=w.heap.size) (hn:h.length<=100000) (d1 d0 dd nd:Nat) (id:Int) (it:Bool) (e1:(topE h).1.d.num/18446744073709551616=d1) (e0:(topE h).1.d.num%18446744073709551616=d0) (ed:(topE h).1.d.den=dd) (en:(topE h).1.node=nd) (ei:(topE h).1.id=id) (et:(topE h).1.item=it):
 C9 52 #[.pointer (some ⟨hb,0,none⟩)] w fun e w' =>e=.returned (.tuple #[.agg #[.int .i64 id,.int .u64 (d1:Int),.int .u64 (d0:Int),.int .u64 (dd:Int),.bool it,.int .i64 (nd:Int)],.bool (topE h).2])/\∃v',NearM w' B F hb c v' v6 v8 (popS ltPu h) nodes out/\TurnF F w w' /\Below B w w' :=by
 refine(qsh M.H hn d1 d0 dd nd id it e1 e0 ed en ei et).mono ?_;rintro e w' ⟨rfl,v',h1,h2⟩;exact⟨rfl,v',M.heap h1 h2 (fun k f=> .inl f) hB,h2,qd6 h2 M.oF hB⟩
theorem NearM.push (M:NearM w B F hb c v v6 v8 h nodes out) (hB:B<=w.heap.size) (x:HE) (hx:FrOk x.d) (hn:h.length<=100000) (hc:c<=1000000):
 C9 49 #[.pointer (some ⟨hb,0,none⟩),heV x] w fun e w' =>e=.returned (.tuple #[])/\∃v' F',NearM w' B F' hb (c+1) v' v6 v8 (qim ltPu h (x,c+1)) nodes out/\TurnF F w w' /\Below B w w' :=by
 refine(quc M.H x hx hn hc).mono ?_;rintro e w' ⟨rfl,v',F',h1,h2,h3⟩;exact⟨rfl,v',F',M.heap h1 h2 h3 hB,h2,qd6 h2 M.oF hB⟩
end
theorem Tryz.infoNpX:(Tryz.prog.info? 108).map (fun i=>(i.zero,i.size,i.bytes))=some (some (.pointer none),1,8):=by kernel_rfl
theorem q15 (w:World) (v:Value) (hv:v.oneCell' =true):(w.alloc (.cells #[v] 108)).ownsRow w.heap.size 108 1 (.slice (some ⟨w.heap.size,0,none⟩) 1 1) 1 [v]:=⟨rfl,.inr ⟨w.heap.size,1,#[v],rfl,zhy _,(Blk.new rfl rfl:Blk (w.alloc (.cells #[v] 108)) w.heap.size 108 #[v]),zhy _,by decide,rfl,rfl⟩⟩
theorem q4x {w:World} {a:Value} {t:TypeId}:∀(j:Nat) (v:Value),[a][j]? =some v->(w.alloc (.cells #[a] t)).cell? ((⟨w.heap.size,0,none⟩:Addr).add j)=some v:=by
 intro j v hj
 match j,hj with
 | 0,hj=>simp at hj;subst hj;simp [Addr.add]
theorem q2b {a:Option Addr}:∀u∈ [Value.pointer a],u.oneCell' =true:=by simp [Value.oneCell']
def cN (w:World) (hb:Nat):Nat:=match w.cell? ⟨hb,1,none⟩ with
 | some (.int _ c)=>c.toNat
 | _=>0
section
variable {w w' :World} {B hb c:Nat} {F F' :Nat->Prop} {v v6 v8:Value} {h:List Pu} {nodes:List Nat} {out:List Nr}
theorem NearM.cN (M:NearM w B F hb c v v6 v8 h nodes out):cN w hb=c:=by
 have:=M.H.cells.2.1;unfold Go.Proofs.YteodamnfgcnmmaaGreatDoor.cN
 rw [this]
 simp
theorem NearM.node_at {A:Option Addr} {c8:Nat} (M:NearM w B F hb c v v6 (.slice A nodes.length c8) h nodes out) {j b:Nat} (hj:nodes[j]? =some b):∃g,A=some ⟨g,0,none⟩/\g<w.heap.size/\j<nodes.length/\nodes.length<=c8/\w.cell? ⟨g,j,none⟩=some (.pointer (some ⟨b,0,none⟩)):=by
 have hjl:=(zsy.1 hj).1;have hr:=M.r8;obtain⟨A',c',e,hnc,hA,_⟩:=qao hr;injection e with e1 e2 e3
 subst e1 e3
 rcases hr.2 with ⟨e,h0⟩|⟨g,cap,cur,e,_,hg,_⟩
 · omega
 · injection e with e1 e2 e3
   subst e1 e3;refine⟨g,rfl,(zqy.1 hg).1,hjl,hnc,?_⟩
   rw [hr.cellAt j oQ,zpx,hj]
   rfl
end
theorem qje {w:World} {base B:Nat} {e:TypeId} {size:Nat} {v:Value} {n:Nat} {xs:List Value} (h:w.ownsRow base e size v n xs) (hb:∀g,v.ownBlock=some g->B<=g):w.ownsRow B e size v n xs:=by
 obtain⟨h1,h2|⟨g,cap,cur,hv,hg,hh,r⟩⟩:=h
 · exact⟨h1,.inl h2⟩
 · exact⟨h1,.inr ⟨g,cap,cur,hv,hb g (by rw [hv];rfl),hh,r⟩⟩
section
variable {w:World} {own imm:Nat->Prop} {tb mb:Nat} {t:Tr}
theorem q2i {C:Cl} {ct:TypeId} {cv:Value} {fM fC fD fU fS:Nat} {cov:List Nat->Ob->Prop} {good:List Nat->Prop} (hC:ClAt ct cv C fM fC fD fU fS) (hLw:Lawful C cov good) (h:GAt C (.iface ct cv) w own imm tb mb t) (hcount:t.items.length<=40000) (x y:Int) (hp:okPt ⟨x,y⟩=true) (k:Int):
 C9 24 #[gP tb,ptV x y,.int .i64 k] w fun e w' =>∃v,e=.returned v/\w'.ownsRow w.heap.size 58 4 v ((qdx (fun o=>qbj o ⟨x,y⟩) (t.items.map fun q=>(q.1,q.2.ob))).take k.toNat).length (nrVs ((qdx (fun o=>qbj o ⟨x,y⟩) (t.items.map fun q=>(q.1,q.2.ob))).take k.toNat))/\Below w.heap.size w w' :=by
 obtain⟨lr,dist,all,KK,NF⟩:=h.nearF hLw hp;obtain⟨R,hR⟩:∃R,(qdx (fun o=>qbj o ⟨x,y⟩) (t.items.map fun q=>(q.1,q.2.ob))).take k.toNat=R:=⟨_,rfl⟩
 obtain⟨kn,hkn⟩:∃n,k.toNat=n:=⟨_,rfl⟩
 have HDone:Hid (∀{l:Nat} {r:List En} {h:List Pu} {nodes:List Nat} {out:List (Int×Fr)} {c:Nat},Nq t dist all KK l r h nodes out c->out.length<=kn->out.length=kn\/(h= []/\r= [])->out=R):=by
  intro l r h nodes out c h1 h2 h3
  rw [<-hR,hkn]
  exact NF.done h1 h2 h3
 rw [hR]
 clear hR;have hK:KK<=80000:=by have:=NF.hK;omega
 have HFew:=hdQ (zcy NF.few hcount);have HKN:=hdQ hkn;have HNF:=hdQ NF;have HH:=hdQ h.lay;have HFar:=hdQ hC.far;have mD:=hC.mD;have nD:=hC.nD;obtain⟨t0,t1,t2,t3,tlt⟩:=h.lay.c0;obtain⟨n0,n1,n2,nlt⟩:=h.lay.n0 NF.root;have HG:=hdQ (fun W (hW:Below w.heap.size w W)=>qhg (HH.out.tr hW))
 have HCP:Hid (∀W,C9 22 #[ptV x y] W (Ret W .nilIface)):=fun W=>by
  have:=qa0 x y W;rw [hp] at this;exact this
 have HN:=hdQ (fun W=>qlw W)
 clear hkn NF h hC hLw hcount hp n0 n1 n2
 simp only [gP] at*
 go_enter Tryz.func24,Tryz.ntmps24
 go_wp2_with (first|(go_at_call 47;(refine(HG.out _ bel).monoR ?_);rintro wp hbp hcp hfp hzp;(try simp at hzp);have hyp0:=ol1 w wp;have tp:tb<wp.heap.size:=oQ;have rp:t.root<wp.heap.size:=oQ;have tp1:tb<w.heap.size+1:=oQ;have rp1:t.root<w.heap.size+1:=oQ)|(go_at_call 22;(refine(HCP.out _).monoR ?_);rintro wq hbq hcq hfq hzq;(try simp at hzq);have hyq0:=ol1 w wq;have tq:tb<wq.heap.size:=oQ;have rq:t.root<wq.heap.size:=oQ)|(go_at_call 48;(refine(HN.out _).mono ?_);rintro e w1 ⟨hb',rfl,hH,hbn,hb1⟩;obtain⟨hc1,hf1,hz1⟩:=bc3 hb1;(try simp at hz1);have tu:tb<w1.heap.size:=oQ;have ru:t.root<w1.heap.size:=oQ))
 have hbw:w.heap.size+1<=hb' :=oQ
 refine qnv (fun w2=>NearM w2 (w.heap.size+1) (fun g=>g=hb') hb' 0 (.slice none 0 0) (.slice none 0 0) (.slice (some ⟨w1.heap.size,0,none⟩) 1 1) [] [t.root] []/\Blk w2 w.heap.size 24 #[.int .i64 x,.int .i64 y]/\Below w.heap.size w w2) ⟨?_,blkA,bel⟩ ?_
 · refine⟨hH.tr bel,World.ownsRow_nil _ _ _ _,qa4 (q15 w1 _ rfl) (zly _),by simp [Value.ownBlock],?_,by simp [Value.ownBlock],fun g q=>by rw [q];exact hbw⟩
   intro g q;have q2:w1.heap.size=g:=zjx q;subst q2;exact⟨fun q=>by have q3:w1.heap.size=hb' :=q;have:=hH.lim _ rfl;omega,by omega⟩
 obtain⟨b8,hb8⟩:∃b,w1.heap.size=b:=⟨_,rfl⟩
 rw [hb8]
 clear hH hbn hb1 hc1 hf1 hz1 hcp hfp hbp hzp hyp0 hcq hfq hbq hzq hyq0 tp rp tp1 rp1 tq rq tu ru HN HG HCP hb8;rintro w2 ⟨M2,hB2,hW2⟩;have hz2:=hW2.size;have HM2:=hdQ M2;have HPB:=hdQ hB2;have lt2:=hB2.lt;clear M2 hB2 t0 t1 t2 t3;go_wp2_with fail
 go_loopw [6,8,9] (fun v6 v8 v9 wr=>∃(b l:Nat) (h:List Pu) (nodes:List Nat) (out:List Nr) (c:Nat) (F:Nat->Prop) (v:Value) (A6:Option Addr) (c6:Nat) (A8:Option Addr) (c8:Nat),v6=.slice A6 out.length c6/\v8=.slice A8 nodes.length c8/\v9=.pointer (some ⟨b,0,none⟩)/\t.lv b=some l/\Nq t dist all KK l (t.es b) h nodes out c/\out.length<=kn/\NearM wr (w.heap.size+1) F hb' c v (.slice A6 out.length c6) (.slice A8 nodes.length c8) h nodes out/\Below (w.heap.size+1) w2 wr) (fun _ _ _ wr=>KK-cN wr hb')
 case atStart=>exact ⟨t.root,lr,[],[t.root],[],0,_,_,none,0,_,1,rfl,rfl,rfl,HNF.out.root,HNF.out.start,zly _,HM2.out,Below.refl _ _⟩
 case round=>
  clear HM2;obtain⟨b,l,h,nodes,out,c,F,v,A6,c6,A8,c8,rfl,rfl,rfl,hbl,hq,hol,M,hb⟩:=hrel;have hWr:Below w.heap.size w wr:=hW2.trans (hb.mono (Nat.le_succ _))
  by_cases hlt:out.length<kn
  case neg=>
   have hR:=HDone.out hq hol (.inl oQ)
   have hd:decide ((out.length:Int)<k)=false:=by
    have:=HKN.out
    simp
    omega
   have HM:=hdQ (qje (B:=w.heap.size) M.r6 fun g q=>Nat.le_of_succ_le (M.o6 g q).2)
   have HRR:=hdQ hR;have HW:=hdQ hWr;clear hq hol M hb hR hWr hlt hbl;go_wp2_with fail;go_ret;exact⟨_,rfl,by rw [<-HRR.out];exact HM.out,HW.out⟩
  have hlk:(out.length:Int)<k:=by have:=HKN.out;omega
  have L:=HH.out.tr hWr;obtain⟨m0,m1,m2,mlt⟩:=L.n0 hbl;obtain⟨A,cc,hs,_,_,_⟩:=qao (L.row b l hbl (fun q=>q))
  rw [hs] at m2;have HS:=hdQ hs;have HBL:=hdQ hbl;have HcN:=hdQ M.cN;have HQ:=hdQ hq;have HM:=hdQ M;have HB:=hdQ hb;have HOL:=hdQ hol;have HLT:=hdQ hlt;obtain⟨n,hn⟩:∃n,(t.es b).length=n:=⟨_,rfl⟩;have HLN:=hdQ hn;rw [hn] at m2;clear hn hs hq M hb hol hlt L hWr;go_wp2_with fail
  go_loopw [8,40] (fun v8 vi wq=>∃(i:Nat) (h:List Pu) (nodes:List Nat) (F:Nat->Prop) (v:Value) (A8:Option Addr) (c8:Nat),v8=.slice A8 nodes.length c8/\vi=.int .i64 i/\i<=n/\Nq t dist all KK l ((t.es b).drop i) h nodes out (c+i)/\NearM wq (w.heap.size+1) F hb' (c+i) v (.slice A6 out.length c6) (.slice A8 nodes.length c8) h nodes out/\Below (w.heap.size+1) w2 wq) (fun _ vi _=>n-(Go.RowKit.intOf vi).toNat)
  case atStart=>exact ⟨0,h,nodes,F,v,A8,c8,rfl,rfl,zly _,HQ.out,HM.out,HB.out⟩
  case round=>
   clear HQ HM HB m0 m1 m2 mlt;obtain⟨i,h,nodes,F,v,A8,c8,rfl,rfl,hin,hq,M,hb⟩:=hrel;have hWr:Below w.heap.size w wr:=hW2.trans (hb.mono (Nat.le_succ _));have hws:w.heap.size+1<=wr.heap.size:=by have:=hb.size;omega
   have hhl:h.length<=100000:=by have:=hq.len;have:=hq.cle;omega
   have hci:c+i<=80000:=by have:=hq.cle;omega
   by_cases hlt:i<n
   case neg=>
    obtain rfl:n=i:=oQ
    rw [List.drop_of_length_le (by rw [HLN.out];exact zhy _)] at hq
    obtain⟨d1,e1⟩:∃d,(topE h).1.d.num/18446744073709551616=d:=⟨_,rfl⟩;obtain⟨d0,e0⟩:∃d,(topE h).1.d.num%18446744073709551616=d:=⟨_,rfl⟩;obtain⟨dd,ed⟩:∃d,(topE h).1.d.den=d:=⟨_,rfl⟩;obtain⟨nd,en⟩:∃d,(topE h).1.node=d:=⟨_,rfl⟩;obtain⟨eid,ei⟩:∃d,(topE h).1.id=d:=⟨_,rfl⟩;obtain⟨eit,et⟩:∃d,(topE h).1.item=d:=⟨_,rfl⟩;obtain⟨ok,eo⟩:∃d,(topE h).2=d:=⟨_,rfl⟩;have HPop:=hdQ (fun W (hW:Below wr.heap.size wr W)=>((M.tr hW).pop (zcy hws hW.size) hhl d1 d0 dd nd eid eit e1 e0 ed en ei et).mono (R' :=fun e w' =>e=.returned (.tuple #[.agg #[.int .i64 eid,.int .u64 (d1:Int),.int .u64 (d0:Int),.int .u64 (dd:Int),.bool eit,.int .i64 (nd:Int)],.bool ok])/\∃v',NearM w' (w.heap.size+1) F hb' (c+n) v' (.slice A6 out.length c6) (.slice A8 nodes.length c8) (popS ltPu h) nodes out/\Below (w.heap.size+1) w2 w' /\wr.heap.size<=w'.heap.size) fun e w' ⟨h1,v',h2,h3,h4⟩=>⟨by rw [h1,eo],v',h2,hb.trans ((hW.mono hws).trans h4),zcy hW.size h3.size⟩)
    have HTF:=hdQ (And.intro e1 (And.intro e0 (And.intro ed (And.intro en (And.intro ei et)))));have HEO:=hdQ eo;have HQ:=hdQ hq;have hcK:c+n<=KK:=hq.cle
    have HNE:Hid (0<n\/KK=0):=by
     have:=HNF.out.ne b l HBL.out;rw [HLN.out] at this;exact this
    have HFl:=hdQ (fun q (f:F q)=>M.H.lim q f)
    have H8l:=hdQ (fun g (q:(Value.slice A8 nodes.length c8).ownBlock=some g)=>(M.r8.lt g q).2)
    have H6l:=hdQ (fun g (q:(Value.slice A6 out.length c6).ownBlock=some g)=>(M.r6.lt g q).2)
    clear e1 e0 ed en ei et eo hq M hb hin hlt hhl hci hWr
    go_wp2_with (go_at_call 52;(refine(HPop.out _ bel).mono ?_);rintro e w3 ⟨rfl,v3,hM3,hB3,hz3⟩;have HM3:=hdQ hM3;have HB3:=hdQ hB3;clear hM3 hB3)
    obtain⟨b12,hb12⟩:∃b,w3.heap.size=b:=⟨_,rfl⟩
    have hbF:Hid (¬ F b12):=fun q=>by
     have:=HFl.out _ q
     omega
    have h8b:Hid ((Value.slice A8 nodes.length c8).ownBlock≠some b12):=fun q=>by
     have:=H8l.out _ q
     omega
    have hb12w:w.heap.size+1<=b12:=oQ
    rw [hb12]
    go_loopw [6,13] (fun v6 v13 wq=>∃(told:List Nr) (cur:List Pu) (A6:Option Addr) (c6:Nat) (v:Value) (d1 d0 dd nd:Nat) (eid:Int) (eit:Bool),v6=.slice A6 told.length c6/\v13=.bool (topE cur).2/\NearM wq (w.heap.size+1) F hb' (c+n) v (.slice A6 told.length c6) (.slice A8 nodes.length c8) (popS ltPu cur) nodes told/\(Value.slice A6 told.length c6).ownBlock≠some b12
     /\Blk wq b12 128 #[.int .i64 eid,.int .u64 (d1:Int),.int .u64 (d0:Int),.int .u64 (dd:Int),.bool eit,.int .i64 (nd:Int)]/\((topE cur).1.d.num/18446744073709551616=d1/\(topE cur).1.d.num%18446744073709551616=d0/\(topE cur).1.d.den=dd/\(topE cur).1.node=nd/\(topE cur).1.id=eid/\(topE cur).1.item=eit)
     /\Below (w.heap.size+1) w2 wq/\Nq t dist all KK l [] cur nodes told (c+n)/\told.length<=kn) (fun v6 _ _=>kn-lenV v6)
    case atStart=>
     have hal:Below w3.heap.size w3 (w3.alloc (.cells #[.int .i64 eid,.int .u64 (d1:Int),.int .u64 (d0:Int),.int .u64 (dd:Int),.bool eit,.int .i64 (nd:Int)] 128)):=(Below.refl _ _).alloc (zhy _) _;exact⟨out,h,A6,c6,v3,d1,d0,dd,nd,eid,eit,rfl,by rw [HEO.out],HM3.out.tr hal,fun q=>by (have:=H6l.out _ q;omega),Blk.new hb12.symm rfl,HTF.out,HB3.out.trans (hal.mono oQ),HQ.out,HOL.out⟩
    case round=>
     clear HPop HM3 HB3 HTF HEO HQ HFl H8l H6l;obtain⟨told,cur,A6,c6,v,d1,d0,dd,nd,eid,eit,rfl,rfl,M,h12,hBx,⟨e1,e0,ed,en,ei,et⟩,hB,hq,htk⟩:=hrel;obtain⟨b0,b1,b2,b3,b4,b5⟩:=ce6 hBx;have fzb:=hBx.frozen;have blt:=hBx.lt;have HBx:=hdQ hBx;have HBl:=hdQ hB;have HBw:Hid (Below w.heap.size w wr):=hW2.trans (hB.mono (Nat.le_succ _));have hws3:w.heap.size+1<=wr.heap.size:=by have:=hB.size;omega
     have htl:told.length<=40000:=zcy hq.told_le HFew.out;have hcl:cur.length<=80000:=by have:=hq.len;omega
     have HTK:=hdQ htk;clear hBx hB
     cases cur with
     | nil=>
       have hR:=HDone.out hq htk (.inr ⟨rfl,rfl⟩);have HRow:=hdQ (qje (B:=w.heap.size) M.r6 fun g q=>Nat.le_of_succ_le (M.o6 g q).2)
       have HRR:=hdQ hR;clear e1 e0 ed en ei et M hq hR htk h12 hcl
       simp only [topE]
       go_wp2_with fail;go_ret;exact⟨_,rfl,by rw [<-HRR.out];exact HRow.out,HBw.out⟩
     | cons z r=>
       simp only [topE] at e1 e0 ed en ei et ⊢
       cases eit with
       | false=>
         obtain⟨b2',m,hnb,hbm,hqn⟩:=hq.node_out rfl et;rw [en] at hnb;obtain⟨g8,hA8,hg8,hndl,hnc8,hcell⟩:=M.node_at hnb;subst hA8;have hndi:(nd:Int)<(nodes.length:Int):=oQ
         have HBM:=hdQ hbm;have HQN:=hdQ hqn;have HMM:=hdQ M
         have hpos:0<n:=by
          rcases HNE.out with q|q
          · exact q
          · have h1:=hq.len
            simp at h1
            omega
         clear e1 e0 ed en ei et M hq hqn hbm hnb htk h12 hcl hndl;go_wp2_with fail
         go_roundw
         case rel=>exact ⟨b2',m,_,nodes,told,c+n,F,v,A6,c6,_,c8,rfl,rfl,rfl,HBM.out,HQN.out,HTK.out,HMM.out,HBl.out⟩
         case measure=>
          rw [HcN.out,HMM.out.cN]
          omega
       | true=>
         by_cases hkk:told.length=kn
         · have hR:=HDone.out hq htk (.inl hkk)
           have hd:decide ((told.length:Int)<k)=false:=by
            have:=HKN.out
            simp
            omega
           have HRow:=hdQ (qje (B:=w.heap.size) M.r6 fun g q=>Nat.le_of_succ_le (M.o6 g q).2)
           have HRR:=hdQ hR;clear e1 e0 ed en ei et M hq hR htk h12 hcl hkk;go_wp2_with fail;go_ret;exact⟨_,rfl,by rw [<-HRR.out];exact HRow.out,HBw.out⟩
         · have hlk2:(told.length:Int)<k:=by have:=HKN.out;omega
           obtain⟨i0,hi,iz0,iz1,iz2⟩:=info_parts Tryz.infoNrF;have hqn:=hq.item_out HNF.out.nd rfl et
           have HE:=hdQ (show nrV (z.1.id,z.1.d)= [.int .i64 eid,.int .u64 (d1:Int),.int .u64 (d0:Int),.int .u64 (dd:Int)] from by
            unfold nrV
            rw [e1,e0,ed,ei])
           have HMM:=hdQ M;have H12:=hdQ h12;have HQN:=hdQ hqn;have hkk1:told.length+1<=kn:=oQ
           have hl7:(popS ltPu (z::r)).length<=100000:=by
            have:=(qe9 (lt:=ltPu) (l:=z::r) rfl).length_eq
            simp at this hcl
            omega
           clear e1 e0 ed en ei et M hq hqn htk h12 hcl hkk
           go_wp2_with (at_builtin;go_must (refine qbw _ rfl _ _ 40 rfl 58 i0 (.agg #[.int .i64 0,.int .u64 0,.int .u64 0,.int .u64 0]) 4 32 Tryz.underlying40 hi iz0 iz1 iz2 rfl dE _ _ _ rfl (HMM.out.r6.alloc _) ⟨wr.heap.size,0,none⟩ 1 1 [.int .i64 eid,.int .u64 (d1:Int),.int .u64 (d0:Int),.int .u64 (dd:Int)] rfl rfl qu1 qq5 ?c3 ?c4 dE ?_))
           case c3=>unfold maxLen;omega
           case c4=>omega
           intro v7 w7 hown7 hg7 hwh;have hal:Below wr.heap.size wr (wr.alloc (.cells #[.int .i64 eid,.int .u64 (d1:Int),.int .u64 (d0:Int),.int .u64 (dd:Int)] 58)):=(Below.refl _ _).alloc (zhy _) _;obtain⟨A7,c7,rfl,_,_,_⟩:=qao hown7;rw [<-HE.out] at hown7;have M7:=(HMM.out.tr hal).more6 hown7 hg7 (hwh.imp id fun q=>⟨_,q,by simp⟩) (by simp;omega)
           have H127:Hid ((Value.slice A7 (told.length+1) c7).ownBlock≠some b12):=fun q=>by
            rcases hwh with z|z
            · exact H12.out (z ▸ q)
            · rw [z] at q
              have:=zjx q
              omega
           have hB7:=Blk.kept (HBx.out.tr hal) hg7 (fun e=>H12.out e)
           have hW7:Below (w.heap.size+1) w2 w7:=HBl.out.trans ((hal.mono oQ).trans ((Below.refl _ _).grown hg7 (by simp;omega) (fun k e=>(HMM.out.o6 k e).2)))
           have hl:(told++ [(z.1.id,z.1.d)]).length=told.length+1:=sI
           rw [<-hl] at M7 H127;clear HBx HBl H12 HMM HE hown7 hg7 hwh hal b0 b1 b2 b3 b4 b5 fzb;generalize popS ltPu (z::r)=cur at*;generalize told++ [(z.1.id,z.1.d)]=told' at*;obtain⟨d1',e1⟩:∃d,(topE cur).1.d.num/18446744073709551616=d:=⟨_,rfl⟩;obtain⟨d0',e0⟩:∃d,(topE cur).1.d.num%18446744073709551616=d:=⟨_,rfl⟩;obtain⟨dd',ed⟩:∃d,(topE cur).1.d.den=d:=⟨_,rfl⟩;obtain⟨nd',en⟩:∃d,(topE cur).1.node=d:=⟨_,rfl⟩;obtain⟨eid',ei⟩:∃d,(topE cur).1.id=d:=⟨_,rfl⟩;obtain⟨eit',et⟩:∃d,(topE cur).1.item=d:=⟨_,rfl⟩;obtain⟨ok',eo⟩:∃d,(topE cur).2=d:=⟨_,rfl⟩;have hwz7:w.heap.size+1<=w7.heap.size:=by have:=hW7.size;omega
           have HPop:=hdQ (fun W (hW:Below w7.heap.size w7 W)=>((M7.tr hW).pop (zcy hwz7 hW.size) hl7 d1' d0' dd' nd' eid' eit' e1 e0 ed en ei et).mono (R' :=fun e w' =>e=.returned (.tuple #[.agg #[.int .i64 eid',.int .u64 (d1' :Int),.int .u64 (d0' :Int),.int .u64 (dd' :Int),.bool eit',.int .i64 (nd' :Int)],.bool ok'])/\∃v',NearM w' (w.heap.size+1) F hb' (c+n) v' (.slice A7 told'.length c7) (.slice A8 nodes.length c8) (popS ltPu cur) nodes told' /\Blk w' b12 128 #[.int .i64 eid,.int .u64 (d1:Int),.int .u64 (d0:Int),.int .u64 (dd:Int),.bool true,.int .i64 (nd:Int)]/\Below (w.heap.size+1) w2 w') fun e w' ⟨h1,v',h2,h3,h4⟩=>⟨by rw [h1,eo],v',h2,h3.blk (hB7.tr hW) hbF.out,hW7.trans ((hW.mono hwz7).trans h4)⟩)
           have HTF:=hdQ (And.intro e1 (And.intro e0 (And.intro ed (And.intro en (And.intro ei et)))));have HEO:=hdQ eo;clear e1 e0 ed en ei et eo M7 hB7 hW7
           rw [<-hl]
           go_wp2_with (go_at_call 52;(refine(HPop.out _ bel).mono ?_);rintro e w8 ⟨rfl,v8,hM8,hB8,hW8⟩;obtain⟨g0,g1,g2,g3,g4,g5⟩:=ce6 hB8;have fz8:=hB8.frozen;have HM8:=hdQ hM8;have HB8:=hdQ hB8;have HW8:=hdQ hW8;clear hM8 hB8 hW8)
           go_roundw
           case rel=>
            exact⟨told',cur,A7,c7,v8,d1',d0',dd',nd',eid',eit',by rw [hl],congrArg Value.bool HEO.out.symm,HM8.out.off hbF.out H127.out h8b.out [.int .i64 eid',.int .u64 (d1' :Int),.int .u64 (d0' :Int),.int .u64 (dd' :Int),.bool eit',.int .i64 (nd' :Int)] 0,H127.out,qet HB8.out,HTF.out,HW8.out.trans (qd6 (qbz (F:=fun g=>g=b12) (g:=b12) (.inl rfl) [.int .i64 eid',.int .u64 (d1' :Int),.int .u64 (d0' :Int),.int .u64 (dd' :Int),.bool eit',.int .i64 (nd' :Int)] w8 0 (TurnF.refl _ w8)) (fun k e=>by rw [e];exact hb12w) (by have:=HW8.out.size;omega)),HQN.out,by rw [hl];exact hkk1⟩
           case measure=>
            simp only [lenV,hl]
            omega
   have L:=HH.out.tr hWr;obtain⟨u0,u1,u2,u3,ult⟩:=L.c0;obtain⟨m0,m1,m2,mlt⟩:=L.n0 HBL.out;rw [HS.out,HLN.out] at m2;have hn0:(i:Int)<(n:Int):=oQ
   obtain⟨e,hx⟩:∃e,(t.es b)[i]? =some e:=⟨(t.es b)[i]'(by rw [HLN.out];exact hlt),zby _⟩
   have hmem:=zjy hx
   have hdr:(t.es b).drop i=e::(t.es b).drop (i+1):=by
    obtain⟨h1,h2⟩:=zsy.1 hx
    rw [zgx h1,h2]
   rw [hdr] at hq;obtain⟨g,c',hv,hgl,r0,r1,r2⟩:=qct (L.row b l HBL.out (fun q=>q)) hx
   rw [HS.out] at hv;injection hv with hv1 hv2 hv3
   subst hv1 hv3;have hPB:=HPB.out.below hb oQ
   obtain⟨p0,p1⟩:=ce2 hPB;have hKx:=L.ekey b l e HBL.out hmem;have hk256:=hKx.1;have hkl:=hKx.2.1;obtain⟨Ak,ck,ekv,hkc,hAk,hyk⟩:=hKx.bys;rw [ekv] at r0;have HM:=hdQ M;have HB:=hdQ hb
   cases l with
   | zero=>
     rw [show decide (0=0)=true from rfl] at m1 r2
     simp only [if_true] at r2;obtain⟨⟨hi0,hi1⟩,it,hget,hdi,hok⟩:=HNF.out.ent b e HBL.out hmem;have hqn:=hq.item_in;rw [hdi] at hqn;obtain⟨z,hBi,_⟩:=L.it e.id it hget;obtain⟨Ao,co,eov,_,_,hpts⟩:=(L.ikey e.id it hget).2.pts;have hpl:=(L.ikey e.id it hget).2.1;rw [eov] at hBi;obtain⟨q0,q1⟩:=ce2 hBi;have qlt:=hBi.lt;have HD:=hdQ (fun W (hW:Below wr.heap.size wr W)=>show C9 50 #[.agg #[.int .i64 it.ob.kind,.slice Ao it.ob.pts.length co],.agg #[.int .i64 x,.int .i64 y]] W (Ret W (fV (qbj it.ob ⟨x,y⟩))) from qk5 wr.heap.size _ co it.ob.kind Ao it.ob.pts x y W (hpts.below hW) hW.size hpl)
     have HMp:=hdQ L.mp;have HGt:=hdQ (qey hget);generalize qbj it.ob ⟨x,y⟩=d at*
     have HPU:=hdQ (fun W (hW:Below wr.heap.size wr W)=>show C9 49 #[.pointer (some ⟨hb',0,none⟩),.agg #[.int .i64 e.id,.int .u64 ((d.num/18446744073709551616:Nat):Int),.int .u64 ((d.num%18446744073709551616:Nat):Int),.int .u64 (d.den:Int),.bool true,.int .i64 0]] W (fun e' w' =>e' =.returned (.tuple #[])/\∃(v' :Value) (F' :Nat->Prop),NearM w' (w.heap.size+1) F' hb' (c+i+1) v' (.slice A6 out.length c6) (.slice A8 nodes.length c8) (qim ltPu h (⟨e.id,d,true,0⟩,c+i+1)) nodes out/\Below (w.heap.size+1) w2 w') from by
      refine((HM.out.tr hW).push (zcy hws hW.size) ⟨e.id,d,true,0⟩ hok hhl oQ).mono ?_
      rintro e' w' ⟨rfl,v',F',h1,h2,h3⟩
      exact⟨rfl,v',F',h1,HB.out.trans ((hW.mono hws).trans h3)⟩)
     have HQN:=hdQ hqn;simp only [fV] at HD;generalize d.num/18446744073709551616=d1 at*;generalize d.num%18446744073709551616=d0 at*;generalize d.den=dd at*;clear hx hmem hget hok hWr L hv2 ekv hkc hAk hyk hKx hk256 hkl hBi eov hpts hpl hPB hq hqn M hb hdi hdr hhl;generalize it.ob.pts.length=pl at*;generalize e.kb.length=kl at*;have hws2:w.heap.size<wr.heap.size:=oQ
     go_wp2_with fail;refine qaw [0,1,2,3,4,5,6,7,8,13,9,10,11,12,14,15,16] [17] kr kr pq ?_
     simp only [zdy,zey,ldz,lds,bare,qal,lcz,lcs,zay,qdl,Option.isNone_none,Bool.and_true,Bool.true_and,Bool.false_and,Bool.and_self]
     repeat((try simp only [Act.put,lsi,lsz,lss]);first|(refine qbn (v:= ?_) qaa rfl ?_ ?_;rotate_left;focus(intro wq;go_simp;try with_reducible rfl))|(refine qbc (v:= ?_) qaa rfl ?_ ?_;rotate_left;focus(intro wq hq;obtain⟨hcq,hfq⟩:=qa7 hq;go_simp;try with_reducible rfl))|(refine qbe qaa rfl (fun K hK=> ?_);(refine qfu _ _ _ _ rfl rfl rfl (show MapO _ _ _ (some mb) _ from qbo.tr HMp.out bel) Tryz.underlying3 Tryz.underlying112 (Tryz.zeroItG _) oQ oQ ?_;rw [HGt.out];simp only [Option.getD_some]);refine hK.out _ _ bel ?_;clear hK K)|(refine qbe qaa rfl (fun K hK=> ?_);go_simp;((first|(go_at_call 50;(with_reducible refine(HD.out _ bel).monoR ?_);rintro w5 hb5 hc5 hf5 hz5;(try simp at hz5);have hy50:=ol1 w w5)|skip)<;>(refine hK.out _ _ bel ?_;clear hK K))))
     (all_goals try simp only [Act.put,lsi,lsz,lss])
     refine qb2 ?_;refine qar (fun K hK=> ?_)
     go_simp
     go_at_call 49;(refine(HPU.out _ bel).mono ?_);rintro e' w6 ⟨rfl,v6,F6,hM6,hB6⟩;have HM6:=hdQ hM6;have HB6:=hdQ hB6;clear hM6 hB6
     refine hK.out _ _ ?_;clear hK K
     (try simp only [Act.put,lsi,lsz,lss])
     refine qb1 ?_;go_wp2_with fail
     go_roundw
     case rel=>exact ⟨i+1,_,nodes,F6,v6,A8,c8,rfl,by go_num,by omega,HQN.out,HM6.out,HB6.out⟩
     case measure=>simp [Go.RowKit.intOf];omega
   | succ l=>
     rw [show decide (l+1=0)=false by simp] at m1 r2
     simp only [Bool.false_eq_true,if_false,gP] at r2;obtain⟨hkid,hfar⟩:=HNF.out.far b l e HBL.out hmem;have hqn:=hq.node_in hkid hfar;have hD:=HFar.out e.kb hk256 hkl;have HCl:=hdQ (fun W (hW:Below wr.heap.size wr W)=>qe0 wr.heap.size e.kb.length ck Ak e.kb W (hyk.tr hW (zhy _)) hW.size hkl hkc hAk)
     have HDi:=hdQ (fun W B A c=>hD.calls W B A c x y)
     have eD:=hD.enter;have hok:=hD.ok ⟨x,y⟩;generalize C.far e.kb ⟨x,y⟩=d at*
     have HPU:=hdQ (fun W (hW:Below wr.heap.size wr W)=>show C9 49 #[.pointer (some ⟨hb',0,none⟩),.agg #[.int .i64 0,.int .u64 ((d.num/18446744073709551616:Nat):Int),.int .u64 ((d.num%18446744073709551616:Nat):Int),.int .u64 (d.den:Int),.bool false,.int .i64 (nodes.length:Nat)]] W (fun e' w' =>e' =.returned (.tuple #[])/\∃(v' :Value) (F' :Nat->Prop),NearM w' (w.heap.size+1) F' hb' (c+i+1) v' (.slice A6 out.length c6) (.slice A8 nodes.length c8) (qim ltPu h (⟨0,d,false,nodes.length⟩,c+i+1)) nodes out/\Below (w.heap.size+1) w2 w' /\wr.heap.size<=W.heap.size/\W.heap.size<=w'.heap.size/\∀t cs,Blk W wr.heap.size t cs->Blk w' wr.heap.size t cs) from by
      refine((HM.out.tr hW).push (zcy hws hW.size) ⟨0,d,false,nodes.length⟩ hok hhl oQ).mono ?_
      rintro e' w' ⟨rfl,v',F',h1,h2,h3⟩
      exact⟨rfl,v',F',h1,HB.out.trans ((hW.mono hws).trans h3),hW.size,h2.size,fun t cs hB=>h2.blk hB fun q=>by have:=HM.out.H.lim _ q;omega⟩)
     have HQN:=hdQ hqn;simp only [fV] at HDi;generalize d.num/18446744073709551616=d1 at*;generalize d.num%18446744073709551616=d0 at*;generalize d.den=dd at*;have hnl:nodes.length<=80001:=by have:=hq.nlen;omega
     clear hx hmem hok hWr L hv2 ekv hkc hAk hyk hKx hk256 hkl hPB hq hqn M hb hdr hhl hD hfar hkid;have hws2:w.heap.size<wr.heap.size:=oQ
     obtain⟨i0,hi,iz0,iz1,iz2⟩:=info_parts Tryz.infoNpX;generalize hnn:nodes.length=nn at*;go_wp2_with fail;refine qaw [0,1,2,3,4,5,6,8,9,10,13,14,7,11,12,15] [16] kr kr pq ?_
     simp only [zdy,zey,ldz,lds,bare,qal,lcz,lcs,zay,qdl,Option.isNone_none,Bool.and_true,Bool.true_and,Bool.false_and,Bool.and_self]
     repeat((try simp only [Act.put,lsi,lsz,lss]);first|(refine qbn (v:= ?_) qaa rfl ?_ ?_;rotate_left;focus(intro wq;go_simp;try with_reducible rfl))|(refine qbc (v:= ?_) qaa rfl ?_ ?_;rotate_left;focus(intro wq hq;obtain⟨hcq,hfq⟩:=qa7 hq;go_simp;try with_reducible rfl))|(refine qbe qaa rfl (fun K hK=> ?_);go_simp;((first|(go_at_call 51;(with_reducible refine(HCl.out _ bel).mono ?_);rintro e w4 ⟨s4,rfl,ho4,hb4⟩;obtain⟨A4,c4,rfl,hy4,y42,y43,y44⟩:=qby ho4;clear ho4 y42;obtain⟨hc4,hf4,hz4⟩:=bc3 hb4;(try simp at hz4))|((refine(HDi.out _ w4.heap.size _ _ (hy4.tr bel (zhy _)) oQ y44 y43).monoR ?_);rintro w5 hb5 hc5 hf5 hz5;(try simp at hz5);have hy50:=ol1 w w5)|skip)<;>(refine hK.out _ _ bel ?_;clear hK K))))
     (all_goals try simp only [Act.put,lsi,lsz,lss])
     refine qb2 ?_;refine qar (fun K hK=> ?_)
     go_simp
     go_at_call 49;(refine(HPU.out _ bel).mono ?_);rintro e' w6 ⟨rfl,v6,F6,hM6,hB6,hs6,hs7,hX6⟩;have hB11:=hX6 122 #[.slice Ak e.kb.length ck,.int .i64 e.id,.pointer (some ⟨e.kid,0,none⟩)] blkA;have g2:=hB11.cell 2;simp only [lAq] at g2;have g11:=hB11.lt;have HM6:=hdQ hM6;have HB6:=hdQ hB6;clear hM6 hB6 hX6 hB11
     refine hK.out _ _ ?_;clear hK K
     (try simp only [Act.put,lsi,lsz,lss])
     refine qb1 ?_
     go_wp2_with (at_builtin;go_must (refine qbw _ rfl _ _ 119 rfl 108 i0 (.pointer none) 1 8 Tryz.underlying119 hi iz0 iz1 iz2 rfl dE _ _ _ rfl (HM6.out.r8.alloc _) ⟨w6.heap.size,0,none⟩ 1 1 [.pointer (some ⟨e.kid,0,none⟩)] rfl rfl q4x q2b ?c3 ?c4 dE ?_))
     case c3=>unfold maxLen;omega
     case c4=>omega
     intro v7 w7 hown7 hg7 hwh;subst hnn;obtain⟨A7,c7,rfl,_,_,_⟩:=qao hown7;have hal:Below w6.heap.size w6 (w6.alloc (.cells #[.pointer (some ⟨e.kid,0,none⟩)] 108)):=(Below.refl _ _).alloc (zhy _) _;have M7:=(HM6.out.tr hal).more8 (x:=e.kid) hown7 hg7 (hwh.imp id fun q=>⟨_,q,by simp⟩) (by simp;omega)
     have hW7:Below (w.heap.size+1) w2 w7:=HB6.out.trans ((hal.mono oQ).trans ((Below.refl _ _).grown hg7 (by simp;omega) (fun k e=>(HM6.out.o8 k e).2)))
     have hl:(nodes++ [e.kid]).length=nodes.length+1:=sI
     rw [<-hl] at M7;clear hown7 hg7 hwh hal;have HM7:=hdQ M7;have HW7:=hdQ hW7;clear M7 hW7;go_wp2_with fail
     go_roundw
     case rel=>exact ⟨i+1,_,nodes++ [e.kid],F6,v6,A7,c7,by rw [hl],by go_num,by omega,HQN.out,HM7.out,HW7.out⟩
     case measure=>simp [Go.RowKit.intOf];omega
end
end Go.Proofs.YteodamnfgcnmmaaGreatDoor
namespace Pg
open Go Go.RowKit
def idcs (l:List Int):List Value:=l.map fun i=> .int .i64 i
theorem qou (l:List Int):∀u∈idcs l,u.oneCell' =true:=by
 intro u hu;obtain⟨x,_,rfl⟩:=zty.1 hu
 rfl
theorem qq6 {α β:Type} (f:α->List β) (l:List α) (i:Nat):((l.take i).flatMap f).length<=(l.flatMap f).length:=by
 have:l.flatMap f=(l.take i).flatMap f++(l.drop i).flatMap f:=by rw [<-List.flatMap_append,List.take_append_drop]
 rw [this,zny]
 exact Nat.le_add_right _ _
end Pg
namespace Go.Proofs.YteodamnfgcnmmaaGreatDoor
open Go Go.RowKit Pg
theorem Tryz.infoIY:(Tryz.prog.info? 3).map (fun i=>(i.zero,i.size,i.bytes))=some (some (.int .i64 0),1,8):=by kernel_rfl
theorem q4w {w:World} {a:Value} {t:TypeId}:∀(j:Nat) (v:Value),[a][j]? =some v->(w.alloc (.cells #[a] t)).cell? ((⟨w.heap.size,0,none⟩:Addr).add j)=some v:=by
 intro j v hj
 match j,hj with
 | 0,hj=>simp at hj;subst hj;simp [Addr.add]
theorem qic {P:Program} {w:World} {ops:Array Oper} {rest:List Oper} {o:Oper} {a:Act} {Q:Exit->Act->World->Prop} (hgd:o.guard=none) (s x:Operand) (t:TypeId)
 (ho:o.op=.call {callee:=.builtin .append,args:= #[s,x],argTypes:= #[t,t]})
 (base:Nat) (e:TypeId) (i:TypeInfo) (z:Value) (size bytes:Nat) (ht:P.underlying t=some (.slice e)) (hi:P.info? e=some i) (hz:i.zero=some z)
 (hsize:i.size=size) (hby:i.bytes=bytes) (hzs:z.cells.size=size) (hsz:0<size)
 (v:Value) (n:Nat) (xs:List Value) (hs:a.eval s=v) (hown:w.ownsRow base e size v n xs) (base2:Nat) (v2:Value) (m:Nat) (ys:List Value) (hx:a.eval x=v2) (hown2:w.ownsRow base2 e size v2 m ys) (h1:∀u∈ys,u.oneCell' =true)
 (h63:n+m<=maxLen) (hbytes:(n+m)*bytes<=140737488355328) (hbase:base<=w.heap.size)
 (h:∀v' w',w'.ownsRow base e size v' (n+m) (xs++ys)->w.grownBy w' v.ownBlock->wpList P ops Q rest (a.put o.dst v') w'):wpList P ops Q (o::rest) a w:=by
 have hl:=hown2.1
 rcases hown2.2 with ⟨e1,h0⟩|⟨g,cap,cur,e1,hg,hh,hc⟩
 · subst e1 h0
   have hys:ys= []:=by simpa using hl
   subst hys;exact wpList_append_own_none hgd s x t ho base e i size ht hi v n xs hs hown hx (h v w (by simpa using hown) ⟨rfl,rfl,rfl,zhy _,fun _ _ _=>rfl⟩)
 · subst e1
   exact wpList_append_own w hgd s x t ho base e i z size bytes ht hi hz hsize hby hzs hsz v n xs hs hown ⟨g,0,none⟩ m cap ys hx hl (fun j u hj=>by
    have hjl:=(zsy.1 hj).1;have:=hown2.cellAt j oQ
    rw [hj] at this
    simp only [Addr.add,Nat.zero_add]
    split
    · rename_i h0
      rw [h0] at this;exact this
    · exact this) h1 h63 hbytes hbase fun v' w' h2 h3 _=>h v' w' h2 h3
section
variable {own imm:Nat->Prop} {tb mb:Nat} {t:Tr}
end
end Go.Proofs.YteodamnfgcnmmaaGreatDoor
