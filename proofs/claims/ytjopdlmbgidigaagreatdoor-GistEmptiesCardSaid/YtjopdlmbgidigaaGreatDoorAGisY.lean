/-gist: Nearest, whatever the tree and the class.-/
import Derived.Test.YtjopdlmbgidigaaGreatDoorALawGn
import Derived.Test.YtjopdlmbgidigaaGreatDoorAMade
set_option linter.unusedVariables false
set_option linter.unusedSimpArgs false
namespace Go.Proofs.YtjopdlmbgidigaaGreatDoor
open Go Go.RowKit Pg
theorem qzq {C:Cl} {cov:List Nat->Ob->Prop} {good:List Nat->Prop} {t:Tr} {L:Int->Prop} (hLw:Lawful C cov good) (h:Shape t L) (hf:Fill t fun _=>False) (h4:4<=t.fan) (hk:Keyed C.un t fun _=>False) (h0:∀id it,getK id t.items=some it->good it.kb):
 ∀{l u:Nat} {e:En},t.lv u=some l->e∈t.es u->good e.kb:=by
 intro l
 induction l with
 | zero=>
   intro u e hu he;obtain⟨_,it,hit,_,hkb⟩:=h.ent u e hu he
   rw [hkb]
   exact h0 _ _ hit
 | succ l ih=>
   intro u e hu he;obtain⟨h1,h2⟩:=h.kid _ _ _ hu he
   rw [hk e.kid l u e h1 h2 (fun q=>q) he rfl]
   refine(hLw.un _ ?_ fun k hk' => ?_).1
   · intro q
     have h3:=(hf e.kid l h1 (fun q=>q)).2.1 fun e1=>by
      have:=h.root.2;rw [<-e1,h2] at this
      cases this
     have:(t.es e.kid).length=0:=by simpa using congrArg List.length q
     omega
   · obtain⟨e',he',rfl⟩:=zty.1 hk'
     exact ih h1 he'
theorem qwj {C:Cl} {cov:List Nat->Ob->Prop} {good:List Nat->Prop} {t:Tr} {L:Int->Prop} (hLw:Lawful C cov good) (h:Shape t L) (hf:Fill t fun _=>False) (h4:4<=t.fan) (hk:Keyed C.un t fun _=>False) (h0:∀id it,getK id t.items=some it->good it.kb/\cov it.kb it.ob):
 ∀{l u:Nat} {e:En} {id:Int} {it:It},t.lv u=some l->e∈t.es u->(id=e.id/\l=0\/∃m,l=m+1/\id∈below t m e.kid)->getK id t.items=some it->cov e.kb it.ob:=
 fun{l u e id it}=>Pg.cover (cv:=cov) h hk (fun id it hi=>(h0 id it hi).2) fun n l hn e he o ho=>
  (hLw.un _ (fun q=>by rw [List.map_eq_nil_iff] at q;rw [q] at he;cases he) fun k hk' =>by
    obtain⟨e',he',rfl⟩:=zty.1 hk'
    exact qzq hLw h hf h4 hk (fun id it hi=>(h0 id it hi).1) hn he').2 _ (zty.2 ⟨e,he,rfl⟩) o ho
end Go.Proofs.YtjopdlmbgidigaaGreatDoor
namespace Pg
open Go Go.RowKit
def idcs (l:List Int):List Value:=l.map fun i=> .int .i64 i
theorem qo5 (l:List Int):∀u∈idcs l,u.oneCell' =true:=by
 intro u hu;obtain⟨x,_,rfl⟩:=zty.1 hu
 rfl
theorem qqt {α β:Type} (f:α->List β) (l:List α) (i:Nat):((l.take i).flatMap f).length<=(l.flatMap f).length:=by
 have:l.flatMap f=(l.take i).flatMap f++(l.drop i).flatMap f:=by rw [<-List.flatMap_append,List.take_append_drop]
 rw [this,zny]
 exact Nat.le_add_right _ _
end Pg
namespace Go.Proofs.YtjopdlmbgidigaaGreatDoor
open Go Go.RowKit Pg
theorem Tryz.infoIY:(Tryz.prog.info? 3).map (fun i=>(i.zero,i.size,i.bytes))=some (some (.int .i64 0),1,8):=by kernel_rfl
theorem q42 {w:World} {a:Value} {t:TypeId}:∀(j:Nat) (v:Value),[a][j]? =some v->(w.alloc (.cells #[a] t)).cell? ((⟨w.heap.size,0,none⟩:Addr).add j)=some v:=by
 intro j v hj
 match j,hj with
 | 0,hj=>simp at hj;subst hj;simp [Addr.add]
theorem qil {P:Program} {w:World} {ops:Array Oper} {rest:List Oper} {o:Oper} {a:Act} {Q:Exit->Act->World->Prop} (hgd:o.guard=none) (s x:Operand) (t:TypeId)
 (ho:o.op=.call {callee:=.builtin .append,args:= #[s,x],argTypes:= #[t,t]})
 (base:Nat) (e:TypeId) (i:TypeInfo) (z:Value) (size bytes:Nat) (ht:P.underlying t=some (.slice e)) (hi:P.info? e=some i) (hz:i.zero=some z)
 (hsize:i.size=size) (hby:i.bytes=bytes) (hzs:z.cells.size=size) (hsz:0<size)
 (v:Value) (n:Nat) (xs:List Value) (hs:a.eval s=v) (hown:w.ownsRow base e size v n xs) (base2:Nat) (v2:Value) (m:Nat) (ys:List Value) (hx:a.eval x=v2) (hown2:w.ownsRow base2 e size v2 m ys) (h1:∀u∈ys,u.oneCell' =true)
 (h63:n+m<=maxLen) (hbytes:(n+m)*bytes<=140737488355328) (hbase:base<=w.heap.size)
 (h:∀v' w',w'.ownsRow base e size v' (n+m) (xs++ys)->w.grownBy w' v.ownBlock->wpList P ops Q rest (a.put o.dst v') w'):wpList P ops Q (o::rest) a w:=by
 have hl:=hown2.1
 rcases hown2.2 with ⟨e1,h0⟩|⟨g,cap,cur,e1,hg,hh,hc⟩
 · subst e1 h0
   have hys:ys= []:=by simpa using hl
   subst hys;exact wpList_append_own_none hgd s x t ho base e i size ht hi v n xs hs hown hx (h v w (by simpa using hown) ⟨rfl,rfl,rfl,zhy _,fun _ _ _=>rfl⟩)
 · subst e1
   exact wpList_append_own w hgd s x t ho base e i z size bytes ht hi hz hsize hby hzs hsz v n xs hs hown ⟨g,0,none⟩ m cap ys hx hl (fun j u hj=>by
    have hjl:=(zsy.1 hj).1;have:=hown2.cellAt j oQ
    rw [hj] at this
    simp only [Addr.add,Nat.zero_add]
    split
    · rename_i h0
      rw [h0] at this;exact this
    · exact this) h1 h63 hbytes hbase fun v' w' h2 h3 _=>h v' w' h2 h3
end Go.Proofs.YtjopdlmbgidigaaGreatDoor
