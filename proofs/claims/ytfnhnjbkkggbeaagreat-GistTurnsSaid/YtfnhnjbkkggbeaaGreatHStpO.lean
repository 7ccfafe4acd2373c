/-Arguments opened-/
import Derived.Test.YtfnhnjbkkggbeaaGreatHAlkI
import Derived.Deep.Slices
import Derived.ChangeSame
import Derived.OpenShut
import Derived.WideKeyArgs
set_option linter.unusedVariables false
set_option linter.unusedSimpArgs false
set_option maxRecDepth 100000
namespace Go.Proofs.YtfnhnjbkkggbeaaGreat
open Go.RowKit Go.ChangeShapes Go.WideShapes Go.Deep Pg
theorem q73 {l:List Value} (h:l.length=2):∃a b,l= [a,b]:=by
 match l,h with
 | [a,b],_=>exact ⟨a,b,rfl⟩
theorem q72 {l:List Value} (h:l.length=4):∃a b c d,l= [a,b,c,d]:=by
 match l,h with
 | [a,b,c,d],_=>exact ⟨a,b,c,d,rfl⟩
theorem q71 {l:List Value} (h:l.length=6):∃a b c d e f,l= [a,b,c,d,e,f]:=by
 match l,h with
 | [a,b,c,d,e,f],_=>exact ⟨a,b,c,d,e,f,rfl⟩
theorem q7a {α:Type} {l:List α} (h:l.length=3):∃a b c,l= [a,b,c]:=by
 match l,h with
 | [a,b,c],_=>exact ⟨a,b,c,rfl⟩
theorem cInt:Tryz.prog.cellsOf 3=1:=by kernel_rfl
theorem cPt:Tryz.prog.cellsOf 46=2:=by kernel_rfl
theorem cBx:Tryz.prog.cellsOf 48=4:=by kernel_rfl
theorem cPts:Tryz.prog.cellsOf 24=1:=by kernel_rfl
section
variable {H:Type} {enc:TypeId×Value->H} {W:World} {base:Nat} {spare:Nat->Bool} {held:Bool} {fuel:Nat} {cs:List Value} {x:DataW H×List MemPlace}
theorem qgw (h:DataW.trod enc Tryz.prog W base spare held fuel 3 cs=some x):∃a:Int,cs= [.int .i64 a]:=by
 obtain⟨a,e,_⟩:=DataW.trod_int Tryz.underlying3 h;exact⟨a,e⟩
theorem qjs (h:DataW.trod enc Tryz.prog W base spare held fuel 46 cs=some x):∃p:Pt,cs= [.int .i64 p.x,.int .i64 p.y]:=by
 obtain⟨y0,y1,m,_,hl,h0,h1⟩:=trod_struct2 Tryz.underlying46 h;rw [cPt] at hl;obtain⟨c0,c1,rfl⟩:=q73 hl
 focus
  simp only [cInt] at h0 h1;obtain⟨a,e0⟩:=qgw h0;obtain⟨b,e1⟩:=qgw h1
  simp at e0 e1
  exact⟨⟨a,b⟩,by rw [e0,e1]⟩
theorem q2j (h:DataW.trod enc Tryz.prog W base spare held fuel 48 cs=some x):∃b:Bx,cs= [.int .i64 b.lo.x,.int .i64 b.lo.y,.int .i64 b.hi.x,.int .i64 b.hi.y]:=by
 obtain⟨y0,y1,m,_,hl,h0,h1⟩:=trod_struct2 Tryz.underlying48 h;rw [cBx] at hl;obtain⟨c0,c1,c2,c3,rfl⟩:=q72 hl
 focus
  simp only [cPt] at h0 h1;obtain⟨p,e0⟩:=qjs h0;obtain⟨q,e1⟩:=qjs h1
  simp at e0 e1
  exact⟨⟨p,q⟩,by rw [e0.1,e0.2,e1.1,e1.2]⟩
theorem qoi (h:DataW.trod enc Tryz.prog W base spare held fuel 24 cs=some x):∃(A:Option Addr) (n c:Nat) (l:List Pt),cs= [.slice A n c]/\qak W W.heap.size A n l:=by
 rcases open_slice Tryz.underlying24 h with ⟨h0,_⟩|⟨a,n,c,m,k,D,Pl,h0,_,hnc,_,hm,_,hi⟩
 · exact⟨none,0,0,[],h0,rfl,fun h=>absurd h oQ⟩
 · have hnm:n<=m:=by rw [hm];split<;>omega
   have key:∀i,i<n->∃p:Pt,W.cell? (a.add (i*2))=some (.int .i64 p.x)/\W.cell? (a.add (i*2+1))=some (.int .i64 p.y):=by
    intro i hin;obtain⟨cs',hc,ht⟩:=hi i oQ
    rw [cPt] at hc;obtain⟨p,e⟩:=qjs ht;obtain⟨_,_,hat⟩:=World.cells?_some hc;have h0:=hat 0 oQ
    have h1:=hat 1 oQ
    rw [e] at h0 h1;simp only [lcz,lcs] at h0 h1;refine⟨p,by simpa [Addr.add] using h0,?_⟩
    rw [<-h1]
    congr 1;unfold Addr.add
    by_cases hz:i*2=0
    · simp [hz]
    · simp [hz];omega
   have hpick:∃f:Nat->Pt,∀i,i<n->W.cell? (a.add (i*2))=some (.int .i64 (f i).x)/\W.cell? (a.add (i*2+1))=some (.int .i64 (f i).y):=
    ⟨fun i=>if h:i<n then Classical.choose (key i h) else⟨0,0⟩,fun i h=>by simp only [dif_pos h];exact Classical.choose_spec (key i h)⟩
   obtain⟨f,hf⟩:=hpick;refine⟨some a,n,c,(List.range n).map f,h0,by simp,fun hn=> ?_⟩
   obtain⟨b,off,sp⟩:=a
   have hsp:sp=none:=by
    have:=World.cell?_spot (hf 0 hn).1
    simpa [Addr.add] using this
   subst hsp
   have hb:b<W.heap.size:=by
    have:=(hf 0 hn).1
    rcases zry b W.heap.size with h|h
    · exact h
    · simp [Addr.add,World.cell?,zxy h] at this
   refine⟨b,off,rfl,hb,fun k p hp=> ?_⟩
   have hk:k<n:=by
    rcases zry k n with h|h
    · exact h
    · rw [zoy (by simpa using h)] at hp;cases hp
   have ep:p=f k:=by
    rw [zpx,List.getElem?_range hk] at hp
    simpa using hp.symm
   subst ep;have h1:=(hf k hk).1;have h2:=(hf k hk).2
   have e1:(⟨b,off,none⟩:Addr).add (k*2)=⟨b,off+k*2,none⟩:=by
    unfold Addr.add
    split<;>simp_all
   have e2:(⟨b,off,none⟩:Addr).add (k*2+1)=⟨b,off+k*2+1,none⟩:=by
    unfold Addr.add
    simp [Nat.add_assoc]
   rw [e1] at h1;rw [e2] at h2;exact⟨h1,h2⟩
end
section
variable {H:Type} {enc:TypeId×Value->H} {W:World} {r:Reach} {b0 base:Nat} {spare:Nat->Bool} {held:Bool} {v:Value} {d:DataW H} {p:List MemPlace}
theorem qy0 (hv:Value.okWide Tryz.prog W r b0 24 v) (h:DataW.Trod enc Tryz.prog W base spare held 24 v d p):
 ∃(A:Option Addr) (n c:Nat) (l:List Pt),v=.slice A n c/\qak W W.heap.size A n l:=by
 obtain⟨fuel,hf⟩:=h;obtain⟨A,n,c,l,e,hp⟩:=qoi hf;obtain⟨a',n',c',rfl⟩:=okWide_slice Tryz.underlying24 hv
 simp [Value.cells] at e
 exact⟨A,n,c,l,by rw [e.1,e.2.1,e.2.2],hp⟩
end
theorem qph {H:Type} {enc:TypeId×Value->H} {P:Program} (hl:laidOutB P=true) {W W' :World} (hb:Below W.heap.size W W') {sp:Nat->Bool}:
 ∀{ts:List TypeId} {vs:List Value} {ds:List (DataW H)} {ps:List MemPlace},(ts.all fun t=>P.readableRec t&&decide (t<P.types.size))=true->(∀p∈ps,p.block<W.heap.size)->(∀p∈ps,sp p.block=true)->
  DataW.TrodAll enc P W 0 (fun _=>true) true ts vs ds ps->DataW.TrodAll enc P W' 0 sp true ts vs ds ps:=by
 intro ts
 induction ts with
 | nil=>
   intro vs ds ps _ _ _ h;obtain⟨rfl,rfl,rfl⟩:=trodAll_nil h;exact trodAll_mk0
 | cons t ts ih=>
   intro vs ds ps hr hlt hs h;obtain⟨v,vs',d,ds',p,q,rfl,rfl,rfl,h1,h2⟩:=trodAll_cons h;simp only [List.all_cons,ziy,decide_eq_true_eq] at hr;refine trodAll_cons_mk (WideElems.Trod_stays hl hr.1.1 hr.1.2 h1 (fun x hx=>hb.same (hlt x (by simp [hx]))) (fun x hx=>hs x (by simp [hx]))) (ih ?_ (fun x hx=>hlt x (by simp [hx])) (fun x hx=>hs x (by simp [hx])) h2)
   simpa using hr.2
theorem q20 {H:Type} {enc:TypeId×Value->H} {P:Program} {f:Func} {s:ChangeSpec} {apart fresh handsOn again:Bool} {W W' :World} {args:Array Value} {ds gs:List (DataW H)} {before:List MemPlace} {tb:TypeId}
 (hl:laidOutB P=true) (hr:(f.params.toList.all fun t=>P.readableRec t&&decide (t<P.types.size))=true) (hrt:f.resultTypes= #[tb]) (htb:P.underlying tb=some .bool) (hvars:s.vars= [])
 (hs:s.fn H (ds++gs)={results:= [.lit (.bool true)],args:=ds})
 (hW:DataW.Whole enc P f.params.toList s.vars apart W args.toList ds gs before) (hb:Below W.heap.size W W'):s.post enc P f apart fresh handsOn again W args (.bool true) W' :=by
 have hlt:∀p∈before,p.block<W.heap.size:=fun p hp=>hW.lt p hp
 have hW2:=hW;obtain⟨p,q,hA,hV,rfl,hz,hn⟩:=hW2;rw [hvars] at hV;obtain⟨rfl,rfl⟩:=trodVars_none hV;have hA:DataW.TrodAll enc P W 0 (fun _=>true) true f.params.toList args.toList ds p:=hA
 simp only [List.append_nil] at hW hlt hs hz hn;have hargs:∀sp:Nat->Bool,(∀x∈p,sp x.block=true)->DataW.TrodAll enc P W' 0 sp true f.params.toList args.toList ds p:=fun sp hsp=>qph hl hb hr hlt hsp hA
 have hres:∀(b:Nat) (sp:Nat->Bool) (hd:Bool),DataW.TrodAll enc P W' b sp hd f.resultTypes.toList ((Value.bool true).resultList f.resultTypes.size) [.lit (.bool true)] []:=by
  intro b sp hd
  rw [hrt]
  exact trodAll_mk1 (shut_bool htb true)
 have e1:(s.fn H (ds++ [])).results= [.lit (.bool true)]:=by rw [List.append_nil,hs]
 have e2:(s.fn H (ds++ [])).args=ds:=by rw [List.append_nil,hs]
 have e3:(s.fn H (ds++ [])).vars= []:=by rw [List.append_nil,hs]
 refine⟨ds,[],p,[],p,[],hW,by rw [e1];exact hres _ _ _,by rw [e2];exact hargs _ (fun x hx=>by simpa using hlt x hx),by rw [e3,hvars];exact rfl,World.keptBut_mono (fun x hx=>⟨hx,.inr (by simpa using hx)⟩) (hb.frame (· ∈p)),fun _=> ?_⟩
 have h12:=trodAll_append (hargs (fun _=>true) (fun _ _=>rfl)) (hres 0 (fun _=>true) true)
 refine⟨ok_one hrt rfl (okWide_bool_mk htb _),_,[],[]++p,⟨[]++p,[],h12,by rw [hvars];exact rfl,by simp,fun b off hp=> ?_,fun ha=>by simpa using hn ha⟩,fun x hx _=>by simpa using hx⟩
 have hp:MemPlace.cell b off∈p:=by simpa using hp
 rw [hb.frozen (hlt _ hp)]
 exact hz b off hp
end Go.Proofs.YtfnhnjbkkggbeaaGreat
namespace Go.Proofs.YtfnhnjbkkggbeaaGreat
open Go.RowKit Go.ChangeShapes Go.WideShapes Go.Deep Pg
end Go.Proofs.YtfnhnjbkkggbeaaGreat
namespace Go.Proofs.YtfnhnjbkkggbeaaGreat
open Go.RowKit Go.ChangeShapes Go.WideShapes Go.Deep Pg
def q7w {α:Type} (R:α->List Value->Prop) (sz:Nat) (w:World) (B:Nat) (A:Option Addr) (n:Nat) (l:List α):Prop:=
 l.length=n/\(0<n->∃b off,A=some ⟨b,off,none⟩/\b<B)/\∀(b off k:Nat) (p:α),A=some ⟨b,off,none⟩->l[k]? =some p->∃cs,R p cs/\∀(j:Nat) (v:Value),cs[j]? =some v->w.cell? ⟨b,off+k*sz+j,none⟩=some v
section
variable {H:Type} {enc:TypeId×Value->H} {W:World} {base:Nat} {spare:Nat->Bool} {held:Bool} {fuel:Nat} {cs:List Value} {x:DataW H×List MemPlace}
theorem open_list {α:Type} {P:Program} {R:α->List Value->Prop} {t e:TypeId} {sz:Nat} (ht:P.underlying t=some (.slice e)) (hc:P.cellsOf e=sz) (hsz:0<sz)
 (hR:∀(n:Nat) (cs' :List Value) (y:DataW H×List MemPlace),DataW.trod enc P W base spare held n e cs' =some y->∃p:α,R p cs' /\0<cs'.length)
 (h:DataW.trod enc P W base spare held fuel t cs=some x):
 ∃(A:Option Addr) (n c:Nat) (l:List α),cs= [.slice A n c]/\q7w R sz W W.heap.size A n l/\(A=none->c=0)/\n<=c/\c<=maxLen:=by
 rcases open_slice ht h with ⟨h0,_⟩|⟨a,n,c,m,k,D,Pl,h0,_,hnc,hcm,hm,_,hi⟩
 · exact⟨none,0,0,[],h0,⟨rfl,fun h=>absurd h oQ,fun b off k p e=>by cases e⟩,fun _=>rfl,zhy _,zly _⟩
 · have hnm:n<=m:=by rw [hm];split<;>omega
   rw [hc] at hi
   have key:∀i,i<n->∃p:α,∃cs',R p cs' /\0<cs'.length/\∀(j:Nat) (v:Value),cs'[j]? =some v->W.cell? ((a.add (i*sz)).add j)=some v:=by
    intro i hin;obtain⟨cs',hcs,ht⟩:=hi i oQ
    obtain⟨p,hp,hl⟩:=hR _ _ _ ht;obtain⟨h1,h2,hat⟩:=World.cells?_some hcs;refine⟨p,cs',hp,hl,fun j v hj=> ?_⟩
    have hjl:j<cs'.length:=by
     rcases zry j cs'.length with h|h
     · exact h
     · rw [zoy h] at hj;cases hj
    rw [<-hj]
    exact hat j oQ
   have hlen:((List.finRange n).map fun i=>Classical.choose (key i.val i.isLt)).length=n:=sI
   have hget:∀k (hk:k<n),((List.finRange n).map fun i=>Classical.choose (key i.val i.isLt))[k]? =some (Classical.choose (key k hk)):=fun k hk=>by
    rw [zpx,zby (by simpa using hk)]
    simp
   refine⟨some a,n,c,(List.finRange n).map fun i=>Classical.choose (key i.val i.isLt),h0,⟨hlen,fun hn=> ?_,fun b off k p hA hp=> ?_⟩,(fun e=>by cases e),hnc,hcm⟩
   · obtain⟨cs',_,hl,hat⟩:=Classical.choose_spec (key 0 hn)
     obtain⟨b,off,sp⟩:=a;have h1:=hat 0 _ (zby hl)
     have hsp:sp=none:=by
      have:=World.cell?_spot h1
      simpa [Addr.add] using this
     subst hsp;refine⟨b,off,rfl,?_⟩
     rcases zry b W.heap.size with h|h
     · exact h
     · simp [Addr.add,World.cell?,zxy h] at h1
   · injection hA with hA
     subst hA
     have hk:k<n:=by
      rcases zry k n with h|h
      · exact h
      · rw [zoy oQ] at hp;cases hp
     rw [hget k hk] at hp;injection hp with hp
     subst hp;obtain⟨cs',hr,_,hat⟩:=Classical.choose_spec (key k hk);refine⟨cs',hr,fun j v hj=> ?_⟩
     have:=hat j v hj
     have e:((⟨b,off,none⟩:Addr).add (k*sz)).add j=⟨b,off+k*sz+j,none⟩:=by
      unfold Addr.add
      split<;>split<;>simp_all
     rw [e] at this;exact this
end
end Go.Proofs.YtfnhnjbkkggbeaaGreat
namespace Go.Proofs.YtfnhnjbkkggbeaaGreat
open Go.RowKit Go.ChangeShapes Go.WideShapes Go.Deep Pg
theorem cQuO:Tryz.prog.cellsOf 50=6:=by kernel_rfl
section
variable {H:Type} {enc:TypeId×Value->H} {W:World} {base:Nat} {spare:Nat->Bool} {held:Bool} {fuel:Nat} {cs:List Value} {x:DataW H×List MemPlace}
theorem q2i (h:DataW.trod enc Tryz.prog W base spare held fuel 23 cs=some x):∃(A:Option Addr) (n c:Nat) (l:List Qu),cs= [.slice A n c]/\qf5 W W.heap.size A n l/\n<=9223372036854775807:=by
 obtain⟨A,n,c,l,rfl,⟨h1,h2,h3⟩,_,hnc,hcm⟩:=open_list (α:=Qu) (R:=fun o cs=>∃A n c,cs= [.int .i64 o.kind,.int .i64 o.box.lo.x,.int .i64 o.box.lo.y,.int .i64 o.box.hi.x,.int .i64 o.box.hi.y,.slice A n c]/\qak W W.heap.size A n o.ring) Tryz.underlying23 cQuO dE
  (fun n cs' y ht=>by
    obtain⟨xs,m,_,_,hl,hlen,hg⟩:=DataW.trod_struct Tryz.underlying50 ht;obtain⟨y0,y1,y2,rfl⟩:=q7a hlen;rw [cQuO] at hl;obtain⟨c0,c1,c2,c3,c4,c5,rfl⟩:=q71 hl;have h0:DataW.trod enc Tryz.prog W base spare held m 3 (([c0,c1,c2,c3,c4,c5].drop 0).take (Tryz.prog.cellsOf 3))=some y0:=hg 0 _ rfl;have h1:DataW.trod enc Tryz.prog W base spare held m 48 (([c0,c1,c2,c3,c4,c5].drop 1).take (Tryz.prog.cellsOf 48))=some y1:=hg 1 _ rfl;have h2:DataW.trod enc Tryz.prog W base spare held m 24 (([c0,c1,c2,c3,c4,c5].drop 5).take (Tryz.prog.cellsOf 24))=some y2:=hg 2 _ rfl;rw [cInt] at h0;rw [cBx] at h1;rw [cPts] at h2;obtain⟨k,e0⟩:=qgw h0;obtain⟨b,e1⟩:=q2j h1;obtain⟨A,n,c,l,e2,hp⟩:=qoi h2
    simp at e0 e1 e2
    exact⟨⟨k,b,l⟩,⟨A,n,c,by rw [e0,e1.1,e1.2.1,e1.2.2.1,e1.2.2.2,e2],hp⟩,by simp⟩) h
 refine⟨A,n,c,l,rfl,⟨h1,fun hn=> ?_⟩,by unfold maxLen at hcm;omega⟩
 obtain⟨b,off,rfl,hb⟩:=h2 hn;refine⟨b,off,rfl,hb,fun k p hp=> ?_⟩
 obtain⟨cs,⟨A',n',c',rfl,hp2⟩,hat⟩:=h3 b off k p rfl hp;exact⟨A',n',c',hat 0 _ rfl,hat 1 _ rfl,hat 2 _ rfl,hat 3 _ rfl,hat 4 _ rfl,hat 5 _ rfl,hp2⟩
end
section
variable {H:Type} {enc:TypeId×Value->H} {W:World} {r:Reach} {b0 base:Nat} {spare:Nat->Bool} {held:Bool} {v:Value} {d:DataW H} {p:List MemPlace}
theorem qyz (hv:Value.okWide Tryz.prog W r b0 23 v) (h:DataW.Trod enc Tryz.prog W base spare held 23 v d p):
 ∃(A:Option Addr) (n c:Nat) (L:List Qu),v=.slice A n c/\qf5 W W.heap.size A n L/\n<=9223372036854775807:=by
 obtain⟨fuel,hf⟩:=h;obtain⟨A,n,c,l,e,hp⟩:=q2i hf;obtain⟨a',n',c',rfl⟩:=okWide_slice Tryz.underlying23 hv
 simp [Value.cells] at e
 exact⟨A,n,c,l,by rw [e.1,e.2.1,e.2.2],hp⟩
end
end Go.Proofs.YtfnhnjbkkggbeaaGreat
namespace Go.Proofs.YtfnhnjbkkggbeaaGreat
open Go.RowKit Go.ChangeShapes Go.WideShapes Go.Deep Pg
theorem cItI:Tryz.prog.cellsOf 42=3:=by kernel_rfl
theorem cObI:Tryz.prog.cellsOf 40=2:=by kernel_rfl
section
variable {H:Type} {enc:TypeId×Value->H} {W:World} {base:Nat} {spare:Nat->Bool} {held:Bool} {fuel:Nat} {cs:List Value} {x:DataW H×List MemPlace}
theorem qy1 (h:DataW.trod enc Tryz.prog W base spare held fuel 22 cs=some x):∃(A:Option Addr) (n c:Nat) (l:List (Int×Ob)),cs= [.slice A n c]/\qeo W W.heap.size A n l/\n<=9223372036854775807:=by
 obtain⟨A,n,c,l,rfl,⟨h1,h2,h3⟩,_,hnc,hcm⟩:=open_list (α:=Int×Ob) (R:=fun o cs=>∃A n c,cs= [.int .i64 o.1,.int .i64 o.2.kind,.slice A n c]/\qak W W.heap.size A n o.2.pts) Tryz.underlying22 cItI dE
  (fun n cs' y ht=>by
    obtain⟨y0,y1,m,_,hl,h0,h1⟩:=trod_struct2 Tryz.underlying42 ht;rw [cItI] at hl;obtain⟨c0,c1,c2,rfl⟩:=q7a hl;simp only [cInt,cObI] at h0 h1;obtain⟨i,e0⟩:=qgw h0;have h1' :DataW.trod enc Tryz.prog W base spare held m 40 [c1,c2]=some y1:=h1;obtain⟨z0,z1,m2,_,_,g0,g1⟩:=trod_struct2 Tryz.underlying40 h1';simp only [cInt,cPts] at g0 g1;obtain⟨k,e1⟩:=qgw g0;obtain⟨A,n,c,l,e2,hp⟩:=qoi g1
    simp at e0 e1 e2
    exact⟨⟨i,⟨k,l⟩⟩,⟨A,n,c,by rw [e0,e1,e2],hp⟩,by simp⟩) h
 refine⟨A,n,c,l,rfl,⟨h1,h2,fun b off k p hA hp=> ?_⟩,by unfold maxLen at hcm;omega⟩
 obtain⟨cs,⟨A',n',c',rfl,hp2⟩,hat⟩:=h3 b off k p hA hp;exact⟨A',n',c',hat 0 _ rfl,hat 1 _ rfl,hat 2 _ rfl,hp2⟩
end
end Go.Proofs.YtfnhnjbkkggbeaaGreat
namespace Go.Proofs.YtfnhnjbkkggbeaaGreat
open Go.RowKit Go.ChangeShapes Go.WideShapes Go.Deep Pg
section
variable {H:Type} {enc:TypeId×Value->H} {W:World} {base b0:Nat} {spare:Nat->Bool} {held:Bool} {fuel:Nat} {cs:List Value} {x:DataW H×List MemPlace} {v:Value} {d:DataW H} {p:List MemPlace}
theorem qsf {r:Reach} (hv:Value.okWide Tryz.prog W r b0 22 v) (h:DataW.Trod enc Tryz.prog W base spare held 22 v d p):
 ∃(A:Option Addr) (n c:Nat) (L:List (Int×Ob)),v=.slice A n c/\qeo W W.heap.size A n L/\n<=9223372036854775807/\n<=c/\(A=none->c=0):=by
 obtain⟨fuel,hf⟩:=h;obtain⟨A,n,c,l,e,hp,hn⟩:=qy1 hf;obtain⟨a',n',c',rfl⟩:=okWide_slice Tryz.underlying22 hv
 simp [Value.cells] at e
 obtain⟨e1,e2,e3⟩:=e;subst e1 e2 e3
 have hh:n' <=c' /\(a' =none->c' =0):=by
  rcases open_slice Tryz.underlying22 hf with ⟨h0,_⟩|⟨a,n,c,m,k,D,Pl,h0,_,hnc,_⟩
  · simp [Value.cells] at h0
    obtain⟨rfl,rfl,rfl⟩:=h0;exact⟨zhy _,fun _=>rfl⟩
  · simp [Value.cells] at h0
    obtain⟨rfl,rfl,rfl⟩:=h0;exact⟨hnc,by simp⟩
 exact⟨a',n',c',l,rfl,hp,hn,hh⟩
end
end Go.Proofs.YtfnhnjbkkggbeaaGreat
