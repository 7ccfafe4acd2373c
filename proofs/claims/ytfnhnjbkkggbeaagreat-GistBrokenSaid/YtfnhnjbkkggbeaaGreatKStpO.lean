/-Arguments opened-/
import Derived.Test.YtfnhnjbkkggbeaaGreatKStpA
import Derived.Deep.Slices
import Derived.ChangeSame
import Derived.OpenShut
import Derived.WideKeyArgs
set_option linter.unusedVariables false
set_option linter.unusedSimpArgs false
set_option maxRecDepth 100000
namespace Go.Proofs.YtfnhnjbkkggbeaaGreat
open Go.RowKit Go.ChangeShapes Go.WideShapes Go.Deep Pg
theorem q35 {l:List Value} (h:l.length=2):∃a b,l= [a,b]:=by
 match l,h with
 | [a,b],_=>exact ⟨a,b,rfl⟩
theorem list4 {l:List Value} (h:l.length=4):∃a b c d,l= [a,b,c,d]:=by
 match l,h with
 | [a,b,c,d],_=>exact ⟨a,b,c,d,rfl⟩
theorem q33 {l:List Value} (h:l.length=6):∃a b c d e f,l= [a,b,c,d,e,f]:=by
 match l,h with
 | [a,b,c,d,e,f],_=>exact ⟨a,b,c,d,e,f,rfl⟩
theorem q3b {α:Type} {l:List α} (h:l.length=3):∃a b c,l= [a,b,c]:=by
 match l,h with
 | [a,b,c],_=>exact ⟨a,b,c,rfl⟩
theorem cInt:Tryz.prog.cellsOf 3=1:=by kernel_rfl
theorem cPt:Tryz.prog.cellsOf 46=2:=by kernel_rfl
theorem cBx:Tryz.prog.cellsOf 48=4:=by kernel_rfl
theorem cPts:Tryz.prog.cellsOf 24=1:=by kernel_rfl
section
variable {H:Type} {enc:TypeId×Value->H} {W:World} {base:Nat} {spare:Nat->Bool} {held:Bool} {fuel:Nat} {cs:List Value} {x:DataW H×List MemPlace}
theorem qc8 (h:DataW.trod enc Tryz.prog W base spare held fuel 3 cs=some x):∃a:Int,cs= [.int .i64 a]:=by
 obtain⟨a,e,_⟩:=DataW.trod_int Tryz.underlying3 h;exact⟨a,e⟩
theorem qim (h:DataW.trod enc Tryz.prog W base spare held fuel 46 cs=some x):∃p:Pt,cs= [.int .i64 p.x,.int .i64 p.y]:=by
 obtain⟨y0,y1,m,_,hl,h0,h1⟩:=trod_struct2 Tryz.underlying46 h;rw [cPt] at hl;obtain⟨c0,c1,rfl⟩:=q35 hl
 focus
  simp only [cInt] at h0 h1;obtain⟨a,e0⟩:=qc8 h0;obtain⟨b,e1⟩:=qc8 h1
  simp at e0 e1
  exact⟨⟨a,b⟩,by rw [e0,e1]⟩
theorem qzb (h:DataW.trod enc Tryz.prog W base spare held fuel 48 cs=some x):∃b:Bx,cs= [.int .i64 b.lo.x,.int .i64 b.lo.y,.int .i64 b.hi.x,.int .i64 b.hi.y]:=by
 obtain⟨y0,y1,m,_,hl,h0,h1⟩:=trod_struct2 Tryz.underlying48 h;rw [cBx] at hl;obtain⟨c0,c1,c2,c3,rfl⟩:=list4 hl
 focus
  simp only [cPt] at h0 h1;obtain⟨p,e0⟩:=qim h0;obtain⟨q,e1⟩:=qim h1
  simp at e0 e1
  exact⟨⟨p,q⟩,by rw [e0.1,e0.2,e1.1,e1.2]⟩
theorem qjh (h:DataW.trod enc Tryz.prog W base spare held fuel 24 cs=some x):∃(A:Option Addr) (n c:Nat) (l:List Pt),cs= [.slice A n c]/\qal W W.heap.size A n l:=by
 rcases open_slice Tryz.underlying24 h with ⟨h0,_⟩|⟨a,n,c,m,k,D,Pl,h0,_,hnc,_,hm,_,hi⟩
 · exact⟨none,0,0,[],h0,rfl,fun h=>absurd h oQ⟩
 · have hnm:n<=m:=by rw [hm];split<;>omega
   have key:∀i,i<n->∃p:Pt,W.cell? (a.add (i*2))=some (.int .i64 p.x)/\W.cell? (a.add (i*2+1))=some (.int .i64 p.y):=by
    intro i hin;obtain⟨cs',hc,ht⟩:=hi i oQ
    rw [cPt] at hc;obtain⟨p,e⟩:=qim ht;obtain⟨_,_,hat⟩:=World.cells?_some hc;have h0:=hat 0 oQ
    have h1:=hat 1 oQ
    rw [e] at h0 h1;simp only [lcz,lcs] at h0 h1;refine⟨p,by simpa [Addr.add] using h0,?_⟩
    rw [<-h1]
    congr 1;unfold Addr.add
    by_cases hz:i*2=0
    · simp [hz]
    · simp [hz];omega
   have hpick:∃f:Nat->Pt,∀i,i<n->W.cell? (a.add (i*2))=some (.int .i64 (f i).x)/\W.cell? (a.add (i*2+1))=some (.int .i64 (f i).y):=
    ⟨fun i=>if h:i<n then Classical.choose (key i h) else⟨0,0⟩,fun i h=>by simp only [dif_pos h];exact Classical.choose_spec (key i h)⟩
   obtain⟨f,hf⟩:=hpick;refine⟨some a,n,c,(List.range n).map f,h0,by simp,fun hn=> ?_⟩
   obtain⟨b,off,sp⟩:=a
   have hsp:sp=none:=by
    have:=World.cell?_spot (hf 0 hn).1
    simpa [Addr.add] using this
   subst hsp
   have hb:b<W.heap.size:=by
    have:=(hf 0 hn).1
    rcases zry b W.heap.size with h|h
    · exact h
    · simp [Addr.add,World.cell?,zxy h] at this
   refine⟨b,off,rfl,hb,fun k p hp=> ?_⟩
   have hk:k<n:=by
    rcases zry k n with h|h
    · exact h
    · rw [zoy (by simpa using h)] at hp;cases hp
   have ep:p=f k:=by
    rw [zpx,List.getElem?_range hk] at hp
    simpa using hp.symm
   subst ep;have h1:=(hf k hk).1;have h2:=(hf k hk).2
   have e1:(⟨b,off,none⟩:Addr).add (k*2)=⟨b,off+k*2,none⟩:=by
    unfold Addr.add
    split<;>simp_all
   have e2:(⟨b,off,none⟩:Addr).add (k*2+1)=⟨b,off+k*2+1,none⟩:=by
    unfold Addr.add
    simp [Nat.add_assoc]
   rw [e1] at h1;rw [e2] at h2;exact⟨h1,h2⟩
end
section
variable {H:Type} {enc:TypeId×Value->H} {W:World} {r:Reach} {b0 base:Nat} {spare:Nat->Bool} {held:Bool} {v:Value} {d:DataW H} {p:List MemPlace}
theorem qwd (hv:Value.okWide Tryz.prog W r b0 24 v) (h:DataW.Trod enc Tryz.prog W base spare held 24 v d p):
 ∃(A:Option Addr) (n c:Nat) (l:List Pt),v=.slice A n c/\qal W W.heap.size A n l:=by
 obtain⟨fuel,hf⟩:=h;obtain⟨A,n,c,l,e,hp⟩:=qjh hf;obtain⟨a',n',c',rfl⟩:=okWide_slice Tryz.underlying24 hv
 simp [Value.cells] at e
 exact⟨A,n,c,l,by rw [e.1,e.2.1,e.2.2],hp⟩
end
theorem qnu {H:Type} {enc:TypeId×Value->H} {P:Program} (hl:laidOutB P=true) {W W' :World} (hb:Below W.heap.size W W') {sp:Nat->Bool}:
 ∀{ts:List TypeId} {vs:List Value} {ds:List (DataW H)} {ps:List MemPlace},(ts.all fun t=>P.readableRec t&&decide (t<P.types.size))=true->(∀p∈ps,p.block<W.heap.size)->(∀p∈ps,sp p.block=true)->
  DataW.TrodAll enc P W 0 (fun _=>true) true ts vs ds ps->DataW.TrodAll enc P W' 0 sp true ts vs ds ps:=by
 intro ts
 induction ts with
 | nil=>
   intro vs ds ps _ _ _ h;obtain⟨rfl,rfl,rfl⟩:=trodAll_nil h;exact trodAll_mk0
 | cons t ts ih=>
   intro vs ds ps hr hlt hs h;obtain⟨v,vs',d,ds',p,q,rfl,rfl,rfl,h1,h2⟩:=trodAll_cons h;simp only [List.all_cons,ziy,decide_eq_true_eq] at hr;refine trodAll_cons_mk (WideElems.Trod_stays hl hr.1.1 hr.1.2 h1 (fun x hx=>hb.same (hlt x (by simp [hx]))) (fun x hx=>hs x (by simp [hx]))) (ih ?_ (fun x hx=>hlt x (by simp [hx])) (fun x hx=>hs x (by simp [hx])) h2)
   simpa using hr.2
theorem qzq {H:Type} {enc:TypeId×Value->H} {P:Program} {f:Func} {s:ChangeSpec} {apart fresh handsOn again:Bool} {W W' :World} {args:Array Value} {ds gs:List (DataW H)} {before:List MemPlace} {tb:TypeId}
 (hl:laidOutB P=true) (hr:(f.params.toList.all fun t=>P.readableRec t&&decide (t<P.types.size))=true) (hrt:f.resultTypes= #[tb]) (htb:P.underlying tb=some .bool) (hvars:s.vars= [])
 (hs:s.fn H (ds++gs)={results:= [.lit (.bool true)],args:=ds})
 (hW:DataW.Whole enc P f.params.toList s.vars apart W args.toList ds gs before) (hb:Below W.heap.size W W'):s.post enc P f apart fresh handsOn again W args (.bool true) W' :=by
 have hlt:∀p∈before,p.block<W.heap.size:=fun p hp=>hW.lt p hp
 have hW2:=hW;obtain⟨p,q,hA,hV,rfl,hz,hn⟩:=hW2;rw [hvars] at hV;obtain⟨rfl,rfl⟩:=trodVars_none hV;have hA:DataW.TrodAll enc P W 0 (fun _=>true) true f.params.toList args.toList ds p:=hA
 simp only [List.append_nil] at hW hlt hs hz hn;have hargs:∀sp:Nat->Bool,(∀x∈p,sp x.block=true)->DataW.TrodAll enc P W' 0 sp true f.params.toList args.toList ds p:=fun sp hsp=>qnu hl hb hr hlt hsp hA
 have hres:∀(b:Nat) (sp:Nat->Bool) (hd:Bool),DataW.TrodAll enc P W' b sp hd f.resultTypes.toList ((Value.bool true).resultList f.resultTypes.size) [.lit (.bool true)] []:=by
  intro b sp hd
  rw [hrt]
  exact trodAll_mk1 (shut_bool htb true)
 have e1:(s.fn H (ds++ [])).results= [.lit (.bool true)]:=by rw [List.append_nil,hs]
 have e2:(s.fn H (ds++ [])).args=ds:=by rw [List.append_nil,hs]
 have e3:(s.fn H (ds++ [])).vars= []:=by rw [List.append_nil,hs]
 refine⟨ds,[],p,[],p,[],hW,by rw [e1];exact hres _ _ _,by rw [e2];exact hargs _ (fun x hx=>by simpa using hlt x hx),by rw [e3,hvars];exact rfl,World.keptBut_mono (fun x hx=>⟨hx,.inr (by simpa using hx)⟩) (hb.frame (· ∈p)),fun _=> ?_⟩
 have h12:=trodAll_append (hargs (fun _=>true) (fun _ _=>rfl)) (hres 0 (fun _=>true) true)
 refine⟨ok_one hrt rfl (okWide_bool_mk htb _),_,[],[]++p,⟨[]++p,[],h12,by rw [hvars];exact rfl,by simp,fun b off hp=> ?_,fun ha=>by simpa using hn ha⟩,fun x hx _=>by simpa using hx⟩
 have hp:MemPlace.cell b off∈p:=by simpa using hp
 rw [hb.frozen (hlt _ hp)]
 exact hz b off hp
end Go.Proofs.YtfnhnjbkkggbeaaGreat
namespace Go.Proofs.YtfnhnjbkkggbeaaGreat
open Go.RowKit Go.ChangeShapes Go.WideShapes Go.Deep Pg
theorem wf_i64 {n:Int} (h:(Lit.int .i64 n).wf=true):in64 n:=by
 simp [Lit.wf,IntKind.min,IntKind.max,IntKind.signed,IntKind.bits] at h
 unfold in64
 omega
section
variable {H:Type} {enc:TypeId×Value->H} {W:World} {base:Nat} {spare:Nat->Bool} {held:Bool} {fuel:Nat} {cs:List Value} {x:DataW H×List MemPlace}
theorem qto (h:DataW.trod enc Tryz.prog W base spare held fuel 3 cs=some x):∃a:Int,cs= [.int .i64 a]/\in64 a:=by
 obtain⟨a,e,_,hw⟩:=DataW.trod_int Tryz.underlying3 h;exact⟨a,e,wf_i64 hw⟩
end
end Go.Proofs.YtfnhnjbkkggbeaaGreat
namespace Go.Proofs.YtfnhnjbkkggbeaaGreat
open Go.RowKit Go.ChangeShapes Go.WideShapes Go.Deep Pg
def q3x {α:Type} (R:α->List Value->Prop) (sz:Nat) (w:World) (B:Nat) (A:Option Addr) (n:Nat) (l:List α):Prop:=
 l.length=n/\(0<n->∃b off,A=some ⟨b,off,none⟩/\b<B)/\∀(b off k:Nat) (p:α),A=some ⟨b,off,none⟩->l[k]? =some p->∃cs,R p cs/\∀(j:Nat) (v:Value),cs[j]? =some v->w.cell? ⟨b,off+k*sz+j,none⟩=some v
section
variable {H:Type} {enc:TypeId×Value->H} {W:World} {base:Nat} {spare:Nat->Bool} {held:Bool} {fuel:Nat} {cs:List Value} {x:DataW H×List MemPlace}
theorem open_list {α:Type} {P:Program} {R:α->List Value->Prop} {t e:TypeId} {sz:Nat} (ht:P.underlying t=some (.slice e)) (hc:P.cellsOf e=sz) (hsz:0<sz)
 (hR:∀(n:Nat) (cs' :List Value) (y:DataW H×List MemPlace),DataW.trod enc P W base spare held n e cs' =some y->∃p:α,R p cs' /\0<cs'.length)
 (h:DataW.trod enc P W base spare held fuel t cs=some x):
 ∃(A:Option Addr) (n c:Nat) (l:List α),cs= [.slice A n c]/\q3x R sz W W.heap.size A n l/\(A=none->c=0)/\n<=c/\c<=maxLen:=by
 rcases open_slice ht h with ⟨h0,_⟩|⟨a,n,c,m,k,D,Pl,h0,_,hnc,hcm,hm,_,hi⟩
 · exact⟨none,0,0,[],h0,⟨rfl,fun h=>absurd h oQ,fun b off k p e=>by cases e⟩,fun _=>rfl,zhy _,zly _⟩
 · have hnm:n<=m:=by rw [hm];split<;>omega
   rw [hc] at hi
   have key:∀i,i<n->∃p:α,∃cs',R p cs' /\0<cs'.length/\∀(j:Nat) (v:Value),cs'[j]? =some v->W.cell? ((a.add (i*sz)).add j)=some v:=by
    intro i hin;obtain⟨cs',hcs,ht⟩:=hi i oQ
    obtain⟨p,hp,hl⟩:=hR _ _ _ ht;obtain⟨h1,h2,hat⟩:=World.cells?_some hcs;refine⟨p,cs',hp,hl,fun j v hj=> ?_⟩
    have hjl:j<cs'.length:=by
     rcases zry j cs'.length with h|h
     · exact h
     · rw [zoy h] at hj;cases hj
    rw [<-hj]
    exact hat j oQ
   have hlen:((List.finRange n).map fun i=>Classical.choose (key i.val i.isLt)).length=n:=sI
   have hget:∀k (hk:k<n),((List.finRange n).map fun i=>Classical.choose (key i.val i.isLt))[k]? =some (Classical.choose (key k hk)):=fun k hk=>by
    rw [zpx,zby (by simpa using hk)]
    simp
   refine⟨some a,n,c,(List.finRange n).map fun i=>Classical.choose (key i.val i.isLt),h0,⟨hlen,fun hn=> ?_,fun b off k p hA hp=> ?_⟩,(fun e=>by cases e),hnc,hcm⟩
   · obtain⟨cs',_,hl,hat⟩:=Classical.choose_spec (key 0 hn)
     obtain⟨b,off,sp⟩:=a;have h1:=hat 0 _ (zby hl)
     have hsp:sp=none:=by
      have:=World.cell?_spot h1
      simpa [Addr.add] using this
     subst hsp;refine⟨b,off,rfl,?_⟩
     rcases zry b W.heap.size with h|h
     · exact h
     · simp [Addr.add,World.cell?,zxy h] at h1
   · injection hA with hA
     subst hA
     have hk:k<n:=by
      rcases zry k n with h|h
      · exact h
      · rw [zoy oQ] at hp;cases hp
     rw [hget k hk] at hp;injection hp with hp
     subst hp;obtain⟨cs',hr,_,hat⟩:=Classical.choose_spec (key k hk);refine⟨cs',hr,fun j v hj=> ?_⟩
     have:=hat j v hj
     have e:((⟨b,off,none⟩:Addr).add (k*sz)).add j=⟨b,off+k*sz+j,none⟩:=by
      unfold Addr.add
      split<;>split<;>simp_all
     rw [e] at this;exact this
end
end Go.Proofs.YtfnhnjbkkggbeaaGreat
namespace Go.Proofs.YtfnhnjbkkggbeaaGreat
open Go.RowKit Go.ChangeShapes Go.WideShapes Go.Deep Pg
theorem cQuO:Tryz.prog.cellsOf 50=6:=by kernel_rfl
section
variable {H:Type} {enc:TypeId×Value->H} {W:World} {base:Nat} {spare:Nat->Bool} {held:Bool} {fuel:Nat} {cs:List Value} {x:DataW H×List MemPlace}
theorem qza (h:DataW.trod enc Tryz.prog W base spare held fuel 23 cs=some x):∃(A:Option Addr) (n c:Nat) (l:List Qu),cs= [.slice A n c]/\qfn W W.heap.size A n l/\n<=9223372036854775807:=by
 obtain⟨A,n,c,l,rfl,⟨h1,h2,h3⟩,_,hnc,hcm⟩:=open_list (α:=Qu) (R:=fun o cs=>∃A n c,cs= [.int .i64 o.kind,.int .i64 o.box.lo.x,.int .i64 o.box.lo.y,.int .i64 o.box.hi.x,.int .i64 o.box.hi.y,.slice A n c]/\qal W W.heap.size A n o.ring) Tryz.underlying23 cQuO dE
  (fun n cs' y ht=>by
    obtain⟨xs,m,_,_,hl,hlen,hg⟩:=DataW.trod_struct Tryz.underlying50 ht;obtain⟨y0,y1,y2,rfl⟩:=q3b hlen;rw [cQuO] at hl;obtain⟨c0,c1,c2,c3,c4,c5,rfl⟩:=q33 hl;have h0:DataW.trod enc Tryz.prog W base spare held m 3 (([c0,c1,c2,c3,c4,c5].drop 0).take (Tryz.prog.cellsOf 3))=some y0:=hg 0 _ rfl;have h1:DataW.trod enc Tryz.prog W base spare held m 48 (([c0,c1,c2,c3,c4,c5].drop 1).take (Tryz.prog.cellsOf 48))=some y1:=hg 1 _ rfl;have h2:DataW.trod enc Tryz.prog W base spare held m 24 (([c0,c1,c2,c3,c4,c5].drop 5).take (Tryz.prog.cellsOf 24))=some y2:=hg 2 _ rfl;rw [cInt] at h0;rw [cBx] at h1;rw [cPts] at h2;obtain⟨k,e0⟩:=qc8 h0;obtain⟨b,e1⟩:=qzb h1;obtain⟨A,n,c,l,e2,hp⟩:=qjh h2
    simp at e0 e1 e2
    exact⟨⟨k,b,l⟩,⟨A,n,c,by rw [e0,e1.1,e1.2.1,e1.2.2.1,e1.2.2.2,e2],hp⟩,by simp⟩) h
 refine⟨A,n,c,l,rfl,⟨h1,fun hn=> ?_⟩,by unfold maxLen at hcm;omega⟩
 obtain⟨b,off,rfl,hb⟩:=h2 hn;refine⟨b,off,rfl,hb,fun k p hp=> ?_⟩
 obtain⟨cs,⟨A',n',c',rfl,hp2⟩,hat⟩:=h3 b off k p rfl hp;exact⟨A',n',c',hat 0 _ rfl,hat 1 _ rfl,hat 2 _ rfl,hat 3 _ rfl,hat 4 _ rfl,hat 5 _ rfl,hp2⟩
end
section
variable {H:Type} {enc:TypeId×Value->H} {W:World} {r:Reach} {b0 base:Nat} {spare:Nat->Bool} {held:Bool} {v:Value} {d:DataW H} {p:List MemPlace}
theorem qwc (hv:Value.okWide Tryz.prog W r b0 23 v) (h:DataW.Trod enc Tryz.prog W base spare held 23 v d p):
 ∃(A:Option Addr) (n c:Nat) (L:List Qu),v=.slice A n c/\qfn W W.heap.size A n L/\n<=9223372036854775807:=by
 obtain⟨fuel,hf⟩:=h;obtain⟨A,n,c,l,e,hp⟩:=qza hf;obtain⟨a',n',c',rfl⟩:=okWide_slice Tryz.underlying23 hv
 simp [Value.cells] at e
 exact⟨A,n,c,l,by rw [e.1,e.2.1,e.2.2],hp⟩
end
end Go.Proofs.YtfnhnjbkkggbeaaGreat
namespace Go.Proofs.YtfnhnjbkkggbeaaGreat
open Go.RowKit Go.ChangeShapes Go.WideShapes Go.Deep Pg
theorem cItI:Tryz.prog.cellsOf 42=3:=by kernel_rfl
theorem cObI:Tryz.prog.cellsOf 40=2:=by kernel_rfl
section
variable {H:Type} {enc:TypeId×Value->H} {W:World} {base:Nat} {spare:Nat->Bool} {held:Bool} {fuel:Nat} {cs:List Value} {x:DataW H×List MemPlace}
theorem qwe (h:DataW.trod enc Tryz.prog W base spare held fuel 22 cs=some x):∃(A:Option Addr) (n c:Nat) (l:List (Int×Ob)),cs= [.slice A n c]/\qe4 W W.heap.size A n l/\n<=9223372036854775807:=by
 obtain⟨A,n,c,l,rfl,⟨h1,h2,h3⟩,_,hnc,hcm⟩:=open_list (α:=Int×Ob) (R:=fun o cs=>∃A n c,cs= [.int .i64 o.1,.int .i64 o.2.kind,.slice A n c]/\qal W W.heap.size A n o.2.pts) Tryz.underlying22 cItI dE
  (fun n cs' y ht=>by
    obtain⟨y0,y1,m,_,hl,h0,h1⟩:=trod_struct2 Tryz.underlying42 ht;rw [cItI] at hl;obtain⟨c0,c1,c2,rfl⟩:=q3b hl;simp only [cInt,cObI] at h0 h1;obtain⟨i,e0⟩:=qc8 h0;have h1' :DataW.trod enc Tryz.prog W base spare held m 40 [c1,c2]=some y1:=h1;obtain⟨z0,z1,m2,_,_,g0,g1⟩:=trod_struct2 Tryz.underlying40 h1';simp only [cInt,cPts] at g0 g1;obtain⟨k,e1⟩:=qc8 g0;obtain⟨A,n,c,l,e2,hp⟩:=qjh g1
    simp at e0 e1 e2
    exact⟨⟨i,⟨k,l⟩⟩,⟨A,n,c,by rw [e0,e1,e2],hp⟩,by simp⟩) h
 refine⟨A,n,c,l,rfl,⟨h1,h2,fun b off k p hA hp=> ?_⟩,by unfold maxLen at hcm;omega⟩
 obtain⟨cs,⟨A',n',c',rfl,hp2⟩,hat⟩:=h3 b off k p hA hp;exact⟨A',n',c',hat 0 _ rfl,hat 1 _ rfl,hat 2 _ rfl,hp2⟩
end
end Go.Proofs.YtfnhnjbkkggbeaaGreat
namespace Go.Proofs.YtfnhnjbkkggbeaaGreat
open Go.RowKit Go.ChangeShapes Go.WideShapes Go.Deep Pg
theorem q3j:Tryz.prog.cellsOf 61=5:=by kernel_rfl
theorem q3q:Tryz.prog.cellsOf 22=1:=by kernel_rfl
theorem q19:Tryz.prog.cellsOf 4=1:=by kernel_rfl
theorem q34 {l:List Value} (h:l.length=5):∃a b c d e,l= [a,b,c,d,e]:=by
 match l,h with
 | [a,b,c,d,e],_=>exact ⟨a,b,c,d,e,rfl⟩
section
variable {H:Type} {enc:TypeId×Value->H} {W:World} {base b0:Nat} {spare:Nat->Bool} {held:Bool} {fuel:Nat} {cs:List Value} {x:DataW H×List MemPlace} {v:Value} {d:DataW H} {p:List MemPlace}
theorem qwb (h:DataW.trod enc Tryz.prog W base spare held fuel 58 cs=some x):∃(A:Option Addr) (n c:Nat) (l:List Stp),cs= [.slice A n c]/\qgh W W.heap.size A n l/\n<=9223372036854775807/\∀z∈l,in64 z.id:=by
 obtain⟨A,n,c,l,rfl,⟨h1,h2,h3⟩,_,hnc,hcm⟩:=open_list (α:=Stp) (R:=fun s cs=>∃A1 n1 c1 A2 n2 c2,cs= [.int .i64 s.kd,.int .i64 s.id,.int .i64 s.ob.kind,.slice A1 n1 c1,.slice A2 n2 c2]/\qal W W.heap.size A1 n1 s.ob.pts/\qe4 W W.heap.size A2 n2 s.its/\n2<=9223372036854775807/\in64 s.id) Tryz.underlying58 q3j dE
  (fun n cs' y ht=>by
    obtain⟨xs,m,_,_,hl,hlen,hg⟩:=DataW.trod_struct Tryz.underlying61 ht;rw [q3j] at hl;obtain⟨c0,c1,c2,c3,c4,rfl⟩:=q34 hl
    obtain⟨y0,y1,y2,y3,rfl⟩:∃a b c d,xs= [a,b,c,d]:=by
     match xs,hlen with
     | [a,b,c,d],_=>exact ⟨a,b,c,d,rfl⟩
    have h0:DataW.trod enc Tryz.prog W base spare held m 3 (([c0,c1,c2,c3,c4].drop 0).take (Tryz.prog.cellsOf 3))=some y0:=hg 0 _ rfl;have h1:DataW.trod enc Tryz.prog W base spare held m 3 (([c0,c1,c2,c3,c4].drop 1).take (Tryz.prog.cellsOf 3))=some y1:=hg 1 _ rfl;have h2:DataW.trod enc Tryz.prog W base spare held m 40 (([c0,c1,c2,c3,c4].drop 2).take (Tryz.prog.cellsOf 40))=some y2:=hg 2 _ rfl;have h3:DataW.trod enc Tryz.prog W base spare held m 22 (([c0,c1,c2,c3,c4].drop 4).take (Tryz.prog.cellsOf 22))=some y3:=hg 3 _ rfl;rw [cInt] at h0 h1;rw [cObI] at h2;rw [q3q] at h3;obtain⟨k,e0⟩:=qc8 h0;obtain⟨i,e1,hi⟩:=qto h1;have h2' :DataW.trod enc Tryz.prog W base spare held m 40 [c2,c3]=some y2:=h2;obtain⟨z0,z1,m2,_,_,g0,g1⟩:=trod_struct2 Tryz.underlying40 h2';simp only [cInt,cPts] at g0 g1;obtain⟨o,e2⟩:=qc8 g0;obtain⟨A1,n1,c1',l1,e3,hp⟩:=qjh g1;obtain⟨A2,n2,c2',l2,e4,hq,hn2⟩:=qwe h3
    simp at e0 e1 e2 e3 e4
    exact⟨⟨k,i,⟨o,l1⟩,l2⟩,⟨A1,n1,c1',A2,n2,c2',by rw [e0,e1,e2,e3,e4],hp,hq,hn2,hi⟩,by simp⟩) h
 refine⟨A,n,c,l,rfl,⟨h1,h2,fun b off k p hA hp=> ?_⟩,by unfold maxLen at hcm;omega,fun z hz=> ?_⟩
 · obtain⟨cs,⟨A1,n1,c1,A2,n2,c2,rfl,q1,q2,q3,_⟩,hat⟩:=h3 b off k p hA hp
   exact⟨A1,n1,c1,A2,n2,c2,hat 0 _ rfl,hat 1 _ rfl,hat 2 _ rfl,hat 3 _ rfl,hat 4 _ rfl,q1,q2,q3⟩
 · obtain⟨k,hk,e⟩:=List.getElem_of_mem hz
   obtain⟨b,off,rfl,hb⟩:=h2 oQ
   obtain⟨cs,⟨A1,n1,c1,A2,n2,c2,_,_,_,_,h64⟩,_⟩:=h3 b off k z rfl (by rw [zby hk,e])
   exact h64
theorem qtn {r:Reach} (hv:Value.okWide Tryz.prog W r b0 58 v) (h:DataW.Trod enc Tryz.prog W base spare held 58 v d p):
 ∃(A:Option Addr) (n c:Nat) (L:List Stp),v=.slice A n c/\qgh W W.heap.size A n L/\n<=9223372036854775807/\∀z∈L,in64 z.id:=by
 obtain⟨fuel,hf⟩:=h;obtain⟨A,n,c,l,e,hp⟩:=qwb hf;obtain⟨a',n',c',rfl⟩:=okWide_slice Tryz.underlying58 hv
 simp [Value.cells] at e
 exact⟨A,n,c,l,by rw [e.1,e.2.1,e.2.2],hp⟩
theorem qtp {r:Reach} (hv:Value.okWide Tryz.prog W r b0 34 v) (h:DataW.Trod enc Tryz.prog W base spare held 34 v d p):
 ∃(k b:Int) (one:Bool) (brk:Int),v=.agg #[.int .i64 k,.int .i64 b,.bool one,.int .i64 brk]:=by
 obtain⟨cs,rfl,hsz⟩:=okWide_struct Tryz.underlying34 hv;obtain⟨l⟩:=cs;rw [show Tryz.prog.cellsOf 34=4 by kernel_rfl] at hsz
 obtain⟨c0,c1,c2,c3,rfl⟩:=Go.Proofs.YtfnhnjbkkggbeaaGreat.list4 (by simpa using hsz)
 focus
  obtain⟨fuel,hf⟩:=h;obtain⟨xs,m,_,_,_,hlen,hg⟩:=DataW.trod_struct Tryz.underlying34 hf
  obtain⟨y0,y1,y2,y3,rfl⟩:∃a b c d,xs= [a,b,c,d]:=by
   match xs,hlen with
   | [a,b,c,d],_=>exact ⟨a,b,c,d,rfl⟩
  have h0:DataW.trod enc Tryz.prog W base spare held m 3 (([c0,c1,c2,c3].drop 0).take (Tryz.prog.cellsOf 3))=some y0:=hg 0 _ rfl;have h1:DataW.trod enc Tryz.prog W base spare held m 3 (([c0,c1,c2,c3].drop 1).take (Tryz.prog.cellsOf 3))=some y1:=hg 1 _ rfl;have h2:DataW.trod enc Tryz.prog W base spare held m 4 (([c0,c1,c2,c3].drop 2).take (Tryz.prog.cellsOf 4))=some y2:=hg 2 _ rfl;have h3:DataW.trod enc Tryz.prog W base spare held m 3 (([c0,c1,c2,c3].drop 3).take (Tryz.prog.cellsOf 3))=some y3:=hg 3 _ rfl;rw [cInt] at h0 h1 h3;rw [q19] at h2;obtain⟨k,e0⟩:=qc8 h0;obtain⟨b,e1⟩:=qc8 h1;obtain⟨o,e2,_⟩:=DataW.trod_bool Tryz.underlying4 h2;obtain⟨s,e3⟩:=qc8 h3
  simp at e0 e1 e2 e3
  exact⟨k,b,o,s,by rw [e0,e1,e2,e3]⟩
end
end Go.Proofs.YtfnhnjbkkggbeaaGreat
