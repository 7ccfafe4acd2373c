/-Lists of objects and of queries in memory.-/
import Derived.Test.YtjopdlmbgidigaaGreatADist4
import Derived.Test.YtjopdlmbgidigaaGreatASplR
set_option linter.unusedVariables false
set_option linter.unusedSimpArgs false
set_option maxHeartbeats 2000000
set_option maxRecDepth 20000
namespace Go.Proofs.YtjopdlmbgidigaaGreat
open Go.RowKit Pg
instance:Inhabited Ob:=⟨⟨0,[]⟩⟩
instance:Inhabited Qu:=⟨⟨0,qcu,[]⟩⟩
theorem qug {a b:Bx} (h:qbq a b=true):qbq b a=true:=by
 unfold qbq qg4 at*
 simp only [ziy,decide_eq_true_eq] at*
 exact⟨⟨h.1.2,h.1.1⟩,⟨⟨by omega,by omega⟩,by omega⟩,by omega⟩
theorem qvi {o:Ob} {q:Qu} (h:qa2 o q=true):ckOb o=0/\ckQu q=0:=by
 unfold qa2 at h
 split at h
 · rename_i h1;exact h1
 · cases h
theorem qw6 {o:Ob} {q:Qu} (h:qa2 o q=true):qry (qaw o) q=true:=by
 obtain⟨ho,hq⟩:=qvi h;obtain⟨k,b,r⟩:=q;unfold qry
 rw [if_pos hq]
 simp only
 have hk:k=1\/k=2\/k=3\/k=4:=by
  unfold ckQu at hq
  simp only at hq
  by_cases h12:k=1\/k=2
  · omega
  · rw [if_neg h12] at hq
    by_cases h3:k=3
    · omega
    · rw [if_neg h3] at hq
      by_cases h4:k=4
      · omega
      · rw [if_neg h4] at hq;cases hq
 unfold qa2 at h;rw [if_pos ⟨ho,hq⟩] at h
 simp only at h
 rcases hk with rfl|rfl|rfl|rfl
 · have hr:qa4 b=0:=by simpa [ckQu] using hq
   rw [if_neg dE,if_neg dE]
   refine qfw ho hr ?_;unfold qa2
   rw [if_pos ⟨ho,by simpa [ckQu] using hr⟩]
   exact h
 · have hr:qa4 b=0:=by simpa [ckQu] using hq
   rw [if_neg dE,if_neg dE]
   refine qfw ho hr (q3d ho hr ?_);unfold qa2
   rw [if_pos ⟨ho,by simpa [ckQu] using hr⟩]
   exact h
 · have op:okPt b.lo=true:=by
    have:(if okPt b.lo=true then 0 else 2)=0:=by simpa [ckQu] using hq
    split at this
    · assumption
    · cases this
   rw [if_pos rfl]
   have hr:qa4 ⟨b.lo,b.lo⟩=0:=qcn.1 (qmd op)
   have h1:=qfw (r:=⟨b.lo,b.lo⟩) ho hr (by
    unfold qa2
    rw [if_pos ⟨ho,by simpa [ckQu] using hr⟩]
    exact h)
   have hbo:=qb0 ho;have h2:=(qsf hbo op).1 h1;unfold bhas qp7;unfold inR at h2
   rw [hbo,op,decide_eq_true h2.1.1,decide_eq_true h2.1.2,decide_eq_true h2.2.1,decide_eq_true h2.2.2]
   rfl
 · have hr:qbg r=0:=by simpa [ckQu] using hq
   rw [if_neg dE,if_pos rfl]
   rw [if_neg dE,if_neg dE,if_neg dE] at h
   unfold qez at h;have h4:qcp ⟨4,r⟩=false:=rfl;rw [h4] at h
   cases hb:qcp o with
   | true=>
     rw [hb] at h;have hbo:=qb0 ho
     rw [qna hb] at hbo ⊢
     have ho4:ckOb ⟨4,r⟩=0:=by simpa [ckOb] using hr
     have h1:=qfw (o:=⟨4,r⟩) (r:=qbz o) ho4 (qcn.1 hbo) (by
      unfold qa2
      rw [if_pos ⟨ho4,by simpa [ckQu] using qcn.1 hbo⟩]
      exact h)
     exact qug h1
   | false=>
     rw [hb] at h
     rw [qkt hb]
     have h2:qf8 o.pts r=true:=h;unfold qf8 at h2;rw [ziy] at h2;exact h2.1
theorem qxv {b u:Bx} {q:Qu} (hu:okBx u=true) (hb:okBx b=true) (h:inB u b) (hc:qry b q=true):qry u q=true:=by
 unfold inB at h
 have hm:∀x,qbq b x=true->qbq u x=true:=fun x hx=>by
  unfold qbq qg4 at*
  simp only [ziy,decide_eq_true_eq] at*
  exact⟨⟨hu,hx.1.2⟩,⟨⟨by omega,by omega⟩,by omega⟩,by omega⟩
 unfold qry at*
 split at hc
 · rename_i h0
   rw [if_pos h0]
   split at hc
   · rename_i h3
     rw [if_pos h3]
     unfold bhas qp7 at*
     simp only [ziy,decide_eq_true_eq] at*
     exact⟨⟨hu,hc.1.2⟩,⟨⟨by omega,by omega⟩,by omega⟩,by omega⟩
   · rename_i h3
     rw [if_neg h3]
     split at hc
     · rename_i h4
       rw [if_pos h4]
       exact hm _ hc
     · rename_i h4
       rw [if_neg h4]
       exact hm _ hc
 · cases hc
theorem q03 {b u:Bx} {p:Pt} (hb:okBx b=true) (h:inB u b):boxN u p<=boxN b p:=by
 obtain⟨_,h1,h2⟩:=(Pg.qbk b).1 hb;unfold inB at h;unfold boxN;exact quu (by unfold gap;omega) (by unfold gap;omega)
theorem q3n {o:Ob} {u:Bx} {p:Pt} (ho:ckOb o=0) (op:okPt p=true) (hu:okBx u=true) (h:inB u (qaw o)):cmpF (bxF u p) (qbu o p)<=0:=by
 have h1:=q3s ho op;have hd:=qjm ho op;have e:bxF u p=⟨boxN u p,1⟩:=by unfold bxF;rw [hu,op];rfl
 rw [qp4 Nat.one_pos hd] at h1
 rw [e,qp4 Nat.one_pos hd]
 refine zcy (zuy _ ?_) h1;exact q03 (qb0 ho) h
theorem q0d {a b c:Bx} (h:inB a b) (k:inB b c):inB a c:=by
 unfold inB at*
 omega
theorem quf {l:List Bx} (h:∀b∈l,okBx b=true):qcz (l.map keyL)=l:=by
 induction l with
 | nil=>rfl
 | cons a r ih=>
   have:=ih fun b hb=>h b (by simp [hb])
   unfold qcz at this ⊢
   rw [zdy,List.filterMap_cons,qg9 (qfj (h a sI)),if_pos (h a sI),this]
theorem qsl {l:List Bx} (hl:l≠ []) (h:∀b∈l,okBx b=true):qey (l.map keyL)=keyL (qck l).1:=by
 unfold qey
 rw [quf h,if_pos (qix hl h).1]
structure ConsAt (rv:Value) (f:Nat) (Y:List Nat) (cons:Qu->Bool):Prop where
 enter:∀(args:Array Value) (w:World),(callFunc f args).run Tryz.prog w=.ok (.enter f args) w
 calls:∀(W:World) (A:Option Addr) (c:Nat) (q:Qu) (A' :Option Addr) (m c' :Nat),qb8 W W.heap.size A Y.length Y->Y.length<=c->(A=none->c=0)->qao W W.heap.size A' m q.ring->m<=1000000->
  C9 f #[rv,.slice A Y.length c,quV q.kind q.box A' m c'] W (Ret W (.bool (cons q)))
structure DistAt (rv:Value) (f:Nat) (Y:List Nat) (d:Pt->Fr):Prop where
 enter:∀(args:Array Value) (w:World),(callFunc f args).run Tryz.prog w=.ok (.enter f args) w
 ok:∀p,FrOk (d p)
 calls:∀(W:World) (B:Nat) (A:Option Addr) (c:Nat) (x y:Int),qb8 W B A Y.length Y->B<=W.heap.size->Y.length<=c->(A=none->c=0)->
  C9 f #[rv,.slice A Y.length c,ptV x y] W (Ret W (fV (d ⟨x,y⟩)))
theorem q02 (b:Bx) (p:Pt):FrOk (bxF b p):=by
 unfold bxF
 split
 · rename_i h
   rw [ziy] at h;obtain⟨⟨o1,o2⟩,o3,o4⟩:=(Pg.qbk _).1 h.1;obtain⟨p1,p2,p3,p4⟩:=qbe h.2;obtain⟨q1,q2,q3,q4⟩:=qbe o1;obtain⟨r1,r2,r3,r4⟩:=qbe o2;have g1:0<=gap p.x b.lo.x b.hi.x/\gap p.x b.lo.x b.hi.x<=2147483646:=by unfold gap;omega
   have g2:0<=gap p.y b.lo.y b.hi.y/\gap p.y b.lo.y b.hi.y<=2147483646:=by unfold gap;omega
   exact⟨qyo oQ oQ oQ oQ,by simp only;omega⟩
 · exact⟨by decide,by decide⟩
theorem qrx {o:Ob} {p:Pt} (ho:ckOb o=0) (op:okPt p=true):FrOk (qbu o p):=by
 rcases qd9 ho with ⟨h1,h2⟩|⟨_,h1,h2⟩
 · rw [qjn ho op h1]
   have:=q02 (qbz o) p;unfold bxF at this;rw [h2,op] at this;exact this
 · rw [qgk ho op h1]
   split
   · exact⟨by decide,by decide⟩
   · have h3:=(qct h2).2.2
     refine qzz fun z hz=> ?_
     obtain⟨i,hi,e⟩:=qgg hz
     rw [<-e]
     exact qy0 (qbw h3 hi) (qcw h3 hi) op
structure Cl where
 make:Ob->Nat×List Nat
 cons:List Nat->Qu->Bool
 far:List Nat->Pt->Fr
 un:List (List Nat)->List Nat
 split:List (List Nat)->List Bool
def qne (w:World) (B:Nat) (A:Option Addr) (n:Nat) (l:List Bool):Prop:=
 l.length=n/\(0<n->∃b off,A=some ⟨b,off,none⟩/\b<B/\∀(k:Nat) (x:Bool),l[k]? =some x->w.cell? ⟨b,off+k,none⟩=some (.bool x))
theorem qne.below {w w' :World} {B n:Nat} {A:Option Addr} {l:List Bool} (h:qne w B A n l) (hb:Below B w w'):qne w' B A n l:=
 ⟨h.1,fun hn=>by
  obtain⟨b,off,e,hb',hc⟩:=h.2 hn
  exact⟨b,off,e,hb',fun k x hx=>(hb.cell (p:=⟨b,off+k,none⟩) hb').trans (hc k x hx)⟩⟩
theorem qne.tr {w w' :World} {B n:Nat} {A:Option Addr} {l:List Bool} (h:qne w B A n l) (hb:Below w.heap.size w w') (hB:B<=w.heap.size):qne w' B A n l:=h.below (hb.mono hB)
theorem q3t {w:World} {B B' n:Nat} {A:Option Addr} {l:List Bool} (h:qne w B A n l) (hB:B<=B'):qne w B' A n l:=
 ⟨h.1,fun hn=>by
  obtain⟨b,off,e,hb,hc⟩:=h.2 hn
  exact⟨b,off,e,by omega,hc⟩⟩
structure SplAt (rv:Value) (f:Nat) (L:List (List Nat)) (s:List Bool):Prop where
 enter:∀(args:Array Value) (w:World),(callFunc f args).run Tryz.prog w=.ok (.enter f args) w
 len:s.length<=1000000
 calls:∀(W:World) (B:Nat) (A:Option Addr) (c:Nat),qfq W B A L.length L->B<=W.heap.size->C9 f #[rv,.slice A L.length c] W fun e w' =>∃A' c',e=.returned (.slice A' s.length c')/\qne w' w'.heap.size A' s.length s/\Below W.heap.size W w'
theorem qdy (B n c:Nat) (A:Option Addr) (l:List Nat) (w:World) (hl:qb8 w B A n l) (hB:B<=w.heap.size) (hn2:n<=1000000) (hnc:n<=c) (hAn:A=none->c=0):
 C9 28 #[.slice A n c] w (RetB w l):=by
 obtain⟨i0,hi,iz0,iz1,iz2⟩:=info_parts Tryz.infoByte;have q22:∀(w:World) (a:Option Addr) (n c n' c' :Nat),(binOp .eql 82 (.slice a n c) (.slice none n' c')).run Tryz.prog w=.ok (.bool a.isNone) w:=fun w a n c n' c' =>Lib.run_eql_slice_nil w _ _ a n c n' c' Tryz.underlying82
 cases A with
 | none=>
   have hc0:=hAn rfl;have hn0:n=0:=oQ
   subst hc0 hn0;have hl0:l= []:=zbx hl.1;subst hl0;clear hl
   go_enter Tryz.func28,Tryz.ntmps28
   go_wp2;go_ret;exact⟨_,rfl,World.ownsRow_nil _ _ _ _,bel⟩
 | some ad=>
 have hnews:∀(j:Nat) (u:Value),(qau l)[j]? =some u->w.cell? (ad.add j)=some u:=by
  intro j u hj
  rcases Nat.eq_zero_or_pos n with h0|hn
  · have hl0:l= []:=zbx (hl.1.trans h0)
    subst hl0
    simp [qau] at hj
  · obtain⟨b,off,e,_⟩:=hl.2 hn
    injection e with e
    subst e;exact qb8.news hl hn j u hj
 have hln:=hl.1;have HN:=hdQ hnews;clear hl hnews
 go_enter Tryz.func28,Tryz.ntmps28
 go_wp2_with (at_builtin;refine wpList_append_own _ rfl _ _ 82 rfl w.heap.size 5 i0 (.int .u8 0) 1 1 Tryz.underlying82 hi iz0 iz1 iz2 rfl dE _ _ _ rfl (World.ownsRow_made w #[] 0 (zhy _) (zly _) rfl) ad n c (qau l) rfl ?qc1 ?qc2 ?qc3 ?qc4 ?qc5 ?qc6 ?_)
 case qc1=>simp [qau,hln]
 case qc2=>
  intro j u hj;exact Lib.cell?_alloc_some _ (HN.out j u hj)
 case qc3=>exact qe5 l
 case qc4=>unfold maxLen;omega
 case qc5=>omega
 case qc6=>simp
 intro v' w1 hown hgrow hnil
 try rw [Nat.zero_add] at hown
 go_wp2;go_ret;exact⟨_,rfl,by rw [hln];exact hown,((Below.refl _ w).alloc (zhy _) _).grown hgrow sI (by intro k hk;simp [Value.ownBlock] at hk;omega)⟩
structure MkAt (t:TypeId) (rv:Value) (C:Cl) (fM:Nat):Prop where
 mM : ∀ w,(Go.method 398 t rv "Make").run Tryz.prog w = .ok (fM,rv) w
 eM:∀(args:Array Value) (w:World),(callFunc fM args).run Tryz.prog w=.ok (.enter fM args) w
 form:∀o,(∀x∈(C.make o).2,x<256)/\(C.make o).2.length<=1000000
 make:∀(W:World) (B m c:Nat) (k:Int) (A:Option Addr) (l:List Pt),qao W B A m l->B<=W.heap.size->m<=1000000->
  C9 fM #[rv,obV k A m c] W fun e w' =>∃s v,e=.returned (.tuple #[s,v])/\w'.ownsRow W.heap.size 5 1 s (C.make ⟨k,l⟩).2.length (qau (C.make ⟨k,l⟩).2)/\((C.make ⟨k,l⟩).1=0->v=.nilIface)/\((C.make ⟨k,l⟩).1≠0->∃t u,v=.iface t u)/\Below W.heap.size W w'
structure ClAt (t:TypeId) (rv:Value) (C:Cl) (fM fC fD fU fS:Nat):Prop where
 mM : ∀ w,(Go.method 398 t rv "Make").run Tryz.prog w = .ok (fM,rv) w
 mC : ∀ w,(Go.method 398 t rv "Consistent").run Tryz.prog w = .ok (fC,rv) w
 mD : ∀ w,(Go.method 398 t rv "Dist").run Tryz.prog w = .ok (fD,rv) w
 mU : ∀ w,(Go.method 398 t rv "Union").run Tryz.prog w = .ok (fU,rv) w
 mS : ∀ w,(Go.method 398 t rv "Split").run Tryz.prog w = .ok (fS,rv) w
 nC : ∀ w,(nilAhead 398 t rv "Consistent").run Tryz.prog w = .ok (some false) w
 nD : ∀ w,(nilAhead 398 t rv "Dist").run Tryz.prog w = .ok (some false) w
 eM:∀(args:Array Value) (w:World),(callFunc fM args).run Tryz.prog w=.ok (.enter fM args) w
 eU:∀(args:Array Value) (w:World),(callFunc fU args).run Tryz.prog w=.ok (.enter fU args) w
 form:∀o,(∀x∈(C.make o).2,x<256)/\(C.make o).2.length<=1000000
 formU:∀L,(∀l∈L,∀x∈l,x<256)->(∀l∈L,l.length<=1000000)->(∀x∈C.un L,x<256)/\(C.un L).length<=1000000
 make:∀(W:World) (B m c:Nat) (k:Int) (A:Option Addr) (l:List Pt),qao W B A m l->B<=W.heap.size->m<=1000000->
  C9 fM #[rv,obV k A m c] W fun e w' =>∃s v,e=.returned (.tuple #[s,v])/\w'.ownsRow W.heap.size 5 1 s (C.make ⟨k,l⟩).2.length (qau (C.make ⟨k,l⟩).2)/\((C.make ⟨k,l⟩).1=0->v=.nilIface)/\((C.make ⟨k,l⟩).1≠0->∃t u,v=.iface t u)/\Below W.heap.size W w'
 cons:∀Y,(∀x∈Y,x<256)->Y.length<=1000000->ConsAt rv fC Y (C.cons Y)
 far:∀Y,(∀x∈Y,x<256)->Y.length<=1000000->DistAt rv fD Y (C.far Y)
 un:∀(W:World) (B c:Nat) (A:Option Addr) (L:List (List Nat)),qfq W B A L.length L->B<=W.heap.size->L.length<=1000000->(∀l∈L,∀x∈l,x<256)->(∀l∈L,l.length<=1000000)->C9 fU #[rv,.slice A L.length c] W (RetB W (C.un L))
 split:∀L,L.length<=1000000->(∀l∈L,∀x∈l,x<256)->(∀l∈L,l.length<=1000000)->SplAt rv fS L (C.split L)
def sumS:Nat->List Nat->Nat
 | n,[]=>n
 | n,x::r=>if 1099511627776-n<x then 1099511627776 else sumS (n+x) r
theorem qyl {xs:List Nat} {k:Nat} (m:Nat) (hk:k<xs.length):sumS m (xs.drop k)=if 1099511627776-m<xs[k] then 1099511627776 else sumS (m+xs[k]) (xs.drop (k+1)):=by
 rw [zgx hk,sumS]
theorem qsn:∀(xs:List Nat) (n:Nat),n<=1099511627776->n<=sumS n xs/\sumS n xs<=1099511627776
 | [],n,h=>⟨zhy _,h⟩
 | x::r,n,h=>by
   unfold sumS
   split
   · omega
   · have:=qsn r (n+x) oQ
     omega
theorem qnw:∀(xs:List Nat) (n:Nat),n<=1099511627776->sumS n xs<1099511627776->sumS n xs=n+xs.sum
 | [],n,h,_=>by simp [sumS]
 | x::r,n,h,h2=>by
   unfold sumS at h2 ⊢
   split at h2
   · omega
   · rename_i h3
     rw [if_neg h3,qnw r (n+x) oQ h2,List.sum_cons]
     omega
abbrev q68 (xs:List Nat):Array Value:=(xs.map fun x:Nat=>Value.int .i64 (x:Int)).toArray
theorem q4s (g n N:Nat) (t:TypeId) (xs:List Nat) (w:World) (hg:Blk w g t (q68 xs)) (hN:xs.length=N) (hN2:N<=1000000) (hn:n<=1099511627776):
 C9 19 #[.int .i64 n,.slice (some ⟨g,0,none⟩) N N] w fun e w' =>e=.returned (.int .i64 (sumS n xs:Nat))/\w=w' :=by
 have HG:=hdQ hg;clear hg
 go_enter Tryz.func19,Tryz.ntmps19
 go_wp2_with fail
 go_loopw [0,5] (fun vn vi wr=>∃k m:Nat,k<=N/\vi=.int .i64 k/\vn=.int .i64 m/\m<=1099511627776/\sumS m (xs.drop k)=sumS n xs/\w=wr) (fun _ vi _=>N-(intOf vi).toNat)
 case atStart=>exact ⟨0,n,by omega,rfl,rfl,hn,rfl,rfl⟩
 case round=>
  obtain⟨k,m,hk,rfl,rfl,hm,hs,rfl⟩:=hrel
  by_cases hlt:k<N
  · have hk1:(k:Int)<(N:Int):=oQ
    have hkl:k<xs.length:=oQ
    rw [qyl m hkl] at hs;have cG:w.cell? ⟨g,k,none⟩=some (.int .i64 (xs[k]:Int)):=by rw [HG.out.cell];simp [hkl]
    obtain⟨x,hx⟩:∃x,xs[k]=x:=⟨_,rfl⟩;rw [hx] at hs cG;have hm1:decide ((1099511627776:Int)<(m:Int))=false:=decide_eq_false oQ
    have hw:IntKind.i64.wrap (1099511627776-(m:Int))=((1099511627776-m:Nat):Int):=by rw [IntKind.wrap_i64];omega
    have hm2:¬ 1099511627776<m:=oQ
    have HS:=hdQ hs;have HX:=hdQ hx
    by_cases hb:1099511627776-m<x
    · have hb1:((1099511627776-m:Nat):Int)<(x:Int):=oQ
      have HE:Hid (sumS n xs=1099511627776):=by have:=HS.out;rw [if_pos hb] at this;exact this.symm
      clear hs hx hm hb;generalize 1099511627776-m=d at*;go_wp2_with fail;go_ret;exact⟨by rw [HE.out];rfl,rfl⟩
    · have hb1:¬ ((1099511627776-m:Nat):Int)<(x:Int):=oQ
      have hb2:m+x<=1099511627776:=oQ
      have HE:Hid (sumS (m+x) (xs.drop (k+1))=sumS n xs):=by have:=HS.out;rw [if_neg hb] at this;exact this
      have hw2:IntKind.i64.wrap ((m:Int)+(x:Int))=((m+x:Nat):Int):=by rw [IntKind.wrap_i64];omega
      have HB2:=hdQ hb2;have hb4:¬ 1099511627776-m<x:=hb;clear hs hx hm hb hb2;generalize 1099511627776-m=d at*;go_wp2_with fail
      go_roundw
      case rel=>exact ⟨k+1,m+x,by omega,by go_num,by go_num,HB2.out,HE.out,trivial⟩
      case measure=>simp [intOf];omega
  · obtain rfl:N=k:=oQ
    rw [List.drop_of_length_le oQ] at hs
    have HE:Hid (sumS n xs=m):=hs.symm;clear hs;go_wp2_with fail;go_ret;exact⟨by rw [HE.out];rfl,rfl⟩
theorem qyk (g n x:Nat) (t:TypeId) (w:World) (hg:Blk w g t #[.int .i64 (x:Int)]) (hn:n<=1099511627776):
 C9 19 #[.int .i64 n,.slice (some ⟨g,0,none⟩) 1 1] w fun e w' =>e=.returned (.int .i64 (sumS n [x]:Nat))/\w=w' :=q4s g n 1 t [x] w hg rfl dE hn
theorem q1u (g x:Nat) (t:TypeId) (w:World) (hg:Blk w g t #[.int .i64 (x:Int)]):
 C9 19 #[.int .i64 0,.slice (some ⟨g,0,none⟩) 1 1] w fun e w' =>e=.returned (.int .i64 (sumS 0 [x]:Nat))/\w=w' :=qyk g 0 x t w hg dE
theorem qs9 (v : Value) (w : World) : (Go.method 398 121 v "Make").run Tryz.prog w = .ok (228,v) w := by kernel_rfl
theorem q3h (k:List Nat) (p:Pt):FrOk (farS k p):=by
 unfold farS
 split
 · exact⟨by decide,by decide⟩
 · exact q02 _ _
theorem qx0 {w:World} {g:Nat} {s:List Bool} (h:Blk w g 4 (s.map Value.bool).toArray):qne w w.heap.size (some ⟨g,0,none⟩) s.length s:=
 ⟨rfl,fun _=>⟨g,0,rfl,h.lt,fun k x hx=>by
  rw [Nat.zero_add,h.cell]
  simp [hx]⟩⟩
theorem qqf (L:List (List Nat)):(∀x∈qey L,x<256)/\(qey L).length<=1000000:=by
 unfold qey
 split
 · refine⟨fun x hx=>qjh hx,?_⟩
   by_cases hne:qcz L= []
   · rename_i h
     rw [hne] at h;exact absurd h dE
   · have:=(qjg (qfj (qix hne fun b hb=>qsa hb).2.1)).2
     omega
 · exact⟨by simp,by simp⟩
def boxM (kd:Int):Cl:=⟨fun o=>(qnk kd o,qky kd o),fun _ _=>true,fun _ _=>⟨0,1⟩,fun _=> [],fun _=> []⟩
theorem qxk (args:Array Value) (w:World):(callFunc 228 args).run Tryz.prog w=.ok (.enter 228 args) w:=by kernel_rfl
theorem qtd (kd:Int) (o:Ob):(∀x∈qky kd o,x<256)/\(qky kd o).length<=1000000:=by
 unfold qky
 split
 · rename_i h
   refine⟨fun x hx=>qjh hx,?_⟩
   have hck:ckOb o=0:=by
    unfold qnk at h
    split at h
    · exact h
    · cases h
   have:=(qjg (qfj (qb0 hck))).2
   omega
 · exact⟨by simp,by simp⟩
theorem qvh (kd:Int):MkAt 121 (.agg #[.int .i64 kd]) (boxM kd) 228 where
 mM:=qs9 _
 eM:=qxk
 form:=qtd kd
 make:=fun W B m c k A l hl hB hm=>(q3w B m c kd k A l W hl hB hm).mono fun e w' h=>by
  obtain⟨s,v,rfl,h1,h2,h3⟩:=h;refine⟨s,v,rfl,h1,fun h0=> ?_,fun h0=> ?_,h3⟩
  · rcases h2 with ⟨_,h⟩|⟨h,_⟩
    · exact h
    · exact absurd h0 h
  · rcases h2 with ⟨h,_⟩|⟨_,g,d,inner,rfl,_⟩
    · exact absurd h h0
    · exact⟨_,_,rfl⟩
end Go.Proofs.YtjopdlmbgidigaaGreat
