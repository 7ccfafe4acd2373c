/-Lists of objects and of queries in memory.-/
import Derived.Test.YteodamnfgcnmmaaGreatDoorTOpcA
import Derived.Test.YteodamnfgcnmmaaGreatDoorTDist4
import Derived.Test.YteodamnfgcnmmaaGreatDoorTSplA
set_option linter.unusedVariables false
set_option linter.unusedSimpArgs false
set_option maxHeartbeats 2000000
set_option maxRecDepth 20000
namespace Go.Proofs.YteodamnfgcnmmaaGreatDoor
open Go.RowKit Pg
instance:Inhabited Ob:=⟨⟨0,[]⟩⟩
instance:Inhabited Qu:=⟨⟨0,qc8,[]⟩⟩
theorem qtd {a b:Bx} (h:qbn a b=true):qbn b a=true:=by
 unfold qbn qgt at*
 simp only [ziy,decide_eq_true_eq] at*
 exact⟨⟨h.1.2,h.1.1⟩,⟨⟨by omega,by omega⟩,by omega⟩,by omega⟩
theorem qud {o:Ob} {q:Qu} (h:qa6 o q=true):ckOb o=0/\ckQu q=0:=by
 unfold qa6 at h
 split at h
 · rename_i h1;exact h1
 · cases h
theorem qv7 {o:Ob} {q:Qu} (h:qa6 o q=true):qqx (qa4 o) q=true:=by
 obtain⟨ho,hq⟩:=qud h;obtain⟨k,b,r⟩:=q;unfold qqx
 rw [if_pos hq]
 simp only
 have hk:k=1\/k=2\/k=3\/k=4:=by
  unfold ckQu at hq
  simp only at hq
  by_cases h12:k=1\/k=2
  · omega
  · rw [if_neg h12] at hq
    by_cases h3:k=3
    · omega
    · rw [if_neg h3] at hq
      by_cases h4:k=4
      · omega
      · rw [if_neg h4] at hq;cases hq
 unfold qa6 at h;rw [if_pos ⟨ho,hq⟩] at h
 simp only at h
 rcases hk with rfl|rfl|rfl|rfl
 · have hr:qa2 b=0:=by simpa [ckQu] using hq
   rw [if_neg dE,if_neg dE]
   refine qfl ho hr ?_;unfold qa6
   rw [if_pos ⟨ho,by simpa [ckQu] using hr⟩]
   exact h
 · have hr:qa2 b=0:=by simpa [ckQu] using hq
   rw [if_neg dE,if_neg dE]
   refine qfl ho hr (q2p ho hr ?_);unfold qa6
   rw [if_pos ⟨ho,by simpa [ckQu] using hr⟩]
   exact h
 · have op:okPt b.lo=true:=by
    have:(if okPt b.lo=true then 0 else 2)=0:=by simpa [ckQu] using hq
    split at this
    · assumption
    · cases this
   rw [if_pos rfl]
   have hr:qa2 ⟨b.lo,b.lo⟩=0:=qcn.1 (qr7 op)
   have h1:=qfl (r:=⟨b.lo,b.lo⟩) ho hr (by
    unfold qa6
    rw [if_pos ⟨ho,by simpa [ckQu] using hr⟩]
    exact h)
   have hbo:=qca ho;have h2:=(q0f hbo op).1 h1;unfold bhas qo0;unfold inR at h2
   rw [hbo,op,decide_eq_true h2.1.1,decide_eq_true h2.1.2,decide_eq_true h2.2.1,decide_eq_true h2.2.2]
   rfl
 · have hr:qbb r=0:=by simpa [ckQu] using hq
   rw [if_neg dE,if_pos rfl]
   rw [if_neg dE,if_neg dE,if_neg dE] at h
   unfold qet at h;have h4:qcp ⟨4,r⟩=false:=rfl;rw [h4] at h
   cases hb:qcp o with
   | true=>
     rw [hb] at h;have hbo:=qca ho
     rw [qmg hb] at hbo ⊢
     have ho4:ckOb ⟨4,r⟩=0:=by simpa [ckOb] using hr
     have h1:=qfl (o:=⟨4,r⟩) (r:=qbv o) ho4 (qcn.1 hbo) (by
      unfold qa6
      rw [if_pos ⟨ho4,by simpa [ckQu] using qcn.1 hbo⟩]
      exact h)
     exact qtd h1
   | false=>
     rw [hb] at h
     rw [qj9 hb]
     have h2:qf3 o.pts r=true:=h;unfold qf3 at h2;rw [ziy] at h2;exact h2.1
theorem qw0 {b u:Bx} {q:Qu} (hu:okBx u=true) (hb:okBx b=true) (h:inB u b) (hc:qqx b q=true):qqx u q=true:=by
 unfold inB at h
 have hm:∀x,qbn b x=true->qbn u x=true:=fun x hx=>by
  unfold qbn qgt at*
  simp only [ziy,decide_eq_true_eq] at*
  exact⟨⟨hu,hx.1.2⟩,⟨⟨by omega,by omega⟩,by omega⟩,by omega⟩
 unfold qqx at*
 split at hc
 · rename_i h0
   rw [if_pos h0]
   split at hc
   · rename_i h3
     rw [if_pos h3]
     unfold bhas qo0 at*
     simp only [ziy,decide_eq_true_eq] at*
     exact⟨⟨hu,hc.1.2⟩,⟨⟨by omega,by omega⟩,by omega⟩,by omega⟩
   · rename_i h3
     rw [if_neg h3]
     split at hc
     · rename_i h4
       rw [if_pos h4]
       exact hm _ hc
     · rename_i h4
       rw [if_neg h4]
       exact hm _ hc
 · cases hc
theorem q0d {b u:Bx} {p:Pt} (hb:okBx b=true) (h:inB u b):boxN u p<=boxN b p:=by
 obtain⟨_,h1,h2⟩:=(Pg.qbh b).1 hb;unfold inB at h;unfold boxN;exact qts (by unfold gap;omega) (by unfold gap;omega)
theorem q20 {o:Ob} {u:Bx} {p:Pt} (ho:ckOb o=0) (op:okPt p=true) (hu:okBx u=true) (h:inB u (qa4 o)):cmpF (bxF u p) (qel o p)<=0:=by
 have h1:=q28 ho op;have hd:=ql4 ho op;have e:bxF u p=⟨boxN u p,1⟩:=by unfold bxF;rw [hu,op];rfl
 rw [qov Nat.one_pos hd] at h1
 rw [e,qov Nat.one_pos hd]
 refine zcy (zuy _ ?_) h1;exact q0d (qca ho) h
theorem qzk {a b c:Bx} (h:inB a b) (k:inB b c):inB a c:=by
 unfold inB at*
 omega
theorem qtc {l:List Bx} (h:∀b∈l,okBx b=true):qcr (l.map keyL)=l:=by
 induction l with
 | nil=>rfl
 | cons a r ih=>
   have:=ih fun b hb=>h b (by simp [hb])
   unfold qcr at this ⊢
   rw [zdy,List.filterMap_cons,qgx (qgn (h a sI)),if_pos (h a sI),this]
theorem qri {l:List Bx} (hl:l≠ []) (h:∀b∈l,okBx b=true):qes (l.map keyL)=keyL (qcj l).1:=by
 unfold qes
 rw [qtc h,if_pos (qin hl h).1]
structure ConsAt (rv:Value) (f:Nat) (Y:List Nat) (cons:Qu->Bool):Prop where
 enter:∀(args:Array Value) (w:World),(callFunc f args).run Tryz.prog w=.ok (.enter f args) w
 calls:∀(W:World) (A:Option Addr) (c:Nat) (q:Qu) (A' :Option Addr) (m c' :Nat),qch W W.heap.size A Y.length Y->Y.length<=c->(A=none->c=0)->qan W W.heap.size A' m q.ring->m<=1000000->
  C9 f #[rv,.slice A Y.length c,quV q.kind q.box A' m c'] W (Ret W (.bool (cons q)))
structure DistAt (rv:Value) (f:Nat) (Y:List Nat) (d:Pt->Fr):Prop where
 enter:∀(args:Array Value) (w:World),(callFunc f args).run Tryz.prog w=.ok (.enter f args) w
 ok:∀p,FrOk (d p)
 calls:∀(W:World) (B:Nat) (A:Option Addr) (c:Nat) (x y:Int),qch W B A Y.length Y->B<=W.heap.size->Y.length<=c->(A=none->c=0)->
  C9 f #[rv,.slice A Y.length c,ptV x y] W (Ret W (fV (d ⟨x,y⟩)))
theorem q5g (b:Bx) (p:Pt):FrOk (bxF b p):=by
 unfold bxF
 split
 · rename_i h
   rw [ziy] at h;obtain⟨⟨o1,o2⟩,o3,o4⟩:=(Pg.qbh _).1 h.1;obtain⟨p1,p2,p3,p4⟩:=qbd h.2;obtain⟨q1,q2,q3,q4⟩:=qbd o1;obtain⟨r1,r2,r3,r4⟩:=qbd o2;have g1:0<=gap p.x b.lo.x b.hi.x/\gap p.x b.lo.x b.hi.x<=2147483646:=by unfold gap;omega
   have g2:0<=gap p.y b.lo.y b.hi.y/\gap p.y b.lo.y b.hi.y<=2147483646:=by unfold gap;omega
   exact⟨qxw oQ oQ oQ oQ,by simp only;omega⟩
 · exact⟨by decide,by decide⟩
structure Cl where
 make:Ob->Nat×List Nat
 cons:List Nat->Qu->Bool
 far:List Nat->Pt->Fr
 un:List (List Nat)->List Nat
 split:List (List Nat)->List Bool
def qml (w:World) (B:Nat) (A:Option Addr) (n:Nat) (l:List Bool):Prop:=
 l.length=n/\(0<n->∃b off,A=some ⟨b,off,none⟩/\b<B/\∀(k:Nat) (x:Bool),l[k]? =some x->w.cell? ⟨b,off+k,none⟩=some (.bool x))
theorem qml.below {w w' :World} {B n:Nat} {A:Option Addr} {l:List Bool} (h:qml w B A n l) (hb:Below B w w'):qml w' B A n l:=
 ⟨h.1,fun hn=>by
  obtain⟨b,off,e,hb',hc⟩:=h.2 hn
  exact⟨b,off,e,hb',fun k x hx=>(hb.cell (p:=⟨b,off+k,none⟩) hb').trans (hc k x hx)⟩⟩
theorem qml.tr {w w' :World} {B n:Nat} {A:Option Addr} {l:List Bool} (h:qml w B A n l) (hb:Below w.heap.size w w') (hB:B<=w.heap.size):qml w' B A n l:=h.below (hb.mono hB)
theorem q29 {w:World} {B B' n:Nat} {A:Option Addr} {l:List Bool} (h:qml w B A n l) (hB:B<=B'):qml w B' A n l:=
 ⟨h.1,fun hn=>by
  obtain⟨b,off,e,hb,hc⟩:=h.2 hn
  exact⟨b,off,e,by omega,hc⟩⟩
structure SplAt (rv:Value) (f:Nat) (L:List (List Nat)) (s:List Bool):Prop where
 enter:∀(args:Array Value) (w:World),(callFunc f args).run Tryz.prog w=.ok (.enter f args) w
 len:s.length<=1000000
 calls:∀(W:World) (B:Nat) (A:Option Addr) (c:Nat),qgf W B A L.length L->B<=W.heap.size->C9 f #[rv,.slice A L.length c] W fun e w' =>∃A' c',e=.returned (.slice A' s.length c')/\qml w' w'.heap.size A' s.length s/\Below W.heap.size W w'
theorem qe3 (B n c:Nat) (A:Option Addr) (l:List Nat) (w:World) (hl:qch w B A n l) (hB:B<=w.heap.size) (hn2:n<=1000000) (hnc:n<=c) (hAn:A=none->c=0):
 C9 51 #[.slice A n c] w (RetB w l):=by
 obtain⟨i0,hi,iz0,iz1,iz2⟩:=info_parts Tryz.infoByte;have q22:∀(w:World) (a:Option Addr) (n c n' c' :Nat),(binOp .eql 120 (.slice a n c) (.slice none n' c')).run Tryz.prog w=.ok (.bool a.isNone) w:=fun w a n c n' c' =>Lib.run_eql_slice_nil w _ _ a n c n' c' Tryz.underlying120
 cases A with
 | none=>
   have hc0:=hAn rfl;have hn0:n=0:=oQ
   subst hc0 hn0;have hl0:l= []:=zbx hl.1;subst hl0;clear hl
   go_enter Tryz.func51,Tryz.ntmps51
   go_wp2;go_ret;exact⟨_,rfl,World.ownsRow_nil _ _ _ _,bel⟩
 | some ad=>
 have hnews:∀(j:Nat) (u:Value),(qaw l)[j]? =some u->w.cell? (ad.add j)=some u:=by
  intro j u hj
  rcases Nat.eq_zero_or_pos n with h0|hn
  · have hl0:l= []:=zbx (hl.1.trans h0)
    subst hl0
    simp [qaw] at hj
  · obtain⟨b,off,e,_⟩:=hl.2 hn
    injection e with e
    subst e;exact qch.news hl hn j u hj
 have hln:=hl.1;have HN:=hdQ hnews;clear hl hnews
 go_enter Tryz.func51,Tryz.ntmps51
 go_wp2_with (at_builtin;refine wpList_append_own _ rfl _ _ 120 rfl w.heap.size 5 i0 (.int .u8 0) 1 1 Tryz.underlying120 hi iz0 iz1 iz2 rfl dE _ _ _ rfl (World.ownsRow_made w #[] 0 (zhy _) (zly _) rfl) ad n c (qaw l) rfl ?qc1 ?qc2 ?qc3 ?qc4 ?qc5 ?qc6 ?_)
 case qc1=>simp [qaw,hln]
 case qc2=>
  intro j u hj;exact Lib.cell?_alloc_some _ (HN.out j u hj)
 case qc3=>exact qfy l
 case qc4=>unfold maxLen;omega
 case qc5=>omega
 case qc6=>simp
 intro v' w1 hown hgrow hnil
 try rw [Nat.zero_add] at hown
 go_wp2;go_ret;exact⟨_,rfl,by rw [hln];exact hown,((Below.refl _ w).alloc (zhy _) _).grown hgrow sI (by intro k hk;simp [Value.ownBlock] at hk;omega)⟩
structure ClAt (t:TypeId) (rv:Value) (C:Cl) (fM fC fD fU fS:Nat):Prop where
 mM : ∀ w,(Go.method 454 t rv "Make").run Tryz.prog w = .ok (fM,rv) w
 mC : ∀ w,(Go.method 454 t rv "Consistent").run Tryz.prog w = .ok (fC,rv) w
 mD : ∀ w,(Go.method 454 t rv "Dist").run Tryz.prog w = .ok (fD,rv) w
 mU : ∀ w,(Go.method 454 t rv "Union").run Tryz.prog w = .ok (fU,rv) w
 mS : ∀ w,(Go.method 454 t rv "Split").run Tryz.prog w = .ok (fS,rv) w
 nC : ∀ w,(nilAhead 454 t rv "Consistent").run Tryz.prog w = .ok (some false) w
 nD : ∀ w,(nilAhead 454 t rv "Dist").run Tryz.prog w = .ok (some false) w
 eM:∀(args:Array Value) (w:World),(callFunc fM args).run Tryz.prog w=.ok (.enter fM args) w
 eU:∀(args:Array Value) (w:World),(callFunc fU args).run Tryz.prog w=.ok (.enter fU args) w
 form:∀o,(∀x∈(C.make o).2,x<256)/\(C.make o).2.length<=1000000
 formU:∀L,(∀l∈L,∀x∈l,x<256)->(∀l∈L,l.length<=1000000)->(∀x∈C.un L,x<256)/\(C.un L).length<=1000000
 make:∀(W:World) (B m c:Nat) (k:Int) (A:Option Addr) (l:List Pt),qan W B A m l->B<=W.heap.size->m<=1000000->
  C9 fM #[rv,obV k A m c] W fun e w' =>∃s v,e=.returned (.tuple #[s,v])/\w'.ownsRow W.heap.size 5 1 s (C.make ⟨k,l⟩).2.length (qaw (C.make ⟨k,l⟩).2)/\((C.make ⟨k,l⟩).1=0->v=.nilIface)/\((C.make ⟨k,l⟩).1≠0->∃t u,v=.iface t u)/\Below W.heap.size W w'
 cons:∀Y,(∀x∈Y,x<256)->Y.length<=1000000->ConsAt rv fC Y (C.cons Y)
 far:∀Y,(∀x∈Y,x<256)->Y.length<=1000000->DistAt rv fD Y (C.far Y)
 un:∀(W:World) (B c:Nat) (A:Option Addr) (L:List (List Nat)),qgf W B A L.length L->B<=W.heap.size->L.length<=1000000->(∀l∈L,∀x∈l,x<256)->(∀l∈L,l.length<=1000000)->C9 fU #[rv,.slice A L.length c] W (RetB W (C.un L))
 split:∀L,L.length<=1000000->(∀l∈L,∀x∈l,x<256)->(∀l∈L,l.length<=1000000)->SplAt rv fS L (C.split L)
def sumS:Nat->List Nat->Nat
 | n,[]=>n
 | n,x::r=>if 1099511627776-n<x then 1099511627776 else sumS (n+x) r
theorem qxv {xs:List Nat} {k:Nat} (m:Nat) (hk:k<xs.length):sumS m (xs.drop k)=if 1099511627776-m<xs[k] then 1099511627776 else sumS (m+xs[k]) (xs.drop (k+1)):=by
 rw [zgx hk,sumS]
theorem qrk:∀(xs:List Nat) (n:Nat),n<=1099511627776->n<=sumS n xs/\sumS n xs<=1099511627776
 | [],n,h=>⟨zhy _,h⟩
 | x::r,n,h=>by
   unfold sumS
   split
   · omega
   · have:=qrk r (n+x) oQ
     omega
theorem qmy:∀(xs:List Nat) (n:Nat),n<=1099511627776->sumS n xs<1099511627776->sumS n xs=n+xs.sum
 | [],n,h,_=>by simp [sumS]
 | x::r,n,h,h2=>by
   unfold sumS at h2 ⊢
   split at h2
   · omega
   · rename_i h3
     rw [if_neg h3,qmy r (n+x) oQ h2,List.sum_cons]
     omega
abbrev q6s (xs:List Nat):Array Value:=(xs.map fun x:Nat=>Value.int .i64 (x:Int)).toArray
theorem q30 (g n N:Nat) (t:TypeId) (xs:List Nat) (w:World) (hg:Blk w g t (q6s xs)) (hN:xs.length=N) (hN2:N<=1000000) (hn:n<=1099511627776):
 C9 40 #[.int .i64 n,.slice (some ⟨g,0,none⟩) N N] w fun e w' =>e=.returned (.int .i64 (sumS n xs:Nat))/\w=w' :=by
 have HG:=hdQ hg;clear hg
 go_enter Tryz.func40,Tryz.ntmps40
 go_wp2_with fail
 go_loopw [0,5] (fun vn vi wr=>∃k m:Nat,k<=N/\vi=.int .i64 k/\vn=.int .i64 m/\m<=1099511627776/\sumS m (xs.drop k)=sumS n xs/\w=wr) (fun _ vi _=>N-(intOf vi).toNat)
 case atStart=>exact ⟨0,n,by omega,rfl,rfl,hn,rfl,rfl⟩
 case round=>
  obtain⟨k,m,hk,rfl,rfl,hm,hs,rfl⟩:=hrel
  by_cases hlt:k<N
  · have hk1:(k:Int)<(N:Int):=oQ
    have hkl:k<xs.length:=oQ
    rw [qxv m hkl] at hs;have cG:w.cell? ⟨g,k,none⟩=some (.int .i64 (xs[k]:Int)):=by rw [HG.out.cell];simp [hkl]
    obtain⟨x,hx⟩:∃x,xs[k]=x:=⟨_,rfl⟩;rw [hx] at hs cG;have hm1:decide ((1099511627776:Int)<(m:Int))=false:=decide_eq_false oQ
    have hw:IntKind.i64.wrap (1099511627776-(m:Int))=((1099511627776-m:Nat):Int):=by rw [IntKind.wrap_i64];omega
    have hm2:¬ 1099511627776<m:=oQ
    have HS:=hdQ hs;have HX:=hdQ hx
    by_cases hb:1099511627776-m<x
    · have hb1:((1099511627776-m:Nat):Int)<(x:Int):=oQ
      have HE:Hid (sumS n xs=1099511627776):=by have:=HS.out;rw [if_pos hb] at this;exact this.symm
      clear hs hx hm hb;generalize 1099511627776-m=d at*;go_wp2_with fail;go_ret;exact⟨by rw [HE.out];rfl,rfl⟩
    · have hb1:¬ ((1099511627776-m:Nat):Int)<(x:Int):=oQ
      have hb2:m+x<=1099511627776:=oQ
      have HE:Hid (sumS (m+x) (xs.drop (k+1))=sumS n xs):=by have:=HS.out;rw [if_neg hb] at this;exact this
      have hw2:IntKind.i64.wrap ((m:Int)+(x:Int))=((m+x:Nat):Int):=by rw [IntKind.wrap_i64];omega
      have HB2:=hdQ hb2;have hb4:¬ 1099511627776-m<x:=hb;clear hs hx hm hb hb2;generalize 1099511627776-m=d at*;go_wp2_with fail
      go_roundw
      case rel=>exact ⟨k+1,m+x,by omega,by go_num,by go_num,HB2.out,HE.out,trivial⟩
      case measure=>simp [intOf];omega
  · obtain rfl:N=k:=oQ
    rw [List.drop_of_length_le oQ] at hs
    have HE:Hid (sumS n xs=m):=hs.symm;clear hs;go_wp2_with fail;go_ret;exact⟨by rw [HE.out];rfl,rfl⟩
theorem qxu (g n x:Nat) (t:TypeId) (w:World) (hg:Blk w g t #[.int .i64 (x:Int)]) (hn:n<=1099511627776):
 C9 40 #[.int .i64 n,.slice (some ⟨g,0,none⟩) 1 1] w fun e w' =>e=.returned (.int .i64 (sumS n [x]:Nat))/\w=w' :=q30 g n 1 t [x] w hg rfl dE hn
theorem q01 (g x:Nat) (t:TypeId) (w:World) (hg:Blk w g t #[.int .i64 (x:Int)]):
 C9 40 #[.int .i64 0,.slice (some ⟨g,0,none⟩) 1 1] w fun e w' =>e=.returned (.int .i64 (sumS 0 [x]:Nat))/\w=w' :=qxu g 0 x t w hg dE
def qfk (k:Int) (n:Nat):Nat:=(k%(n:Int)).toNat
theorem qg4 {k:Int} {n:Nat} (hn:0<n):qfk k n<n:=by
 unfold qfk;have:=Int.emod_lt_of_pos k (show (0:Int)<n by omega)
 have:=Int.emod_nonneg k (show (n:Int)≠0 by omega)
 omega
theorem qrv (k:Int) {n:Nat} (hn:0<n):((qfk k n:Nat):Int)=if k.tmod n<0 then k.tmod n+n else k.tmod n:=by
 unfold qfk;have h1:=Int.emod_nonneg k (show (n:Int)≠0 by omega)
 rw [Int.toNat_of_nonneg h1]
 have h2:=Int.emod_lt_of_pos k (show (0:Int)<n by omega)
 rcases Int.lt_or_le k 0 with hk|hk
 · have e:k.tmod n= -((-k)%n):=by rw [<-Int.tmod_eq_emod_of_nonneg (by omega:0<= -k),Int.neg_tmod,Int.neg_neg]
   have e2:=Int.emod_nonneg (-k) (show (n:Int)≠0 by omega)
   have e3:=Int.emod_lt_of_pos (-k) (show (0:Int)<n by omega)
   have d1:=Int.emod_add_mul_ediv k n;have d2:=Int.emod_add_mul_ediv (-k) n
   have key:(k%n+(-k)%n)%n=0:=by
    rw [<-Int.add_emod,Int.add_right_neg,Int.zero_emod]
   rcases Decidable.em ((-k)%(n:Int)=0) with z|z
   · rw [e,z]
     simp
     rw [z,Int.add_zero,Int.emod_emod_of_dvd k (Int.dvd_refl _)] at key;exact key
   · rw [if_pos oQ,e]
     have hs:k%n+(-k)%n=n:=by
      rcases Int.lt_or_le (k%n+(-k)%n) n with h|h
      · rw [Int.emod_eq_of_lt oQ h] at key
        omega
      · have:(k%n+(-k)%n-n)%n=0:=by rw [Int.sub_emod_right];exact key
        rw [Int.emod_eq_of_lt oQ oQ] at this
        omega
     omega
 · rw [Int.tmod_eq_emod_of_nonneg hk,if_neg oQ]
theorem qe9 (k:Int) (n:Nat) (hn:0<n) (hn2:n<=1000000) (w:World):C9 41 #[.int .i64 k,.int .i64 n] w (Ret w (.int .i64 (qfk k n:Nat))):=by
 have HR:=hdQ (qrv k hn);have h1:=qg4 (k:=k) hn;obtain⟨m,hm⟩:∃m,k.tmod n=m:=⟨_,rfl⟩;rw [hm] at HR;generalize qfk k n=r at*;have hn0:¬ (n:Int)=0:=oQ
 have hlo: -(n:Int)<=m:=by
  rcases Decidable.em (m<0) with h|h
  · have:=HR.out
    rw [if_pos h] at this
    omega
  · omega
 have hhi:m<(n:Int):=by
  rcases Decidable.em (m<0) with h|h
  · omega
  · have:=HR.out
    rw [if_neg h] at this
    omega
 have hw:IntKind.i64.wrap m=m:=IntWalk.i64_in m ⟨by omega,by omega⟩
 by_cases hneg:m<0
 · have hr:(r:Int)=m+n:=by rw [HR.out,if_pos hneg]
   go_enter Tryz.func41,Tryz.ntmps41
   go_wp2;go_ret;exact⟨by simp [hw,hm,hr],bel⟩
 · have hr:(r:Int)=m:=by rw [HR.out,if_neg hneg]
   go_enter Tryz.func41,Tryz.ntmps41
   go_wp2;go_ret;exact⟨by simp [hw,hm,hr],bel⟩
theorem q2v (k:List Nat) (p:Pt):FrOk (farS k p):=by
 unfold farS
 split
 · exact⟨by decide,by decide⟩
 · exact q5g _ _
theorem qw6 {w:World} {g:Nat} {s:List Bool} (h:Blk w g 4 (s.map Value.bool).toArray):qml w w.heap.size (some ⟨g,0,none⟩) s.length s:=
 ⟨rfl,fun _=>⟨g,0,rfl,h.lt,fun k x hx=>by
  rw [Nat.zero_add,h.cell]
  simp [hx]⟩⟩
theorem qo9 (L:List (List Nat)):(∀x∈qes L,x<256)/\(qes L).length<=1000000:=by
 unfold qes
 split
 · refine⟨fun x hx=>qlv hx,?_⟩
   by_cases hne:qcr L= []
   · rename_i h
     rw [hne] at h;exact absurd h dE
   · have:=(qok (qgn (qin hne fun b hb=>qq7 hb).2.1)).2
     omega
 · exact⟨by simp,by simp⟩
end Go.Proofs.YteodamnfgcnmmaaGreatDoor
