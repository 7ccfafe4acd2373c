/-Lists of objects and of queries in memory.-/
import Derived.Test.YteodamnfgcnmmaaGreatROpcA
import Derived.Test.YteodamnfgcnmmaaGreatRSplA
set_option linter.unusedVariables false
set_option linter.unusedSimpArgs false
set_option maxHeartbeats 2000000
set_option maxRecDepth 20000
namespace Go.Proofs.YteodamnfgcnmmaaGreat
open Go.RowKit Pg
instance:Inhabited Ob:=⟨⟨0,[]⟩⟩
instance:Inhabited Qu:=⟨⟨0,qbz,[]⟩⟩
theorem qoc {a b:Bx} (h:qbk a b=true):qbk b a=true:=by
 unfold qbk qfr at*
 simp only [ziy,decide_eq_true_eq] at*
 exact⟨⟨h.1.2,h.1.1⟩,⟨⟨by omega,by omega⟩,by omega⟩,by omega⟩
theorem qt5 {o:Ob} {q:Qu} (h:qcp o q=true):ckOb o=0/\ckQu q=0:=by
 unfold qcp at h
 split at h
 · rename_i h1;exact h1
 · cases h
theorem qp2 {o:Ob} {q:Qu} (h:qcp o q=true):qun (qaj o) q=true:=by
 obtain⟨ho,hq⟩:=qt5 h;obtain⟨k,b,r⟩:=q;unfold qun
 rw [if_pos hq]
 simp only
 have hk:k=1\/k=2\/k=3\/k=4:=by
  unfold ckQu at hq
  simp only at hq
  by_cases h12:k=1\/k=2
  · omega
  · rw [if_neg h12] at hq
    by_cases h3:k=3
    · omega
    · rw [if_neg h3] at hq
      by_cases h4:k=4
      · omega
      · rw [if_neg h4] at hq;cases hq
 unfold qcp at h;rw [if_pos ⟨ho,hq⟩] at h
 simp only at h
 rcases hk with rfl|rfl|rfl|rfl
 · have hr:qaz b=0:=by simpa [ckQu] using hq
   rw [if_neg dE,if_neg dE]
   refine qdk ho hr ?_;unfold qcp
   rw [if_pos ⟨ho,by simpa [ckQu] using hr⟩]
   exact h
 · have hr:qaz b=0:=by simpa [ckQu] using hq
   rw [if_neg dE,if_neg dE]
   refine qdk ho hr (quf ho hr ?_);unfold qcp
   rw [if_pos ⟨ho,by simpa [ckQu] using hr⟩]
   exact h
 · have op:okPt b.lo=true:=by
    have:(if okPt b.lo=true then 0 else 2)=0:=by simpa [ckQu] using hq
    split at this
    · assumption
    · cases this
   rw [if_pos rfl]
   have hr:qaz ⟨b.lo,b.lo⟩=0:=qcd.1 (qru op)
   have h1:=qdk (r:=⟨b.lo,b.lo⟩) ho hr (by
    unfold qcp
    rw [if_pos ⟨ho,by simpa [ckQu] using hr⟩]
    exact h)
   have hbo:=qb2 ho;have h2:=(qst hbo op).1 h1;unfold bhas qm1;unfold inR at h2
   rw [hbo,op,decide_eq_true h2.1.1,decide_eq_true h2.1.2,decide_eq_true h2.2.1,decide_eq_true h2.2.2]
   rfl
 · have hr:qa7 r=0:=by simpa [ckQu] using hq
   rw [if_neg dE,if_pos rfl]
   rw [if_neg dE,if_neg dE,if_neg dE] at h
   unfold qco at h;have h4:qcn ⟨4,r⟩=false:=rfl;rw [h4] at h
   cases hb:qcn o with
   | true=>
     rw [hb] at h;have hbo:=qb2 ho
     rw [qob hb] at hbo ⊢
     have ho4:ckOb ⟨4,r⟩=0:=by simpa [ckOb] using hr
     have h1:=qdk (o:=⟨4,r⟩) (r:=qbm o) ho4 (qcd.1 hbo) (by
      unfold qcp
      rw [if_pos ⟨ho4,by simpa [ckQu] using qcd.1 hbo⟩]
      exact h)
     exact qoc h1
   | false=>
     rw [hb] at h
     rw [qmz hb]
     have h2:qff o.pts r=true:=h;unfold qff at h2;rw [ziy] at h2;exact h2.1
structure Cl where
 make:Ob->Nat×List Nat
 cons:List Nat->Qu->Bool
 far:List Nat->Pt->Fr
 un:List (List Nat)->List Nat
 split:List (List Nat)->List Bool
def qjs (w:World) (B:Nat) (A:Option Addr) (n:Nat) (l:List Bool):Prop:=
 l.length=n/\(0<n->∃b off,A=some ⟨b,off,none⟩/\b<B/\∀(k:Nat) (x:Bool),l[k]? =some x->w.cell? ⟨b,off+k,none⟩=some (.bool x))
theorem qjs.below {w w' :World} {B n:Nat} {A:Option Addr} {l:List Bool} (h:qjs w B A n l) (hb:Below B w w'):qjs w' B A n l:=
 ⟨h.1,fun hn=>by
  obtain⟨b,off,e,hb',hc⟩:=h.2 hn
  exact⟨b,off,e,hb',fun k x hx=>(hb.cell (p:=⟨b,off+k,none⟩) hb').trans (hc k x hx)⟩⟩
theorem qjs.tr {w w' :World} {B n:Nat} {A:Option Addr} {l:List Bool} (h:qjs w B A n l) (hb:Below w.heap.size w w') (hB:B<=w.heap.size):qjs w' B A n l:=h.below (hb.mono hB)
theorem qut {w:World} {B B' n:Nat} {A:Option Addr} {l:List Bool} (h:qjs w B A n l) (hB:B<=B'):qjs w B' A n l:=
 ⟨h.1,fun hn=>by
  obtain⟨b,off,e,hb,hc⟩:=h.2 hn
  exact⟨b,off,e,by omega,hc⟩⟩
structure SplAt (rv:Value) (f:Nat) (L:List (List Nat)) (s:List Bool):Prop where
 enter:∀(args:Array Value) (w:World),(callFunc f args).run Tryz.prog w=.ok (.enter f args) w
 len:s.length<=1000000
 calls:∀(W:World) (B:Nat) (A:Option Addr) (c:Nat),qez W B A L.length L->B<=W.heap.size->C9 f #[rv,.slice A L.length c] W fun e w' =>∃A' c',e=.returned (.slice A' s.length c')/\qjs w' w'.heap.size A' s.length s/\Below W.heap.size W w'
theorem qew (B n c:Nat) (A:Option Addr) (l:List Nat) (w:World) (hl:qb8 w B A n l) (hB:B<=w.heap.size) (hn2:n<=1000000) (hnc:n<=c) (hAn:A=none->c=0):
 C9 64 #[.slice A n c] w (RetB w l):=by
 obtain⟨i0,hi,iz0,iz1,iz2⟩:=info_parts Tryz.infoByte;have q22:∀(w:World) (a:Option Addr) (n c n' c' :Nat),(binOp .eql 98 (.slice a n c) (.slice none n' c')).run Tryz.prog w=.ok (.bool a.isNone) w:=fun w a n c n' c' =>Lib.run_eql_slice_nil w _ _ a n c n' c' Tryz.underlying98
 cases A with
 | none=>
   have hc0:=hAn rfl;have hn0:n=0:=oQ
   subst hc0 hn0;have hl0:l= []:=zbx hl.1;subst hl0;clear hl
   go_enter Tryz.func64,Tryz.ntmps64
   go_wp2;go_ret;exact⟨_,rfl,World.ownsRow_nil _ _ _ _,bel⟩
 | some ad=>
 have hnews:∀(j:Nat) (u:Value),(qaq l)[j]? =some u->w.cell? (ad.add j)=some u:=by
  intro j u hj
  rcases Nat.eq_zero_or_pos n with h0|hn
  · have hl0:l= []:=zbx (hl.1.trans h0)
    subst hl0
    simp [qaq] at hj
  · obtain⟨b,off,e,_⟩:=hl.2 hn
    injection e with e
    subst e;exact qb8.news hl hn j u hj
 have hln:=hl.1;have HN:=hdQ hnews;clear hl hnews
 go_enter Tryz.func64,Tryz.ntmps64
 go_wp2_with (at_builtin;refine wpList_append_own _ rfl _ _ 98 rfl w.heap.size 5 i0 (.int .u8 0) 1 1 Tryz.underlying98 hi iz0 iz1 iz2 rfl dE _ _ _ rfl (World.ownsRow_made w #[] 0 (zhy _) (zly _) rfl) ad n c (qaq l) rfl ?qc1 ?qc2 ?qc3 ?qc4 ?qc5 ?qc6 ?_)
 case qc1=>simp [qaq,hln]
 case qc2=>
  intro j u hj;exact Lib.cell?_alloc_some _ (HN.out j u hj)
 case qc3=>exact qei l
 case qc4=>unfold maxLen;omega
 case qc5=>omega
 case qc6=>simp
 intro v' w1 hown hgrow hnil
 try rw [Nat.zero_add] at hown
 go_wp2;go_ret;exact⟨_,rfl,by rw [hln];exact hown,((Below.refl _ w).alloc (zhy _) _).grown hgrow sI (by intro k hk;simp [Value.ownBlock] at hk;omega)⟩
structure ClAt (t:TypeId) (rv:Value) (C:Cl) (fM fC fD fU fS:Nat):Prop where
 mM : ∀ w,(Go.method 342 t rv "Make").run Tryz.prog w = .ok (fM,rv) w
 mU : ∀ w,(Go.method 342 t rv "Union").run Tryz.prog w = .ok (fU,rv) w
 mS : ∀ w,(Go.method 342 t rv "Split").run Tryz.prog w = .ok (fS,rv) w
 eM:∀(args:Array Value) (w:World),(callFunc fM args).run Tryz.prog w=.ok (.enter fM args) w
 eU:∀(args:Array Value) (w:World),(callFunc fU args).run Tryz.prog w=.ok (.enter fU args) w
 form:∀o,(∀x∈(C.make o).2,x<256)/\(C.make o).2.length<=1000000
 formU:∀L,(∀l∈L,∀x∈l,x<256)->(∀l∈L,l.length<=1000000)->(∀x∈C.un L,x<256)/\(C.un L).length<=1000000
 make:∀(W:World) (B m c:Nat) (k:Int) (A:Option Addr) (l:List Pt),qas W B A m l->B<=W.heap.size->m<=1000000->
  C9 fM #[rv,obV k A m c] W fun e w' =>∃s v,e=.returned (.tuple #[s,v])/\w'.ownsRow W.heap.size 5 1 s (C.make ⟨k,l⟩).2.length (qaq (C.make ⟨k,l⟩).2)/\((C.make ⟨k,l⟩).1=0->v=.nilIface)/\((C.make ⟨k,l⟩).1≠0->∃t u,v=.iface t u)/\Below W.heap.size W w'
 un:∀(W:World) (B c:Nat) (A:Option Addr) (L:List (List Nat)),qez W B A L.length L->B<=W.heap.size->L.length<=1000000->(∀l∈L,∀x∈l,x<256)->(∀l∈L,l.length<=1000000)->C9 fU #[rv,.slice A L.length c] W (RetB W (C.un L))
 split:∀L,L.length<=1000000->(∀l∈L,∀x∈l,x<256)->(∀l∈L,l.length<=1000000)->SplAt rv fS L (C.split L)
def sumS:Nat->List Nat->Nat
 | n,[]=>n
 | n,x::r=>if 1099511627776-n<x then 1099511627776 else sumS (n+x) r
theorem qq3 {xs:List Nat} {k:Nat} (m:Nat) (hk:k<xs.length):sumS m (xs.drop k)=if 1099511627776-m<xs[k] then 1099511627776 else sumS (m+xs[k]) (xs.drop (k+1)):=by
 rw [zgx hk,sumS]
theorem qnb:∀(xs:List Nat) (n:Nat),n<=1099511627776->n<=sumS n xs/\sumS n xs<=1099511627776
 | [],n,h=>⟨zhy _,h⟩
 | x::r,n,h=>by
   unfold sumS
   split
   · omega
   · have:=qnb r (n+x) oQ
     omega
theorem qj6:∀(xs:List Nat) (n:Nat),n<=1099511627776->sumS n xs<1099511627776->sumS n xs=n+xs.sum
 | [],n,h,_=>by simp [sumS]
 | x::r,n,h,h2=>by
   unfold sumS at h2 ⊢
   split at h2
   · omega
   · rename_i h3
     rw [if_neg h3,qj6 r (n+x) oQ h2,List.sum_cons]
     omega
abbrev qw1 (xs:List Nat):Array Value:=(xs.map fun x:Nat=>Value.int .i64 (x:Int)).toArray
theorem qva (g n N:Nat) (t:TypeId) (xs:List Nat) (w:World) (hg:Blk w g t (qw1 xs)) (hN:xs.length=N) (hN2:N<=1000000) (hn:n<=1099511627776):
 C9 44 #[.int .i64 n,.slice (some ⟨g,0,none⟩) N N] w fun e w' =>e=.returned (.int .i64 (sumS n xs:Nat))/\w=w' :=by
 have HG:=hdQ hg;clear hg
 go_enter Tryz.func44,Tryz.ntmps44
 go_wp2_with fail
 go_loopw [0,5] (fun vn vi wr=>∃k m:Nat,k<=N/\vi=.int .i64 k/\vn=.int .i64 m/\m<=1099511627776/\sumS m (xs.drop k)=sumS n xs/\w=wr) (fun _ vi _=>N-(intOf vi).toNat)
 case atStart=>exact ⟨0,n,by omega,rfl,rfl,hn,rfl,rfl⟩
 case round=>
  obtain⟨k,m,hk,rfl,rfl,hm,hs,rfl⟩:=hrel
  by_cases hlt:k<N
  · have hk1:(k:Int)<(N:Int):=oQ
    have hkl:k<xs.length:=oQ
    rw [qq3 m hkl] at hs;have cG:w.cell? ⟨g,k,none⟩=some (.int .i64 (xs[k]:Int)):=by rw [HG.out.cell];simp [hkl]
    obtain⟨x,hx⟩:∃x,xs[k]=x:=⟨_,rfl⟩;rw [hx] at hs cG;have hm1:decide ((1099511627776:Int)<(m:Int))=false:=decide_eq_false oQ
    have hw:IntKind.i64.wrap (1099511627776-(m:Int))=((1099511627776-m:Nat):Int):=by rw [IntKind.wrap_i64];omega
    have hm2:¬ 1099511627776<m:=oQ
    have HS:=hdQ hs;have HX:=hdQ hx
    by_cases hb:1099511627776-m<x
    · have hb1:((1099511627776-m:Nat):Int)<(x:Int):=oQ
      have HE:Hid (sumS n xs=1099511627776):=by have:=HS.out;rw [if_pos hb] at this;exact this.symm
      clear hs hx hm hb;generalize 1099511627776-m=d at*;go_wp2_with fail;go_ret;exact⟨by rw [HE.out];rfl,rfl⟩
    · have hb1:¬ ((1099511627776-m:Nat):Int)<(x:Int):=oQ
      have hb2:m+x<=1099511627776:=oQ
      have HE:Hid (sumS (m+x) (xs.drop (k+1))=sumS n xs):=by have:=HS.out;rw [if_neg hb] at this;exact this
      have hw2:IntKind.i64.wrap ((m:Int)+(x:Int))=((m+x:Nat):Int):=by rw [IntKind.wrap_i64];omega
      have HB2:=hdQ hb2;have hb4:¬ 1099511627776-m<x:=hb;clear hs hx hm hb hb2;generalize 1099511627776-m=d at*;go_wp2_with fail
      go_roundw
      case rel=>exact ⟨k+1,m+x,by omega,by go_num,by go_num,HB2.out,HE.out,trivial⟩
      case measure=>simp [intOf];omega
  · obtain rfl:N=k:=oQ
    rw [List.drop_of_length_le oQ] at hs
    have HE:Hid (sumS n xs=m):=hs.symm;clear hs;go_wp2_with fail;go_ret;exact⟨by rw [HE.out];rfl,rfl⟩
theorem qq2 (g n x:Nat) (t:TypeId) (w:World) (hg:Blk w g t #[.int .i64 (x:Int)]) (hn:n<=1099511627776):
 C9 44 #[.int .i64 n,.slice (some ⟨g,0,none⟩) 1 1] w fun e w' =>e=.returned (.int .i64 (sumS n [x]:Nat))/\w=w' :=qva g n 1 t [x] w hg rfl dE hn
theorem qtb (g x:Nat) (t:TypeId) (w:World) (hg:Blk w g t #[.int .i64 (x:Int)]):
 C9 44 #[.int .i64 0,.slice (some ⟨g,0,none⟩) 1 1] w fun e w' =>e=.returned (.int .i64 (sumS 0 [x]:Nat))/\w=w' :=qq2 g 0 x t w hg dE
def qg7 (k:Int) (n:Nat):Nat:=(k%(n:Int)).toNat
theorem qre {k:Int} {n:Nat} (hn:0<n):qg7 k n<n:=by
 unfold qg7;have:=Int.emod_lt_of_pos k (show (0:Int)<n by omega)
 have:=Int.emod_nonneg k (show (n:Int)≠0 by omega)
 omega
theorem qni (k:Int) {n:Nat} (hn:0<n):((qg7 k n:Nat):Int)=if k.tmod n<0 then k.tmod n+n else k.tmod n:=by
 unfold qg7;have h1:=Int.emod_nonneg k (show (n:Int)≠0 by omega)
 rw [Int.toNat_of_nonneg h1]
 have h2:=Int.emod_lt_of_pos k (show (0:Int)<n by omega)
 rcases Int.lt_or_le k 0 with hk|hk
 · have e:k.tmod n= -((-k)%n):=by rw [<-Int.tmod_eq_emod_of_nonneg (by omega:0<= -k),Int.neg_tmod,Int.neg_neg]
   have e2:=Int.emod_nonneg (-k) (show (n:Int)≠0 by omega)
   have e3:=Int.emod_lt_of_pos (-k) (show (0:Int)<n by omega)
   have d1:=Int.emod_add_mul_ediv k n;have d2:=Int.emod_add_mul_ediv (-k) n
   have key:(k%n+(-k)%n)%n=0:=by
    rw [<-Int.add_emod,Int.add_right_neg,Int.zero_emod]
   rcases Decidable.em ((-k)%(n:Int)=0) with z|z
   · rw [e,z]
     simp
     rw [z,Int.add_zero,Int.emod_emod_of_dvd k (Int.dvd_refl _)] at key;exact key
   · rw [if_pos oQ,e]
     have hs:k%n+(-k)%n=n:=by
      rcases Int.lt_or_le (k%n+(-k)%n) n with h|h
      · rw [Int.emod_eq_of_lt oQ h] at key
        omega
      · have:(k%n+(-k)%n-n)%n=0:=by rw [Int.sub_emod_right];exact key
        rw [Int.emod_eq_of_lt oQ oQ] at this
        omega
     omega
 · rw [Int.tmod_eq_emod_of_nonneg hk,if_neg oQ]
theorem qrd (k:Int) (n:Nat) (hn:0<n) (hn2:n<=1000000) (w:World):C9 19 #[.int .i64 k,.int .i64 n] w (Ret w (.int .i64 (qg7 k n:Nat))):=by
 have HR:=hdQ (qni k hn);have h1:=qre (k:=k) hn;obtain⟨m,hm⟩:∃m,k.tmod n=m:=⟨_,rfl⟩;rw [hm] at HR;generalize qg7 k n=r at*;have hn0:¬ (n:Int)=0:=oQ
 have hlo: -(n:Int)<=m:=by
  rcases Decidable.em (m<0) with h|h
  · have:=HR.out
    rw [if_pos h] at this
    omega
  · omega
 have hhi:m<(n:Int):=by
  rcases Decidable.em (m<0) with h|h
  · omega
  · have:=HR.out
    rw [if_neg h] at this
    omega
 have hw:IntKind.i64.wrap m=m:=IntWalk.i64_in m ⟨by omega,by omega⟩
 by_cases hneg:m<0
 · have hr:(r:Int)=m+n:=by rw [HR.out,if_pos hneg]
   go_enter Tryz.func19,Tryz.ntmps19
   go_wp2;go_ret;exact⟨by simp [hw,hm,hr],bel⟩
 · have hr:(r:Int)=m:=by rw [HR.out,if_neg hneg]
   go_enter Tryz.func19,Tryz.ntmps19
   go_wp2;go_ret;exact⟨by simp [hw,hm,hr],bel⟩
theorem qql {w:World} {g:Nat} {s:List Bool} (h:Blk w g 4 (s.map Value.bool).toArray):qjs w w.heap.size (some ⟨g,0,none⟩) s.length s:=
 ⟨rfl,fun _=>⟨g,0,rfl,h.lt,fun k x hx=>by
  rw [Nat.zero_add,h.cell]
  simp [hx]⟩⟩
theorem qlo (L:List (List Nat)):(∀x∈qfk L,x<256)/\(qfk L).length<=1000000:=by
 unfold qfk
 split
 · refine⟨fun x hx=>qjg hx,?_⟩
   by_cases hne:qcl L= []
   · rename_i h
     rw [hne] at h;exact absurd h dE
   · have:=(qlc (qk6 (qln hne fun b hb=>qmy hb).2.1)).2
     omega
 · exact⟨by simp,by simp⟩
end Go.Proofs.YteodamnfgcnmmaaGreat
