/-Lists of objects and of queries in memory.-/
import Derived.Test.YtfnhnjbkkggbeaaGreatKDist4
import Derived.Test.YtfnhnjbkkggbeaaGreatKSplR
set_option linter.unusedVariables false
set_option linter.unusedSimpArgs false
set_option maxHeartbeats 8000000
set_option maxRecDepth 20000
namespace Go.Proofs.YtfnhnjbkkggbeaaGreat
open Go.RowKit Pg
instance:Inhabited Ob:=⟨⟨0,[]⟩⟩
instance:Inhabited Qu:=⟨⟨0,qcg,[]⟩⟩
def qhi (w:World) (B:Nat) (A:Option Addr) (n:Nat) (l:List Ob):Prop:=
 l.length=n/\(0<n->∃b off,A=some ⟨b,off,none⟩/\b<B/\∀k o,l[k]? =some o->∃A' m c,w.cell? ⟨b,off+k*2,none⟩=some (.int .i64 o.kind)/\w.cell? ⟨b,off+k*2+1,none⟩=some (.slice A' m c)/\qal w B A' m o.pts)
theorem qhi.keep {w w' :World} {B n:Nat} {A:Option Addr} {l:List Ob} (h:qhi w B A n l) (hk:∀p:Addr,p.block<B->w'.cell? p=w.cell? p):qhi w' B A n l:=
 ⟨h.1,fun hn=>by
  obtain⟨b,off,e,hb,hc⟩:=h.2 hn;refine⟨b,off,e,hb,fun k o ho=> ?_⟩
  obtain⟨A',m,c,h0,h1,h2⟩:=hc k o ho
  exact⟨A',m,c,by rw [hk _ hb];exact h0,by rw [hk _ hb];exact h1,h2.keep hk⟩⟩
theorem qhi.below {w w' :World} {B n:Nat} {A:Option Addr} {l:List Ob} (h:qhi w B A n l) (hb:Below B w w'):qhi w' B A n l:=h.keep fun _ hp=>hb.cell hp
theorem qhi.tr {w w' :World} {B n:Nat} {A:Option Addr} {l:List Ob} (h:qhi w B A n l) (hb:Below w.heap.size w w') (hB:B<=w.heap.size):qhi w' B A n l:=h.below (hb.mono hB)
theorem qhi.at_ {w:World} {B n:Nat} {A:Option Addr} {l:List Ob} (h:qhi w B A n l) {k:Nat} (hk:k<n):
 ∃b off A' m c o,A=some ⟨b,off,none⟩/\b<B/\l[k]? =some o/\w.cell? ⟨b,off+k*2,none⟩=some (.int .i64 o.kind)/\w.cell? ⟨b,off+k*2+1,none⟩=some (.slice A' m c)/\qal w B A' m o.pts:=by
 obtain⟨b,off,e,hb,hc⟩:=h.2 oQ
 have hl:k<l.length:=by rw [h.1];exact hk
 obtain⟨A',m,c,h0,h1,h2⟩:=hc k _ (zby hl);exact⟨b,off,A',m,c,_,e,hb,zby hl,h0,h1,h2⟩
def qfn (w:World) (B:Nat) (A:Option Addr) (n:Nat) (l:List Qu):Prop:=
 l.length=n/\(0<n->∃b off,A=some ⟨b,off,none⟩/\b<B/\∀k q,l[k]? =some q->∃A' m c,w.cell? ⟨b,off+k*6,none⟩=some (.int .i64 q.kind)/\w.cell? ⟨b,off+k*6+1,none⟩=some (.int .i64 q.box.lo.x)/\w.cell? ⟨b,off+k*6+2,none⟩=some (.int .i64 q.box.lo.y)/\w.cell? ⟨b,off+k*6+3,none⟩=some (.int .i64 q.box.hi.x)/\w.cell? ⟨b,off+k*6+4,none⟩=some (.int .i64 q.box.hi.y)/\w.cell? ⟨b,off+k*6+5,none⟩=some (.slice A' m c)/\qal w B A' m q.ring)
theorem qfn.keep {w w' :World} {B n:Nat} {A:Option Addr} {l:List Qu} (h:qfn w B A n l) (hk:∀p:Addr,p.block<B->w'.cell? p=w.cell? p):qfn w' B A n l:=
 ⟨h.1,fun hn=>by
  obtain⟨b,off,e,hb,hc⟩:=h.2 hn;refine⟨b,off,e,hb,fun k o ho=> ?_⟩
  obtain⟨A',m,c,h0,h1,h2,h3,h4,h5,h6⟩:=hc k o ho
  exact⟨A',m,c,by rw [hk _ hb];exact h0,by rw [hk _ hb];exact h1,by rw [hk _ hb];exact h2,by rw [hk _ hb];exact h3,by rw [hk _ hb];exact h4,by rw [hk _ hb];exact h5,h6.keep hk⟩⟩
theorem qfn.below {w w' :World} {B n:Nat} {A:Option Addr} {l:List Qu} (h:qfn w B A n l) (hb:Below B w w'):qfn w' B A n l:=h.keep fun _ hp=>hb.cell hp
theorem qfn.tr {w w' :World} {B n:Nat} {A:Option Addr} {l:List Qu} (h:qfn w B A n l) (hb:Below w.heap.size w w') (hB:B<=w.heap.size):qfn w' B A n l:=h.below (hb.mono hB)
theorem qfn.at_ {w:World} {B n:Nat} {A:Option Addr} {l:List Qu} (h:qfn w B A n l) {k:Nat} (hk:k<n):
 ∃b off A' m c q,A=some ⟨b,off,none⟩/\b<B/\l[k]? =some q/\(w.cell? ⟨b,off+k*6,none⟩=some (.int .i64 q.kind)/\w.cell? ⟨b,off+k*6+1,none⟩=some (.int .i64 q.box.lo.x)/\w.cell? ⟨b,off+k*6+2,none⟩=some (.int .i64 q.box.lo.y)/\w.cell? ⟨b,off+k*6+3,none⟩=some (.int .i64 q.box.hi.x)/\w.cell? ⟨b,off+k*6+4,none⟩=some (.int .i64 q.box.hi.y)/\w.cell? ⟨b,off+k*6+5,none⟩=some (.slice A' m c))/\qal w B A' m q.ring:=by
 obtain⟨b,off,e,hb,hc⟩:=h.2 oQ
 have hl:k<l.length:=by rw [h.1];exact hk
 obtain⟨A',m,c,h0,h1,h2,h3,h4,h5,h6⟩:=hc k _ (zby hl);exact⟨b,off,A',m,c,_,e,hb,zby hl,⟨h0,h1,h2,h3,h4,h5⟩,h6⟩
theorem qmf (B n c:Nat) (A:Option Addr) (l:List Nat) (w:World) (hl:qbm w B A n l) (hB:B<=w.heap.size) (hn2:n<=1000000) (hnc:n<=c) (hAn:A=none->c=0):
 C9 36 #[.slice A n c] w fun e w' =>∃A' c',e=.returned (.slice A' n c')/\qbm w' w'.heap.size A' n l/\n<=c' /\(A' =none->c' =0)/\Below w.heap.size w w' :=by
 obtain⟨i0,hi,iz0,iz1,iz2⟩:=info_parts Tryz.infoByte;have q22:∀(w:World) (a:Option Addr) (n c n' c' :Nat),(binOp .eql 94 (.slice a n c) (.slice none n' c')).run Tryz.prog w=.ok (.bool a.isNone) w:=fun w a n c n' c' =>Lib.run_eql_slice_nil w _ _ a n c n' c' Tryz.underlying94
 cases A with
 | none=>
   have hc0:=hAn rfl;have hn0:n=0:=oQ
   subst hc0 hn0;have hl0:l= []:=zbx hl.1;subst hl0;clear hl
   go_enter Tryz.func36,Tryz.ntmps36
   go_wp2;go_ret;refine⟨none,0,rfl,⟨rfl,fun h=>absurd h oQ⟩,?_⟩
   first|exact⟨zhy _,fun _=>rfl,bel⟩|exact⟨fun _=>rfl,bel⟩
 | some ad=>
 have hnews:∀(j:Nat) (u:Value),(qap l)[j]? =some u->w.cell? (ad.add j)=some u:=by
  intro j u hj
  rcases Nat.eq_zero_or_pos n with h0|hn
  · have hl0:l= []:=zbx (hl.1.trans h0)
    subst hl0
    simp [qap] at hj
  · obtain⟨b,off,e,_⟩:=hl.2 hn
    injection e with e
    subst e;exact qbm.news hl hn j u hj
 have hln:=hl.1;have HN:=hdQ hnews;clear hl hnews
 go_enter Tryz.func36,Tryz.ntmps36
 go_wp2_with (at_builtin;refine wpList_append_own _ rfl _ _ 94 rfl w.heap.size 5 i0 (.int .u8 0) 1 1 Tryz.underlying94 hi iz0 iz1 iz2 rfl dE _ _ _ rfl (World.ownsRow_made w #[] 0 (zhy _) (zly _) rfl) ad n c (qap l) rfl ?qc1 ?qc2 ?qc3 ?qc4 ?qc5 ?qc6 ?_)
 case qc1=>simp [qap,hln]
 case qc2=>
  intro j u hj;exact Lib.cell?_alloc_some _ (HN.out j u hj)
 case qc3=>exact qdp l
 case qc4=>unfold maxLen;omega
 case qc5=>omega
 case qc6=>simp
 intro v' w1 hown hgrow hnil
 try rw [Nat.zero_add] at hown
 obtain⟨A1,c1,rfl,h1,h2,h3,h4⟩:=qa0 (l:=l) hown;go_wp2;go_ret;exact⟨A1,c1,rfl,h1,h4,h3,((Below.refl _ w).alloc (zhy _) _).grown hgrow sI (by intro k hk;simp [Value.ownBlock] at hk;omega)⟩
def qja (cons:Qu->Bool) (l:List Ob) (q:List Qu):Bool:=l.all fun o=>q.all fun x=> !qer o x||cons x
theorem qa9 {α:Type} {p:α->Bool} {l:List α} {k:Nat} {x:α} (h:l[k]? =some x):(l.take (k+1)).all p=((l.take k).all p&&p x):=by
 rw [zwy,h]
 simp
theorem qe3 {α:Type} {p:α->Bool} {l:List α} {n:Nat} (hn:l.length=n):(l.take n).all p=l.all p:=by rw [zmy oQ]
theorem qfm {α:Type} {p:α->Bool} {l:List α} {k:Nat} {x:α} (h:l[k]? =some x) (hp:p x=false):l.all p=false:=by
 rw [List.all_eq_false]
 exact⟨x,zjy h,by simp [hp]⟩
theorem qyy {w:World} {B B' n:Nat} {A:Option Addr} {l:List Pt} (h:qal w B A n l) (hB:B<=B'):qal w B' A n l:=
 ⟨h.1,fun hn=>by
  obtain⟨b,off,e,hb,hc⟩:=h.2 hn
  exact⟨b,off,e,by omega,hc⟩⟩
structure ConsAt (rv:Value) (f:Nat) (Y:List Nat) (cons:Qu->Bool):Prop where
 enter:∀(args:Array Value) (w:World),(callFunc f args).run Tryz.prog w=.ok (.enter f args) w
 calls:∀(W:World) (A:Option Addr) (c:Nat) (q:Qu) (A' :Option Addr) (m c' :Nat),qbm W W.heap.size A Y.length Y->Y.length<=c->(A=none->c=0)->qal W W.heap.size A' m q.ring->m<=1000000->
  C9 f #[rv,.slice A Y.length c,quV q.kind q.box A' m c'] W (Ret W (.bool (cons q)))
theorem q0d (t : TypeId) (rv : Value) (f : Nat) (Y : List Nat) (cons : Qu -> Bool) (hmC : ∀ w,(Go.method 408 t rv "Consistent").run Tryz.prog w = .ok (f,rv) w) (hnC : ∀ w,(nilAhead 408 t rv "Consistent").run Tryz.prog w = .ok (some false) w) (hC : ConsAt rv f Y cons)
 (B c n1 c1 n2 c2:Nat) (A A1 A2:Option Addr) (l:List Ob) (q:List Qu) (w:World) (hK:qbm w B A Y.length Y) (hKc:Y.length<=c) (hKA:A=none->c=0) (hK1:Y.length<=1000000) (hl:qhi w B A1 n1 l) (hq:qfn w B A2 n2 q) (hB:B<=w.heap.size)
 (hn1:n1<=1000000) (hn2:n2<=1000000) (hlo:∀o∈l,o.pts.length<=1000000) (hqo:∀x∈q,x.ring.length<=1000000):
 C9 137 #[.iface t rv,.slice A Y.length c,.slice A1 n1 c1,.slice A2 n2 c2] w (Ret w (.bool (qja cons l q))):=by
 have hl1:=hl.1;have hq1:=hq.1;have HL:=hdQ hl;have HQ:=hdQ hq;have HLO:=hdQ hlo;have HQO:=hdQ hqo;have HCl:=hdQ (fun W (hW:Below w.heap.size w W)=>qmf B Y.length c A Y W (hK.tr hW hB) (zcy hB hW.size) hK1 hKc hKA)
 have HCC:=hdQ hC.calls;have hEn:=hC.enter;clear hl hq hlo hqo hK hC
 go_enter Tryz.func137,Tryz.ntmps137
 go_wp2_with fail
 go_loopw [15] (fun vi wr=>∃i:Nat,i<=n1/\vi=.int .i64 i/\qja cons (l.take i) q=true/\Below w.heap.size w wr) (fun vi _=>n1-(intOf vi).toNat)
 case atStart=>exact ⟨0,by omega,rfl,rfl,bel⟩
 case round=>
  obtain⟨i,hi,rfl,ha,hb⟩:=hrel;have hbz:=hb.size
  by_cases hlt:i<n1
  case neg=>
   obtain rfl:n1=i:=oQ
   have HF:Hid (qja cons l q=true):=by
    unfold Hid;unfold qja at ha ⊢;rw [qe3 hl1] at ha;exact ha
   clear ha;go_wp2_with fail;go_ret;exact⟨qae HF.out.symm,bel⟩
  have hi1:(i:Int)<(n1:Int):=oQ
  obtain⟨b,off,A',m,c',o,rfl,hab,ho,h0,h1,hpo⟩:=(HL.out.below (hb.mono hB)).at_ hlt;have hbw:b<wr.heap.size:=oQ
  have hm1:m<=1000000:=by rw [<-hpo.1];exact HLO.out o (zjy ho)
  have HO:=hdQ ho;have HP:=hdQ hpo;have HA:=hdQ ha;obtain⟨ok,ol⟩:=o
  simp only at h0 h1 hpo
  clear ho hpo ha;go_wp2_with fail;obtain⟨G,hG⟩:∃G,wr.heap.size=G:=⟨_,rfl⟩;refine qbt (R:=fun w2=>Blk w2 G 40 #[.int .i64 ok,.slice A' m c']/\qal w2 B A' m ol/\Below w.heap.size w w2) ⟨by subst hG;exact blkA,HP.out.keep (fun p hp=>by rw [World.cell?_alloc_lt _ _ _ oQ]),bel⟩ ?_
  clear h0 h1 HP hbw hb hbz;rintro w2 ⟨hO,hPo,hb⟩
  simp only [hG]
  go_loopw [21] (fun vj w4=>∃j:Nat,j<=n2/\vj=.int .i64 j/\(q.take j).all (fun x=> !qer ⟨ok,ol⟩ x||cons x)=true/\Blk w4 G 40 #[.int .i64 ok,.slice A' m c']/\qal w4 B A' m ol/\Below w.heap.size w w4) (fun vj _=>n2-(intOf vj).toNat)
  case atStart=>exact ⟨0,by omega,rfl,rfl,hO,hPo,hb⟩
  case round=>
   clear hO hPo hb;obtain⟨j,hj,rfl,ha,hO,hPo,hb⟩:=hrel;have hbz:=hb.size;have cO:=hO.cell;have lO:=hO.lt
   by_cases hlt2:j<n2
   case neg=>
    obtain rfl:n2=j:=oQ
    have HX:Hid (qja cons (l.take (i+1)) q=true):=by
     unfold Hid;have h1:=HA.out;unfold qja at h1 ⊢
     rw [qa9 HO.out,h1,Bool.true_and]
     rw [qe3 hq1] at ha;exact ha
    clear ha hPo;go_wp2_with fail
    go_roundw
    case rel=>exact ⟨i+1,by omega,by go_num,HX.out,bel⟩
    case measure=>simp [intOf];omega
   have hj1:(j:Int)<(n2:Int):=oQ
   obtain⟨b2,off2,A2',m2,c2',x,rfl,hab2,hx,⟨g0,g1,g2,g3,g4,g5⟩,hpx⟩:=(HQ.out.below (hb.mono hB)).at_ hlt2;have hbw:b2<wr.heap.size:=oQ
   have hm2:m2<=1000000:=by rw [<-hpx.1];exact HQO.out x (zjy hx)
   have HX:=hdQ hx;have HA2:=hdQ ha;have HPo:=hdQ hPo;obtain⟨xk,xb,xr⟩:=x
   simp only at g0 g1 g2 g3 g4 g5 hpx
   have hBw:B<=wr.heap.size:=oQ
   have HM:=hdQ (fun W (hW:Below wr.heap.size wr W)=>qon B m c' m2 c2' ok xk xb A' A2' ol xr W (hPo.tr hW hBw) (hpx.tr hW hBw) (zcy hBw hW.size) hm1 hm2)
   have HXP:=hdQ (fun W (hW:Below wr.heap.size wr W)=>qyy (hpx.tr hW hBw) (zcy hBw hW.size))
   obtain⟨mv,hmv⟩:∃v,qer ⟨ok,ol⟩ ⟨xk,xb,xr⟩=v:=⟨_,rfl⟩;obtain⟨cv,hcv⟩:∃v,cons ⟨xk,xb,xr⟩=v:=⟨_,rfl⟩;rw [hmv] at HM
   have hcc:∀W A c A' m c',qbm W W.heap.size A Y.length Y->Y.length<=c->(A=none->c=0)->qal W W.heap.size A' m xr->m<=1000000->C9 f #[rv,.slice A Y.length c,quV xk xb A' m c'] W (Ret W (.bool cv)):=fun W A c A' m c' h1 h2 h3 h4 h5=>by
    have:=HCC.out W A c ⟨xk,xb,xr⟩ A' m c' h1 h2 h3 h4 h5;rw [hcv] at this;exact this
   have HC2:=hdQ hcc;have HMV:=hdQ hmv;have HCV:=hdQ hcv;clear hx ha hPo hpx hmv hcv hcc;obtain⟨⟨xa,xb'⟩,⟨xc,xd⟩⟩:=xb
   simp only at g1 g2 g3 g4
   cases mv
   case false=>
    go_wp2_with fail;refine qah [0,1,2,3,4,5,7,8,9,10,6,11,12,13] kr kr pq ?_
    simp only [zdy,zey,ldz,lds,bare,qak,lcz,lcs,zay]
    repeat' ((try simp only [Act.put,lsi,lsz,lss]);first|(refine qbj ?_ ?_;focus(simp only [lAq,zgy,zfy];done))|(refine qa3 ?_ ?_ ?_;(focus(simp only [lAq,zgy,zfy];done));(focus(exact bel)))|(refine qaw (X:= ?_) ?_ ?_ (fun hg=> ?_) (fun hg=> ?_);rotate_left;(focus(simp only [lAq];with_reducible rfl));(focus(exact bel));all_goals(try simp only [zgy,zfy] at hg))|(refine lqx ?_)|(refine qab qaa rfl (fun K hK=> ?_);go_simp;((first |  (go_at_call 56;(with_reducible refine(HM.out _ bel).mono ?_);rintro e w5 ⟨rfl,hb5⟩)|(go_at_call 36;(with_reducible refine(HCl.out _ bel).mono ?_);rintro e w6 ⟨Ac,cc,rfl,hBc,hnc,hzc,hb6⟩)|((refine(HC2.out _ _ _ A2' m2 c2' hBc hnc hzc ?_ hm2).mono ?_);(focus exact HXP.out _ bel);rintro e w7 ⟨rfl,hb7⟩)|skip)<;>(refine hK.out _ _ bel ?_;clear hK K))))
    (all_goals try simp only [Act.put,lsi,lsz,lss]);all_goals(refine qad ?_)
    go_wp2_with fail
    go_roundw
    case rel=>exact ⟨j+1,by omega,by go_num,by rw [qa9 HX.out,HA2.out,HMV.out,HCV.out];rfl,by clear hb;exact blkA,HPo.out.keep (fun p hp=>by exact Below.cell (B:=wr.heap.size) bel oQ),bel⟩
    case measure=>simp [intOf];omega
   case true=>
    cases cv
    case false=>
     have HF:Hid (qja cons l q=false):=qfm HO.out (qfm HX.out (by rw [HMV.out,HCV.out];rfl))
     go_wp2_with fail;refine qah [0,1,2,3,4,5,7,8,9,10,6,11,12,13] kr kr pq ?_
     simp only [zdy,zey,ldz,lds,bare,qak,lcz,lcs,zay]
     repeat' ((try simp only [Act.put,lsi,lsz,lss]);first|(refine qbj ?_ ?_;focus(simp only [lAq,zgy,zfy];done))|(refine qa3 ?_ ?_ ?_;(focus(simp only [lAq,zgy,zfy];done));(focus(exact bel)))|(refine qaw (X:= ?_) ?_ ?_ (fun hg=> ?_) (fun hg=> ?_);rotate_left;(focus(simp only [lAq];with_reducible rfl));(focus(exact bel));all_goals(try simp only [zgy,zfy] at hg))|(refine lqx ?_)|(refine qab qaa rfl (fun K hK=> ?_);go_simp;((first |  (go_at_call 56;(with_reducible refine(HM.out _ bel).mono ?_);rintro e w5 ⟨rfl,hb5⟩)|(go_at_call 36;(with_reducible refine(HCl.out _ bel).mono ?_);rintro e w6 ⟨Ac,cc,rfl,hBc,hnc,hzc,hb6⟩)|((refine(HC2.out _ _ _ A2' m2 c2' hBc hnc hzc ?_ hm2).mono ?_);(focus exact HXP.out _ bel);rintro e w7 ⟨rfl,hb7⟩)|skip)<;>(refine hK.out _ _ bel ?_;clear hK K))))
     (all_goals try simp only [Act.put,lsi,lsz,lss]);all_goals(refine qad ?_)
     go_wp2_with fail;go_ret;exact⟨qae HF.out.symm,bel⟩
    case true=>
     go_wp2_with fail;refine qah [0,1,2,3,4,5,7,8,9,10,6,11,12,13] kr kr pq ?_
     simp only [zdy,zey,ldz,lds,bare,qak,lcz,lcs,zay]
     repeat' ((try simp only [Act.put,lsi,lsz,lss]);first|(refine qbj ?_ ?_;focus(simp only [lAq,zgy,zfy];done))|(refine qa3 ?_ ?_ ?_;(focus(simp only [lAq,zgy,zfy];done));(focus(exact bel)))|(refine qaw (X:= ?_) ?_ ?_ (fun hg=> ?_) (fun hg=> ?_);rotate_left;(focus(simp only [lAq];with_reducible rfl));(focus(exact bel));all_goals(try simp only [zgy,zfy] at hg))|(refine lqx ?_)|(refine qab qaa rfl (fun K hK=> ?_);go_simp;((first |  (go_at_call 56;(with_reducible refine(HM.out _ bel).mono ?_);rintro e w5 ⟨rfl,hb5⟩)|(go_at_call 36;(with_reducible refine(HCl.out _ bel).mono ?_);rintro e w6 ⟨Ac,cc,rfl,hBc,hnc,hzc,hb6⟩)|((refine(HC2.out _ _ _ A2' m2 c2' hBc hnc hzc ?_ hm2).mono ?_);(focus exact HXP.out _ bel);rintro e w7 ⟨rfl,hb7⟩)|skip)<;>(refine hK.out _ _ bel ?_;clear hK K))))
     (all_goals try simp only [Act.put,lsi,lsz,lss]);all_goals(refine qad ?_)
     go_wp2_with fail
     go_roundw
     case rel=>exact ⟨j+1,by omega,by go_num,by rw [qa9 HX.out,HA2.out,HMV.out,HCV.out];rfl,by clear hb;exact blkA,HPo.out.keep (fun p hp=>by exact Below.cell (B:=wr.heap.size) bel oQ),bel⟩
     case measure=>simp [intOf];omega
def qep (d:Pt->Fr) (l:List Ob) (p:List Pt):Bool:=l.all fun o=>decide (ckOb o≠0)||p.all fun x=> !okPt x||(decide ((d x).den≠0)&&decide (cmpF (d x) (qci o x)<=0))
structure DistAt (rv:Value) (f:Nat) (Y:List Nat) (d:Pt->Fr):Prop where
 enter:∀(args:Array Value) (w:World),(callFunc f args).run Tryz.prog w=.ok (.enter f args) w
 ok:∀p,FrOk (d p)
 calls:∀(W:World) (B:Nat) (A:Option Addr) (c:Nat) (x y:Int),qbm W B A Y.length Y->B<=W.heap.size->Y.length<=c->(A=none->c=0)->
  C9 f #[rv,.slice A Y.length c,ptV x y] W (Ret W (fV (d ⟨x,y⟩)))
theorem qxr (b:Bx) (p:Pt):FrOk (bxF b p):=by
 unfold bxF
 split
 · rename_i h
   rw [ziy] at h;obtain⟨⟨o1,o2⟩,o3,o4⟩:=(Pg.qca _).1 h.1;obtain⟨p1,p2,p3,p4⟩:=qa5 h.2;obtain⟨q1,q2,q3,q4⟩:=qa5 o1;obtain⟨r1,r2,r3,r4⟩:=qa5 o2;have g1:0<=gap p.x b.lo.x b.hi.x/\gap p.x b.lo.x b.hi.x<=2147483646:=by unfold gap;omega
   have g2:0<=gap p.y b.lo.y b.hi.y/\gap p.y b.lo.y b.hi.y<=2147483646:=by unfold gap;omega
   exact⟨qvf oQ oQ oQ oQ,by simp only;omega⟩
 · exact⟨by decide,by decide⟩
theorem qo4 {o:Ob} {p:Pt} (ho:ckOb o=0) (op:okPt p=true):FrOk (qci o p):=by
 rcases qjn ho with ⟨h1,h2⟩|⟨_,h1,h2⟩
 · rw [qxi ho op h1]
   have:=qxr (qbz o) p;unfold bxF at this;rw [h2,op] at this;exact this
 · rw [qmd ho op h1]
   split
   · exact⟨by decide,by decide⟩
   · have h3:=(qn6 h2).2.2
     refine qwu fun z hz=> ?_
     obtain⟨i,hi,e⟩:=qol hz
     rw [<-e]
     exact qvq (qd3 h3 hi) (qm2 h3 hi) op
theorem q1e {w:World} {B n m:Nat} {A:Option Addr} {l:List Pt} (hl:qal w B A n l) (hm:m<n):
 ∃b off,A=some ⟨b,off,none⟩/\b<B/\l[m]? =some (pt l m)/\w.cell? ⟨b,off+m*2,none⟩=some (.int .i64 (pt l m).x)/\w.cell? ⟨b,off+m*2+1,none⟩=some (.int .i64 (pt l m).y):=by
 obtain⟨b',o',e,hb,c0,c1⟩:=hl.at_ hm;exact⟨b',o',e,hb,by unfold pt;rw [zpy,zby (by rw [hl.1];exact hm)];rfl,c0,c1⟩
theorem qwn (t : TypeId) (rv : Value) (f : Nat) (Y : List Nat) (d : Pt -> Fr) (hmD : ∀ w,(Go.method 408 t rv "Dist").run Tryz.prog w = .ok (f,rv) w) (hnD : ∀ w,(nilAhead 408 t rv "Dist").run Tryz.prog w = .ok (some false) w) (hD : DistAt rv f Y d)
 (B c n1 c1 n2 c2:Nat) (A A1 A2:Option Addr) (l:List Ob) (p:List Pt) (w:World) (hK:qbm w B A Y.length Y) (hKc:Y.length<=c) (hKA:A=none->c=0) (hK1:Y.length<=1000000) (hl:qhi w B A1 n1 l) (hp:qal w B A2 n2 p) (hB:B<=w.heap.size)
 (hn1:n1<=1000000) (hn2:n2<=1000000) (hlo:∀o∈l,o.pts.length<=1000000):
 C9 138 #[.iface t rv,.slice A Y.length c,.slice A1 n1 c1,.slice A2 n2 c2] w (Ret w (.bool (qep d l p))):=by
 have hl1:=hl.1;have hp1:=hp.1;have HL:=hdQ hl;have HQ:=hdQ hp;have HLO:=hdQ hlo;have HCl:=hdQ (fun W (hW:Below w.heap.size w W)=>qmf B Y.length c A Y W (hK.tr hW hB) (zcy hB hW.size) hK1 hKc hKA)
 have HDD:=hdQ hD.calls;have HOK:=hdQ hD.ok;have hEn:=hD.enter;clear hl hp hlo hK hD
 go_enter Tryz.func138,Tryz.ntmps138
 go_wp2_with fail
 go_loopw [16] (fun vi wr=>∃i:Nat,i<=n1/\vi=.int .i64 i/\qep d (l.take i) p=true/\Below w.heap.size w wr) (fun vi _=>n1-(intOf vi).toNat)
 case atStart=>exact ⟨0,by omega,rfl,rfl,bel⟩
 case round=>
  obtain⟨i,hi,rfl,ha,hb⟩:=hrel;have hbz:=hb.size
  by_cases hlt:i<n1
  case neg=>
   obtain rfl:n1=i:=oQ
   have HF:Hid (qep d l p=true):=by
    unfold Hid;unfold qep at ha ⊢;rw [qe3 hl1] at ha;exact ha
   clear ha;go_wp2_with fail;go_ret;exact⟨qae HF.out.symm,bel⟩
  have hi1:(i:Int)<(n1:Int):=oQ
  obtain⟨b,off,A',m,c',o,rfl,hab,ho,h0,h1,hpo⟩:=(HL.out.below (hb.mono hB)).at_ hlt;have hbw:b<wr.heap.size:=oQ
  have hm1:m<=1000000:=by rw [<-hpo.1];exact HLO.out o (zjy ho)
  have HO:=hdQ ho;have HP:=hdQ hpo;have HA:=hdQ ha;have hBw:B<=wr.heap.size:=oQ
  obtain⟨ok,ol⟩:=o
  simp only at h0 h1 hpo
  have HCk:=hdQ (fun W (hW:Below wr.heap.size wr W)=>qgi B m c' ok A' ol W (hpo.tr hW hBw) (zcy hBw hW.size) hm1)
  by_cases hck:ckOb ⟨ok,ol⟩=0
  case neg=>
   have HX:Hid (qep d (l.take (i+1)) p=true):=by
    unfold Hid;unfold qep at ha ⊢
    rw [qa9 ho,ha,decide_eq_true (show ckOb ⟨ok,ol⟩≠0 from hck)]
    rfl
   have HCK:=hdQ hck;clear ho hpo ha hck
   go_wp2_with (go_at_call 50;(with_reducible refine(HCk.out _ bel).mono ?_);rintro e w3 ⟨v,rfl,hE,hb3⟩;obtain⟨t3,u3,rfl⟩:=qt5 hE HCK.out;clear hE)
   go_roundw
   case rel=>exact ⟨i+1,by omega,by go_num,HX.out,bel⟩
   case measure=>simp [intOf];omega
  rw [hck] at HCk;have HCK:=hdQ hck;clear ho hpo ha hck
  go_wp2_with (go_at_call 50;(with_reducible refine(HCk.out _ bel).mono ?_);rintro e w3 ⟨v,rfl,hE,hb3⟩;obtain rfl:=qt4 hE;clear hE)
  obtain⟨G,hG⟩:∃G,wr.heap.size=G:=⟨_,rfl⟩;refine qbt (R:=fun w2=>Blk w2 G 40 #[.int .i64 ok,.slice A' m c']/\qal w2 B A' m ol/\Below w.heap.size w w2) ⟨by subst hG;clear hb;exact blkA,HP.out.keep (fun p hp=>by exact Below.cell (B:=wr.heap.size) (by clear hb;exact bel) oQ),bel⟩ ?_
  clear h0 h1 HP hbw hb hbz hb3 HCk hBw;rintro w2 ⟨hO,hPo,hb⟩
  simp only [hG]
  go_loopw [25] (fun vj w4=>∃j:Nat,j<=n2/\vj=.int .i64 j/\(p.take j).all (fun x=> !okPt x||(decide ((d x).den≠0)&&decide (cmpF (d x) (qci ⟨ok,ol⟩ x)<=0)))=true/\Blk w4 G 40 #[.int .i64 ok,.slice A' m c']/\qal w4 B A' m ol/\Below w.heap.size w w4) (fun vj _=>n2-(intOf vj).toNat)
  case atStart=>exact ⟨0,by omega,rfl,rfl,hO,hPo,hb⟩
  case round=>
   clear hO hPo hb;obtain⟨j,hj,rfl,ha,hO,hPo,hb⟩:=hrel;have hbz:=hb.size;have cO:=hO.cell;have lO:=hO.lt
   by_cases hlt2:j<n2
   case neg=>
    obtain rfl:n2=j:=oQ
    have HX:Hid (qep d (l.take (i+1)) p=true):=by
     unfold Hid;have h1:=HA.out;unfold qep at h1 ⊢
     rw [qa9 HO.out,h1,Bool.true_and,decide_eq_false (fun h:ckOb ⟨ok,ol⟩≠0=>h HCK.out),Bool.false_or]
     rw [qe3 hp1] at ha;exact ha
    clear ha hPo;go_wp2_with fail
    go_roundw
    case rel=>exact ⟨i+1,by omega,by go_num,HX.out,bel⟩
    case measure=>simp [intOf];omega
   have hj1:(j:Int)<(n2:Int):=oQ
   obtain⟨b2,off2,rfl,hab2,hx,g0,g1⟩:=q1e (HQ.out.below (hb.mono hB)) hlt2;have hbw:b2<wr.heap.size:=oQ
   have HX:=hdQ hx;have HA2:=hdQ ha;have HPo:=hdQ hPo;have hBw:B<=wr.heap.size:=oQ
   generalize pt p j=x at*;obtain⟨px,py⟩:=x
   simp only at g0 g1
   have HPt:=fun W=>qay px py W
   cases op:okPt ⟨px,py⟩
   case false=>
    rw [op] at HPt;have HPC:Hid (∀W,C9 32 #[ptV px py] W (Ret W (.iface 75 (.int .i64 2)))):=HPt;have HOP:=hdQ op;clear hx ha hPo op HPt
    go_wp2_with (go_at_call 32;(with_reducible refine(HPC.out _).mono ?_);rintro e w5 ⟨rfl,hb5⟩)
    go_roundw
    case rel=>exact ⟨j+1,by omega,by go_num,by rw [qa9 HX.out,HA2.out,HOP.out];rfl,by clear hb;exact blkA,HPo.out.keep (fun p hp=>by exact Below.cell (B:=wr.heap.size) (by clear hb;exact bel) oQ),bel⟩
    case measure=>simp [intOf];omega
   rw [op] at HPt;have HPC:Hid (∀W,C9 32 #[ptV px py] W (Ret W .nilIface)):=HPt;have HOP:=hdQ op;have HDi:=hdQ (fun W (hW:Below wr.heap.size wr W)=>qha B m c' ok A' ol px py W (hPo.tr hW hBw) (zcy hBw hW.size) hm1)
   have HCm:=hdQ (fun W=>qmy (d ⟨px,py⟩) (qci ⟨ok,ol⟩ ⟨px,py⟩) (HOK.out _) (qo4 HCK.out op) W)
   obtain⟨dv,hdv⟩:∃v,d ⟨px,py⟩=v:=⟨_,rfl⟩;obtain⟨ov,hov⟩:∃v,qci ⟨ok,ol⟩ ⟨px,py⟩=v:=⟨_,rfl⟩
   have HD2:Hid (∀(W:World) (B:Nat) (A:Option Addr) (c:Nat),qbm W B A Y.length Y->B<=W.heap.size->Y.length<=c->(A=none->c=0)->C9 f #[rv,.slice A Y.length c,ptV px py] W (Ret W (fV dv))):=fun W B A c h1 h2 h3 h4=>by
    have:=HDD.out W B A c px py h1 h2 h3 h4;rw [hdv] at this;exact this
   rw [hdv,hov] at HCm;rw [hov] at HDi;have HDV:=hdQ hdv;have HOV:=hdQ hov;clear hx ha hPo op HPt hdv hov;obtain⟨gt,hgt⟩:∃v,cmpF dv ov=v:=⟨_,rfl⟩;rw [hgt] at HCm;have HGT:=hdQ hgt;clear hgt;have HSd:Hid (∀W,C9 134 #[fV dv] W (Ret W (.bool (decide (dv.den≠0))))):=fun W=>qj4 _ _ _ W
   obtain⟨sd,hsd⟩:∃v,decide (dv.den≠0)=v:=⟨_,rfl⟩;rw [hsd] at HSd;have HSD:=hdQ hsd;clear hsd;have fd:fV dv=.agg (fcs dv).toArray:=rfl;obtain⟨d1,d2,d3,ed⟩:=qeu dv;rw [ed] at fd;rw [fd] at HD2 HSd HCm;clear ed fd
   go_wp2_with (go_at_call 32;(with_reducible refine(HPC.out _).mono ?_);rintro e w5 ⟨rfl,hb5⟩)
   obtain⟨GX,hGX⟩:∃G,wr.heap.size=G:=⟨_,rfl⟩;refine qbt (R:=fun w2=>Blk w2 G 40 #[.int .i64 ok,.slice A' m c']/\Blk w2 GX 46 #[.int .i64 px,.int .i64 py]/\Below wr.heap.size wr w2/\Below w.heap.size w w2) ⟨by clear hb;exact blkA,by subst hGX;clear hb;exact blkA,by clear hb;exact bel,bel⟩ ?_
   clear hO cO lO hb5;rintro w6 ⟨hO,hQ,hb6,hb06⟩;have cO:=hO.cell;have lO:=hO.lt;have cQ:=hQ.cell;have lQ:=hQ.lt
   simp only [hGX]
   have hbw2:b2<w6.heap.size:=by have:=hb6.size;omega
   clear g0 g1 hbw;have HCl2:=hdQ (fun W (hW:Below w6.heap.size w6 W)=>HCl.out W (hb06.trans (hW.mono hb06.size)))
   refine qf2 (.one 0 (.one 1 (.one 3 (.one 4 (.one 5 (.one 6 (.two 2 8 (.two 7 8 (.one 8 (.one 9 .done)) (.one 7 (.one 9 .done))) (.one 2 (.one 7 (.one 9 .done)))))))))) (fun a8 a9 w9=>∃(s34 s36 s37:Value) (g:Nat),a9=puts a8 [(32,.iface t rv),(33,.slice A Y.length c),(34,s34),(35,.agg #[.int .i64 px,.int .i64 py]),(36,s36),(37,s37),(38,.iface t rv),(39,.agg #[.int .u64 d1,.int .u64 d2,.int .u64 d3]),(13,.pointer (some ⟨g,0,none⟩))]/\Blk w9 g 71 #[.int .u64 d1,.int .u64 d2,.int .u64 d3]/\Below w6.heap.size w6 w9) kr kr pq ?_ ?_
   · intro LL hLL QQ hQQ
     have oo0:=qcd hLL 0 kr
     have oo1:=qcd hLL 1 kr
     have oo2:=qcd hLL 2 kr
     have oo3:=qcd hLL 3 kr
     have oo4:=qcd hLL 4 kr
     have oo5:=qcd hLL 5 kr
     have oo6:=qcd hLL 6 kr
     have oo7:=qcd hLL 7 kr
     have oo8:=qcd hLL 8 kr
     have oo9:=qcd hLL 9 kr
     simp only [ldz,lds,bare] at oo0 oo1 oo2 oo3 oo4 oo5 oo6 oo7 oo8 oo9;clear hLL
     repeat' ((try simp only [Act.put,lsi,lsz,lss]);first|(refine qlq ?_ ?_ ?_)|(refine qrn ?_ ?_)|(refine qlr (v:= ?_) (by assumption) rfl ?_ ?_;rotate_left;focus(intro wq hq;obtain⟨hcq,hfq⟩:=qa1 hq;go_simp;try with_reducible rfl))|(refine qro ?_)|(refine qnv (by assumption) rfl (fun K hK=> ?_);go_simp;((first|(go_at_call 36;(with_reducible refine(HCl2.out _ bel).mono ?_);rintro e w7 ⟨Ac,cc,rfl,hBc,hnc,hzc,hb7⟩;obtain⟨hc7,hf7,hz7⟩:=bc3 hb7;(try simp at hz7);(try have hy7:=ol1 w6 w7))|(refine(HD2.out _ _ Ac cc (hBc.tr bel (zhy _)) ?_ hnc hzc).mono ?_;(focus(first|(exact zhy _)|(simp;done)|(simp;omega)|omega));rintro e w8 ⟨rfl,hb8⟩;obtain⟨hc8,hf8,hz8⟩:=bc3 hb8;(try simp at hz8);(try have hy8:=ol1 w6 w8);(try have hy87:=ol1 w7 w8))  | skip)<;>(refine hK.out _ _ bel ?_;clear hK K))))
     all_goals(refine qnw hQQ ?_)
     all_goals(refine⟨?_,?_,?_,?_,?_,?_,?_⟩;rotate_left 4;(focus(simp only [puts,List.foldl_cons,List.foldl_nil,Act.put,lsi,lsz,lss];rfl));(focus exact(by repeat(first|with_reducible exact qat (x:=.int .u64 0) (y:=.int .u64 0) (z:=.int .u64 0) blkA|(with_reducible refine Blk.new ?_ rfl;focus(simp;done))|with_reducible refine Blk.alloc ?_ _|with_reducible refine Blk.drew ?_)));(focus exact bel))
   rintro a' w9 ⟨s34,s36,s37,g,rfl,hDb,hb9⟩
   simp only [puts,List.foldl_cons,List.foldl_nil,Act.put,lsi,lsz,lss]
   have hO9:=hO.tr hb9;have hQ9:=hQ.tr hb9;have hbr9:Below wr.heap.size wr w9:=hb6.trans (hb9.mono hb6.size);have hb09:Below w.heap.size w w9:=hb06.trans (hb9.mono hb06.size);have lD:=hDb.lt;have cD:=hDb.cell;clear hO cO lO hQ cQ lQ hb6 hb9 hb06 hbw2 HCl2;have cO:=hO9.cell;have lO:=hO9.lt;have cQ:=hQ9.cell;have lQ:=hQ9.lt;have HQF:Hid (∀z,(!okPt ⟨px,py⟩||z)=z):=fun z=>by rw [HOP.out];rfl
   cases sd
   case false=>
    have HF:Hid (qep d l p=false):=qfm HO.out (by rw [decide_eq_false (fun h:ckOb ⟨ok,ol⟩≠0=>h HCK.out),Bool.false_or];exact qfm HX.out (by rw [HOP.out,HDV.out,HSD.out];rfl))
    go_wp2_with fail;refine qac kr kr pq ?_
    simp only [zdy,zey,ldz,lds,bare,qak,lcz,lcs,zay]
    repeat' ((try simp only [Act.put,lsi,lsz,lss]);first|(refine qbj ?_ ?_;focus(simp only [lAq,zgy,zfy];done))|(refine qa3 ?_ ?_ ?_;(focus(simp only [lAq,zgy,zfy];done));(focus(exact bel)))|(refine qaw (X:= ?_) ?_ ?_ (fun hg=> ?_) (fun hg=> ?_);rotate_left;(focus(simp only [lAq];with_reducible rfl));(focus(exact bel));all_goals(try simp only [zgy,zfy] at hg))|(refine lqx ?_)|(refine qab qaa rfl (fun K hK=> ?_);go_simp;((first |  (go_at_call 134;(with_reducible refine(HSd.out _).mono ?_);rintro e w10 ⟨rfl,hb10⟩)|(go_at_call 35;(with_reducible refine(HDi.out _ bel).mono ?_);rintro e w11 ⟨rfl,hb11⟩)|(go_at_call 103;(with_reducible refine(HCm.out _).mono ?_);rintro e w12 ⟨rfl,hb12⟩)|skip)<;>(refine hK.out _ _ bel ?_;clear hK K))))
    (all_goals try simp only [Act.put,lsi,lsz,lss]);all_goals(refine qad ?_)
    go_wp2_with fail;go_ret;exact⟨qae HF.out.symm,bel⟩
   by_cases hg:0<gt
   case pos=>
    have HF:Hid (qep d l p=false):=qfm HO.out (by rw [decide_eq_false (fun h:ckOb ⟨ok,ol⟩≠0=>h HCK.out),Bool.false_or];exact qfm HX.out (by rw [HOP.out,HDV.out,HSD.out,HOV.out,HGT.out,decide_eq_false oQ];rfl))
    go_wp2_with fail;refine qac kr kr pq ?_
    simp only [zdy,zey,ldz,lds,bare,qak,lcz,lcs,zay]
    repeat' ((try simp only [Act.put,lsi,lsz,lss]);first|(refine qbj ?_ ?_;focus(simp only [lAq,zgy,zfy];done))|(refine qa3 ?_ ?_ ?_;(focus(simp only [lAq,zgy,zfy];done));(focus(exact bel)))|(refine qaw (X:= ?_) ?_ ?_ (fun hg=> ?_) (fun hg=> ?_);rotate_left;(focus(simp only [lAq];with_reducible rfl));(focus(exact bel));all_goals(try simp only [zgy,zfy] at hg))|(refine lqx ?_)|(refine qab qaa rfl (fun K hK=> ?_);go_simp;((first |  (go_at_call 134;(with_reducible refine(HSd.out _).mono ?_);rintro e w10 ⟨rfl,hb10⟩)|(go_at_call 35;(with_reducible refine(HDi.out _ bel).mono ?_);rintro e w11 ⟨rfl,hb11⟩)|(go_at_call 103;(with_reducible refine(HCm.out _).mono ?_);rintro e w12 ⟨rfl,hb12⟩)|skip)<;>(refine hK.out _ _ bel ?_;clear hK K))))
    (all_goals try simp only [Act.put,lsi,lsz,lss]);all_goals(refine qad ?_)
    go_wp2_with fail;go_ret;exact⟨qae HF.out.symm,bel⟩
   case neg=>
    have hg2:gt<=0:=oQ
    go_wp2_with fail;refine qac kr kr pq ?_
    simp only [zdy,zey,ldz,lds,bare,qak,lcz,lcs,zay]
    repeat' ((try simp only [Act.put,lsi,lsz,lss]);first|(refine qbj ?_ ?_;focus(simp only [lAq,zgy,zfy];done))|(refine qa3 ?_ ?_ ?_;(focus(simp only [lAq,zgy,zfy];done));(focus(exact bel)))|(refine qaw (X:= ?_) ?_ ?_ (fun hg=> ?_) (fun hg=> ?_);rotate_left;(focus(simp only [lAq];with_reducible rfl));(focus(exact bel));all_goals(try simp only [zgy,zfy] at hg))|(refine lqx ?_)|(refine qab qaa rfl (fun K hK=> ?_);go_simp;((first |  (go_at_call 134;(with_reducible refine(HSd.out _).mono ?_);rintro e w10 ⟨rfl,hb10⟩)|(go_at_call 35;(with_reducible refine(HDi.out _ bel).mono ?_);rintro e w11 ⟨rfl,hb11⟩)|(go_at_call 103;(with_reducible refine(HCm.out _).mono ?_);rintro e w12 ⟨rfl,hb12⟩)|skip)<;>(refine hK.out _ _ bel ?_;clear hK K))))
    (all_goals try simp only [Act.put,lsi,lsz,lss]);all_goals(refine qad ?_)
    go_wp2_with fail
    go_roundw
    case rel=>exact ⟨j+1,by omega,by go_num,by rw [qa9 HX.out,HA2.out,HOP.out,HDV.out,HSD.out,HOV.out,HGT.out,decide_eq_true hg2];rfl,by clear hb;exact blkA,HPo.out.keep (fun p hp=>by exact Below.cell (B:=wr.heap.size) (by clear hb;exact bel) oQ),bel⟩
    case measure=>simp [intOf];omega
structure Cl where
 make:Ob->Nat×List Nat
 cons:List Nat->Qu->Bool
 far:List Nat->Pt->Fr
 un:List (List Nat)->List Nat
 split:List (List Nat)->List Bool
def qlb (w:World) (B:Nat) (A:Option Addr) (n:Nat) (l:List Bool):Prop:=
 l.length=n/\(0<n->∃b off,A=some ⟨b,off,none⟩/\b<B/\∀(k:Nat) (x:Bool),l[k]? =some x->w.cell? ⟨b,off+k,none⟩=some (.bool x))
theorem qlb.below {w w' :World} {B n:Nat} {A:Option Addr} {l:List Bool} (h:qlb w B A n l) (hb:Below B w w'):qlb w' B A n l:=
 ⟨h.1,fun hn=>by
  obtain⟨b,off,e,hb',hc⟩:=h.2 hn
  exact⟨b,off,e,hb',fun k x hx=>(hb.cell (p:=⟨b,off+k,none⟩) hb').trans (hc k x hx)⟩⟩
theorem qlb.tr {w w' :World} {B n:Nat} {A:Option Addr} {l:List Bool} (h:qlb w B A n l) (hb:Below w.heap.size w w') (hB:B<=w.heap.size):qlb w' B A n l:=h.below (hb.mono hB)
theorem q0b {w:World} {B B' n:Nat} {A:Option Addr} {l:List Bool} (h:qlb w B A n l) (hB:B<=B'):qlb w B' A n l:=
 ⟨h.1,fun hn=>by
  obtain⟨b,off,e,hb,hc⟩:=h.2 hn
  exact⟨b,off,e,by omega,hc⟩⟩
structure SplAt (rv:Value) (f:Nat) (L:List (List Nat)) (s:List Bool):Prop where
 enter:∀(args:Array Value) (w:World),(callFunc f args).run Tryz.prog w=.ok (.enter f args) w
 len:s.length<=1000000
 calls:∀(W:World) (B:Nat) (A:Option Addr) (c:Nat),qex W B A L.length L->B<=W.heap.size->C9 f #[rv,.slice A L.length c] W fun e w' =>∃A' c',e=.returned (.slice A' s.length c')/\qlb w' w'.heap.size A' s.length s/\Below W.heap.size W w'
theorem qdd (B n c:Nat) (A:Option Addr) (l:List Nat) (w:World) (hl:qbm w B A n l) (hB:B<=w.heap.size) (hn2:n<=1000000) (hnc:n<=c) (hAn:A=none->c=0):
 C9 36 #[.slice A n c] w (RetB w l):=by
 obtain⟨i0,hi,iz0,iz1,iz2⟩:=info_parts Tryz.infoByte;have q22:∀(w:World) (a:Option Addr) (n c n' c' :Nat),(binOp .eql 94 (.slice a n c) (.slice none n' c')).run Tryz.prog w=.ok (.bool a.isNone) w:=fun w a n c n' c' =>Lib.run_eql_slice_nil w _ _ a n c n' c' Tryz.underlying94
 cases A with
 | none=>
   have hc0:=hAn rfl;have hn0:n=0:=oQ
   subst hc0 hn0;have hl0:l= []:=zbx hl.1;subst hl0;clear hl
   go_enter Tryz.func36,Tryz.ntmps36
   go_wp2;go_ret;exact⟨_,rfl,World.ownsRow_nil _ _ _ _,bel⟩
 | some ad=>
 have hnews:∀(j:Nat) (u:Value),(qap l)[j]? =some u->w.cell? (ad.add j)=some u:=by
  intro j u hj
  rcases Nat.eq_zero_or_pos n with h0|hn
  · have hl0:l= []:=zbx (hl.1.trans h0)
    subst hl0
    simp [qap] at hj
  · obtain⟨b,off,e,_⟩:=hl.2 hn
    injection e with e
    subst e;exact qbm.news hl hn j u hj
 have hln:=hl.1;have HN:=hdQ hnews;clear hl hnews
 go_enter Tryz.func36,Tryz.ntmps36
 go_wp2_with (at_builtin;refine wpList_append_own _ rfl _ _ 94 rfl w.heap.size 5 i0 (.int .u8 0) 1 1 Tryz.underlying94 hi iz0 iz1 iz2 rfl dE _ _ _ rfl (World.ownsRow_made w #[] 0 (zhy _) (zly _) rfl) ad n c (qap l) rfl ?qc1 ?qc2 ?qc3 ?qc4 ?qc5 ?qc6 ?_)
 case qc1=>simp [qap,hln]
 case qc2=>
  intro j u hj;exact Lib.cell?_alloc_some _ (HN.out j u hj)
 case qc3=>exact qdp l
 case qc4=>unfold maxLen;omega
 case qc5=>omega
 case qc6=>simp
 intro v' w1 hown hgrow hnil
 try rw [Nat.zero_add] at hown
 go_wp2;go_ret;exact⟨_,rfl,by rw [hln];exact hown,((Below.refl _ w).alloc (zhy _) _).grown hgrow sI (by intro k hk;simp [Value.ownBlock] at hk;omega)⟩
structure MkAt (t:TypeId) (rv:Value) (C:Cl) (fM:Nat):Prop where
 mM : ∀ w,(Go.method 408 t rv "Make").run Tryz.prog w = .ok (fM,rv) w
 eM:∀(args:Array Value) (w:World),(callFunc fM args).run Tryz.prog w=.ok (.enter fM args) w
 form:∀o,(∀x∈(C.make o).2,x<256)/\(C.make o).2.length<=1000000
 make:∀(W:World) (B m c:Nat) (k:Int) (A:Option Addr) (l:List Pt),qal W B A m l->B<=W.heap.size->m<=1000000->
  C9 fM #[rv,obV k A m c] W fun e w' =>∃s v,e=.returned (.tuple #[s,v])/\w'.ownsRow W.heap.size 5 1 s (C.make ⟨k,l⟩).2.length (qap (C.make ⟨k,l⟩).2)/\((C.make ⟨k,l⟩).1=0->v=.nilIface)/\((C.make ⟨k,l⟩).1≠0->∃t u,v=.iface t u)/\Below W.heap.size W w'
structure ClAt (t:TypeId) (rv:Value) (C:Cl) (fM fC fD fU fS:Nat):Prop where
 mM : ∀ w,(Go.method 408 t rv "Make").run Tryz.prog w = .ok (fM,rv) w
 mC : ∀ w,(Go.method 408 t rv "Consistent").run Tryz.prog w = .ok (fC,rv) w
 mD : ∀ w,(Go.method 408 t rv "Dist").run Tryz.prog w = .ok (fD,rv) w
 mU : ∀ w,(Go.method 408 t rv "Union").run Tryz.prog w = .ok (fU,rv) w
 mS : ∀ w,(Go.method 408 t rv "Split").run Tryz.prog w = .ok (fS,rv) w
 nC : ∀ w,(nilAhead 408 t rv "Consistent").run Tryz.prog w = .ok (some false) w
 nD : ∀ w,(nilAhead 408 t rv "Dist").run Tryz.prog w = .ok (some false) w
 eM:∀(args:Array Value) (w:World),(callFunc fM args).run Tryz.prog w=.ok (.enter fM args) w
 eU:∀(args:Array Value) (w:World),(callFunc fU args).run Tryz.prog w=.ok (.enter fU args) w
 form:∀o,(∀x∈(C.make o).2,x<256)/\(C.make o).2.length<=1000000
 formU:∀L,(∀l∈L,∀x∈l,x<256)->(∀l∈L,l.length<=1000000)->(∀x∈C.un L,x<256)/\(C.un L).length<=1000000
 make:∀(W:World) (B m c:Nat) (k:Int) (A:Option Addr) (l:List Pt),qal W B A m l->B<=W.heap.size->m<=1000000->
  C9 fM #[rv,obV k A m c] W fun e w' =>∃s v,e=.returned (.tuple #[s,v])/\w'.ownsRow W.heap.size 5 1 s (C.make ⟨k,l⟩).2.length (qap (C.make ⟨k,l⟩).2)/\((C.make ⟨k,l⟩).1=0->v=.nilIface)/\((C.make ⟨k,l⟩).1≠0->∃t u,v=.iface t u)/\Below W.heap.size W w'
 cons:∀Y,(∀x∈Y,x<256)->Y.length<=1000000->ConsAt rv fC Y (C.cons Y)
 far:∀Y,(∀x∈Y,x<256)->Y.length<=1000000->DistAt rv fD Y (C.far Y)
 un:∀(W:World) (B c:Nat) (A:Option Addr) (L:List (List Nat)),qex W B A L.length L->B<=W.heap.size->L.length<=1000000->(∀l∈L,∀x∈l,x<256)->(∀l∈L,l.length<=1000000)->C9 fU #[rv,.slice A L.length c] W (RetB W (C.un L))
 split:∀L,L.length<=1000000->(∀l∈L,∀x∈l,x<256)->(∀l∈L,l.length<=1000000)->SplAt rv fS L (C.split L)
def sumS:Nat->List Nat->Nat
 | n,[]=>n
 | n,x::r=>if 1099511627776-n<x then 1099511627776 else sumS (n+x) r
theorem qve {xs:List Nat} {k:Nat} (m:Nat) (hk:k<xs.length):sumS m (xs.drop k)=if 1099511627776-m<xs[k] then 1099511627776 else sumS (m+xs[k]) (xs.drop (k+1)):=by
 rw [zgx hk,sumS]
theorem qj0:∀(xs:List Nat) (n:Nat),n<=1099511627776->n<=sumS n xs/\sumS n xs<=1099511627776
 | [],n,h=>⟨zhy _,h⟩
 | x::r,n,h=>by
   unfold sumS
   split
   · omega
   · have:=qj0 r (n+x) oQ
     omega
theorem qfc:∀(xs:List Nat) (n:Nat),n<=1099511627776->sumS n xs<1099511627776->sumS n xs=n+xs.sum
 | [],n,h,_=>by simp [sumS]
 | x::r,n,h,h2=>by
   unfold sumS at h2 ⊢
   split at h2
   · omega
   · rename_i h3
     rw [if_neg h3,qfc r (n+x) oQ h2,List.sum_cons]
     omega
abbrev q3e (xs:List Nat):Array Value:=(xs.map fun x:Nat=>Value.int .i64 (x:Int)).toArray
theorem qvd (g n N:Nat) (t:TypeId) (xs:List Nat) (w:World) (hg:Blk w g t (q3e xs)) (hN:xs.length=N) (hN2:N<=1000000) (hn:n<=1099511627776):
 C9 22 #[.int .i64 n,.slice (some ⟨g,0,none⟩) N N] w fun e w' =>e=.returned (.int .i64 (sumS n xs:Nat))/\w=w' :=by
 have HG:=hdQ hg;clear hg
 go_enter Tryz.func22,Tryz.ntmps22
 go_wp2_with fail
 go_loopw [0,5] (fun vn vi wr=>∃k m:Nat,k<=N/\vi=.int .i64 k/\vn=.int .i64 m/\m<=1099511627776/\sumS m (xs.drop k)=sumS n xs/\w=wr) (fun _ vi _=>N-(intOf vi).toNat)
 case atStart=>exact ⟨0,n,by omega,rfl,rfl,hn,rfl,rfl⟩
 case round=>
  obtain⟨k,m,hk,rfl,rfl,hm,hs,rfl⟩:=hrel
  by_cases hlt:k<N
  · have hk1:(k:Int)<(N:Int):=oQ
    have hkl:k<xs.length:=oQ
    rw [qve m hkl] at hs;have cG:w.cell? ⟨g,k,none⟩=some (.int .i64 (xs[k]:Int)):=by rw [HG.out.cell];simp [hkl]
    obtain⟨x,hx⟩:∃x,xs[k]=x:=⟨_,rfl⟩;rw [hx] at hs cG;have hm1:decide ((1099511627776:Int)<(m:Int))=false:=decide_eq_false oQ
    have hw:IntKind.i64.wrap (1099511627776-(m:Int))=((1099511627776-m:Nat):Int):=by rw [IntKind.wrap_i64];omega
    have hm2:¬ 1099511627776<m:=oQ
    have HS:=hdQ hs;have HX:=hdQ hx
    by_cases hb:1099511627776-m<x
    · have hb1:((1099511627776-m:Nat):Int)<(x:Int):=oQ
      have HE:Hid (sumS n xs=1099511627776):=by have:=HS.out;rw [if_pos hb] at this;exact this.symm
      clear hs hx hm hb;generalize 1099511627776-m=d at*;go_wp2_with fail;go_ret;exact⟨by rw [HE.out];rfl,rfl⟩
    · have hb1:¬ ((1099511627776-m:Nat):Int)<(x:Int):=oQ
      have hb2:m+x<=1099511627776:=oQ
      have HE:Hid (sumS (m+x) (xs.drop (k+1))=sumS n xs):=by have:=HS.out;rw [if_neg hb] at this;exact this
      have hw2:IntKind.i64.wrap ((m:Int)+(x:Int))=((m+x:Nat):Int):=by rw [IntKind.wrap_i64];omega
      have HB2:=hdQ hb2;have hb4:¬ 1099511627776-m<x:=hb;clear hs hx hm hb hb2;generalize 1099511627776-m=d at*;go_wp2_with fail
      go_roundw
      case rel=>exact ⟨k+1,m+x,by omega,by go_num,by go_num,HB2.out,HE.out,trivial⟩
      case measure=>simp [intOf];omega
  · obtain rfl:N=k:=oQ
    rw [List.drop_of_length_le oQ] at hs
    have HE:Hid (sumS n xs=m):=hs.symm;clear hs;go_wp2_with fail;go_ret;exact⟨by rw [HE.out];rfl,rfl⟩
theorem qps (g n x:Nat) (t:TypeId) (w:World) (hg:Blk w g t #[.int .i64 (x:Int)]) (hn:n<=1099511627776):
 C9 22 #[.int .i64 n,.slice (some ⟨g,0,none⟩) 1 1] w fun e w' =>e=.returned (.int .i64 (sumS n [x]:Nat))/\w=w' :=qvd g n 1 t [x] w hg rfl dE hn
theorem qyd (g x:Nat) (t:TypeId) (w:World) (hg:Blk w g t #[.int .i64 (x:Int)]):
 C9 22 #[.int .i64 0,.slice (some ⟨g,0,none⟩) 1 1] w fun e w' =>e=.returned (.int .i64 (sumS 0 [x]:Nat))/\w=w' :=qps g 0 x t w hg dE
theorem quy (t : TypeId) (rv : Value) (fC fD : Nat) (Y : List Nat) (cons : Qu -> Bool) (d : Pt -> Fr) (hmC : ∀ w,(Go.method 408 t rv "Consistent").run Tryz.prog w = .ok (fC,rv) w) (hnC : ∀ w,(nilAhead 408 t rv "Consistent").run Tryz.prog w = .ok (some false) w) (hC : ConsAt rv fC Y cons)
 (hmD : ∀ w,(Go.method 408 t rv "Dist").run Tryz.prog w = .ok (fD,rv) w) (hnD : ∀ w,(nilAhead 408 t rv "Dist").run Tryz.prog w = .ok (some false) w) (hD : DistAt rv fD Y d)
 (B c n1 c1 n2 c2 n3 c3:Nat) (A A1 A2 A3:Option Addr) (l:List Ob) (q:List Qu) (p:List Pt) (w:World) (hK:qbm w B A Y.length Y) (hKc:Y.length<=c) (hKA:A=none->c=0) (hK1:Y.length<=1000000) (hl:qhi w B A1 n1 l) (hq:qfn w B A2 n2 q) (hp:qal w B A3 n3 p) (hB:B<=w.heap.size)
 (hn1:n1<=1000000) (hn2:n2<=1000000) (hn3:n3<=1000000) (hlo:∀o∈l,o.pts.length<=1000000) (hqo:∀x∈q,x.ring.length<=1000000):
 C9 106 #[.iface t rv,.slice A Y.length c,.slice A1 n1 c1,.slice A2 n2 c2,.slice A3 n3 c3] w (Ret w (.bool (qja cons l q&&qep d l p))):=by
 have HA:=hdQ (fun W (hW:Below w.heap.size w W)=>q0d t rv fC Y cons hmC hnC hC B c n1 c1 n2 c2 A A1 A2 l q W (hK.tr hW hB) hKc hKA hK1 (hl.tr hW hB) (hq.tr hW hB) (zcy hB hW.size) hn1 hn2 hlo hqo)
 have HN:=hdQ (fun W (hW:Below w.heap.size w W)=>qwn t rv fD Y d hmD hnD hD B c n1 c1 n3 c3 A A1 A3 l p W (hK.tr hW hB) hKc hKA hK1 (hl.tr hW hB) (hp.tr hW hB) (zcy hB hW.size) hn1 hn3 hlo)
 obtain⟨a,ha⟩:∃v,qja cons l q=v:=⟨_,rfl⟩;obtain⟨b,hb⟩:∃v,qep d l p=v:=⟨_,rfl⟩;rw [ha] at HA;rw [hb] at HN
 rw [ha,hb]
 clear ha hb hmC hnC hC hmD hnD hD hK hl hq hp hlo hqo
 cases a<;>cases b
 all_goals(go_enter Tryz.func106,Tryz.ntmps106)
 all_goals(go_wp2_with (first|(go_at_call 137;(with_reducible refine(HA.out _ bel).mono ?_);rintro e w1 ⟨rfl,hb1⟩)|(go_at_call 138;(with_reducible refine(HN.out _ bel).mono ?_);rintro e w2 ⟨rfl,hb2⟩)))
 all_goals go_ret
 all_goals exact⟨rfl,bel⟩
theorem qqf (v : Value) (w : World) : (Go.method 408 121 v "Make").run Tryz.prog w = .ok (234,v) w := by kernel_rfl
theorem qzz (k:List Nat) (p:Pt):FrOk (farS k p):=by
 unfold farS
 split
 · exact⟨by decide,by decide⟩
 · exact qxr _ _
theorem qul {w:World} {g:Nat} {s:List Bool} (h:Blk w g 4 (s.map Value.bool).toArray):qlb w w.heap.size (some ⟨g,0,none⟩) s.length s:=
 ⟨rfl,fun _=>⟨g,0,rfl,h.lt,fun k x hx=>by
  rw [Nat.zero_add,h.cell]
  simp [hx]⟩⟩
theorem qnt (L:List (List Nat)):(∀x∈qf5 L,x<256)/\(qf5 L).length<=1000000:=by
 unfold qf5
 split
 · refine⟨fun x hx=>qh0 hx,?_⟩
   by_cases hne:qcz L= []
   · rename_i h
     rw [hne] at h;exact absurd h dE
   · have:=(qhz (qio (qns hne fun b hb=>qpi hb).2.1)).2
     omega
 · exact⟨by simp,by simp⟩
def boxM (kd:Int):Cl:=⟨fun o=>(qlj kd o,qi9 kd o),fun _ _=>true,fun _ _=>⟨0,1⟩,fun _=> [],fun _=> []⟩
theorem qt6 (args:Array Value) (w:World):(callFunc 234 args).run Tryz.prog w=.ok (.enter 234 args) w:=by kernel_rfl
theorem qqi (kd:Int) (o:Ob):(∀x∈qi9 kd o,x<256)/\(qi9 kd o).length<=1000000:=by
 unfold qi9
 split
 · rename_i h
   refine⟨fun x hx=>qh0 hx,?_⟩
   have hck:ckOb o=0:=by
    unfold qlj at h
    split at h
    · exact h
    · cases h
   have:=(qhz (qio (qfy hck))).2
   omega
 · exact⟨by simp,by simp⟩
theorem qsb (kd:Int):MkAt 121 (.agg #[.int .i64 kd]) (boxM kd) 234 where
 mM:=qqf _
 eM:=qt6
 form:=qqi kd
 make:=fun W B m c k A l hl hB hm=>(q0g B m c kd k A l W hl hB hm).mono fun e w' h=>by
  obtain⟨s,v,rfl,h1,h2,h3⟩:=h;refine⟨s,v,rfl,h1,fun h0=> ?_,fun h0=> ?_,h3⟩
  · rcases h2 with ⟨_,h⟩|⟨h,_⟩
    · exact h
    · exact absurd h0 h
  · rcases h2 with ⟨h,_⟩|⟨_,g,d,inner,rfl,_⟩
    · exact absurd h h0
    · exact⟨_,_,rfl⟩
end Go.Proofs.YtfnhnjbkkggbeaaGreat
