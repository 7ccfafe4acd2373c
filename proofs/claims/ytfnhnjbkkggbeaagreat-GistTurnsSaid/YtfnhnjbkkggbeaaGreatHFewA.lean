/-pergolaalike.Ints of two own rows of the same numbers.-/
import Derived.Test.YtfnhnjbkkggbeaaGreatHLawGb
set_option linter.unusedVariables false
set_option linter.unusedSimpArgs false
set_option maxHeartbeats 2000000
set_option maxRecDepth 20000
namespace Go.Proofs.YtfnhnjbkkggbeaaGreat
open Go Go.RowKit Pg
theorem quw {w:World} {base n c:Nat} {A:Option Addr} {l:List Int} (h:w.ownsRow base 3 1 (.slice A n c) n (idcs l)) {k:Nat} {x:Int} (hk:l[k]? =some x):
 ∃b,A=some ⟨b,0,none⟩/\b<w.heap.size/\w.cell? ⟨b,k,none⟩=some (.int .i64 x):=by
 have hkl:=(zsy.1 hk).1;have hn:n=l.length:=by have:=h.1;unfold idcs at this;rw [zyy] at this;omega
 rcases h.2 with ⟨_,h0⟩|⟨b,cap,cur,e,_,hg,_⟩
 · omega
 · injection e with e1 e2 e3
   subst e1 e3;have hc:=h.cellAt k oQ
   refine⟨b,rfl,(zqy.1 hg).1,hc.trans ?_⟩;unfold idcs
   rw [zpx,hk]
   rfl
theorem q29 {b1 b2 n c1 c2:Nat} {A1 A2:Option Addr} (l:List Int) (w:World) (h1:w.ownsRow b1 3 1 (.slice A1 n c1) n (idcs l)) (h2:w.ownsRow b2 3 1 (.slice A2 n c2) n (idcs l)) (hn:n<=1000000):
 C9 14 #[.slice A1 n c1,.slice A2 n c2] w (Ret w (.bool true)):=by
 have hl:l.length=n:=by have:=h1.1;unfold idcs at this;rw [zyy] at this;omega
 have H1:=hdQ h1;have H2:=hdQ h2;clear h1 h2
 go_enter Tryz.func14,Tryz.ntmps14
 go_wp2_with fail
 go_loopw [5] (fun vi wr=>∃k:Nat,k<=n/\vi=.int .i64 k/\Below w.heap.size w wr) (fun vi _=>n-(Go.RowKit.intOf vi).toNat)
 case atStart=>exact ⟨0,by omega,rfl,bel⟩
 case round=>
  obtain⟨k,hk,rfl,hb⟩:=hrel
  by_cases hlt:k<n
  case neg=>
   obtain rfl:n=k:=oQ
   have HB:=hdQ hb;clear hb;go_wp2_with fail;go_ret;exact⟨rfl,HB.out⟩
  have hk0:(k:Int)<(n:Int):=oQ
  obtain⟨x,hx⟩:∃x,l[k]? =some x:=⟨l[k]'oQ,zby _⟩
  obtain⟨b,rfl,hbl,r0⟩:=quw (qam H1.out (qag hb) sI) hx
  obtain⟨b',rfl,hbl',s0⟩:=quw (qam H2.out (qag hb) sI) hx
  have HB:=hdQ hb;clear hx hb;go_wp2_with fail;refine qac kr kr pq ?_
  simp only [zdy,zey,ldz,lds,bare,qaj,lcz,lcs,zay]
  repeat' ((try simp only [Act.put,lsi,lsz,lss]);first|(refine lqx ?_)|(refine qab qaa rfl (fun K hK=> ?_);go_simp;((first |  fail|skip)<;>(refine hK.out _ _ bel ?_;clear hK K))))
  (all_goals try simp only [Act.put,lsi,lsz,lss]);all_goals(refine qad ?_)
  go_wp2_with fail
  go_roundw
  case rel=>exact ⟨k+1,by omega,by go_num,HB.out.trans ((show Below wr.heap.size wr _ from bel).mono HB.out.size)⟩
  case measure=>simp [Go.RowKit.intOf];omega
theorem q6y {w:World} {Z:Nat->Prop} {A:Option Addr} {S:List Nr} (h:qbl w Z A (nrVs S)) {k:Nat} {x:Nr} (hx:S[k]? =some x):∃b off,A=some ⟨b,off,none⟩/\b<w.heap.size/\w.cell? ⟨b,off+k*4,none⟩=some (.int .i64 x.1)/\w.cell? ⟨b,off+k*4+1,none⟩=some (.int .u64 ((x.2.num/18446744073709551616:Nat):Int))/\w.cell? ⟨b,off+k*4+2,none⟩=some (.int .u64 ((x.2.num%18446744073709551616:Nat):Int))/\w.cell? ⟨b,off+k*4+3,none⟩=some (.int .u64 (x.2.den:Int)):=by
 have hk:k<S.length:=(zsy.1 hx).1;obtain⟨b,off,e,_,hb,hc⟩:=h (by rw [qok];omega)
 have hd:(nrVs S).drop (k*4)=nrV x++nrVs (S.drop (k+1)):=by
  rw [qy8,zgx hk]
  have:S[k]=x:=by rw [zby hk] at hx;exact zjx hx
  rw [this]
  rfl
 have hg:∀j u,(nrV x)[j]? =some u->w.cell? ⟨b,off+k*4+j,none⟩=some u:=fun j u hu=>by
  have:(nrVs S)[k*4+j]? =some u:=by
   rw [<-List.getElem?_drop,hd,zex ((zsy.1 hu).1)]
   exact hu
  rw [show off+k*4+j=off+(k*4+j) by omega]
  exact hc _ _ this
 exact⟨b,off,e,hb,hg 0 _ rfl,hg 1 _ rfl,hg 2 _ rfl,hg 3 _ rfl⟩
theorem qps (A A2:Option Addr) (c c2:Nat) (S:List Nr) (Z Z2:Nat->Prop) (w:World) (h:qbl w Z A (nrVs S)) (h2:qbl w Z2 A2 (nrVs S)) (hS:S.length<=1000000):
 C9 16 #[.slice A S.length c,.slice A2 S.length c2] w (Ret w (.bool true)):=by
 have H1:=hdQ h;have H2:=hdQ h2;obtain⟨n,hn⟩:∃n,S.length=n:=⟨_,rfl⟩;have HN:=hdQ hn
 rw [hn] at hS ⊢
 clear h h2 hn
 go_enter Tryz.func16,Tryz.ntmps16
 go_wp2_with fail
 go_loopw [5] (fun vi wr=>∃k:Nat,k<=n/\vi=.int .i64 k/\Below w.heap.size w wr) (fun vi _=>n-(Go.RowKit.intOf vi).toNat)
 case atStart=>exact ⟨0,by omega,rfl,bel⟩
 case round=>
  obtain⟨k,hk,rfl,hb⟩:=hrel
  by_cases hlt:k<n
  · have hk1:(k:Int)<(n:Int):=oQ
    obtain⟨x,hx⟩:∃x,S[k]? =some x:=⟨_,zby (by rw [HN.out];exact hlt)⟩
    obtain⟨b,off,rfl,hbl,a0,a1,a2,a3⟩:=q6y (H1.out.kept (qag hb) sI) hx
    obtain⟨b',off',rfl,hbl',d0,d1,d2,d3⟩:=q6y (H2.out.kept (qag hb) sI) hx
    generalize x.2.num/18446744073709551616=e1 at*;generalize x.2.num%18446744073709551616=e0 at*;generalize x.2.den=ed at*;generalize x.1=ei at*;clear hx;go_wp2_with fail;refine qac kr kr pq ?_
    simp only [zdy,zey,ldz,lds,bare,qaj,lcz,lcs,zay]
    repeat' ((try simp only [Act.put,lsi,lsz,lss]);first|(refine lqx ?_)|(refine qab qaa rfl (fun K hK=> ?_);go_simp;((first|fail|skip)<;>(refine hK.out _ _ bel ?_;clear hK K))))
    (all_goals try simp only [Act.put,lsi,lsz,lss]);all_goals(refine qad ?_)
    go_wp2_with fail
    go_roundw
    case rel=>exact ⟨k+1,by omega,by go_num,bel⟩
    case measure=>simp [Go.RowKit.intOf];omega
  · obtain rfl:n=k:=oQ
    go_wp2_with fail;go_ret;exact⟨rfl,bel⟩
theorem qqs (B n2 c2 n3 c3:Nat) (A2 A3:Option Addr) (q:List Qu) (w:World) (hq:qf5 w B A2 n2 q) (hB:B<=w.heap.size) (hn2:n2<=9223372036854775807):
 C9 6 #[.slice A2 n2 c2,.slice A3 n3 c3] w fun e w' =>∃b,e=.returned (.bool b)/\(b=true->n2<=10/\n3<=10/\∀x∈q,x.ring.length<=200)/\Below w.heap.size w w' :=by
 have HQ:=hdQ hq;clear hq;obtain⟨b1,d1⟩:∃b,decide ((n2:Int)<=10)=b:=⟨_,rfl⟩;obtain⟨b2,d2⟩:∃b,decide ((n3:Int)<=10)=b:=⟨_,rfl⟩;have D1:=hdQ d1;have D2:=hdQ d2
 go_enter Tryz.func6,Tryz.ntmps6
 go_wp2_with fail
 go_loopw [5,6] (fun vn vi wr=>∃k m:Nat,k<=n2/\vi=.int .i64 k/\vn=.int .i64 m/\m<=1099511627776/\(m<=200->∀x∈q.take k,x.ring.length<=200)/\Below w.heap.size w wr) (fun _ vi _=>n2-(Go.RowKit.intOf vi).toNat)
 case atStart=>exact ⟨0,0,by omega,rfl,rfl,by omega,fun _ l hl=>by simp at hl,bel⟩
 case round=>
  obtain⟨k,m,hk,rfl,rfl,hm,hs,hb⟩:=hrel
  by_cases hlt:k<n2
  case pos=>
   have hk1:(k:Int)<(n2:Int):=oQ
   obtain⟨b,off,A',n',c',o,rfl,hab,ho,⟨h0,h1,h2,h3,h4,h5⟩,hpo⟩:=(HQ.out.below (hb.mono hB)).at_ hlt;have hbw:b<wr.heap.size:=by have:=hb.size;omega
   have hS:=hdQ (And.intro hs (And.intro ho hpo.1));have hM:=hdQ hm;obtain⟨m',hm'⟩:∃m',sumS m [n']=m' :=⟨_,rfl⟩;have HM' :=hdQ hm';have HSS:=hdQ (fun g t w hg=>qro g m n' t w hg hm)
   rw [hm'] at HSS;clear hs hm hm' hpo h0 ho h1 h2 h3 h4
   go_wp2_with (go_at_call 22;(with_reducible refine(HSS.out _ 3 _ ?_).mono ?_);(focus exact blkA);rintro e w1 ⟨rfl,rfl⟩)
   go_roundw
   case rel=>
    obtain⟨h1,h2,h3⟩:=hS.out;have h6:=(qk4 [n'] m hM.out).1;rw [HM'.out] at h6;refine⟨k+1,m',by omega,by go_num,rfl,by rw [<-HM'.out];exact(qk4 _ _ hM.out).2,fun h l hl=> ?_,bel⟩
    have h4:=qg9 [n'] m hM.out (by rw [HM'.out];omega)
    rw [HM'.out] at h4
    simp at h4
    rw [zwy,h2] at hl
    rcases List.mem_append.1 hl with hl|hl
    · exact h1 oQ l hl
    · simp at hl
      subst hl
      omega
   case measure=>simp [Go.RowKit.intOf];omega
  obtain rfl:n2=k:=oQ
  rw [zmy (by rw [HQ.out.1];omega)] at hs
  obtain⟨b3,d3⟩:∃b,decide ((m:Int)<=200)=b:=⟨_,rfl⟩;have D3:=hdQ d3;have HS:=hdQ hs;have HB:=hdQ hb;clear hs hb
  cases b1<;>cases b2<;>cases b3
  all_goals(
   go_wp2_with fail;go_ret;refine⟨_,rfl,fun hh=> ?_,HB.out⟩
   first
    | (cases hh;done)
    | exact⟨by have:=of_decide_eq_true D1.out;omega,by have:=of_decide_eq_true D2.out;omega,HS.out (by have:=of_decide_eq_true D3.out;omega)⟩)
section
variable {id:Int} {o:Ob} {I:List (Int×Ob)}
theorem qzb (p:Pt) (k:Int):(qmu p k I).length<=I.length:=by
 unfold qmu
 split
 · rw [List.length_take,qza]
   omega
 · simp
theorem qvl (q:Qu) (I:List (Int×Ob)):(qhp q I).length<=I.length:=by
 unfold qhp
 rw [zyy]
 exact List.length_filter_le _ _
end
end Go.Proofs.YtfnhnjbkkggbeaaGreat
