/-pergolaalike.Items and Round-/
import Derived.Test.YtjopdlmbgidigaaGreatAMade
import Derived.Test.YtjopdlmbgidigaaGreatAGisF
set_option linter.unusedVariables false
set_option linter.unusedSimpArgs false
set_option maxHeartbeats 2000000
namespace Go.Proofs.YtjopdlmbgidigaaGreat
open Go Go.RowKit Pg
theorem qji (B n c top:Nat) (A:Option Addr) (L:List (Int×Ob)) (w:World) (hl:qew w B A n L) (hB:B<=w.heap.size) (hn:n<=1000000) (ht:top<1099511627776):
 C9 5 #[.slice A n c,.int .i64 top] w fun e w' =>∃t:Nat,e=.returned (.int .i64 t)/\(t<=top->∀p∈L,p.2.pts.length<=top)/\Below w.heap.size w w' :=by
 have hLn:=hl.1;have HL:=hdQ hl;clear hl
 go_enter Tryz.func5,Tryz.ntmps5
 go_wp2_with (go_at_call 19;(with_reducible refine(q1u _ n 3 _ ?_).mono ?_);(focus exact blkA);rintro e w1 ⟨rfl,rfl⟩)
 go_loopw [5,6] (fun vn vi wr=>∃k m:Nat,k<=n/\vi=.int .i64 k/\vn=.int .i64 m/\m<=1099511627776/\(m<=top->∀l∈L.take k,l.2.pts.length<=top)/\Below w.heap.size w wr) (fun _ vi _=>n-(Go.RowKit.intOf vi).toNat)
 case atStart=>exact ⟨0,_,by omega,rfl,rfl,(qsn _ _ dE).2,fun _ l hl=>by simp at hl,bel⟩
 case round=>
  obtain⟨k,m,hk,rfl,rfl,hm,hs,hb⟩:=hrel
  by_cases hlt:k<n
  · have hk1:(k:Int)<(n:Int):=oQ
    by_cases hmt:m<=top
    · have hmt1:(m:Int)<=(top:Int):=oQ
      obtain⟨b,off,p,A',n',c',rfl,hab,hx,q0,q1,q2,hpt⟩:=(HL.out.below (hb.mono hB)).at_ hlt;have hbw:b<wr.heap.size:=by have:=hb.size;omega
      have hS:=hdQ (And.intro (hs hmt) (And.intro hx hpt.1));have hM:=hdQ hm;obtain⟨m',hm'⟩:∃m',sumS m [n']=m' :=⟨_,rfl⟩;have HM' :=hdQ hm';have HSS:=hdQ (fun g t w hg=>qyk g m n' t w hg hm)
      rw [hm'] at HSS;clear hs hm hm' hpt hx
      go_wp2_with (go_at_call 19;(with_reducible refine(HSS.out _ 3 _ ?_).mono ?_);(focus exact blkA);rintro e w1 ⟨rfl,rfl⟩)
      go_roundw
      case rel=>
       refine⟨k+1,m',by omega,by go_num,rfl,by rw [<-HM'.out];exact(qsn _ _ hM.out).2,fun h l hl=> ?_,bel⟩
       obtain⟨h1,h2,h3⟩:=hS.out;rw [zwy,h2] at hl
       rcases List.mem_append.1 hl with hl|hl
       · exact h1 l hl
       · simp at hl
         subst hl;have:=qnw [n'] m hM.out (by rw [HM'.out];omega)
         rw [HM'.out] at this
         simp at this
         omega
      case measure=>simp [Go.RowKit.intOf];omega
    · have hmt1:¬ (m:Int)<=(top:Int):=oQ
      clear hs;go_wp2_with fail;go_ret;exact⟨m,rfl,fun h=>absurd h hmt,hb⟩
  · obtain rfl:n=k:=oQ
    rw [zmy oQ] at hs
    have HS:=hdQ hs;clear hs;go_wp2_with fail;go_ret;exact⟨m,rfl,HS.out,hb⟩
theorem q2y {w:World} {Z:Nat->Prop} {A:Option Addr} {S:List Nr} (h:qci w Z A (nrVs S)) {k:Nat} {x:Nr} (hx:S[k]? =some x):∃b off,A=some ⟨b,off,none⟩/\b<w.heap.size/\w.cell? ⟨b,off+k*4,none⟩=some (.int .i64 x.1)/\w.cell? ⟨b,off+k*4+1,none⟩=some (.int .u64 ((x.2.num/18446744073709551616:Nat):Int))/\w.cell? ⟨b,off+k*4+2,none⟩=some (.int .u64 ((x.2.num%18446744073709551616:Nat):Int))/\w.cell? ⟨b,off+k*4+3,none⟩=some (.int .u64 (x.2.den:Int)):=by
 have hk:k<S.length:=(zsy.1 hx).1;obtain⟨b,off,e,_,hb,hc⟩:=h (by rw [qph];omega)
 have hd:(nrVs S).drop (k*4)=nrV x++nrVs (S.drop (k+1)):=by
  rw [qzr,zgx hk]
  have:S[k]=x:=by rw [zby hk] at hx;exact zjx hx
  rw [this]
  rfl
 have hg:∀j u,(nrV x)[j]? =some u->w.cell? ⟨b,off+k*4+j,none⟩=some u:=fun j u hu=>by
  have:(nrVs S)[k*4+j]? =some u:=by
   rw [<-List.getElem?_drop,hd,zex ((zsy.1 hu).1)]
   exact hu
  rw [show off+k*4+j=off+(k*4+j) by omega]
  exact hc _ _ this
 exact⟨b,off,e,hb,hg 0 _ rfl,hg 1 _ rfl,hg 2 _ rfl,hg 3 _ rfl⟩
theorem qkl (A A2:Option Addr) (c c2:Nat) (S:List Nr) (Z Z2:Nat->Prop) (w:World) (h:qci w Z A (nrVs S)) (h2:qci w Z2 A2 (nrVs S)) (hS:S.length<=1000000):
 C9 11 #[.slice A S.length c,.slice A2 S.length c2] w (Ret w (.bool true)):=by
 have H1:=hdQ h;have H2:=hdQ h2;obtain⟨n,hn⟩:∃n,S.length=n:=⟨_,rfl⟩;have HN:=hdQ hn
 rw [hn] at hS ⊢
 clear h h2 hn
 go_enter Tryz.func11,Tryz.ntmps11
 go_wp2_with fail
 go_loopw [5] (fun vi wr=>∃k:Nat,k<=n/\vi=.int .i64 k/\Below w.heap.size w wr) (fun vi _=>n-(Go.RowKit.intOf vi).toNat)
 case atStart=>exact ⟨0,by omega,rfl,bel⟩
 case round=>
  obtain⟨k,hk,rfl,hb⟩:=hrel
  by_cases hlt:k<n
  · have hk1:(k:Int)<(n:Int):=oQ
    obtain⟨x,hx⟩:∃x,S[k]? =some x:=⟨_,zby (by rw [HN.out];exact hlt)⟩
    obtain⟨b,off,rfl,hbl,a0,a1,a2,a3⟩:=q2y (H1.out.kept (qad hb) sI) hx
    obtain⟨b',off',rfl,hbl',d0,d1,d2,d3⟩:=q2y (H2.out.kept (qad hb) sI) hx
    generalize x.2.num/18446744073709551616=e1 at*;generalize x.2.num%18446744073709551616=e0 at*;generalize x.2.den=ed at*;generalize x.1=ei at*;clear hx;go_wp2_with fail;refine qac kr kr pq ?_
    simp only [zdy,zey,ldz,lds,bare,qal,lcz,lcs,zay]
    repeat' ((try simp only [Act.put,lsi,lsz,lss]);first|(refine lqx ?_)|(refine qab qaa rfl (fun K hK=> ?_);go_simp;((first|fail|skip)<;>(refine hK.out _ _ bel ?_;clear hK K))))
    (all_goals try simp only [Act.put,lsi,lsz,lss]);all_goals(refine qaf ?_)
    go_wp2_with fail
    go_roundw
    case rel=>exact ⟨k+1,by omega,by go_num,bel⟩
    case measure=>simp [Go.RowKit.intOf];omega
  · obtain rfl:n=k:=oQ
    go_wp2_with fail;go_ret;exact⟨rfl,bel⟩
end Go.Proofs.YtjopdlmbgidigaaGreat
