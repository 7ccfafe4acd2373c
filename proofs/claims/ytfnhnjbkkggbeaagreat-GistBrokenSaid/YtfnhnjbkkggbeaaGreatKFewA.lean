/-pergolalaw17.few-/
import Derived.Test.YtfnhnjbkkggbeaaGreatKMade
import Derived.Test.YtfnhnjbkkggbeaaGreatKLawGn
set_option linter.unusedVariables false
set_option linter.unusedSimpArgs false
set_option maxHeartbeats 2000000
set_option maxRecDepth 20000
namespace Go.Proofs.YtfnhnjbkkggbeaaGreat
open Go Go.RowKit Pg
theorem qo1 (B n2 c2 n3 c3:Nat) (A2 A3:Option Addr) (q:List Qu) (w:World) (hq:qfn w B A2 n2 q) (hB:B<=w.heap.size) (hn2:n2<=9223372036854775807):
 C9 6 #[.slice A2 n2 c2,.slice A3 n3 c3] w fun e w' =>∃b,e=.returned (.bool b)/\(b=true->n2<=10/\n3<=10/\∀x∈q,x.ring.length<=200)/\Below w.heap.size w w' :=by
 have HQ:=hdQ hq;clear hq;obtain⟨b1,d1⟩:∃b,decide ((n2:Int)<=10)=b:=⟨_,rfl⟩;obtain⟨b2,d2⟩:∃b,decide ((n3:Int)<=10)=b:=⟨_,rfl⟩;have D1:=hdQ d1;have D2:=hdQ d2
 go_enter Tryz.func6,Tryz.ntmps6
 go_wp2_with fail
 go_loopw [5,6] (fun vn vi wr=>∃k m:Nat,k<=n2/\vi=.int .i64 k/\vn=.int .i64 m/\m<=1099511627776/\(m<=200->∀x∈q.take k,x.ring.length<=200)/\Below w.heap.size w wr) (fun _ vi _=>n2-(Go.RowKit.intOf vi).toNat)
 case atStart=>exact ⟨0,0,by omega,rfl,rfl,by omega,fun _ l hl=>by simp at hl,bel⟩
 case round=>
  obtain⟨k,m,hk,rfl,rfl,hm,hs,hb⟩:=hrel
  by_cases hlt:k<n2
  case pos=>
   have hk1:(k:Int)<(n2:Int):=oQ
   obtain⟨b,off,A',n',c',o,rfl,hab,ho,⟨h0,h1,h2,h3,h4,h5⟩,hpo⟩:=(HQ.out.below (hb.mono hB)).at_ hlt;have hbw:b<wr.heap.size:=by have:=hb.size;omega
   have hS:=hdQ (And.intro hs (And.intro ho hpo.1));have hM:=hdQ hm;obtain⟨m',hm'⟩:∃m',sumS m [n']=m' :=⟨_,rfl⟩;have HM' :=hdQ hm';have HSS:=hdQ (fun g t w hg=>qps g m n' t w hg hm)
   rw [hm'] at HSS;clear hs hm hm' hpo h0 ho h1 h2 h3 h4
   go_wp2_with (go_at_call 22;(with_reducible refine(HSS.out _ 3 _ ?_).mono ?_);(focus exact blkA);rintro e w1 ⟨rfl,rfl⟩)
   go_roundw
   case rel=>
    obtain⟨h1,h2,h3⟩:=hS.out;have h6:=(qj0 [n'] m hM.out).1;rw [HM'.out] at h6;refine⟨k+1,m',by omega,by go_num,rfl,by rw [<-HM'.out];exact(qj0 _ _ hM.out).2,fun h l hl=> ?_,bel⟩
    have h4:=qfc [n'] m hM.out (by rw [HM'.out];omega)
    rw [HM'.out] at h4
    simp at h4
    rw [zwy,h2] at hl
    rcases List.mem_append.1 hl with hl|hl
    · exact h1 oQ l hl
    · simp at hl
      subst hl
      omega
   case measure=>simp [Go.RowKit.intOf];omega
  obtain rfl:n2=k:=oQ
  rw [zmy (by rw [HQ.out.1];omega)] at hs
  obtain⟨b3,d3⟩:∃b,decide ((m:Int)<=200)=b:=⟨_,rfl⟩;have D3:=hdQ d3;have HS:=hdQ hs;have HB:=hdQ hb;clear hs hb
  cases b1<;>cases b2<;>cases b3
  all_goals(
   go_wp2_with fail;go_ret;refine⟨_,rfl,fun hh=> ?_,HB.out⟩
   first
    | (cases hh;done)
    | exact⟨by have:=of_decide_eq_true D1.out;omega,by have:=of_decide_eq_true D2.out;omega,HS.out (by have:=of_decide_eq_true D3.out;omega)⟩)
end Go.Proofs.YtfnhnjbkkggbeaaGreat
