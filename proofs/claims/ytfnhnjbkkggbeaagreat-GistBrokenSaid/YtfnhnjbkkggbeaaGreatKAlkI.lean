/-pergolaref14.SameItems of two rows of the same items.-/
import Derived.Test.YtfnhnjbkkggbeaaGreatKSrtK
import Derived.Test.YtfnhnjbkkggbeaaGreatKGisY
import Derived.Shelf.AbstractIn
import Derived.RangeFuncBox
import Derived.RangeFuncLeaves
set_option linter.unusedVariables false
set_option linter.unusedSimpArgs false
set_option maxHeartbeats 2000000
namespace Go.Proofs.YtfnhnjbkkggbeaaGreat
open Go Go.RowKit Pg
theorem qw2 (B n c top:Nat) (A:Option Addr) (L:List (Int×Ob)) (w:World) (hl:qe4 w B A n L) (hB:B<=w.heap.size) (hn:n<=9223372036854775807) (ht:top<1099511627776):
 C9 5 #[.slice A n c,.int .i64 top] w fun e w' =>∃t:Nat,e=.returned (.int .i64 t)/\(t<=top->n<=top/\∀p∈L,p.2.pts.length<=top)/\Below w.heap.size w w' :=by
 have hLn:=hl.1;have HL:=hdQ hl;clear hl
 go_enter Tryz.func5,Tryz.ntmps5
 go_wp2_with (go_at_call 22;(with_reducible refine(qyd _ n 3 _ ?_).mono ?_);(focus exact blkA);rintro e w1 ⟨rfl,rfl⟩)
 go_loopw [5,6] (fun vn vi wr=>∃k m:Nat,k<=n/\vi=.int .i64 k/\vn=.int .i64 m/\m<=1099511627776/\(m<=top->n<=top)/\(m<=top->∀l∈L.take k,l.2.pts.length<=top)/\Below w.heap.size w wr) (fun _ vi _=>n-(Go.RowKit.intOf vi).toNat)
 case atStart=>exact ⟨0,_,by omega,rfl,rfl,(qj0 _ _ dE).2,fun h=>by have:=qfc [n] 0 dE oQ;simp at this;omega,fun _ l hl=>by simp at hl,bel⟩
 case round=>
  obtain⟨k,m,hk,rfl,rfl,hm,hnt,hs,hb⟩:=hrel
  by_cases hlt:k<n
  · have hk1:(k:Int)<(n:Int):=oQ
    by_cases hmt:m<=top
    · have hmt1:(m:Int)<=(top:Int):=oQ
      obtain⟨b,off,p,A',n',c',rfl,hab,hx,q0,q1,q2,hpt⟩:=(HL.out.below (hb.mono hB)).at_ hlt;have hbw:b<wr.heap.size:=by have:=hb.size;omega
      have HNT:=hdQ (hnt hmt);have hS:=hdQ (And.intro (hs hmt) (And.intro hx hpt.1));have hM:=hdQ hm;obtain⟨m',hm'⟩:∃m',sumS m [n']=m' :=⟨_,rfl⟩;have HM' :=hdQ hm';have HSS:=hdQ (fun g t w hg=>qps g m n' t w hg hm)
      rw [hm'] at HSS;clear hs hm hm' hpt hx hnt
      go_wp2_with (go_at_call 22;(with_reducible refine(HSS.out _ 3 _ ?_).mono ?_);(focus exact blkA);rintro e w1 ⟨rfl,rfl⟩)
      go_roundw
      case rel=>
       refine⟨k+1,m',by omega,by go_num,rfl,by rw [<-HM'.out];exact(qj0 _ _ hM.out).2,fun _=>HNT.out,fun h l hl=> ?_,bel⟩
       obtain⟨h1,h2,h3⟩:=hS.out;rw [zwy,h2] at hl
       rcases List.mem_append.1 hl with hl|hl
       · exact h1 l hl
       · simp at hl
         subst hl;have:=qfc [n'] m hM.out (by rw [HM'.out];omega)
         rw [HM'.out] at this
         simp at this
         omega
      case measure=>simp [Go.RowKit.intOf];omega
    · have hmt1:¬ (m:Int)<=(top:Int):=oQ
      clear hs hnt;go_wp2_with fail;go_ret;exact⟨m,rfl,fun h=>absurd h hmt,hb⟩
  · obtain rfl:n=k:=oQ
    rw [zmy oQ] at hs
    have HS:=hdQ (show m<=top->n<=top/\∀p∈L,p.2.pts.length<=top from fun h=>⟨hnt h,hs h⟩)
    clear hs hnt;go_wp2_with fail;go_ret;exact⟨m,rfl,HS.out,hb⟩
end Go.Proofs.YtfnhnjbkkggbeaaGreat
