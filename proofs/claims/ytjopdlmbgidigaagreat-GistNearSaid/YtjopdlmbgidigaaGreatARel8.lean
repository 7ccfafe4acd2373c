/-Contracts of package rel: Touch,Bounds;pergolaalike.May.-/
import Derived.Test.YtjopdlmbgidigaaGreatARef3
import Derived.LaidEql
import Derived.Stop.Asserts
import Derived.Lib.IfaceEq
import Derived.RowKitTokens
set_option linter.unusedVariables false
set_option linter.unusedSimpArgs false
set_option maxHeartbeats 1000000
namespace Go.Proofs.YtjopdlmbgidigaaGreat
open Go.RowKit Pg
theorem qrd (B n c:Nat) (k:Int) (A:Option Addr) (l:List Pt) (w:World) (hl:qao w B A n l) (hB:B<=w.heap.size):
 C9 13 #[obV k A n c] w (Ret w (.bool (decide (n<=64)&&decide (ckOb ⟨k,l⟩=0)))):=by
 by_cases hn:n<=64
 · have hn1:(n:Int)<=64:=oQ
   obtain⟨m,hm⟩:∃m:Nat,ckOb ⟨k,l⟩=m:=⟨_,rfl⟩;have HM:Hid (qeu ⟨k,l⟩=m):=by unfold Hid;rw [<-qub,hm]
   have HN:=hdQ hm;clear hm
   by_cases hz:m=0
   · subst hz
     go_enter Tryz.func13,Tryz.ntmps13
     go_wp2_with (go_at_call 35;refine(qeg B n c k A l _ (hl.tr bel hB) (bsz w hB) oQ).mono ?_;rw [HM.out];rintro e w1 ⟨rfl,hb1⟩;obtain⟨hc1,hf1,hz1⟩:=bc3 hb1;(try simp at hz1);have hy0:=ol1 w w1)
     go_ret;exact⟨qae (by rw [HN.out];simp [hn]),bel⟩
   · have hz1:((m:Int)==0)=false:=by rw [beq_eq_false_iff_ne];omega
     have HZ:=hdQ hz;clear hz
     go_enter Tryz.func13,Tryz.ntmps13
     go_wp2_with (go_at_call 35;refine(qeg B n c k A l _ (hl.tr bel hB) (bsz w hB) oQ).mono ?_;rw [HM.out];rintro e w1 ⟨rfl,hb1⟩;obtain⟨hc1,hf1,hz1⟩:=bc3 hb1;(try simp at hz1);have hy0:=ol1 w w1)
     go_ret;exact⟨qae (by rw [HN.out];simp [HZ.out]),bel⟩
 · have hn1:¬ (n:Int)<=64:=oQ
   go_enter Tryz.func13,Tryz.ntmps13
   go_wp2;go_ret;exact⟨qae (by simp [hn]),bel⟩
theorem q1g (B n c:Nat) (k:Int) (A:Option Addr) (l:List Pt) (w:World) (hl:qao w B A n l) (hB:B<=w.heap.size) (hn:n<=1000000) (ho:ckOb ⟨k,l⟩=0):
 C9 233 #[obV k A n c] w (Ret w (.tuple #[bxW (qaw ⟨k,l⟩),.nilIface])):=by
 have HO:=hdQ ho;have HF:Hid (ckOb ⟨k,l⟩=0):=ho;clear ho
 go_enter Tryz.func233,Tryz.ntmps233
 go_wp2_with (first|(go_at_call 51;refine(qju B n c k A l _ (hl.tr bel hB) (bsz w hB) hn).mono ?_;rw [HF.out];rintro e wa ⟨va,rfl,hva,hba⟩;obtain rfl:va=.nilIface:=(by rcases hva with ⟨_,h⟩|⟨h,_⟩;exact h;exact absurd rfl h);obtain⟨hca,hfa,hza⟩:=bc3 hba;(try simp at hza);obtain⟨hy0,hy1⟩:=ol2 w wa)|(go_at_call 110;refine(qsd B n c k A l _ (hl.tr bel hB) (bsz w hB) HO.out).monoR ?_;rintro w1 hb1 hc1 hf1 hz1;(try simp at hz1);obtain⟨hy2,hy3⟩:=ol2 w w1))
 have hQ:Blk w1 (w.heap.size+1) 42 #[.int .i64 0,.int .i64 0,.int .i64 0,.int .i64 0]:=blkA;have HR:=(((hQ.set_ 0 (.int .i64 (qaw ⟨k,l⟩).lo.x)).set_ 1 (.int .i64 (qaw ⟨k,l⟩).lo.y)).set_ 2 (.int .i64 (qaw ⟨k,l⟩).hi.x)).set_ 3 (.int .i64 (qaw ⟨k,l⟩).hi.y);have r0:=HR.cell 0;have r1:=HR.cell 1;have r2:=HR.cell 2;have r3:=HR.cell 3
 simp at r0 r1 r2 r3
 exact bodyPost_ret (v:=.tuple #[bxW (qaw ⟨k,l⟩),.nilIface]) (by simp [results,Tryz.results233,go_sem,r0,r1,r2,r3]) rfl ⟨rfl,bel⟩
end Go.Proofs.YtjopdlmbgidigaaGreat
