/-Contracts of package rel: Touch,Bounds;pergolaalike.May.-/
import Derived.Test.YtfnhnjbkkggbeaaGreatKRef3
import Derived.LaidEql
import Derived.Stop.Asserts
import Derived.Lib.IfaceEq
import Derived.RowKitTokens
set_option linter.unusedVariables false
set_option linter.unusedSimpArgs false
set_option maxHeartbeats 1000000
namespace Go.Proofs.YtfnhnjbkkggbeaaGreat
open Go.RowKit Pg
theorem qpn (B n c:Nat) (k:Int) (A:Option Addr) (l:List Pt) (w:World) (hl:qal w B A n l) (hB:B<=w.heap.size) (hn:n<=1000000) (ho:ckOb ⟨k,l⟩=0):
 C9 105 #[obV k A n c] w (Ret w (.tuple #[bxW (qa2 ⟨k,l⟩),.nilIface])):=by
 have HO:=hdQ ho;have HF:Hid (ckOb ⟨k,l⟩=0):=ho;clear ho
 go_enter Tryz.func105,Tryz.ntmps105
 go_wp2_with (first|(go_at_call 50;refine(qgi B n c k A l _ (hl.tr bel hB) (bsz w hB) hn).mono ?_;rw [HF.out];rintro e wa ⟨va,rfl,hva,hba⟩;obtain rfl:va=.nilIface:=(by rcases hva with ⟨_,h⟩|⟨h,_⟩;exact h;exact absurd rfl h);obtain⟨hca,hfa,hza⟩:=bc3 hba;(try simp at hza);obtain⟨hy0,hy1⟩:=ol2 w wa)|(go_at_call 84;refine(qpk B n c k A l _ (hl.tr bel hB) (bsz w hB) HO.out).monoR ?_;rintro w1 hb1 hc1 hf1 hz1;(try simp at hz1);obtain⟨hy2,hy3⟩:=ol2 w w1))
 have hQ:Blk w1 (w.heap.size+1) 48 #[.int .i64 0,.int .i64 0,.int .i64 0,.int .i64 0]:=blkA;have HR:=(((hQ.set_ 0 (.int .i64 (qa2 ⟨k,l⟩).lo.x)).set_ 1 (.int .i64 (qa2 ⟨k,l⟩).lo.y)).set_ 2 (.int .i64 (qa2 ⟨k,l⟩).hi.x)).set_ 3 (.int .i64 (qa2 ⟨k,l⟩).hi.y);have r0:=HR.cell 0;have r1:=HR.cell 1;have r2:=HR.cell 2;have r3:=HR.cell 3
 simp at r0 r1 r2 r3
 exact bodyPost_ret (v:=.tuple #[bxW (qa2 ⟨k,l⟩),.nilIface]) (by simp [results,Tryz.results105,go_sem,r0,r1,r2,r3]) rfl ⟨rfl,bel⟩
end Go.Proofs.YtfnhnjbkkggbeaaGreat
