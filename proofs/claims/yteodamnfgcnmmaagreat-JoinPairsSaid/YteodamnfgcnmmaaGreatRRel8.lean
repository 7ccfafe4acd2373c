/-Contracts of package rel: Touch,Bounds;pergolaalike.May.-/
import Derived.Test.YteodamnfgcnmmaaGreatRRef3
import Derived.LaidEql
import Derived.Stop.Asserts
import Derived.Lib.IfaceEq
import Derived.RowKitTokens
set_option linter.unusedVariables false
set_option linter.unusedSimpArgs false
set_option maxHeartbeats 2000000
set_option maxRecDepth 20000
namespace Go.Proofs.YteodamnfgcnmmaaGreat
open Go.RowKit Pg
theorem qq0 (B n c n' c' :Nat) (k k' :Int) (A A' :Option Addr) (l l' :List Pt) (w:World) (hl:qas w B A n l) (hl' :qas w B A' n' l') (hB:B<=w.heap.size) (hn:n<=1000000) (hn' :n' <=1000000):
 C9 29 #[obV k A n c,obV k' A' n' c'] w (Ret w (.bool (qbl ⟨k,l⟩ ⟨k',l'⟩))):=by
 by_cases ho:ckOb ⟨k,l⟩=0
 · by_cases hq:ckOb ⟨k',l'⟩=0
   · have HF:Hid (qbl ⟨k,l⟩ ⟨k',l'⟩=qco ⟨k,l⟩ ⟨k',l'⟩):=by simp [Hid,qbl,ho,hq]
     have HA:=hdQ (fun w (h:qas w B A n l) (hB:B<=w.heap.size)=>qgm B n c k A l w h hB hn ho)
     have HB:=hdQ (fun w (h:qas w B A' n' l') (hB:B<=w.heap.size)=>qgm B n' c' k' A' l' w h hB hn' hq)
     have HM:=hdQ (fun w (h:qas w B A n l) (h' :qas w B A' n' l') (hB:B<=w.heap.size)=>qt4 B n c n' c' k k' A A' l l' w h h' hB ho hq)
     clear ho hq
     go_enter Tryz.func29,Tryz.ntmps29
     go_wp2_with (first|(go_at_call 55;have _hz:=hza;refine(HB.out _ (hl'.tr bel hB) (bsz w hB)).monoR ?_;rintro w1 hb1 hc1 hf1 hz1;(try simp at hz1);obtain⟨hy0,hy1⟩:=ol2 w w1)|(go_at_call 55;refine(HA.out _ (hl.tr bel hB) (bsz w hB)).monoR ?_;rintro wa hba hca hfa hza;(try simp at hza);obtain⟨hya0,hya1⟩:=ol2 w wa)|(go_at_call 56;refine(HM.out _ (hl.tr bel hB) (hl'.tr bel hB) (bsz w hB)).mono ?_;rintro e w2 ⟨rfl,hb2⟩))
     go_ret;exact⟨qae HF.out.symm,bel⟩
   · have HF:Hid (qbl ⟨k,l⟩ ⟨k',l'⟩=false):=by simp [Hid,qbl,hq]
     have HA:=hdQ (fun w (h:qas w B A n l) (hB:B<=w.heap.size)=>qgm B n c k A l w h hB hn ho)
     have HB:=hdQ (fun w (h:qas w B A' n' l') (hB:B<=w.heap.size)=>qic B n' c' k' A' l' w h hB hn' hq)
     clear ho hq
     go_enter Tryz.func29,Tryz.ntmps29
     go_wp2_with (first|(go_at_call 55;have _hz:=hza;refine(HB.out _ (hl'.tr bel hB) (bsz w hB)).mono ?_;rintro e w1 ⟨t1,u1,rfl,hb1⟩)|(go_at_call 55;refine(HA.out _ (hl.tr bel hB) (bsz w hB)).monoR ?_;rintro wa hba hca hfa hza;(try simp at hza);obtain⟨hya0,hya1⟩:=ol2 w wa))
     go_ret;exact⟨qae HF.out.symm,bel⟩
 · have HF:Hid (qbl ⟨k,l⟩ ⟨k',l'⟩=false):=by simp [Hid,qbl,ho]
   have HA:=hdQ (fun w (h:qas w B A n l) (hB:B<=w.heap.size)=>qic B n c k A l w h hB hn ho)
   clear ho
   go_enter Tryz.func29,Tryz.ntmps29
   go_wp2_with (go_at_call 55;refine(HA.out _ (hl.tr bel hB) (bsz w hB)).mono ?_;rintro e wa ⟨t1,u1,rfl,hba⟩)
   go_ret;exact⟨qae HF.out.symm,bel⟩
theorem qm7 (B n c:Nat) (k:Int) (A:Option Addr) (l:List Pt) (w:World) (hl:qas w B A n l) (hB:B<=w.heap.size) (hn:n<=1000000) (ho:ckOb ⟨k,l⟩=0):
 C9 27 #[obV k A n c] w (Ret w (.tuple #[bxW (qaj ⟨k,l⟩),.nilIface])):=by
 have HO:=hdQ ho;have HF:Hid (ckOb ⟨k,l⟩=0):=ho;clear ho
 go_enter Tryz.func27,Tryz.ntmps27
 go_wp2_with (first|(go_at_call 52;refine(qm6 B n c k A l _ (hl.tr bel hB) (bsz w hB) hn).mono ?_;rw [HF.out];rintro e wa ⟨va,rfl,hva,hba⟩;obtain rfl:va=.nilIface:=(by rcases hva with ⟨_,h⟩|⟨h,_⟩;exact h;exact absurd rfl h);obtain⟨hca,hfa,hza⟩:=bc3 hba;(try simp at hza);obtain⟨hy0,hy1⟩:=ol2 w wa)|(go_at_call 53;refine(qss B n c k A l _ (hl.tr bel hB) (bsz w hB) HO.out).monoR ?_;rintro w1 hb1 hc1 hf1 hz1;(try simp at hz1);obtain⟨hy2,hy3⟩:=ol2 w w1))
 have hQ:Blk w1 (w.heap.size+1) 77 #[.int .i64 0,.int .i64 0,.int .i64 0,.int .i64 0]:=blkA;have HR:=(((hQ.set_ 0 (.int .i64 (qaj ⟨k,l⟩).lo.x)).set_ 1 (.int .i64 (qaj ⟨k,l⟩).lo.y)).set_ 2 (.int .i64 (qaj ⟨k,l⟩).hi.x)).set_ 3 (.int .i64 (qaj ⟨k,l⟩).hi.y);have r0:=HR.cell 0;have r1:=HR.cell 1;have r2:=HR.cell 2;have r3:=HR.cell 3
 simp at r0 r1 r2 r3
 exact bodyPost_ret (v:=.tuple #[bxW (qaj ⟨k,l⟩),.nilIface]) (by simp [results,Tryz.results27,go_sem,r0,r1,r2,r3]) rfl ⟨rfl,bel⟩
end Go.Proofs.YteodamnfgcnmmaaGreat
