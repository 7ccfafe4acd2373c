/-Contracts of the references: BoxDist, SegDist.-/
import Derived.Test.YteodamnfgcnmmaaGreatDoorTArea
import Derived.Test.YteodamnfgcnmmaaGreatDoorTDist4
import Derived.Test.YteodamnfgcnmmaaGreatDoorTRefRB
set_option linter.unusedVariables false
set_option linter.unusedSimpArgs false
set_option maxHeartbeats 4000000
set_option maxRecDepth 20000
namespace Go.Proofs.YteodamnfgcnmmaaGreatDoor
open Go.RowKit Pg
def mbR (k:Int) (l:List Pt) (r:Bx):Bool:=if k=4 then qdb l r else qbn (qa4 ⟨k,l⟩) r
theorem qzi {l:List Pt}:¬ qcp ⟨4,l⟩=true:=by simp [qcp]
theorem q6k {k:Int} {l:List Pt} {r:Bx} (ho:ckOb ⟨k,l⟩=0) (hr:okBx r=true):(if qcp ⟨k,l⟩=true then qbn (qbv ⟨k,l⟩) r else cutS l r)=mbR k l r:=by
 unfold mbR
 by_cases h4:k=4
 · subst h4
   rw [if_neg qzi,if_pos rfl,qsw (qn1 ho) hr]
 · rw [qom ho h4,if_pos rfl,if_neg h4,qq9 ho h4]
theorem qv9 {o:Ob} {q:Qu} (h:ckOb o≠0):qa6 o q=false:=by unfold qa6;rw [if_neg (fun e=>h e.1)]
theorem qv8 {o:Ob} {q:Qu} (h:ckQu q≠0):qa6 o q=false:=by unfold qa6;rw [if_neg (fun e=>h e.2)]
theorem qcn {r:Bx} (h:qa2 r=0):okBx r=true:=decide_eq_true h
theorem q39 (B n c:Nat) (k:Int) (r:Bx) (A:Option Addr) (l:List Pt) (w:World) (hl:qan w B A n l) (hB:B<=w.heap.size) (hn:n<=1000000) (ho:ckOb ⟨k,l⟩=0):
 C9 79 #[obV k A n c,bxW r] w (Ret w (.bool (mbR k l r))):=by
 by_cases h4:k=4
 · subst h4
   have HF:Hid (mbR 4 l r=qdb l r):=by unfold Hid mbR;rw [if_pos rfl]
   have HR:=hdQ (fun w (h:qan w B A n l) (hB:B<=w.heap.size)=>qj1 B n c r A l w h hB hn)
   clear ho
   go_enter Tryz.func79,Tryz.ntmps79
   go_wp2_with (first|(go_at_call 82;refine(HR.out _ (hl.tr bel hB) (bsz w hB)).mono ?_;rintro e w2 ⟨rfl,hb2⟩))
   go_ret;exact⟨qad HF.out.symm,bel⟩
 · have HF:Hid (mbR k l r=qbn (qa4 ⟨k,l⟩) r):=by unfold Hid mbR;rw [if_neg h4]
   have HA:=hdQ (fun w (h:qan w B A n l) (hB:B<=w.heap.size)=>qjl B n c k A l w h hB hn ho)
   obtain⟨X,hX⟩:∃X,qa4 ⟨k,l⟩=X:=⟨_,rfl⟩;rw [hX] at HA HF;have HR:=hdQ (fun w=>qgk X.lo.x X.lo.y X.hi.x X.hi.y r.lo.x r.lo.y r.hi.x r.hi.y w)
   clear ho hX
   go_enter Tryz.func79,Tryz.ntmps79
   go_wp2_with (first|(go_at_call 67;refine(HA.out _ (hl.tr bel hB) (bsz w hB)).monoR ?_;rintro wa hba hca hfa hza;(try simp at hza);obtain⟨hya0,hya1⟩:=ol2 w wa)|(go_at_call 125;refine(HR.out _).mono ?_;rintro e w2 ⟨rfl,hb2⟩))
   go_ret;exact⟨qad HF.out.symm,bel⟩
theorem qvr (B n c n' c' :Nat) (k k' :Int) (b:Bx) (A A' :Option Addr) (l l' :List Pt) (w:World) (hl:qan w B A n l) (hl' :qan w B A' n' l') (hB:B<=w.heap.size) (hn:n<=1000000) (hn' :n' <=1000000):
 C9 39 #[obV k A n c,quV k' b A' n' c'] w (Ret w (.bool (qa6 ⟨k,l⟩ ⟨k',b,l'⟩))):=by
 by_cases ho:ckOb ⟨k,l⟩=0
 case neg=>
  have HF:Hid (qa6 ⟨k,l⟩ ⟨k',b,l'⟩=false):=qv9 ho;obtain⟨m,hm⟩:∃m:Nat,ckOb ⟨k,l⟩=m:=⟨_,rfl⟩;have hm0:((m:Int) !=0)=true:=by rw [bne_iff_ne];omega
  have HA:=hdQ (fun w (h:qan w B A n l) (hB:B<=w.heap.size)=>qlb B n c k A l w h hB hn ho)
  rw [hm] at HA;clear ho hm
  go_enter Tryz.func39,Tryz.ntmps39
  go_wp2_with (first|(go_at_call 67;refine(HA.out _ (hl.tr bel hB) (bsz w hB)).monoR ?_;rintro wa hba hca hfa hza;(try simp at hza);obtain⟨hya0,hya1⟩:=ol2 w wa))
  go_ret;exact⟨qad HF.out.symm,bel⟩
 have HA:=hdQ (fun w (h:qan w B A n l) (hB:B<=w.heap.size)=>qjl B n c k A l w h hB hn ho)
 obtain⟨X,hX⟩:∃X,qa4 ⟨k,l⟩=X:=⟨_,rfl⟩;rw [hX] at HA;have HQ:=hdQ (fun w (h:qan w B A' n' l') (hB:B<=w.heap.size)=>qmz B n' c' k' b A' l' w h hB hn')
 rw [<-qs7] at HQ
 by_cases hq:ckQu ⟨k',b,l'⟩=0
 case neg=>
  have HF:Hid (qa6 ⟨k,l⟩ ⟨k',b,l'⟩=false):=qv8 hq;obtain⟨m,hm⟩:∃m:Nat,ckQu ⟨k',b,l'⟩=m:=⟨_,rfl⟩;have hm0:((m:Int) !=0)=true:=by rw [bne_iff_ne];omega
  rw [hm] at HQ;clear ho hm hX hq
  go_enter Tryz.func39,Tryz.ntmps39
  go_wp2_with (first|(go_at_call 67;refine(HA.out _ (hl.tr bel hB) (bsz w hB)).monoR ?_;rintro wa hba hca hfa hza;(try simp at hza);obtain⟨hya0,hya1⟩:=ol2 w wa)|(go_at_call 14;refine(HQ.out _ (hl'.tr bel hB) (bsz w hB)).monoR ?_;rintro wq hbq hcq hfq hzq;(try simp at hzq);have hyq0:w.heap.size<wq.heap.size:=oQ;have hyq1:w.heap.size+1<wq.heap.size:=oQ;have hyqa:wa.heap.size<wq.heap.size:=oQ))
  go_ret;exact⟨qad HF.out.symm,bel⟩
 have HM0:=hdQ (fun r w (h:qan w B A n l) (hB:B<=w.heap.size)=>q39 B n c k r A l w h hB hn ho)
 rw [hq] at HQ;have hqk:=hq;unfold ckQu at hqk
 simp only at hqk
 by_cases k1:k' =1
 · subst k1
   have hr:qa2 b=0:=by simpa using hqk
   have HF:Hid (qa6 ⟨k,l⟩ ⟨1,b,l'⟩=mbR k l b):=by unfold Hid;rw [qfe ho hr];exact q6k ho (qcn hr)
   have HM:=hdQ (HM0.out b);clear HM0 ho hX hq hqk hr
   go_enter Tryz.func39,Tryz.ntmps39
   go_wp2_with (first|(go_at_call 67;refine(HA.out _ (hl.tr bel hB) (bsz w hB)).monoR ?_;rintro wa hba hca hfa hza;(try simp at hza);obtain⟨hya0,hya1⟩:=ol2 w wa)|(go_at_call 14;refine(HQ.out _ (hl'.tr bel hB) (bsz w hB)).monoR ?_;rintro wq hbq hcq hfq hzq;(try simp at hzq);have hyq0:w.heap.size<wq.heap.size:=oQ;have hyq1:w.heap.size+1<wq.heap.size:=oQ;have hyqa:wa.heap.size<wq.heap.size:=oQ)|(go_at_call 79;refine(HM.out _ (hl.tr bel hB) (bsz w hB)).mono ?_;rintro e w2 ⟨rfl,hb2⟩))
   go_ret;exact⟨qad HF.out.symm,bel⟩
 by_cases k2:k' =2
 · subst k2
   have hr:qa2 b=0:=by simpa using hqk
   have HF:Hid (qa6 ⟨k,l⟩ ⟨2,b,l'⟩=qd3 X b):=by unfold Hid;rw [que ho hr,hX]
   have HR:=hdQ (fun w=>qmn X.lo.x X.lo.y X.hi.x X.hi.y b.lo.x b.lo.y b.hi.x b.hi.y w)
   clear HM0 ho hX hq hqk hr
   go_enter Tryz.func39,Tryz.ntmps39
   go_wp2_with (first|(go_at_call 67;refine(HA.out _ (hl.tr bel hB) (bsz w hB)).monoR ?_;rintro wa hba hca hfa hza;(try simp at hza);obtain⟨hya0,hya1⟩:=ol2 w wa)|(go_at_call 14;refine(HQ.out _ (hl'.tr bel hB) (bsz w hB)).monoR ?_;rintro wq hbq hcq hfq hzq;(try simp at hzq);have hyq0:w.heap.size<wq.heap.size:=oQ;have hyq1:w.heap.size+1<wq.heap.size:=oQ;have hyqa:wa.heap.size<wq.heap.size:=oQ)|(go_at_call 80;refine(HR.out _).mono ?_;rintro e w2 ⟨rfl,hb2⟩))
   go_ret;exact⟨qad HF.out.symm,bel⟩
 by_cases k3:k' =3
 · subst k3
   have hr:okPt b.lo=true:=by
    by_cases h:okPt b.lo=true
    · exact h
    · simp [h] at hqk
   have HF:Hid (qa6 ⟨k,l⟩ ⟨3,b,l'⟩=mbR k l ⟨b.lo,b.lo⟩):=by unfold Hid;rw [qy9 ho hr];exact q6k ho (qr7 hr)
   have HM:=hdQ (HM0.out ⟨b.lo,b.lo⟩);clear HM0 ho hX hq hqk hr
   go_enter Tryz.func39,Tryz.ntmps39
   go_wp2_with (first|(go_at_call 67;refine(HA.out _ (hl.tr bel hB) (bsz w hB)).monoR ?_;rintro wa hba hca hfa hza;(try simp at hza);obtain⟨hya0,hya1⟩:=ol2 w wa)|(go_at_call 14;refine(HQ.out _ (hl'.tr bel hB) (bsz w hB)).monoR ?_;rintro wq hbq hcq hfq hzq;(try simp at hzq);have hyq0:w.heap.size<wq.heap.size:=oQ;have hyq1:w.heap.size+1<wq.heap.size:=oQ;have hyqa:wa.heap.size<wq.heap.size:=oQ)|(go_at_call 79;refine(HM.out _ (hl.tr bel hB) (bsz w hB)).mono ?_;rintro e w2 ⟨rfl,hb2⟩))
   go_ret;exact⟨qad HF.out.symm,bel⟩
 have h4:k' =4:=by
  by_cases h:k' =4
  · exact h
  · simp [k1,k2,k3,h] at hqk
 subst h4;have hr:qbb l' =0:=by simpa using hqk
 clear HM0 k1 k2 k3;have HF0:=qsd (r:=b) ho hr
 by_cases h4:k=4
 · subst h4
   have HF:Hid (qa6 ⟨4,l⟩ ⟨4,b,l'⟩=qg5 l l'):=by
    unfold Hid;rw [HF0,if_neg qzi];exact qyb (qn1 ho) hr
   have g1:1<=n:=by have:=qh2 (qn1 ho);rw [hl.1] at this;omega
   have g2:1<=n' :=by have:=qh2 hr;rw [hl'.1] at this;omega
   have HR:=hdQ (fun w (h:qan w B A n l) (h' :qan w B A' n' l') (hB:B<=w.heap.size)=>qvm B n c n' c' A A' l l' w h h' hB hn hn' g1 g2)
   clear HF0 ho hX hq hqk hr
   go_enter Tryz.func39,Tryz.ntmps39
   go_wp2_with (first|(go_at_call 67;refine(HA.out _ (hl.tr bel hB) (bsz w hB)).monoR ?_;rintro wa hba hca hfa hza;(try simp at hza);obtain⟨hya0,hya1⟩:=ol2 w wa)|(go_at_call 14;refine(HQ.out _ (hl'.tr bel hB) (bsz w hB)).monoR ?_;rintro wq hbq hcq hfq hzq;(try simp at hzq);have hyq0:w.heap.size<wq.heap.size:=oQ;have hyq1:w.heap.size+1<wq.heap.size:=oQ;have hyqa:wa.heap.size<wq.heap.size:=oQ)|(go_at_call 81;refine(HR.out _ (hl.tr bel hB) (hl'.tr bel hB) (bsz w hB)).mono ?_;rintro e w2 ⟨rfl,hb2⟩))
   go_ret;exact⟨qad HF.out.symm,bel⟩
 · have HF:Hid (qa6 ⟨k,l⟩ ⟨4,b,l'⟩=qdb l' X):=by
    unfold Hid;rw [HF0,qom ho h4,if_pos rfl,<-qq9 ho h4,qsw hr (qca ho),hX]
   have HR:=hdQ (fun w (h:qan w B A' n' l') (hB:B<=w.heap.size)=>qj1 B n' c' X A' l' w h hB hn')
   clear HF0 ho hX hq hqk hr
   go_enter Tryz.func39,Tryz.ntmps39
   go_wp2_with (first|(go_at_call 67;refine(HA.out _ (hl.tr bel hB) (bsz w hB)).monoR ?_;rintro wa hba hca hfa hza;(try simp at hza);obtain⟨hya0,hya1⟩:=ol2 w wa)|(go_at_call 14;refine(HQ.out _ (hl'.tr bel hB) (bsz w hB)).monoR ?_;rintro wq hbq hcq hfq hzq;(try simp at hzq);have hyq0:w.heap.size<wq.heap.size:=oQ;have hyq1:w.heap.size+1<wq.heap.size:=oQ;have hyqa:wa.heap.size<wq.heap.size:=oQ)|(go_at_call 82;refine(HR.out _ (hl'.tr bel hB) (bsz w hB)).mono ?_;rintro e w2 ⟨rfl,hb2⟩))
   go_ret;exact⟨qad HF.out.symm,bel⟩
end Go.Proofs.YteodamnfgcnmmaaGreatDoor
