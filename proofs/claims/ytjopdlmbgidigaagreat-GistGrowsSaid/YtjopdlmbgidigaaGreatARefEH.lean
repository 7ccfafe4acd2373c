/-Contracts of the references: BoxDist, SegDist.-/
import Derived.Test.YtjopdlmbgidigaaGreatAArea
import Derived.Test.YtjopdlmbgidigaaGreatADist4
import Derived.Test.YtjopdlmbgidigaaGreatARefRB
set_option linter.unusedVariables false
set_option linter.unusedSimpArgs false
set_option maxHeartbeats 4000000
set_option maxRecDepth 20000
namespace Go.Proofs.YtjopdlmbgidigaaGreat
open Go.RowKit Pg
def mbR (k:Int) (l:List Pt) (r:Bx):Bool:=if k=4 then qcy l r else qbq (qaw ⟨k,l⟩) r
theorem q0c {l:List Pt}:¬ qcp ⟨4,l⟩=true:=by simp [qcp]
theorem q60 {k:Int} {l:List Pt} {r:Bx} (ho:ckOb ⟨k,l⟩=0) (hr:okBx r=true):(if qcp ⟨k,l⟩=true then qbq (qbz ⟨k,l⟩) r else cutS l r)=mbR k l r:=by
 unfold mbR
 by_cases h4:k=4
 · subst h4
   rw [if_neg q0c,if_pos rfl,qp1 (qpa ho) hr]
 · rw [qpt ho h4,if_pos rfl,if_neg h4,qse ho h4]
theorem qw8 {o:Ob} {q:Qu} (h:ckOb o≠0):qa2 o q=false:=by unfold qa2;rw [if_neg (fun e=>h e.1)]
theorem qw7 {o:Ob} {q:Qu} (h:ckQu q≠0):qa2 o q=false:=by unfold qa2;rw [if_neg (fun e=>h e.2)]
theorem qcn {r:Bx} (h:qa4 r=0):okBx r=true:=decide_eq_true h
theorem q4y (B n c:Nat) (k:Int) (r:Bx) (A:Option Addr) (l:List Pt) (w:World) (hl:qao w B A n l) (hB:B<=w.heap.size) (hn:n<=1000000) (ho:ckOb ⟨k,l⟩=0):
 C9 39 #[obV k A n c,bxW r] w (Ret w (.bool (mbR k l r))):=by
 by_cases h4:k=4
 · subst h4
   have HF:Hid (mbR 4 l r=qcy l r):=by unfold Hid mbR;rw [if_pos rfl]
   have HR:=hdQ (fun w (h:qao w B A n l) (hB:B<=w.heap.size)=>qkn B n c r A l w h hB hn)
   clear ho
   go_enter Tryz.func39,Tryz.ntmps39
   go_wp2_with (first|(go_at_call 42;refine(HR.out _ (hl.tr bel hB) (bsz w hB)).mono ?_;rintro e w2 ⟨rfl,hb2⟩))
   go_ret;exact⟨qae HF.out.symm,bel⟩
 · have HF:Hid (mbR k l r=qbq (qaw ⟨k,l⟩) r):=by unfold Hid mbR;rw [if_neg h4]
   have HA:=hdQ (fun w (h:qao w B A n l) (hB:B<=w.heap.size)=>qj1 B n c k A l w h hB hn ho)
   obtain⟨X,hX⟩:∃X,qaw ⟨k,l⟩=X:=⟨_,rfl⟩;rw [hX] at HA HF;have HR:=hdQ (fun w=>qgt X.lo.x X.lo.y X.hi.x X.hi.y r.lo.x r.lo.y r.hi.x r.hi.y w)
   clear ho hX
   go_enter Tryz.func39,Tryz.ntmps39
   go_wp2_with (first|(go_at_call 37;refine(HA.out _ (hl.tr bel hB) (bsz w hB)).monoR ?_;rintro wa hba hca hfa hza;(try simp at hza);obtain⟨hya0,hya1⟩:=ol2 w wa)|(go_at_call 71;refine(HR.out _).mono ?_;rintro e w2 ⟨rfl,hb2⟩))
   go_ret;exact⟨qae HF.out.symm,bel⟩
theorem qwv (B n c n' c' :Nat) (k k' :Int) (b:Bx) (A A' :Option Addr) (l l' :List Pt) (w:World) (hl:qao w B A n l) (hl' :qao w B A' n' l') (hB:B<=w.heap.size) (hn:n<=1000000) (hn' :n' <=1000000):
 C9 16 #[obV k A n c,quV k' b A' n' c'] w (Ret w (.bool (qa2 ⟨k,l⟩ ⟨k',b,l'⟩))):=by
 by_cases ho:ckOb ⟨k,l⟩=0
 case neg=>
  have HF:Hid (qa2 ⟨k,l⟩ ⟨k',b,l'⟩=false):=qw8 ho;obtain⟨m,hm⟩:∃m:Nat,ckOb ⟨k,l⟩=m:=⟨_,rfl⟩;have hm0:((m:Int) !=0)=true:=by rw [bne_iff_ne];omega
  have HA:=hdQ (fun w (h:qao w B A n l) (hB:B<=w.heap.size)=>ql4 B n c k A l w h hB hn ho)
  rw [hm] at HA;clear ho hm
  go_enter Tryz.func16,Tryz.ntmps16
  go_wp2_with (first|(go_at_call 37;refine(HA.out _ (hl.tr bel hB) (bsz w hB)).monoR ?_;rintro wa hba hca hfa hza;(try simp at hza);obtain⟨hya0,hya1⟩:=ol2 w wa))
  go_ret;exact⟨qae HF.out.symm,bel⟩
 have HA:=hdQ (fun w (h:qao w B A n l) (hB:B<=w.heap.size)=>qj1 B n c k A l w h hB hn ho)
 obtain⟨X,hX⟩:∃X,qaw ⟨k,l⟩=X:=⟨_,rfl⟩;rw [hX] at HA;have HQ:=hdQ (fun w (h:qao w B A' n' l') (hB:B<=w.heap.size)=>qny B n' c' k' b A' l' w h hB hn')
 rw [<-q0z] at HQ
 by_cases hq:ckQu ⟨k',b,l'⟩=0
 case neg=>
  have HF:Hid (qa2 ⟨k,l⟩ ⟨k',b,l'⟩=false):=qw7 hq;obtain⟨m,hm⟩:∃m:Nat,ckQu ⟨k',b,l'⟩=m:=⟨_,rfl⟩;have hm0:((m:Int) !=0)=true:=by rw [bne_iff_ne];omega
  rw [hm] at HQ;clear ho hm hX hq
  go_enter Tryz.func16,Tryz.ntmps16
  go_wp2_with (first|(go_at_call 37;refine(HA.out _ (hl.tr bel hB) (bsz w hB)).monoR ?_;rintro wa hba hca hfa hza;(try simp at hza);obtain⟨hya0,hya1⟩:=ol2 w wa)|(go_at_call 38;refine(HQ.out _ (hl'.tr bel hB) (bsz w hB)).monoR ?_;rintro wq hbq hcq hfq hzq;(try simp at hzq);have hyq0:w.heap.size<wq.heap.size:=oQ;have hyq1:w.heap.size+1<wq.heap.size:=oQ;have hyqa:wa.heap.size<wq.heap.size:=oQ))
  go_ret;exact⟨qae HF.out.symm,bel⟩
 have HM0:=hdQ (fun r w (h:qao w B A n l) (hB:B<=w.heap.size)=>q4y B n c k r A l w h hB hn ho)
 rw [hq] at HQ;have hqk:=hq;unfold ckQu at hqk
 simp only at hqk
 by_cases k1:k' =1
 · subst k1
   have hr:qa4 b=0:=by simpa using hqk
   have HF:Hid (qa2 ⟨k,l⟩ ⟨1,b,l'⟩=mbR k l b):=by unfold Hid;rw [qfl ho hr];exact q60 ho (qcn hr)
   have HM:=hdQ (HM0.out b);clear HM0 ho hX hq hqk hr
   go_enter Tryz.func16,Tryz.ntmps16
   go_wp2_with (first|(go_at_call 37;refine(HA.out _ (hl.tr bel hB) (bsz w hB)).monoR ?_;rintro wa hba hca hfa hza;(try simp at hza);obtain⟨hya0,hya1⟩:=ol2 w wa)|(go_at_call 38;refine(HQ.out _ (hl'.tr bel hB) (bsz w hB)).monoR ?_;rintro wq hbq hcq hfq hzq;(try simp at hzq);have hyq0:w.heap.size<wq.heap.size:=oQ;have hyq1:w.heap.size+1<wq.heap.size:=oQ;have hyqa:wa.heap.size<wq.heap.size:=oQ)|(go_at_call 39;refine(HM.out _ (hl.tr bel hB) (bsz w hB)).mono ?_;rintro e w2 ⟨rfl,hb2⟩))
   go_ret;exact⟨qae HF.out.symm,bel⟩
 by_cases k2:k' =2
 · subst k2
   have hr:qa4 b=0:=by simpa using hqk
   have HF:Hid (qa2 ⟨k,l⟩ ⟨2,b,l'⟩=qec X b):=by unfold Hid;rw [qvj ho hr,hX]
   have HR:=hdQ (fun w=>qnh X.lo.x X.lo.y X.hi.x X.hi.y b.lo.x b.lo.y b.hi.x b.hi.y w)
   clear HM0 ho hX hq hqk hr
   go_enter Tryz.func16,Tryz.ntmps16
   go_wp2_with (first|(go_at_call 37;refine(HA.out _ (hl.tr bel hB) (bsz w hB)).monoR ?_;rintro wa hba hca hfa hza;(try simp at hza);obtain⟨hya0,hya1⟩:=ol2 w wa)|(go_at_call 38;refine(HQ.out _ (hl'.tr bel hB) (bsz w hB)).monoR ?_;rintro wq hbq hcq hfq hzq;(try simp at hzq);have hyq0:w.heap.size<wq.heap.size:=oQ;have hyq1:w.heap.size+1<wq.heap.size:=oQ;have hyqa:wa.heap.size<wq.heap.size:=oQ)|(go_at_call 40;refine(HR.out _).mono ?_;rintro e w2 ⟨rfl,hb2⟩))
   go_ret;exact⟨qae HF.out.symm,bel⟩
 by_cases k3:k' =3
 · subst k3
   have hr:okPt b.lo=true:=by
    by_cases h:okPt b.lo=true
    · exact h
    · simp [h] at hqk
   have HF:Hid (qa2 ⟨k,l⟩ ⟨3,b,l'⟩=mbR k l ⟨b.lo,b.lo⟩):=by unfold Hid;rw [qre ho hr];exact q60 ho (qmd hr)
   have HM:=hdQ (HM0.out ⟨b.lo,b.lo⟩);clear HM0 ho hX hq hqk hr
   go_enter Tryz.func16,Tryz.ntmps16
   go_wp2_with (first|(go_at_call 37;refine(HA.out _ (hl.tr bel hB) (bsz w hB)).monoR ?_;rintro wa hba hca hfa hza;(try simp at hza);obtain⟨hya0,hya1⟩:=ol2 w wa)|(go_at_call 38;refine(HQ.out _ (hl'.tr bel hB) (bsz w hB)).monoR ?_;rintro wq hbq hcq hfq hzq;(try simp at hzq);have hyq0:w.heap.size<wq.heap.size:=oQ;have hyq1:w.heap.size+1<wq.heap.size:=oQ;have hyqa:wa.heap.size<wq.heap.size:=oQ)|(go_at_call 39;refine(HM.out _ (hl.tr bel hB) (bsz w hB)).mono ?_;rintro e w2 ⟨rfl,hb2⟩))
   go_ret;exact⟨qae HF.out.symm,bel⟩
 have h4:k' =4:=by
  by_cases h:k' =4
  · exact h
  · simp [k1,k2,k3,h] at hqk
 subst h4;have hr:qbg l' =0:=by simpa using hqk
 clear HM0 k1 k2 k3;have HF0:=qtc (r:=b) ho hr
 by_cases h4:k=4
 · subst h4
   have HF:Hid (qa2 ⟨4,l⟩ ⟨4,b,l'⟩=qhd l l'):=by
    unfold Hid;rw [HF0,if_neg q0c];exact qy5 (qpa ho) hr
   have g1:1<=n:=by have:=qib (qpa ho);rw [hl.1] at this;omega
   have g2:1<=n' :=by have:=qib hr;rw [hl'.1] at this;omega
   have HR:=hdQ (fun w (h:qao w B A n l) (h' :qao w B A' n' l') (hB:B<=w.heap.size)=>qwo B n c n' c' A A' l l' w h h' hB hn hn' g1 g2)
   clear HF0 ho hX hq hqk hr
   go_enter Tryz.func16,Tryz.ntmps16
   go_wp2_with (first|(go_at_call 37;refine(HA.out _ (hl.tr bel hB) (bsz w hB)).monoR ?_;rintro wa hba hca hfa hza;(try simp at hza);obtain⟨hya0,hya1⟩:=ol2 w wa)|(go_at_call 38;refine(HQ.out _ (hl'.tr bel hB) (bsz w hB)).monoR ?_;rintro wq hbq hcq hfq hzq;(try simp at hzq);have hyq0:w.heap.size<wq.heap.size:=oQ;have hyq1:w.heap.size+1<wq.heap.size:=oQ;have hyqa:wa.heap.size<wq.heap.size:=oQ)|(go_at_call 41;refine(HR.out _ (hl.tr bel hB) (hl'.tr bel hB) (bsz w hB)).mono ?_;rintro e w2 ⟨rfl,hb2⟩))
   go_ret;exact⟨qae HF.out.symm,bel⟩
 · have HF:Hid (qa2 ⟨k,l⟩ ⟨4,b,l'⟩=qcy l' X):=by
    unfold Hid;rw [HF0,qpt ho h4,if_pos rfl,<-qse ho h4,qp1 hr (qb0 ho),hX]
   have HR:=hdQ (fun w (h:qao w B A' n' l') (hB:B<=w.heap.size)=>qkn B n' c' X A' l' w h hB hn')
   clear HF0 ho hX hq hqk hr
   go_enter Tryz.func16,Tryz.ntmps16
   go_wp2_with (first|(go_at_call 37;refine(HA.out _ (hl.tr bel hB) (bsz w hB)).monoR ?_;rintro wa hba hca hfa hza;(try simp at hza);obtain⟨hya0,hya1⟩:=ol2 w wa)|(go_at_call 38;refine(HQ.out _ (hl'.tr bel hB) (bsz w hB)).monoR ?_;rintro wq hbq hcq hfq hzq;(try simp at hzq);have hyq0:w.heap.size<wq.heap.size:=oQ;have hyq1:w.heap.size+1<wq.heap.size:=oQ;have hyqa:wa.heap.size<wq.heap.size:=oQ)|(go_at_call 42;refine(HR.out _ (hl'.tr bel hB) (bsz w hB)).mono ?_;rintro e w2 ⟨rfl,hb2⟩))
   go_ret;exact⟨qae HF.out.symm,bel⟩
end Go.Proofs.YtjopdlmbgidigaaGreat
