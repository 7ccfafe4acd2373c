/-Contracts of the references of chapter 3-/
import Derived.Test.YtfnhnjbkkggbeaaGreatHRef3
import Derived.StillTailTactics
import Derived.Outline
set_option linter.unusedVariables false
set_option linter.unusedSimpArgs false
set_option maxHeartbeats 2000000
set_option maxRecDepth 20000
namespace Go.Proofs.YtfnhnjbkkggbeaaGreat
open Go.RowKit Pg
theorem qhm {b:Bx}:okBx b=true↔qa4 b=0:=by unfold okBx;rw [decide_eq_true_eq]
theorem qr6 (a b c d x y:Int) (w:World):C9 193 #[bxV a b c d,ptV x y] w (Ret w (.bool (bhas ⟨⟨a,b⟩,⟨c,d⟩⟩ ⟨x,y⟩))):=by
 obtain⟨m,hm⟩:∃m:Nat,qa4 ⟨⟨a,b⟩,⟨c,d⟩⟩=m:=⟨_,rfl⟩;have HM:=hdQ hm
 by_cases hz:m=0
 · subst hz
   have hk:=qhm.2 hm;clear hm
   cases ho:okPt ⟨x,y⟩
   · have HF:Hid (bhas ⟨⟨a,b⟩,⟨c,d⟩⟩ ⟨x,y⟩=false):=by simp [Hid,bhas,ho]
     have HO:=hdQ ho;clear ho
     go_enter Tryz.func193,Tryz.ntmps193
     go_wp2_with (first|(go_at_call 204;refine(qbh _ _ _ _ _).mono ?_;rw [HM.out];rintro e w1 ⟨rfl,hb1⟩;obtain⟨hc1,hf1,hz1⟩:=bc3 hb1;(try simp at hz1);obtain⟨hy0,hy1⟩:=ol2 w w1)|(go_at_call 205;refine(qav _ _ _).mono ?_;rw [HO.out];rintro e w1 ⟨rfl,hb1⟩;obtain⟨hc1,hf1,hz1⟩:=bc3 hb1;(try simp at hz1);obtain⟨hy0,hy1⟩:=ol2 w w1))
     go_ret;exact⟨qaf HF.out.symm,bel⟩
   · have HF:Hid (bhas ⟨⟨a,b⟩,⟨c,d⟩⟩ ⟨x,y⟩=(decide (a<=x)&&decide (x<=c)&&decide (b<=y)&&decide (y<=d))):=by simp [Hid,bhas,hk,ho,qo8]
     have HO:=hdQ ho;clear ho hk
     go_enter Tryz.func193,Tryz.ntmps193
     go_wp2_with (first|(go_at_call 204;refine(qbh _ _ _ _ _).mono ?_;rw [HM.out];rintro e w1 ⟨rfl,hb1⟩;obtain⟨hc1,hf1,hz1⟩:=bc3 hb1;(try simp at hz1);obtain⟨hy0,hy1⟩:=ol2 w w1)|(go_at_call 205;refine(qav _ _ _).mono ?_;rw [HO.out];rintro e w1 ⟨rfl,hb1⟩;obtain⟨hc1,hf1,hz1⟩:=bc3 hb1;(try simp at hz1);obtain⟨hy0,hy1⟩:=ol2 w w1))
     all_goals go_ret
     all_goals exact⟨qaf (by rw [HF.out,Bool.eq_iff_iff];simp only [ziy,decide_eq_true_eq,Bool.false_eq_true,false_iff,true_iff];omega),bel⟩
 · have hz1:((m:Int)==0)=false:=by rw [beq_eq_false_iff_ne];omega
   have HF:Hid (bhas ⟨⟨a,b⟩,⟨c,d⟩⟩ ⟨x,y⟩=false):=by
    have:okBx ⟨⟨a,b⟩,⟨c,d⟩⟩=false:=by rw [<-Bool.not_eq_true,qhm,hm];exact hz
    simp [Hid,bhas,this]
   clear hm hz
   go_enter Tryz.func193,Tryz.ntmps193
   go_wp2_with (go_at_call 204;refine(qbh _ _ _ _ _).mono ?_;rw [HM.out];rintro e w1 ⟨rfl,hb1⟩;obtain⟨hc1,hf1,hz1⟩:=bc3 hb1;(try simp at hz1);obtain⟨hy0,hy1⟩:=ol2 w w1)
   go_ret;exact⟨qaf HF.out.symm,bel⟩
theorem qip (a b c d e f i j:Int) (w:World):C9 195 #[bxV a b c d,bxV e f i j] w (Ret w (.bool (qcd ⟨⟨a,b⟩,⟨c,d⟩⟩ ⟨⟨e,f⟩,⟨i,j⟩⟩))):=by
 obtain⟨m,hm⟩:∃m:Nat,qa4 ⟨⟨a,b⟩,⟨c,d⟩⟩=m:=⟨_,rfl⟩;have HM:=hdQ (fun w=>(qbh a b c d w).mono fun e w' h=>by rw [hm] at h;exact h)
 by_cases hz:m=0
 · subst hz
   have hk:=qhm.2 hm;clear hm;obtain⟨m,hm⟩:∃m:Nat,qa4 ⟨⟨e,f⟩,⟨i,j⟩⟩=m:=⟨_,rfl⟩;have HN:=hdQ (fun w=>(qbh e f i j w).mono fun e w' h=>by rw [hm] at h;exact h)
   by_cases hz:m=0
   · subst hz
     have hk2:=qhm.2 hm;have HF:Hid (qcd ⟨⟨a,b⟩,⟨c,d⟩⟩ ⟨⟨e,f⟩,⟨i,j⟩⟩=(decide (a<=i)&&decide (e<=c)&&decide (b<=j)&&decide (f<=d))):=by simp [Hid,qcd,hk,hk2,qie]
     clear hk hk2 hm
     go_enter Tryz.func195,Tryz.ntmps195
     go_wp2_with (first|(go_at_call 204;have _hz:=hza;refine(HN.out _).monoR ?_;rintro w1 hb1 hc1 hf1 hz1;(try simp at hz1);obtain⟨hy0,hy1⟩:=ol2 w w1;have hya:wa.heap.size<=w1.heap.size:=oQ)|(go_at_call 204;refine(HM.out _).monoR ?_;rintro wa hba hca hfa hza;(try simp at hza);obtain⟨hya0,hya1⟩:=ol2 w wa))
     all_goals go_ret
     all_goals exact⟨qaf (by rw [HF.out,Bool.eq_iff_iff];simp only [ziy,decide_eq_true_eq,Bool.false_eq_true,false_iff,true_iff];omega),bel⟩
   · have hz1:((m:Int)==0)=false:=by rw [beq_eq_false_iff_ne];omega
     have HF:Hid (qcd ⟨⟨a,b⟩,⟨c,d⟩⟩ ⟨⟨e,f⟩,⟨i,j⟩⟩=false):=by
      have:okBx ⟨⟨e,f⟩,⟨i,j⟩⟩=false:=by rw [<-Bool.not_eq_true,qhm,hm];exact hz
      simp [Hid,qcd,this]
     clear hm hz hk
     go_enter Tryz.func195,Tryz.ntmps195
     go_wp2_with (first|(go_at_call 204;have _hz:=hza;refine(HN.out _).monoR ?_;rintro w1 hb1 hc1 hf1 hz1;(try simp at hz1);obtain⟨hy0,hy1⟩:=ol2 w w1)|(go_at_call 204;refine(HM.out _).monoR ?_;rintro wa hba hca hfa hza;(try simp at hza);obtain⟨hya0,hya1⟩:=ol2 w wa))
     go_ret;exact⟨qaf HF.out.symm,bel⟩
 · have hz1:((m:Int)==0)=false:=by rw [beq_eq_false_iff_ne];omega
   have HF:Hid (qcd ⟨⟨a,b⟩,⟨c,d⟩⟩ ⟨⟨e,f⟩,⟨i,j⟩⟩=false):=by
    have:okBx ⟨⟨a,b⟩,⟨c,d⟩⟩=false:=by rw [<-Bool.not_eq_true,qhm,hm];exact hz
    simp [Hid,qcd,this]
   clear hm hz
   go_enter Tryz.func195,Tryz.ntmps195
   go_wp2_with (go_at_call 204;refine(HM.out _).monoR ?_;rintro w1 hb1 hc1 hf1 hz1;(try simp at hz1);obtain⟨hy0,hy1⟩:=ol2 w w1)
   go_ret;exact⟨qaf HF.out.symm,bel⟩
theorem qpd {P:Program} {c:Code} {Q:Exit->Act->World->Prop} {a:Act} {w:World} (R:World->Prop) (h:R w) (k:∀w2,R w2->c.wp P Q a w2):c.wp P Q a w:=k w h
theorem qjn (B n c:Nat) (A:Option Addr) (l:List Bx) (w:World) (hl:qij w B A n l) (hB:B<=w.heap.size) (hn:n<=1000000):
 C9 202 #[.slice A n c] w (Ret w (.tuple #[bxV (qco l).1.lo.x (qco l).1.lo.y (qco l).1.hi.x (qco l).1.hi.y,.int .i64 (qco l).2])):=by
 rcases Nat.eq_zero_or_pos n with h0|h0
 · have hnil:l= []:=zbx (hl.1.trans h0)
   subst h0 hnil
   go_enter Tryz.func202,Tryz.ntmps202
   go_wp2;exact bodyPost_ret (v:=.tuple #[.agg #[.int .i64 0,.int .i64 0,.int .i64 0,.int .i64 0],.int .i64 1]) (by simp [results,Tryz.results202,go_sem]) rfl ⟨rfl,bel⟩
 · obtain⟨b,off,rfl,hab,c0,c1,c2,c3⟩:=hl.at_ h0
   have hn0:((n:Int)==0)=false:=by rw [beq_eq_false_iff_ne];omega
   have HU:Hid (qco l=qca (bx l 0) (l.drop 0)):=by
    unfold Hid
    rw [List.drop_zero]
    cases l with
    | nil=>have:=hl.1;simp at this;omega
    | cons b r=>rfl
   simp only [Nat.zero_mul,Nat.add_zero] at c0 c1 c2 c3;have hbw:b<w.heap.size:=oQ
   have hbw1:b<w.heap.size+1:=oQ
   have hbw2:b<w.heap.size+1+1:=oQ
   go_enter Tryz.func202,Tryz.ntmps202
   go_wp2
   go_loopw [5,6] (fun i _ wr=>∃(k:Nat) (u:Bx),k<=n/\i=.int .i64 k/\qca u (l.drop k)=qco l/\Blk wr w.heap.size 48 #[.int .i64 0,.int .i64 0,.int .i64 0,.int .i64 0]/\Blk wr (w.heap.size+1) 48 (bxs u)/\Below w.heap.size w wr) (fun i _ _=>n-(intOf i).toNat)
   case atStart=>exact ⟨0,bx l 0,by omega,rfl,HU.out.symm,blkA,Blk.new sI rfl,bel⟩
   case round=>
    obtain⟨k,u,hk,rfl,hU,hb0,hb1,hb⟩:=hrel;have HU' :=hdQ hU;clear hU;have z0:=hb0.cell 0;have z1:=hb0.cell 1;have z2:=hb0.cell 2;have z3:=hb0.cell 3;have f0:=hb0.frozen;have u0:=hb1.cell 0;have u1:=hb1.cell 1;have u2:=hb1.cell 2;have u3:=hb1.cell 3;have f1:=hb1.frozen;have HB0:=hdQ hb0;have HB1:=hdQ hb1;have hl1:=hb1.lt;have hl0:=hb0.lt;clear hb0 hb1
    simp [bxs] at z0 z1 z2 z3 u0 u1 u2 u3
    by_cases hlt:k<n
    · obtain⟨b',off',ho,hab',c0,c1,c2,c3⟩:=(hl.below (hb.mono hB)).at_ hlt
      injection ho with ho
      injection ho with ho1 ho2
      subst ho1 ho2;have hk0:(k:Int)<(n:Int):=oQ
      have hbs:=hb.size;have hbr:b<wr.heap.size:=oQ
      rcases Nat.eq_zero_or_pos (qa4 (bx l k)) with hz|hz
      · have HE:Hid (qa4 ⟨⟨(bx l k).lo.x,(bx l k).lo.y⟩,⟨(bx l k).hi.x,(bx l k).hi.y⟩⟩=0):=hz
        have Hz:=hdQ hz;clear hz
        go_wp2_with (go_at_call 204;refine(qbh _ _ _ _ _).mono ?_;rw [HE.out];rintro e w1 ⟨rfl,hb1⟩;obtain⟨hc1,hf1,hz1⟩:=bc3 hb1;(try simp at hz1);have hbx:b<w1.heap.size:=oQ)
        obtain⟨m0,hm0⟩:∃m:Int,m=min u.lo.x (bx l k).lo.x:=⟨_,rfl⟩;obtain⟨m1,hm1⟩:∃m:Int,m=min u.lo.y (bx l k).lo.y:=⟨_,rfl⟩;obtain⟨m2,hm2⟩:∃m:Int,m=max u.hi.x (bx l k).hi.x:=⟨_,rfl⟩;obtain⟨m3,hm3⟩:∃m:Int,m=max u.hi.y (bx l k).hi.y:=⟨_,rfl⟩;have M0:=hdQ hm0;have M1:=hdQ hm1;have M2:=hdQ hm2;have M3:=hdQ hm3;have HL:=hdQ hl;have hbB:b<w.heap.size:=hbw;have hn1:¬ b=w.heap.size+1:=oQ
        clear hm0 hm1 hm2 hm3 u0 u1 u2 u3 c0 c1 c2 c3 z0 z1 z2 z3 f0 f1 hl;refine qpd (fun w2=>Below w.heap.size w w2/\Blk w2 w.heap.size 48 #[.int .i64 0,.int .i64 0,.int .i64 0,.int .i64 0]/\Blk w2 (w.heap.size+1) 48 #[.int .i64 u.lo.x,.int .i64 u.lo.y,.int .i64 u.hi.x,.int .i64 u.hi.y]) ⟨bel,HB0.out.below hb1 oQ,HB1.out.below hb1 oQ⟩ ?_
        clear hb HB0 HB1 hb1 hc1 hf1 hz1 hbx hl1 hl0 hbs hbr;rintro w2 ⟨hb,hZ,hU⟩;obtain⟨_,_,ho,_,c0,c1,c2,c3⟩:=(HL.out.below (hb.mono hB)).at_ hlt;injection ho with ho
        injection ho with ho1 ho2
        subst ho1 ho2;have u0:=hU.cell 0;have u1:=hU.cell 1;have u2:=hU.cell 2;have u3:=hU.cell 3;have f1:=hU.frozen;have lU:=hU.lt
        simp at u0 u1 u2 u3
        have hbr:b<w2.heap.size:=by have:=hb.size;omega
        have HZ2:=hdQ hZ;have HU2:=hdQ hU;clear hZ hU
        go_still_tail 12,kr
        change wpList _ _ _ _ _ w2.drew
        go_wp2
        all_goals
         refine qpd (fun w2=>Below w.heap.size w w2/\Blk w2 w.heap.size 48 #[.int .i64 0,.int .i64 0,.int .i64 0,.int .i64 0]/\Blk w2 (w.heap.size+1) 48 #[.int .i64 m0,.int .i64 u.lo.y,.int .i64 u.hi.x,.int .i64 u.hi.y]) ⟨bel,HZ2.out.drew.far sI _,(HU2.out.drew.set_ 0 _).eq_ (by have:=M0.out;simp;omega)⟩ ?_
         clear hb HZ2 HU2 c0 c1 c2 c3 u0 u1 u2 u3 f1 lU hbr;rintro w3 ⟨hb,hZ,hU⟩;obtain⟨_,_,ho,_,c0,c1,c2,c3⟩:=(HL.out.below (hb.mono hB)).at_ hlt;injection ho with ho
         injection ho with ho1 ho2
         subst ho1 ho2;have u0:=hU.cell 0;have u1:=hU.cell 1;have u2:=hU.cell 2;have u3:=hU.cell 3;have f1:=hU.frozen;have lU:=hU.lt
         simp at u0 u1 u2 u3
         have hbr:b<w3.heap.size:=by have:=hb.size;omega
         have HZ2:=hdQ hZ;have HU2:=hdQ hU;clear hZ hU
         go_still_tail 12,kr
         change wpList _ _ _ _ _ w3.drew
         go_wp2
         all_goals
          refine qpd (fun w2=>Below w.heap.size w w2/\Blk w2 w.heap.size 48 #[.int .i64 0,.int .i64 0,.int .i64 0,.int .i64 0]/\Blk w2 (w.heap.size+1) 48 #[.int .i64 m0,.int .i64 m1,.int .i64 u.hi.x,.int .i64 u.hi.y]) ⟨bel,HZ2.out.drew.far sI _,(HU2.out.drew.set_ 1 _).eq_ (by have:=M1.out;simp;omega)⟩ ?_
          clear hb HZ2 HU2 c0 c1 c2 c3 u0 u1 u2 u3 f1 lU hbr;rintro w4 ⟨hb,hZ,hU⟩;obtain⟨_,_,ho,_,c0,c1,c2,c3⟩:=(HL.out.below (hb.mono hB)).at_ hlt;injection ho with ho
          injection ho with ho1 ho2
          subst ho1 ho2;have u0:=hU.cell 0;have u1:=hU.cell 1;have u2:=hU.cell 2;have u3:=hU.cell 3;have f1:=hU.frozen;have lU:=hU.lt
          simp at u0 u1 u2 u3
          have hbr:b<w4.heap.size:=by have:=hb.size;omega
          have HZ2:=hdQ hZ;have HU2:=hdQ hU;clear hZ hU
          go_still_tail 12,kr
          change wpList _ _ _ _ _ w4.drew
          go_wp2
          all_goals
           refine qpd (fun w2=>Below w.heap.size w w2/\Blk w2 w.heap.size 48 #[.int .i64 0,.int .i64 0,.int .i64 0,.int .i64 0]/\Blk w2 (w.heap.size+1) 48 #[.int .i64 m0,.int .i64 m1,.int .i64 m2,.int .i64 u.hi.y]) ⟨bel,HZ2.out.drew.far sI _,(HU2.out.drew.set_ 2 _).eq_ (by have:=M2.out;simp;omega)⟩ ?_
           clear hb HZ2 HU2 c0 c1 c2 c3 u0 u1 u2 u3 f1 lU hbr;rintro w5 ⟨hb,hZ,hU⟩;obtain⟨_,_,ho,_,c0,c1,c2,c3⟩:=(HL.out.below (hb.mono hB)).at_ hlt;injection ho with ho
           injection ho with ho1 ho2
           subst ho1 ho2;have u0:=hU.cell 0;have u1:=hU.cell 1;have u2:=hU.cell 2;have u3:=hU.cell 3;have f1:=hU.frozen;have lU:=hU.lt
           simp at u0 u1 u2 u3
           have hbr:b<w5.heap.size:=by have:=hb.size;omega
           have HZ2:=hdQ hZ;have HU2:=hdQ hU;clear hZ hU
           go_still_tail 12,kr
           change wpList _ _ _ _ _ w5.drew
           go_wp2
           all_goals
            go_roundw
            case rel=>
             refine⟨k+1,qml u (bx l k),by omega,by go_num,?_,HZ2.out.drew.far sI _,(HU2.out.drew.set_ 3 _).eq_ (by have e0:=M0.out;have e1:=M1.out;have e2:=M2.out;have e3:=M3.out;simp [bxs,qml];omega),bel⟩
             have h:=HU'.out
             rw [qo1 (by rw [HL.out.1];exact hlt),qca,if_pos Hz.out] at h
             exact h
            case measure=>simp [intOf];omega
      · have HE:Hid (qa4 ⟨⟨(bx l k).lo.x,(bx l k).lo.y⟩,⟨(bx l k).hi.x,(bx l k).hi.y⟩⟩=qa4 (bx l k)):=rfl
        have HF:Hid (qco l=(qcu,qa4 (bx l k))):=by
         have h:=HU'.out
         rw [qo1 (by rw [hl.1];exact hlt),qca,if_neg oQ] at h
         exact h.symm
        have hz1:((qa4 (bx l k):Int) !=0)=true:=by rw [bne_iff_ne];omega
        have HZ:=hdQ hz;clear hz
        go_wp2_with (go_at_call 204;refine(qbh _ _ _ _ _).mono ?_;rw [HE.out];rintro e w1 ⟨rfl,hb1⟩;obtain⟨hc1,hf1,hz1⟩:=bc3 hb1;(try simp at hz1))
        have HR:=((((HB0.out.below hb1 oQ).set_ 0 (.int .i64 0)).set_ 1 (.int .i64 0)).set_ 2 (.int .i64 0)).set_ 3 (.int .i64 0)
        have r0:=HR.cell 0;have r1:=HR.cell 1;have r2:=HR.cell 2;have r3:=HR.cell 3
        simp at r0 r1 r2 r3
        refine bodyPost_ret (v:=.tuple #[.agg #[.int .i64 0,.int .i64 0,.int .i64 0,.int .i64 0],.int .i64 (qa4 (bx l k))]) (by simp [results,Tryz.results202,go_sem,r0,r1,r2,r3]) rfl ⟨by rw [HF.out];rfl,bel⟩
    · have HF:Hid (qco l=(u,0)):=by
       have h:=HU'.out
       rw [List.drop_of_length_le (by rw [hl.1];omega)] at h
       exact h.symm
      go_wp2;have HR:=(((HB0.out.set_ 0 (.int .i64 u.lo.x)).set_ 1 (.int .i64 u.lo.y)).set_ 2 (.int .i64 u.hi.x)).set_ 3 (.int .i64 u.hi.y);have r0:=HR.cell 0;have r1:=HR.cell 1;have r2:=HR.cell 2;have r3:=HR.cell 3
      simp at r0 r1 r2 r3
      refine bodyPost_ret (v:=.tuple #[.agg #[.int .i64 u.lo.x,.int .i64 u.lo.y,.int .i64 u.hi.x,.int .i64 u.hi.y],.int .i64 0]) (by simp [results,Tryz.results202,go_sem,r0,r1,r2,r3]) rfl ⟨by rw [HF.out];rfl,bel⟩
end Go.Proofs.YtfnhnjbkkggbeaaGreat
