/-The contract of plane.Union.-/
import Derived.Test.YtfnhnjbkkggbeaaGreatKPlane
import Derived.Test.YtfnhnjbkkggbeaaGreatKAlloc
import Derived.RegionTactic
import Derived.BigRegion
set_option linter.unusedVariables false
set_option linter.unusedSimpArgs false
set_option maxHeartbeats 2000000
namespace Go.Proofs.YtfnhnjbkkggbeaaGreat
open Go.RowKit Pg
theorem qng {l:List Bx} {k:Nat} (h:k<l.length):l.drop k=bx l k::l.drop (k+1):=by
 have:=qxq h
 rw [zgx h]
 rw [zby h] at this;injection this with this
 rw [this]
def bxs (b:Bx):Array Value:= #[.int .i64 b.lo.x,.int .i64 b.lo.y,.int .i64 b.hi.x,.int .i64 b.hi.y]
theorem q25 (a b:Int):(if b<a then b else a)=min a b:=oQ
theorem q27 (a b:Int):(if a<b then b else a)=max a b:=oQ
theorem qu8 (B n c:Nat) (A:Option Addr) (l:List Bx) (w:World) (hl:qhj w B A n l) (hB:B<=w.heap.size) (hn:n<=maxLen):
 C9 146 #[.slice A n c] w (Ret w (.tuple #[bxV (qb8 l).1.lo.x (qb8 l).1.lo.y (qb8 l).1.hi.x (qb8 l).1.hi.y,errV (qb8 l).2])):=by
 unfold maxLen at hn
 rcases Nat.eq_zero_or_pos n with h0|h0
 · have hnil:l= []:=zbx (hl.1.trans h0)
   subst h0 hnil
   go_enter Tryz.func146,Tryz.ntmps146
   go_wp2;exact bodyPost_ret (v:=.tuple #[.agg #[.int .i64 0,.int .i64 0,.int .i64 0,.int .i64 0],.iface 75 (.int .i64 1)]) (by simp [results,Tryz.results146,go_sem]) rfl ⟨rfl,bel⟩
 · obtain⟨b,off,rfl,hab,c0,c1,c2,c3⟩:=hl.at_ h0
   have hn0:((n:Int)==0)=false:=by rw [beq_eq_false_iff_ne];omega
   have HU:Hid (qb8 l=qb1 (bx l 0) (l.drop 0)):=by
    unfold Hid
    rw [List.drop_zero]
    cases l with
    | nil=>have:=hl.1;simp at this;omega
    | cons b r=>rfl
   simp only [Nat.zero_mul,Nat.add_zero] at c0 c1 c2 c3;have hbw:b<w.heap.size:=oQ
   go_enter Tryz.func146,Tryz.ntmps146
   go_wp2
   go_loopw [18] (fun i wr=>∃(k:Nat) (u:Bx),k<=n/\i=.int .i64 k/\qb1 u (l.drop k)=qb8 l/\Blk wr w.heap.size 48 #[.int .i64 0,.int .i64 0,.int .i64 0,.int .i64 0]/\Blk wr (w.heap.size+1) 48 (bxs u)/\Below w.heap.size w wr) (fun i _=>n-(intOf i).toNat)
   case atStart=>exact ⟨0,bx l 0,by omega,rfl,HU.out.symm,(Blk.new rfl rfl).alloc _,Blk.new sI rfl,bel⟩
   case round=>
    obtain⟨k,u,hk,rfl,hU,hb0,hb1,hb⟩:=hrel;have HU' :=hdQ hU;clear hU;have z0:=hb0.cell 0;have z1:=hb0.cell 1;have z2:=hb0.cell 2;have z3:=hb0.cell 3;have f0:=hb0.frozen;have u0:=hb1.cell 0;have u1:=hb1.cell 1;have u2:=hb1.cell 2;have u3:=hb1.cell 3;have f1:=hb1.frozen;have HB0:=hdQ hb0;have HB1:=hdQ hb1;have hl1:=hb1.lt;have hl0:=hb0.lt;clear hb0 hb1
    simp [bxs] at z0 z1 z2 z3 u0 u1 u2 u3
    by_cases hlt:k<n
    · obtain⟨b',off',ho,hab',c0,c1,c2,c3⟩:=(hl.below (hb.mono hB)).at_ hlt
      injection ho with ho
      injection ho with ho1 ho2
      subst ho1 ho2
      rcases Nat.eq_zero_or_pos (qa4 (bx l k)) with hz|hz
      · have HE:=hdQ (qkt hz)
        have Hz:=hdQ hz;clear hz
        go_wp2_with (go_at_call 77;refine(qb6 _ _ _ _ _).mono ?_;rw [HE.out];rintro e w1 ⟨rfl,hb1⟩;obtain⟨hc1,hf1,hz1⟩:=bc3 hb1;(try simp at hz1);obtain⟨hy0,hy1⟩:=ol2 w w1)
        go_roundw
        case rel=>
         refine⟨k+1,qk6 u (bx l k),by omega,by go_num,?_,?_,?_,bel⟩
         · have h:=HU'.out
           rw [qng (by rw [hl.1];exact hlt),qb1,if_pos Hz.out] at h
           exact h
         · exact((((((HB0.out.alloc _).below hb1 (by simp;omega)).far sI _).far sI _).far sI _).far sI _)
         · refine((((((HB1.out.alloc _).below hb1 (by simp;omega)).set_ 0 _).set_ 1 _).set_ 2 _).set_ 3 _).eq_ ?_
           simp [bxs,qk6,q25,q27]
        case measure=>simp [intOf];omega
      · have HE:=hdQ (qgt (k:=qa4 (bx l k)) oQ)
        have Hz:Hid (qa4 (bx l k)≠0):=by unfold Hid;omega
        clear hz
        go_wp2_with (go_at_call 77;refine(qb6 _ _ _ _ _).mono ?_;rw [HE.out];rintro e w1 ⟨rfl,hb1⟩;obtain⟨hc1,hf1,hz1⟩:=bc3 hb1;(try simp at hz1);obtain⟨hy0,hy1⟩:=ol2 w w1)
        have HF:qb8 l=(qcg,qa4 (bx l k)):=by
         have h:=HU'.out
         rw [qng (by rw [hl.1];exact hlt),qb1,if_neg Hz.out] at h
         exact h.symm
        have HR:=(((((HB0.out.alloc _).below hb1 (by simp;omega)).set_ 0 (.int .i64 0)).set_ 1 (.int .i64 0)).set_ 2 (.int .i64 0)).set_ 3 (.int .i64 0)
        have r0:=HR.cell 0;have r1:=HR.cell 1;have r2:=HR.cell 2;have r3:=HR.cell 3
        simp at r0 r1 r2 r3
        refine bodyPost_ret (v:=.tuple #[.agg #[.int .i64 0,.int .i64 0,.int .i64 0,.int .i64 0],.iface 75 (.int .i64 (qa4 (bx l k)))]) (by simp [results,Tryz.results146,go_sem,r0,r1,r2,r3]) rfl ⟨by rw [HF,<-HE.out];rfl,bel⟩
    · have HF:Hid (qb8 l=(u,0)):=by
       have h:=HU'.out
       rw [List.drop_of_length_le (by rw [hl.1];omega)] at h
       exact h.symm
      go_wp2;refine bodyPost_ret (v:=.tuple #[.agg #[.int .i64 u.lo.x,.int .i64 u.lo.y,.int .i64 u.hi.x,.int .i64 u.hi.y],.nilIface]) (by simp [results,Tryz.results146,go_sem,z0,z1,z2,z3]) rfl ⟨by rw [HF.out];rfl,bel⟩
theorem qms (B n c:Nat) (A:Option Addr) (l:List Pt) (w:World) (hl:qal w B A n l) (hB:B<=w.heap.size) (hn:n<=maxLen):
 C9 98 #[.slice A n c] w (Ret w (.bool (l.all okPt))):=by
 unfold maxLen at hn
 go_enter Tryz.func98,Tryz.ntmps98
 go_wp2
 go_loopw [7] (fun i wr=>∃k:Nat,k<=n/\i=.int .i64 k/\(l.take k).all okPt=true/\Below w.heap.size w wr) (fun i _=>n-(intOf i).toNat)
 case atStart=>exact ⟨0,zly _,rfl,by simp,Below.refl _ _⟩
 case round=>
  obtain⟨k,hk,rfl,hall,hb⟩:=hrel
  by_cases hlt:k<n
  · obtain⟨b,off,rfl,hab,c0,c1⟩:=(hl.below (hb.mono hB)).at_ hlt
    have Hp:=hdQ (qa9 okPt l k _ (qi8 (by rw [hl.1];exact hlt)))
    have Hf:=hdQ (qd0 okPt l k _ (qi8 (by rw [hl.1];exact hlt)))
    have Ha:=hdQ hall;clear hall
    cases hx:okPt (pt l k)
    case true=>
     have HE:Hid (errV (if okPt ⟨(pt l k).x,(pt l k).y⟩=true then 0 else 2)=.nilIface):=by unfold Hid;rw [show (⟨(pt l k).x,(pt l k).y⟩:Pt)=pt l k from rfl,hx];rfl
     have Hx:=hdQ hx;clear hx
     go_wp2_with (go_at_call 32;refine(qay _ _ _).mono ?_;rw [HE.out];rintro e w1 ⟨rfl,hb1⟩;obtain⟨hc1,hf1,hz1⟩:=bc3 hb1;(try simp at hz1))
     go_roundw
     case rel=>exact ⟨k+1,by omega,by go_num,by rw [Hp.out,Ha.out,Hx.out];rfl,bel⟩
     case measure=>simp [intOf];omega
    case false=>
     have HE:Hid (errV (if okPt ⟨(pt l k).x,(pt l k).y⟩=true then 0 else 2)=.iface 75 (.int .i64 2)):=by unfold Hid;rw [show (⟨(pt l k).x,(pt l k).y⟩:Pt)=pt l k from rfl,hx];rfl
     have Hx:=hdQ hx;clear hx
     go_wp2_with (go_at_call 32;refine(qay _ _ _).mono ?_;rw [HE.out];rintro e w1 ⟨rfl,hb1⟩;obtain⟨hc1,hf1,hz1⟩:=bc3 hb1;(try simp at hz1))
     go_ret;exact⟨qae (Hf.out Hx.out).symm,bel⟩
  · have hkn:l.length<=k:=by rw [hl.1];omega
    rw [zmy hkn] at hall;have Ha:=hdQ hall;clear hall;go_wp2;go_ret;exact⟨qae Ha.out.symm,hb⟩
theorem q05 (ax ay bx by_:Int) (g:Nat) (w:World) (hg:w.heap[g]? =some (.cells #[.int .i64 ax,.int .i64 ay,.int .i64 bx,.int .i64 by_] 46 (0,0))):
 C9 98 #[.slice (some ⟨g,0,none⟩) 2 2] w (Ret w (.bool (okPt ⟨ax,ay⟩&&okPt ⟨bx,by_⟩))):=by
 have h:=qms w.heap.size 2 2 _ [⟨ax,ay⟩,⟨bx,by_⟩] w (qdr [⟨ax,ay⟩,⟨bx,by_⟩] hg (lt_of_block hg) rfl (by intro k hk;match k,hk with|0,_=>exact ⟨rfl,rfl⟩|1,_=>exact ⟨rfl,rfl⟩)) (zhy _) dE
 simpa using h
theorem qmt (ax ay bx by_ cx cy:Int) (g:Nat) (w:World) (hg:w.heap[g]? =some (.cells #[.int .i64 ax,.int .i64 ay,.int .i64 bx,.int .i64 by_,.int .i64 cx,.int .i64 cy] 46 (0,0))):
 C9 98 #[.slice (some ⟨g,0,none⟩) 3 3] w (Ret w (.bool (okPt ⟨ax,ay⟩&&okPt ⟨bx,by_⟩&&okPt ⟨cx,cy⟩))):=by
 have h:=qms w.heap.size 3 3 _ [⟨ax,ay⟩,⟨bx,by_⟩,⟨cx,cy⟩] w (qdr [⟨ax,ay⟩,⟨bx,by_⟩,⟨cx,cy⟩] hg (lt_of_block hg) rfl (by intro k hk;match k,hk with|0,_=>exact ⟨rfl,rfl⟩|1,_=>exact ⟨rfl,rfl⟩|2,_=>exact ⟨rfl,rfl⟩)) (zhy _) dE
 simpa [Bool.and_assoc] using h
theorem q2o (ax ay bx by_ cx cy dx dy:Int) (g:Nat) (w:World) (hg:w.heap[g]? =some (.cells #[.int .i64 ax,.int .i64 ay,.int .i64 bx,.int .i64 by_,.int .i64 cx,.int .i64 cy,.int .i64 dx,.int .i64 dy] 46 (0,0))):
 C9 98 #[.slice (some ⟨g,0,none⟩) 4 4] w (Ret w (.bool (okPt ⟨ax,ay⟩&&okPt ⟨bx,by_⟩&&okPt ⟨cx,cy⟩&&okPt ⟨dx,dy⟩))):=by
 have h:=qms w.heap.size 4 4 _ [⟨ax,ay⟩,⟨bx,by_⟩,⟨cx,cy⟩,⟨dx,dy⟩] w (qdr [⟨ax,ay⟩,⟨bx,by_⟩,⟨cx,cy⟩,⟨dx,dy⟩] hg (lt_of_block hg) rfl (by intro k hk;match k,hk with|0,_=>exact ⟨rfl,rfl⟩|1,_=>exact ⟨rfl,rfl⟩|2,_=>exact ⟨rfl,rfl⟩|3,_=>exact ⟨rfl,rfl⟩)) (zhy _) dE
 simpa [Bool.and_assoc] using h
theorem qyf (ax ay bx by_:Int) (w:World):
 C9 148 #[ptV ax ay,ptV bx by_] w (Ret w (bxV (min ax bx) (min ay by_) (max ax bx) (max ay by_))):=by
 go_enter Tryz.func148,Tryz.ntmps148
 go_wp2
 all_goals exact bodyPost_ret (v:=bxV (min ax bx) (min ay by_) (max ax bx) (max ay by_)) (by simp [results,Tryz.results148,go_sem];omega) rfl ⟨rfl,bel⟩
theorem qr6 (ax ay bx by_ x y:Int) (w:World):
 C9 130 #[ptV ax ay,ptV bx by_,ptV x y] w (Ret w (.bool (onS ⟨ax,ay⟩ ⟨bx,by_⟩ ⟨x,y⟩))):=by
 go_enter Tryz.func130,Tryz.ntmps130
 go_wp2_with fail;refine qah [0,1,2,3,4,5,6,7,8,9,10,11,12,13,14,16,15,17,18,19] kr kr pq ?_
 simp only [zdy,zey,ldz,lds,bare,qak,lcz,lcs,zay]
 repeat' ((try simp only [Act.put,lsi,lsz,lss]);first|(refine lqx ?_)|(refine qab qaa rfl (fun K hK=> ?_);go_simp;((first|(go_at_call 98;refine(retB (qmt ax ay bx by_ x y _ _ ?_)).mono ?_;exact qan sI;rintro e w1 ⟨b,HB,rfl,hb1⟩;obtain⟨hc1,hf1,hz1⟩:=bc3 hb1;(try simp at hz1);cases b)|(go_at_call 96;refine(qik _ _ _ _ _ _ _).monoR ?_;rintro w1 hb1 hc1 hf1 hz1;(try simp at hz1);obtain⟨hy0,hy1,hy2⟩:=ol3 w w1;cases hz:(qb7 ⟨ax,ay⟩ ⟨bx,by_⟩ ⟨x,y⟩==0))|(go_at_call 148;refine(qyf _ _ _ _ _).monoR ?_;rintro w1 hb1 hc1 hf1 hz1;(try simp at hz1);obtain⟨hy0,hy1,hy2⟩:=ol3 w w1)|(go_at_call 124;refine(qqp _ _ _ _ _ _ _).monoR ?_;rintro w1 hb1 hc1 hf1 hz1;(try simp at hz1);obtain⟨hy0,hy1,hy2⟩:=ol3 w w1)|skip)<;>(refine hK.out _ _ bel ?_;clear hK K)))|(refine qbj ?_ ?_;focus(simp only [lAq,zgy,zfy];done))|(refine qa3 ?_ ?_ ?_;(focus(simp only [lAq,zgy,zfy];done));(focus(exact bel)))|(refine qaw (X:= ?_) ?_ ?_ (fun hg=> ?_) (fun hg=> ?_);rotate_left;(focus(simp only [lAq];with_reducible rfl));(focus(exact bel));all_goals(try simp only [zgy,zfy] at hg)))
 (all_goals try simp only [Act.put,lsi,lsz,lss]);all_goals(refine qad ?_)
 all_goals go_wp2
 all_goals go_ret
 all_goals exact⟨qae (by have hb:=HB.out;rw [q2y,hb];simp [*,span]),bel⟩
theorem qdy (a b c:Pt): -1<=qb7 a b c/\qb7 a b c<=1:=by
 unfold qb7 sgn
 split
 · omega
 · split<;>omega
theorem qtr {p q:Int} (h1: -1<=p/\p<=1) (h2: -1<=q/\q<=1): -1<=p*q/\p*q<=1:=by
 have:=qgb (m:=1) (n:=1) h1.1 h1.2 h2.1 h2.2
 omega
theorem qey {p q:Int} (h1: -1<=p/\p<=1) (h2: -1<=q/\q<=1):IntKind.i64.wrap (p*q)=p*q:=by
 have h:=qtr h1 h2;exact IntWalk.i64_in _ oQ
theorem qvx (a b c d:Pt):qd2 a b c d=((okPt a&&okPt b&&okPt c&&okPt d)&&decide (qb7 a b c*qb7 a b d<0)&&decide (qb7 c d a*qb7 c d b<0)):=by
 by_cases h:(okPt a&&okPt b&&okPt c&&okPt d)=true
 · rw [qd2,h];simp
 · have h0:(okPt a&&okPt b&&okPt c&&okPt d)=false:=by simpa using h
   rw [qd2,h0]
   have:qb7 a b c*qb7 a b d=0:=by
    by_cases h1:(okPt a&&okPt b&&okPt c)=true
    · have h2:(okPt a&&okPt b&&okPt d)=false:=by simp_all
      have:qb7 a b d=0:=by simp [qb7,qdn,h2,sgn]
      rw [this];simp
    · have h1:(okPt a&&okPt b&&okPt c)=false:=by simpa using h1
      have:qb7 a b c=0:=by simp [qb7,qdn,h1,sgn]
      rw [this];simp
   rw [this];simp
theorem qtk (ax ay bx by_ cx cy dx dy:Int) (w:World):
 C9 155 #[ptV ax ay,ptV bx by_,ptV cx cy,ptV dx dy] w (Ret w (.bool (qd2 ⟨ax,ay⟩ ⟨bx,by_⟩ ⟨cx,cy⟩ ⟨dx,dy⟩))):=by
 have hw1:=qey (qdy ⟨ax,ay⟩ ⟨bx,by_⟩ ⟨cx,cy⟩) (qdy ⟨ax,ay⟩ ⟨bx,by_⟩ ⟨dx,dy⟩);have hw2:=qey (qdy ⟨cx,cy⟩ ⟨dx,dy⟩ ⟨ax,ay⟩) (qdy ⟨cx,cy⟩ ⟨dx,dy⟩ ⟨bx,by_⟩)
 go_enter Tryz.func155,Tryz.ntmps155
 go_wp2_with fail;refine qah [0,1,2,3,4,5,6,7,8,9,11,12,13,10,14,15,16,17,18,19,20,21,23,24,25,22,26,27,28,29,30] kr kr pq ?_
 simp only [zdy,zey,ldz,lds,bare,qak,lcz,lcs,zay]
 repeat' ((try simp only [Act.put,lsi,lsz,lss]);first|(refine lqx ?_)|(refine qab qaa rfl (fun K hK=> ?_);go_simp;((first|(go_at_call 98;refine(retB (q2o ax ay bx by_ cx cy dx dy _ _ ?_)).mono ?_;exact qan sI;rintro e w1 ⟨b,HB,rfl,hb1⟩;obtain⟨hc1,hf1,hz1⟩:=bc3 hb1;(try simp at hz1);cases b)|(go_at_call 96;refine(qik _ _ _ _ _ _ _).monoR ?_;rintro w1 hb1 hc1 hf1 hz1;(try simp at hz1);obtain⟨hy0,hy1,hy2,hy3⟩:=ol4 w w1)|skip)<;>(refine hK.out _ _ bel ?_;clear hK K)))|(refine qbj ?_ ?_;focus(simp only [lAq,zgy,zfy];done))|(refine qa3 ?_ ?_ ?_;(focus(simp only [lAq,zgy,zfy];done));(focus(exact bel)))|(refine qaw (X:= ?_) ?_ ?_ (fun hg=> ?_) (fun hg=> ?_);rotate_left;(focus(simp only [lAq];with_reducible rfl));(focus(exact bel));all_goals(try simp only [zgy,zfy] at hg)))
 (all_goals try simp only [Act.put,lsi,lsz,lss]);all_goals(refine qad ?_)
 all_goals go_wp2
 all_goals go_ret
 all_goals exact⟨qae (by have hb:=HB.out;rw [qvx,hb];simp [*]),bel⟩
theorem qm8 (ax ay bx by_ cx cy dx dy:Int) (w:World):
 C9 139 #[ptV ax ay,ptV bx by_,ptV cx cy,ptV dx dy] w (Ret w (.bool (qd4 ⟨ax,ay⟩ ⟨bx,by_⟩ ⟨cx,cy⟩ ⟨dx,dy⟩))):=by
 go_enter Tryz.func139,Tryz.ntmps139
 go_wp2_with (first|(go_at_call 98;refine(q2o ax ay bx by_ cx cy dx dy _ _ ?_).mono ?_;exact qan sI;rintro e w1 ⟨rfl,hb1⟩;obtain⟨hc1,hf1,hz1⟩:=bc3 hb1;(try simp at hz1);obtain⟨hy0,hy1,hy2,hy3⟩:=ol4 w w1)|(go_at_call 155;refine(qtk _ _ _ _ _ _ _ _ _).monoR ?_;rintro w1 hb1 hc1 hf1 hz1;(try simp at hz1);obtain⟨hy0,hy1,hy2,hy3⟩:=ol4 w w1)|(go_at_call 130;refine(qr6 _ _ _ _ _ _ _).monoR ?_;rintro w1 hb1 hc1 hf1 hz1;(try simp at hz1);obtain⟨hy0,hy1,hy2,hy3⟩:=ol4 w w1))
 all_goals go_ret
 all_goals exact⟨qae (by simp [qd4, *]),bel⟩
theorem qom (ax ay bx by_ lx ly hx hy:Int) (w:World):
 C9 145 #[ptV ax ay,ptV bx by_,bxV lx ly hx hy] w (Ret w (.bool (mbox ⟨ax,ay⟩ ⟨bx,by_⟩ ⟨⟨lx,ly⟩,⟨hx,hy⟩⟩))):=by
 cases h1:(okPt ⟨ax,ay⟩&&okPt ⟨bx,by_⟩)
 · have H1:=hdQ h1
   go_enter Tryz.func145,Tryz.ntmps145
   go_wp2_with (first|(go_at_call 98;refine(q05 ax ay bx by_ _ _ ?_).mono ?_;exact qan sI;rw [h1];rintro e w1 ⟨rfl,hb1⟩;obtain⟨hc1,hf1,hz1⟩:=bc3 hb1;(try simp at hz1);obtain⟨hy0,hy1,hy2⟩:=ol3 w w1))
   go_ret;exact⟨qae (by have h:=H1.out;simp [mbox,h]),bel⟩
 · have H1:=hdQ h1
   by_cases hk:qa4 ⟨⟨lx,ly⟩,⟨hx,hy⟩⟩=0
   · have HE:=hdQ (qkt hk)
     have HK:Hid (okBx ⟨⟨lx,ly⟩,⟨hx,hy⟩⟩=true):=by simp [Hid,okBx,hk]
     clear hk
     go_enter Tryz.func145,Tryz.ntmps145
     go_wp2_with (first|(go_at_call 98;refine(q05 ax ay bx by_ _ _ ?_).mono ?_;exact qan sI;rw [h1];rintro e w1 ⟨rfl,hb1⟩;obtain⟨hc1,hf1,hz1⟩:=bc3 hb1;(try simp at hz1);obtain⟨hy0,hy1,hy2⟩:=ol3 w w1)|(go_at_call 77;refine(qb6 _ _ _ _ _).mono ?_;rw [HE.out];rintro e w1 ⟨rfl,hb1⟩;obtain⟨hc1,hf1,hz1⟩:=bc3 hb1;(try simp at hz1);obtain⟨hy0,hy1,hy2⟩:=ol3 w w1)|(go_at_call 124;refine(qqp _ _ _ _ _ _ _).monoR ?_;rintro w1 hb1 hc1 hf1 hz1;(try simp at hz1);have hy0:=ol1 w w1;have hx01:w.heap.size<w1.heap.size+1+1:=oQ;have hy1:w.heap.size+1<w1.heap.size:=oQ;have hx11:w.heap.size+1<w1.heap.size+1+1:=oQ;have hy2:w.heap.size+1+1<w1.heap.size:=oQ;have hx21:w.heap.size+1+1<w1.heap.size+1+1:=oQ))
     · go_ret
       exact⟨qae (by have h:=HK.out;have g:=H1.out;simp only [mbox,h,g];simp [*]),bel⟩
     · go_ret
       exact⟨qae (by have h:=HK.out;have g:=H1.out;simp only [mbox,h,g];simp [*]),bel⟩
     · have hzq:=hz1
       refine qbe [0,1,2,3,4,5,6,7,8,9,10,11,12,13] [14,15] [16,17] (fun _=> #[.int .i64 0,.int .i64 0]) kr kr pq (by intro i hi w;simp only [List.mem_cons,List.not_mem_nil,or_false] at hi;rcases hi with rfl|rfl<;>simp only [ldz,lds,tyOf]<;>kernel_rfl) (fun KN hKN=> ?_)
       simp only [zdy,zey,ldz,lds,bare,qak,lcz,lcs,zay]
       repeat((try simp only [Act.put,lsi,lsz,lss]);first|(refine qcx (v:= ?_) rfl ?_ ?_;rotate_left;focus(intro wq hq;obtain⟨hcq,hfq⟩:=qa1 hq;go_simp;try with_reducible rfl))|(refine qdi (v:= ?_) rfl ?_ ?_;rotate_left;focus(intro wq hq K hK;obtain⟨hcq,hfq⟩:=qa1 hq;go_simp;(first|fail);refine hK.out _ _ ?_ bel;simp only [Act.put,lsi,lsz,lss];try with_reducible rfl)))
       (try simp only [Act.put,lsi,lsz,lss])
       refine qeb (hKN.out _ ?_);clear hKN KN;intro gs wf hwf hgs hds
       simp only [zdy,zey,ldz,lds,bare,qak,lcz,lcs,zay,List.foldl_cons,List.foldl_nil,ptrV]
       obtain⟨hg14,HB14⟩:=hgs 14 dE
       obtain⟨hg15,HB15⟩:=hgs 15 dE
       have hd14x15:=hds 14 dE 15 dE dE
       simp only [ldz,lds,tyOf] at HB14 HB15;clear hgs hds;generalize gs 14=g14 at*;generalize gs 15=g15 at*;have cg14:=HB14.cell;have fg14:=HB14.frozen;have cg15:=HB15.cell;have fg15:=HB15.frozen;have hd15x14:=Ne.symm hd14x15
       repeat((try simp only [Act.put,lsi,lsz,lss]);first|(refine qab qaa rfl (fun K hK=> ?_);go_simp;refine hK.out _ _ bel ?_;clear hK K)|(refine qa8 (v:= ?_) qaa rfl ?_ ?_;rotate_left;focus(intro wq hq;go_simp;try with_reducible rfl)))
       refine qad ?_;refine qbt (R:=fun w2=>Below w.heap.size w w2/\Blk w2 g14 46 #[.int .i64 lx,.int .i64 hy]/\Blk w2 g15 46 #[.int .i64 hx,.int .i64 ly]/\Blk w2 w.heap.size 46 #[.int .i64 ax,.int .i64 ay]/\Blk w2 (w.heap.size+1) 46 #[.int .i64 bx,.int .i64 by_]/\Blk w2 (w.heap.size+1+1) 48 #[.int .i64 lx,.int .i64 ly,.int .i64 hx,.int .i64 hy]) ⟨bel,((((HB14.set_ 0 _).set_ 1 _).far (p:=⟨g15,0,none⟩) hd14x15 _).far (p:=⟨g15,1,none⟩) hd14x15 _).eq_ sI,((((HB15.far (p:=⟨g14,0,none⟩) hd15x14 _).far (p:=⟨g14,1,none⟩) hd15x14 _).set_ 0 _).set_ 1 _).eq_ sI,blkA,blkA,blkA⟩ ?_
       rintro w2 ⟨hb2,h14,h15,hE0,hE1,hE2⟩;clear cg14 fg14 HB14 cg15 fg15 HB15;have cg14:=h14.cell;have fg14:=h14.frozen;have lg14:=h14.lt;have cg15:=h15.cell;have fg15:=h15.frozen;have lg15:=h15.lt;obtain⟨hc2,hf2⟩:=qa1 hb2;have cA:=hE0.cell;have cB:=hE1.cell;have cR:=hE2.cell;have lA:=hE0.lt;have lB:=hE1.lt;have lR:=hE2.lt;clear hE0 hE1 hE2 h14 h15 hwf hc2 hf2
       go_wp2_with (go_at_call 139;refine(qm8 _ _ _ _ _ _ _ _ _).monoR ?_;rintro w1 hb1 hc1 hf1 hz1;(try simp at hz1);obtain⟨lA1,lB1,lR1⟩:=ol3 w w1;have l14:g14<w1.heap.size:=oQ;have l15:g15<w1.heap.size:=oQ)
       all_goals go_ret
       all_goals exact⟨qae (by have h:=HK.out;have g:=H1.out;simp only [mbox,h,g];simp [*]),bel⟩
   · have HE:=hdQ (qgt hk)
     have HK:Hid (okBx ⟨⟨lx,ly⟩,⟨hx,hy⟩⟩=false):=by simp [Hid,okBx,hk]
     clear hk
     go_enter Tryz.func145,Tryz.ntmps145
     go_wp2_with (first|(go_at_call 98;refine(q05 ax ay bx by_ _ _ ?_).mono ?_;exact qan sI;rw [h1];rintro e w1 ⟨rfl,hb1⟩;obtain⟨hc1,hf1,hz1⟩:=bc3 hb1;(try simp at hz1);obtain⟨hy0,hy1,hy2⟩:=ol3 w w1)|(go_at_call 77;refine(qb6 _ _ _ _ _).mono ?_;rw [HE.out];rintro e w1 ⟨rfl,hb1⟩;obtain⟨hc1,hf1,hz1⟩:=bc3 hb1;(try simp at hz1);obtain⟨hy0,hy1,hy2⟩:=ol3 w w1))
     all_goals go_ret
     all_goals exact⟨qae (by have h:=HK.out;simp [mbox,h]),bel⟩
end Go.Proofs.YtfnhnjbkkggbeaaGreat
