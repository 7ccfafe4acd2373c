/-The contract of plane.Union.-/
import Derived.Test.YteodamnfgcnmmaaGreatDoorRPlane
import Derived.Test.YteodamnfgcnmmaaGreatDoorRLex
import Derived.RegionTactic
set_option linter.unusedVariables false
set_option linter.unusedSimpArgs false
set_option maxHeartbeats 1000000
namespace Go.Proofs.YteodamnfgcnmmaaGreatDoor
open Go.RowKit Pg
theorem qz5 {l:List Bx} {k:Nat} (h:k<l.length):l.drop k=bx l k::l.drop (k+1):=by
 have:=q0i h
 rw [zgx h]
 rw [zby h] at this;injection this with this
 rw [this]
def bxs (b:Bx):Array Value:= #[.int .i64 b.lo.x,.int .i64 b.lo.y,.int .i64 b.hi.x,.int .i64 b.hi.y]
theorem qtx (B n c:Nat) (A:Option Addr) (l:List Pt) (w:World) (hl:qax w B A n l) (hB:B<=w.heap.size) (hn:n<=maxLen):
 C9 140 #[.slice A n c] w (Ret w (.bool (l.all okPt))):=by
 unfold maxLen at hn
 go_enter Tryz.func140,Tryz.ntmps140
 go_wp2
 go_loopw [7] (fun i wr=>∃k:Nat,k<=n/\i=.int .i64 k/\(l.take k).all okPt=true/\Below w.heap.size w wr) (fun i _=>n-(intOf i).toNat)
 case atStart=>exact ⟨0,zly _,rfl,by simp,Below.refl _ _⟩
 case round=>
  obtain⟨k,hk,rfl,hall,hb⟩:=hrel
  by_cases hlt:k<n
  · obtain⟨b,off,rfl,hab,c0,c1⟩:=(hl.below (hb.mono hB)).at_ hlt
    have Hp:=hdQ (qd3 okPt l k _ (qn8 (by rw [hl.1];exact hlt)))
    have Hf:=hdQ (qem okPt l k _ (qn8 (by rw [hl.1];exact hlt)))
    have Ha:=hdQ hall;clear hall
    cases hx:okPt (pt l k)
    case true=>
     have HE:Hid (errV (if okPt ⟨(pt l k).x,(pt l k).y⟩=true then 0 else 2)=.nilIface):=by unfold Hid;rw [show (⟨(pt l k).x,(pt l k).y⟩:Pt)=pt l k from rfl,hx];rfl
     have Hx:=hdQ hx;clear hx
     go_wp2_with (go_at_call 22;refine(qa0 _ _ _).mono ?_;rw [HE.out];rintro e w1 ⟨rfl,hb1⟩;obtain⟨hc1,hf1,hz1⟩:=bc3 hb1;(try simp at hz1))
     go_roundw
     case rel=>exact ⟨k+1,by omega,by go_num,by rw [Hp.out,Ha.out,Hx.out];rfl,bel⟩
     case measure=>simp [intOf];omega
    case false=>
     have HE:Hid (errV (if okPt ⟨(pt l k).x,(pt l k).y⟩=true then 0 else 2)=.iface 105 (.int .i64 2)):=by unfold Hid;rw [show (⟨(pt l k).x,(pt l k).y⟩:Pt)=pt l k from rfl,hx];rfl
     have Hx:=hdQ hx;clear hx
     go_wp2_with (go_at_call 22;refine(qa0 _ _ _).mono ?_;rw [HE.out];rintro e w1 ⟨rfl,hb1⟩;obtain⟨hc1,hf1,hz1⟩:=bc3 hb1;(try simp at hz1))
     go_ret;exact⟨qam (Hf.out Hx.out).symm,bel⟩
  · have hkn:l.length<=k:=by rw [hl.1];omega
    rw [zmy hkn] at hall;have Ha:=hdQ hall;clear hall;go_wp2;go_ret;exact⟨qam Ha.out.symm,hb⟩
theorem qn0 (ax ay bx by_ cx cy:Int) (g:Nat) (w:World) (hg:w.heap[g]? =some (.cells #[.int .i64 ax,.int .i64 ay,.int .i64 bx,.int .i64 by_,.int .i64 cx,.int .i64 cy] 24 (0,0))):
 C9 140 #[.slice (some ⟨g,0,none⟩) 3 3] w (Ret w (.bool (okPt ⟨ax,ay⟩&&okPt ⟨bx,by_⟩&&okPt ⟨cx,cy⟩))):=by
 have h:=qtx w.heap.size 3 3 _ [⟨ax,ay⟩,⟨bx,by_⟩,⟨cx,cy⟩] w (qe7 [⟨ax,ay⟩,⟨bx,by_⟩,⟨cx,cy⟩] hg (lt_of_block hg) rfl (by intro k hk;match k,hk with|0,_=>exact ⟨rfl,rfl⟩|1,_=>exact ⟨rfl,rfl⟩|2,_=>exact ⟨rfl,rfl⟩)) (zhy _) dE
 simpa [Bool.and_assoc] using h
theorem q6b (ax ay bx by_ cx cy dx dy:Int) (g:Nat) (w:World) (hg:w.heap[g]? =some (.cells #[.int .i64 ax,.int .i64 ay,.int .i64 bx,.int .i64 by_,.int .i64 cx,.int .i64 cy,.int .i64 dx,.int .i64 dy] 24 (0,0))):
 C9 140 #[.slice (some ⟨g,0,none⟩) 4 4] w (Ret w (.bool (okPt ⟨ax,ay⟩&&okPt ⟨bx,by_⟩&&okPt ⟨cx,cy⟩&&okPt ⟨dx,dy⟩))):=by
 have h:=qtx w.heap.size 4 4 _ [⟨ax,ay⟩,⟨bx,by_⟩,⟨cx,cy⟩,⟨dx,dy⟩] w (qe7 [⟨ax,ay⟩,⟨bx,by_⟩,⟨cx,cy⟩,⟨dx,dy⟩] hg (lt_of_block hg) rfl (by intro k hk;match k,hk with|0,_=>exact ⟨rfl,rfl⟩|1,_=>exact ⟨rfl,rfl⟩|2,_=>exact ⟨rfl,rfl⟩|3,_=>exact ⟨rfl,rfl⟩)) (zhy _) dE
 simpa [Bool.and_assoc] using h
theorem q1e (ax ay bx by_:Int) (w:World):
 C9 200 #[ptV ax ay,ptV bx by_] w (Ret w (bxV (min ax bx) (min ay by_) (max ax bx) (max ay by_))):=by
 go_enter Tryz.func200,Tryz.ntmps200
 go_wp2
 all_goals exact bodyPost_ret (v:=bxV (min ax bx) (min ay by_) (max ax bx) (max ay by_)) (by simp [results,Tryz.results200,go_sem];omega) rfl ⟨rfl,bel⟩
theorem qug (ax ay bx by_ x y:Int) (w:World):
 C9 171 #[ptV ax ay,ptV bx by_,ptV x y] w (Ret w (.bool (onS ⟨ax,ay⟩ ⟨bx,by_⟩ ⟨x,y⟩))):=by
 go_enter Tryz.func171,Tryz.ntmps171
 go_wp2_with fail;refine qat [0,1,2,3,4,5,6,7,8,9,10,11,12,13,14,16,15,17,18,19] kr kr pq ?_
 simp only [zdy,zey,ldz,lds,bare,qal,lcz,lcs,zay]
 repeat' ((try simp only [Act.put,lsi,lsz,lss]);first|(refine lqx ?_)|(refine qab qaa rfl (fun K hK=> ?_);go_simp;((first|(go_at_call 140;refine(retB (qn0 ax ay bx by_ x y _ _ ?_)).mono ?_;exact qas sI;rintro e w1 ⟨b,HB,rfl,hb1⟩;obtain⟨hc1,hf1,hz1⟩:=bc3 hb1;(try simp at hz1);cases b)|(go_at_call 138;refine(qjg _ _ _ _ _ _ _).monoR ?_;rintro w1 hb1 hc1 hf1 hz1;(try simp at hz1);obtain⟨hy0,hy1,hy2⟩:=ol3 w w1;cases hz:(qbv ⟨ax,ay⟩ ⟨bx,by_⟩ ⟨x,y⟩==0))|(go_at_call 200;refine(q1e _ _ _ _ _).monoR ?_;rintro w1 hb1 hc1 hf1 hz1;(try simp at hz1);obtain⟨hy0,hy1,hy2⟩:=ol3 w w1)|(go_at_call 196;refine(q5e _ _ _ _ _ _ _).monoR ?_;rintro w1 hb1 hc1 hf1 hz1;(try simp at hz1);obtain⟨hy0,hy1,hy2⟩:=ol3 w w1)|skip)<;>(refine hK.out _ _ bel ?_;clear hK K)))|(refine qbs ?_ ?_;focus(simp only [lAq,zgy,zfy];done))|(refine qbd ?_ ?_ ?_;(focus(simp only [lAq,zgy,zfy];done));(focus(exact bel)))|(refine qaz (X:= ?_) ?_ ?_ (fun hg=> ?_) (fun hg=> ?_);rotate_left;(focus(simp only [lAq];with_reducible rfl));(focus(exact bel));all_goals(try simp only [zgy,zfy] at hg)))
 (all_goals try simp only [Act.put,lsi,lsz,lss]);all_goals(refine qad ?_)
 all_goals go_wp2
 all_goals go_ret
 all_goals exact⟨qam (by have hb:=HB.out;rw [q6n,hb];simp [*,span]),bel⟩
theorem qeh (a b c:Pt): -1<=qbv a b c/\qbv a b c<=1:=by
 unfold qbv sgn
 split
 · omega
 · split<;>omega
theorem qv9 {p q:Int} (h1: -1<=p/\p<=1) (h2: -1<=q/\q<=1): -1<=p*q/\p*q<=1:=by
 have:=qf4 (m:=1) (n:=1) h1.1 h1.2 h2.1 h2.2
 omega
theorem qff {p q:Int} (h1: -1<=p/\p<=1) (h2: -1<=q/\q<=1):IntKind.i64.wrap (p*q)=p*q:=by
 have h:=qv9 h1 h2;exact IntWalk.i64_in _ oQ
theorem qyi (a b c d:Pt):qce a b c d=((okPt a&&okPt b&&okPt c&&okPt d)&&decide (qbv a b c*qbv a b d<0)&&decide (qbv c d a*qbv c d b<0)):=by
 by_cases h:(okPt a&&okPt b&&okPt c&&okPt d)=true
 · rw [qce,h];simp
 · have h0:(okPt a&&okPt b&&okPt c&&okPt d)=false:=by simpa using h
   rw [qce,h0]
   have:qbv a b c*qbv a b d=0:=by
    by_cases h1:(okPt a&&okPt b&&okPt c)=true
    · have h2:(okPt a&&okPt b&&okPt d)=false:=by simp_all
      have:qbv a b d=0:=by simp [qbv,qc9,h2,sgn]
      rw [this];simp
    · have h1:(okPt a&&okPt b&&okPt c)=false:=by simpa using h1
      have:qbv a b c=0:=by simp [qbv,qc9,h1,sgn]
      rw [this];simp
   rw [this];simp
theorem qvy (ax ay bx by_ cx cy dx dy:Int) (w:World):
 C9 207 #[ptV ax ay,ptV bx by_,ptV cx cy,ptV dx dy] w (Ret w (.bool (qce ⟨ax,ay⟩ ⟨bx,by_⟩ ⟨cx,cy⟩ ⟨dx,dy⟩))):=by
 have hw1:=qff (qeh ⟨ax,ay⟩ ⟨bx,by_⟩ ⟨cx,cy⟩) (qeh ⟨ax,ay⟩ ⟨bx,by_⟩ ⟨dx,dy⟩);have hw2:=qff (qeh ⟨cx,cy⟩ ⟨dx,dy⟩ ⟨ax,ay⟩) (qeh ⟨cx,cy⟩ ⟨dx,dy⟩ ⟨bx,by_⟩)
 go_enter Tryz.func207,Tryz.ntmps207
 go_wp2_with fail;refine qat [0,1,2,3,4,5,6,7,8,9,11,12,13,10,14,15,16,17,18,19,20,21,23,24,25,22,26,27,28,29,30] kr kr pq ?_
 simp only [zdy,zey,ldz,lds,bare,qal,lcz,lcs,zay]
 repeat' ((try simp only [Act.put,lsi,lsz,lss]);first|(refine lqx ?_)|(refine qab qaa rfl (fun K hK=> ?_);go_simp;((first|(go_at_call 140;refine(retB (q6b ax ay bx by_ cx cy dx dy _ _ ?_)).mono ?_;exact qas sI;rintro e w1 ⟨b,HB,rfl,hb1⟩;obtain⟨hc1,hf1,hz1⟩:=bc3 hb1;(try simp at hz1);cases b)|(go_at_call 138;refine(qjg _ _ _ _ _ _ _).monoR ?_;rintro w1 hb1 hc1 hf1 hz1;(try simp at hz1);obtain⟨hy0,hy1,hy2,hy3⟩:=ol4 w w1)|skip)<;>(refine hK.out _ _ bel ?_;clear hK K)))|(refine qbs ?_ ?_;focus(simp only [lAq,zgy,zfy];done))|(refine qbd ?_ ?_ ?_;(focus(simp only [lAq,zgy,zfy];done));(focus(exact bel)))|(refine qaz (X:= ?_) ?_ ?_ (fun hg=> ?_) (fun hg=> ?_);rotate_left;(focus(simp only [lAq];with_reducible rfl));(focus(exact bel));all_goals(try simp only [zgy,zfy] at hg)))
 (all_goals try simp only [Act.put,lsi,lsz,lss]);all_goals(refine qad ?_)
 all_goals go_wp2
 all_goals go_ret
 all_goals exact⟨qam (by have hb:=HB.out;rw [qyi,hb];simp [*]),bel⟩
theorem q2n (ax ay bx by_ cx cy dx dy:Int) (w:World):
 C9 181 #[ptV ax ay,ptV bx by_,ptV cx cy,ptV dx dy] w (Ret w (.bool (qb0 ⟨ax,ay⟩ ⟨bx,by_⟩ ⟨cx,cy⟩ ⟨dx,dy⟩))):=by
 go_enter Tryz.func181,Tryz.ntmps181
 go_wp2_with (first|(go_at_call 140;refine(q6b ax ay bx by_ cx cy dx dy _ _ ?_).mono ?_;exact qas sI;rintro e w1 ⟨rfl,hb1⟩;obtain⟨hc1,hf1,hz1⟩:=bc3 hb1;(try simp at hz1);obtain⟨hy0,hy1,hy2,hy3⟩:=ol4 w w1)|(go_at_call 207;refine(qvy _ _ _ _ _ _ _ _ _).monoR ?_;rintro w1 hb1 hc1 hf1 hz1;(try simp at hz1);obtain⟨hy0,hy1,hy2,hy3⟩:=ol4 w w1)|(go_at_call 171;refine(qug _ _ _ _ _ _ _).monoR ?_;rintro w1 hb1 hc1 hf1 hz1;(try simp at hz1);obtain⟨hy0,hy1,hy2,hy3⟩:=ol4 w w1))
 all_goals go_ret
 all_goals exact⟨qam (by simp [qb0, *]),bel⟩
end Go.Proofs.YteodamnfgcnmmaaGreatDoor
