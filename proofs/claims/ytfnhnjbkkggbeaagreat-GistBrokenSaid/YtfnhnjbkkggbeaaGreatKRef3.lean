/-Contracts of the references of chapter 3-/
import Derived.Test.YtfnhnjbkkggbeaaGreatKRel1
set_option linter.unusedVariables false
set_option linter.unusedSimpArgs false
set_option maxHeartbeats 2000000
set_option maxRecDepth 20000
namespace Go.Proofs.YtfnhnjbkkggbeaaGreat
open Go.RowKit Pg
theorem qav (x y:Int) (w:World):C9 205 #[ptV x y] w (Ret w (.bool (okPt ⟨x,y⟩))):=by
 cases h:okPt ⟨x,y⟩
 · have hc:¬ ((-1073741823<=x/\x<=1073741823)/\(-1073741823<=y/\y<=1073741823)):=fun k=>by
    have:=(qbi ⟨x,y⟩).2 k;rw [h] at this
    cases this
   have HC:=hdQ hc;clear hc h
   go_enter Tryz.func205,Tryz.ntmps205
   go_wp2
   all_goals go_ret
   all_goals exact⟨qae (by have:=HC.out;simp<;>omega),bel⟩
 · have hc:=(qbi ⟨x,y⟩).1 h
   simp only at hc
   obtain⟨⟨h1,h2⟩,h3,h4⟩:=hc;clear h
   go_enter Tryz.func205,Tryz.ntmps205
   go_wp2;go_ret;exact⟨rfl,bel⟩
theorem qbg (a b c d:Int) (w:World):C9 204 #[bxV a b c d] w (Ret w (.int .i64 (qa4 ⟨⟨a,b⟩,⟨c,d⟩⟩))):=by
 cases h1:okPt ⟨a,b⟩
 · have HF:Hid (qa4 ⟨⟨a,b⟩,⟨c,d⟩⟩=2):=by simp [Hid,qa4,h1]
   have H1:=hdQ h1;clear h1
   go_enter Tryz.func204,Tryz.ntmps204
   go_wp2_with (go_at_call 205;refine(qav _ _ _).mono ?_;rw [H1.out];rintro e w1 ⟨rfl,hb1⟩;obtain⟨hc1,hf1,hz1⟩:=bc3 hb1;(try simp at hz1))
   go_ret;exact⟨by rw [HF.out];rfl,bel⟩
 cases h2:okPt ⟨c,d⟩
 · have HF:Hid (qa4 ⟨⟨a,b⟩,⟨c,d⟩⟩=2):=by simp [Hid,qa4,h1,h2]
   have H1:=hdQ h1;have H2:=hdQ h2;clear h1 h2
   go_enter Tryz.func204,Tryz.ntmps204
   go_wp2_with (go_at_call 205;refine(qav _ _ _).mono ?_;(first|rw [H1.out]|rw [H2.out]);rintro e w1 ⟨rfl,hb1⟩;obtain⟨hc1,hf1,hz1⟩:=bc3 hb1;(try simp at hz1);have hy0:=ol1 w w1)
   go_ret;exact⟨by rw [HF.out];rfl,bel⟩
 · have HF:Hid (qa4 ⟨⟨a,b⟩,⟨c,d⟩⟩=if decide (c<a)||decide (d<b) then 1 else 0):=by simp [Hid,qa4,h1,h2]
   have H1:=hdQ h1;have H2:=hdQ h2;clear h1 h2
   by_cases k1:c<a
   · have HG:Hid (qa4 ⟨⟨a,b⟩,⟨c,d⟩⟩=1):=by unfold Hid;rw [HF.out];simp [k1]
     go_enter Tryz.func204,Tryz.ntmps204
     go_wp2_with (go_at_call 205;refine(qav _ _ _).mono ?_;(first|rw [H1.out]|rw [H2.out]);rintro e w1 ⟨rfl,hb1⟩;obtain⟨hc1,hf1,hz1⟩:=bc3 hb1;(try simp at hz1);have hy0:=ol1 w w1)
     go_ret;exact⟨by rw [HG.out];rfl,bel⟩
   · by_cases k2:d<b
     · have HG:Hid (qa4 ⟨⟨a,b⟩,⟨c,d⟩⟩=1):=by unfold Hid;rw [HF.out];simp [k2]
       go_enter Tryz.func204,Tryz.ntmps204
       go_wp2_with (go_at_call 205;refine(qav _ _ _).mono ?_;(first|rw [H1.out]|rw [H2.out]);rintro e w1 ⟨rfl,hb1⟩;obtain⟨hc1,hf1,hz1⟩:=bc3 hb1;(try simp at hz1);have hy0:=ol1 w w1)
       go_ret;exact⟨by rw [HG.out];rfl,bel⟩
     · have HG:Hid (qa4 ⟨⟨a,b⟩,⟨c,d⟩⟩=0):=by unfold Hid;rw [HF.out];simp [k1,k2]
       go_enter Tryz.func204,Tryz.ntmps204
       go_wp2_with (go_at_call 205;refine(qav _ _ _).mono ?_;(first|rw [H1.out]|rw [H2.out]);rintro e w1 ⟨rfl,hb1⟩;obtain⟨hc1,hf1,hz1⟩:=bc3 hb1;(try simp at hz1);have hy0:=ol1 w w1)
       go_ret;exact⟨by rw [HG.out];rfl,bel⟩
theorem qdq (ax ay bx by_ cx cy:Int) (w:World):
 C9 226 #[ptV ax ay,ptV bx by_,ptV cx cy] w (Ret w (.int .i64 (qdn ⟨ax,ay⟩ ⟨bx,by_⟩ ⟨cx,cy⟩))):=by
 cases h:(okPt ⟨ax,ay⟩&&okPt ⟨bx,by_⟩&&okPt ⟨cx,cy⟩)
 · have H:Hid (qdn ⟨ax,ay⟩ ⟨bx,by_⟩ ⟨cx,cy⟩=0):=by simp [Hid,qdn,h]
   cases h1:okPt ⟨ax,ay⟩
   · have H1:=hdQ h1
     clear h1 h
     go_enter Tryz.func226,Tryz.ntmps226
     go_wp2_with (go_at_call 205;refine(qav _ _ _).mono ?_;rw [H1.out];rintro e w1 ⟨rfl,hb1⟩;obtain⟨hc1,hf1,hz1⟩:=bc3 hb1;(try simp at hz1);obtain⟨hy0,hy1,hy2⟩:=ol3 w w1)
     go_ret;exact⟨by rw [H.out];rfl,bel⟩
   cases h2:okPt ⟨bx,by_⟩
   · have H1:=hdQ h1
     have H2:=hdQ h2;clear h1 h2 h
     go_enter Tryz.func226,Tryz.ntmps226
     go_wp2_with (go_at_call 205;refine(qav _ _ _).mono ?_;(first|rw [H1.out]|rw [H2.out]);rintro e w1 ⟨rfl,hb1⟩;obtain⟨hc1,hf1,hz1⟩:=bc3 hb1;(try simp at hz1);obtain⟨hy0,hy1,hy2⟩:=ol3 w w1)
     go_ret;exact⟨by rw [H.out];rfl,bel⟩
   · have H1:=hdQ h1
     have H2:=hdQ h2;have H3:Hid (okPt ⟨cx,cy⟩=false):=by simpa [Hid,h1,h2] using h
     clear h1 h2 h
     go_enter Tryz.func226,Tryz.ntmps226
     go_wp2_with (go_at_call 205;refine(qav _ _ _).mono ?_;(first|rw [H1.out]|rw [H2.out]|rw [H3.out]);rintro e w1 ⟨rfl,hb1⟩;obtain⟨hc1,hf1,hz1⟩:=bc3 hb1;(try simp at hz1);obtain⟨hy0,hy1,hy2⟩:=ol3 w w1)
     go_ret;exact⟨by rw [H.out];rfl,bel⟩
 · have H:Hid (qdn ⟨ax,ay⟩ ⟨bx,by_⟩ ⟨cx,cy⟩=(bx-ax)*(cy-ay)-(by_-ay)*(cx-ax)):=by simp [Hid,qdn,h,qbu]
   obtain⟨⟨a1,a2⟩,⟨a3,a4⟩,⟨a5,a6⟩,⟨a7,a8⟩⟩:=qnh h;have b1:=qgb (m:=2147483646) (n:=2147483646) a1 a2 a3 a4;have b2:=qgb (m:=2147483646) (n:=2147483646) a5 a6 a7 a8
   simp only at a1 a2 a3 a4 a5 a6 a7 a8 b1 b2
   obtain⟨b1,b3⟩:=b1;obtain⟨b2,b4⟩:=b2;simp only [ziy] at h;obtain⟨⟨h1,h2⟩,h3⟩:=h;have H1:=hdQ h1;have H2:=hdQ h2;have H3:=hdQ h3;clear h1 h2 h3
   go_enter Tryz.func226,Tryz.ntmps226
   go_wp2_with (go_at_call 205;refine(qav _ _ _).mono ?_;(first|rw [H1.out]|rw [H2.out]|rw [H3.out]);rintro e w1 ⟨rfl,hb1⟩;obtain⟨hc1,hf1,hz1⟩:=bc3 hb1;(try simp at hz1);obtain⟨hy0,hy1,hy2⟩:=ol3 w w1)
   go_ret;exact⟨by rw [H.out];rfl,bel⟩
theorem qp2 (ax ay bx by_ cx cy:Int) (w:World):
 C9 230 #[ptV ax ay,ptV bx by_,ptV cx cy] w (Ret w (.int .i64 (qb7 ⟨ax,ay⟩ ⟨bx,by_⟩ ⟨cx,cy⟩))):=by
 obtain⟨n,hn⟩:∃n:Int,qdn ⟨ax,ay⟩ ⟨bx,by_⟩ ⟨cx,cy⟩=n:=⟨_,rfl⟩;have HN:=hdQ hn;have HF:Hid (qb7 ⟨ax,ay⟩ ⟨bx,by_⟩ ⟨cx,cy⟩=sgn n):=by unfold Hid qb7;rw [hn]
 clear hn
 rcases Int.lt_trichotomy n 0 with h|h|h
 · have hn:¬ 0<n:=oQ
   go_enter Tryz.func230,Tryz.ntmps230
   go_wp2_with (go_at_call 226;refine(qdq _ _ _ _ _ _ _).mono ?_;rw [HN.out];rintro e w1 ⟨rfl,hb1⟩;obtain⟨hc1,hf1,hz1⟩:=bc3 hb1;(try simp at hz1);obtain⟨hy0,hy1,hy2⟩:=ol3 w w1)
   go_ret;exact⟨qfs (by rw [HF.out,sgn,if_pos h]),bel⟩
 · subst h
   go_enter Tryz.func230,Tryz.ntmps230
   go_wp2_with (go_at_call 226;refine(qdq _ _ _ _ _ _ _).mono ?_;rw [HN.out];rintro e w1 ⟨rfl,hb1⟩;obtain⟨hc1,hf1,hz1⟩:=bc3 hb1;(try simp at hz1);obtain⟨hy0,hy1,hy2⟩:=ol3 w w1)
   go_ret;exact⟨qfs (by rw [HF.out];rfl),bel⟩
 · have hn:¬ n<0:=oQ
   go_enter Tryz.func230,Tryz.ntmps230
   go_wp2_with (go_at_call 226;refine(qdq _ _ _ _ _ _ _).mono ?_;rw [HN.out];rintro e w1 ⟨rfl,hb1⟩;obtain⟨hc1,hf1,hz1⟩:=bc3 hb1;(try simp at hz1);obtain⟨hy0,hy1,hy2⟩:=ol3 w w1)
   go_ret;exact⟨qfs (by rw [HF.out,sgn,if_neg oQ,if_pos h]),bel⟩
theorem q1f {x y:Int} (h:okPt ⟨x,y⟩=true):(-1073741823<=x/\x<=1073741823)/\(-1073741823<=y/\y<=1073741823):=(qbi _).1 h
theorem q1b (ox oy ax ay bx by_:Int) (w:World) (ho:okPt ⟨ox,oy⟩=true) (ha:okPt ⟨ax,ay⟩=true) (hb:okPt ⟨bx,by_⟩=true):
 C9 227 #[ptV ox oy,ptV ax ay,ptV bx by_] w (Ret w (.int .i64 (dotR ⟨ox,oy⟩ ⟨ax,ay⟩ ⟨bx,by_⟩))):=by
 have H:Hid (dotR ⟨ox,oy⟩ ⟨ax,ay⟩ ⟨bx,by_⟩=(ax-ox)*(bx-ox)+(ay-oy)*(by_-oy)):=rfl;obtain⟨⟨o1,o2⟩,o3,o4⟩:=q1f ho;obtain⟨⟨p1,p2⟩,p3,p4⟩:=q1f ha;obtain⟨⟨q1,q2⟩,q3,q4⟩:=q1f hb;clear ho ha hb;have b1:=qgb (p:=ax-ox) (q:=bx-ox) (m:=2147483646) (n:=2147483646) oQ oQ oQ oQ
 have b2:=qgb (p:=ay-oy) (q:=by_-oy) (m:=2147483646) (n:=2147483646) oQ oQ oQ oQ
 obtain⟨b1,b3⟩:=b1;obtain⟨b2,b4⟩:=b2
 go_enter Tryz.func227,Tryz.ntmps227
 go_wp2;go_ret;exact⟨by rw [H.out];rfl,bel⟩
theorem q1a (ax ay bx by_ x y:Int) (w:World):
 C9 229 #[ptV ax ay,ptV bx by_,ptV x y] w (Ret w (.bool (onS ⟨ax,ay⟩ ⟨bx,by_⟩ ⟨x,y⟩))):=by
 cases h1:okPt ⟨ax,ay⟩
 · have HF:Hid (onS ⟨ax,ay⟩ ⟨bx,by_⟩ ⟨x,y⟩=false):=by simp [Hid,onS,h1]
   have H1:=hdQ h1;clear h1
   go_enter Tryz.func229,Tryz.ntmps229
   go_wp2_with (go_at_call 205;refine(qav _ _ _).mono ?_;rw [H1.out];rintro e w1 ⟨rfl,hb1⟩;obtain⟨hc1,hf1,hz1⟩:=bc3 hb1;(try simp at hz1);obtain⟨hy0,hy1,hy2⟩:=ol3 w w1)
   go_ret;exact⟨qae HF.out.symm,bel⟩
 cases h2:okPt ⟨bx,by_⟩
 · have HF:Hid (onS ⟨ax,ay⟩ ⟨bx,by_⟩ ⟨x,y⟩=false):=by simp [Hid,onS,h2]
   have H1:=hdQ h1;have H2:=hdQ h2;clear h1 h2
   go_enter Tryz.func229,Tryz.ntmps229
   go_wp2_with (go_at_call 205;refine(qav _ _ _).mono ?_;(first|rw [H1.out]|rw [H2.out]);rintro e w1 ⟨rfl,hb1⟩;obtain⟨hc1,hf1,hz1⟩:=bc3 hb1;(try simp at hz1);obtain⟨hy0,hy1,hy2⟩:=ol3 w w1)
   go_ret;exact⟨qae HF.out.symm,bel⟩
 cases h3:okPt ⟨x,y⟩
 · have HF:Hid (onS ⟨ax,ay⟩ ⟨bx,by_⟩ ⟨x,y⟩=false):=by simp [Hid,onS,h3]
   have H1:=hdQ h1;have H2:=hdQ h2;have H3:=hdQ h3;clear h1 h2 h3
   go_enter Tryz.func229,Tryz.ntmps229
   go_wp2_with (go_at_call 205;refine(qav _ _ _).mono ?_;(first|rw [H1.out]|rw [H2.out]|rw [H3.out]);rintro e w1 ⟨rfl,hb1⟩;obtain⟨hc1,hf1,hz1⟩:=bc3 hb1;(try simp at hz1);obtain⟨hy0,hy1,hy2⟩:=ol3 w w1)
   go_ret;exact⟨qae HF.out.symm,bel⟩
 have HC:Hid (qdn ⟨ax,ay⟩ ⟨bx,by_⟩ ⟨x,y⟩=qbu ⟨ax,ay⟩ ⟨bx,by_⟩ ⟨x,y⟩):=by simp [Hid,qdn,h1,h2,h3]
 by_cases hz:qbu ⟨ax,ay⟩ ⟨bx,by_⟩ ⟨x,y⟩=0
 · have HZ:Hid (qdn ⟨ax,ay⟩ ⟨bx,by_⟩ ⟨x,y⟩=0):=HC.out.trans hz
   have HF:Hid (onS ⟨ax,ay⟩ ⟨bx,by_⟩ ⟨x,y⟩=(decide (min ax bx<=x)&&decide (x<=max ax bx)&&decide (min ay by_<=y)&&decide (y<=max ay by_))):=by
    unfold Hid onS
    rw [h1,h2,h3,decide_eq_true hz]
    rfl
   have H1:=hdQ h1;have H2:=hdQ h2;have H3:=hdQ h3;clear h1 h2 h3 HC hz
   go_enter Tryz.func229,Tryz.ntmps229
   go_wp2_with (first|(go_at_call 205;refine(qav _ _ _).mono ?_;(first|rw [H1.out]|rw [H2.out]|rw [H3.out]);rintro e w1 ⟨rfl,hb1⟩;obtain⟨hc1,hf1,hz1⟩:=bc3 hb1;(try simp at hz1);obtain⟨hy0,hy1,hy2⟩:=ol3 w w1)|(go_at_call 226;refine(qdq _ _ _ _ _ _ _).mono ?_;rw [HZ.out];rintro e w1 ⟨rfl,hb1⟩;obtain⟨hc1,hf1,hz1⟩:=bc3 hb1;(try simp at hz1);obtain⟨hy0,hy1,hy2⟩:=ol3 w w1))
   all_goals go_ret
   all_goals exact⟨qae (by rw [HF.out,Bool.eq_iff_iff];simp only [ziy,decide_eq_true_eq,Bool.false_eq_true,false_iff,true_iff];omega),bel⟩
 · obtain⟨n,hn⟩:∃n:Int,qdn ⟨ax,ay⟩ ⟨bx,by_⟩ ⟨x,y⟩=n:=⟨_,rfl⟩
   have hn0:(n==0)=false:=by rw [beq_eq_false_iff_ne,<-hn,HC.out];exact hz
   have HF:Hid (onS ⟨ax,ay⟩ ⟨bx,by_⟩ ⟨x,y⟩=false):=by simp [Hid,onS,hz]
   have HZ:=hdQ hn;have H1:=hdQ h1;have H2:=hdQ h2;have H3:=hdQ h3;clear h1 h2 h3 HC hz hn
   go_enter Tryz.func229,Tryz.ntmps229
   go_wp2_with (first|(go_at_call 205;refine(qav _ _ _).mono ?_;(first|rw [H1.out]|rw [H2.out]|rw [H3.out]);rintro e w1 ⟨rfl,hb1⟩;obtain⟨hc1,hf1,hz1⟩:=bc3 hb1;(try simp at hz1);obtain⟨hy0,hy1,hy2⟩:=ol3 w w1)|(go_at_call 226;refine(qdq _ _ _ _ _ _ _).mono ?_;rw [HZ.out];rintro e w1 ⟨rfl,hb1⟩;obtain⟨hc1,hf1,hz1⟩:=bc3 hb1;(try simp at hz1);obtain⟨hy0,hy1,hy2⟩:=ol3 w w1))
   go_ret;exact⟨qae HF.out.symm,bel⟩
theorem qp1 (ax ay bx by_ cx cy dx dy:Int) (w:World):
 C9 228 #[ptV ax ay,ptV bx by_,ptV cx cy,ptV dx dy] w (Ret w (.bool (qd2 ⟨ax,ay⟩ ⟨bx,by_⟩ ⟨cx,cy⟩ ⟨dx,dy⟩))):=by
 have hw1:=qey (qdy ⟨ax,ay⟩ ⟨bx,by_⟩ ⟨cx,cy⟩) (qdy ⟨ax,ay⟩ ⟨bx,by_⟩ ⟨dx,dy⟩);have hw2:=qey (qdy ⟨cx,cy⟩ ⟨dx,dy⟩ ⟨ax,ay⟩) (qdy ⟨cx,cy⟩ ⟨dx,dy⟩ ⟨bx,by_⟩)
 go_enter Tryz.func228,Tryz.ntmps228
 go_wp2_with fail;refine qah [0,1,2,4,5,6,3,7,8,9,10,11,12,13,15,16,17,14,18,19,20,21,22] kr kr pq ?_
 simp only [zdy,zey,ldz,lds,bare,qak,lcz,lcs,zay]
 repeat' ((try simp only [Act.put,lsi,lsz,lss]);first|(refine lqx ?_)|(refine qab qaa rfl (fun K hK=> ?_);go_simp;((first|(go_at_call 230;refine(qp2 _ _ _ _ _ _ _).monoR ?_;rintro w1 hb1 hc1 hf1 hz1;(try simp at hz1);obtain⟨hy0,hy1,hy2,hy3⟩:=ol4 w w1)|skip)<;>(refine hK.out _ _ bel ?_;clear hK K)))|(refine qbj ?_ ?_;focus(simp only [lAq,zgy,zfy];done))|(refine qa3 ?_ ?_ ?_;(focus(simp only [lAq,zgy,zfy];done));(focus(exact bel)))|(refine qaw (X:= ?_) ?_ ?_ (fun hg=> ?_) (fun hg=> ?_);rotate_left;(focus(simp only [lAq];with_reducible rfl));(focus(exact bel));all_goals(try simp only [zgy,zfy] at hg)))
 (all_goals try simp only [Act.put,lsi,lsz,lss]);all_goals(refine qad ?_)
 all_goals go_wp2
 all_goals go_ret
 all_goals exact⟨qae (by unfold qd2;simp [*]),bel⟩
theorem qn5 (ax ay bx by_ cx cy dx dy:Int) (w:World):
 C9 221 #[ptV ax ay,ptV bx by_,ptV cx cy,ptV dx dy] w (Ret w (.bool (qd4 ⟨ax,ay⟩ ⟨bx,by_⟩ ⟨cx,cy⟩ ⟨dx,dy⟩))):=by
 by_cases hok:(okPt ⟨ax,ay⟩&&okPt ⟨bx,by_⟩&&okPt ⟨cx,cy⟩&&okPt ⟨dx,dy⟩)=true
 · have HF:Hid (qd4 ⟨ax,ay⟩ ⟨bx,by_⟩ ⟨cx,cy⟩ ⟨dx,dy⟩=(qd2 ⟨ax,ay⟩ ⟨bx,by_⟩ ⟨cx,cy⟩ ⟨dx,dy⟩||onS ⟨ax,ay⟩ ⟨bx,by_⟩ ⟨cx,cy⟩||onS ⟨ax,ay⟩ ⟨bx,by_⟩ ⟨dx,dy⟩||onS ⟨cx,cy⟩ ⟨dx,dy⟩ ⟨ax,ay⟩||onS ⟨cx,cy⟩ ⟨dx,dy⟩ ⟨bx,by_⟩)):=by unfold Hid qd4;rw [hok];simp
   simp only [ziy] at hok;obtain⟨⟨⟨h1,h2⟩,h3⟩,h4⟩:=hok;have H1:=hdQ h1;have H2:=hdQ h2;have H3:=hdQ h3;have H4:=hdQ h4;clear h1 h2 h3 h4
   go_enter Tryz.func221,Tryz.ntmps221
   go_wp2_with (first|(go_at_call 205;refine(qav _ _ _).mono ?_;(first|rw [H1.out]|rw [H2.out]|rw [H3.out]|rw [H4.out]);rintro e w1 ⟨rfl,hb1⟩;obtain⟨hc1,hf1,hz1⟩:=bc3 hb1;(try simp at hz1);obtain⟨hy0,hy1,hy2,hy3⟩:=ol4 w w1)|(go_at_call 228;refine(qp1 _ _ _ _ _ _ _ _ _).monoR ?_;rintro w1 hb1 hc1 hf1 hz1;(try simp at hz1);obtain⟨hy0,hy1,hy2,hy3⟩:=ol4 w w1)|(go_at_call 229;refine(q1a _ _ _ _ _ _ _).monoR ?_;rintro w1 hb1 hc1 hf1 hz1;(try simp at hz1);obtain⟨hy0,hy1,hy2,hy3⟩:=ol4 w w1))
   all_goals go_ret
   all_goals exact⟨qae (by rw [HF.out];simp [*]),bel⟩
 · have HF:Hid (qd4 ⟨ax,ay⟩ ⟨bx,by_⟩ ⟨cx,cy⟩ ⟨dx,dy⟩=false):=by
    have:(okPt ⟨ax,ay⟩&&okPt ⟨bx,by_⟩&&okPt ⟨cx,cy⟩&&okPt ⟨dx,dy⟩)=false:=by simpa using hok
    unfold Hid qd4;rw [this];rfl
   cases h1:okPt ⟨ax,ay⟩
   · have H1:=hdQ h1
     clear h1 hok
     go_enter Tryz.func221,Tryz.ntmps221
     go_wp2_with (go_at_call 205;refine(qav _ _ _).mono ?_;rw [H1.out];rintro e w1 ⟨rfl,hb1⟩;obtain⟨hc1,hf1,hz1⟩:=bc3 hb1;(try simp at hz1);obtain⟨hy0,hy1,hy2,hy3⟩:=ol4 w w1)
     go_ret;exact⟨qae HF.out.symm,bel⟩
   cases h2:okPt ⟨bx,by_⟩
   · have H1:=hdQ h1
     have H2:=hdQ h2;clear h1 h2 hok
     go_enter Tryz.func221,Tryz.ntmps221
     go_wp2_with (go_at_call 205;refine(qav _ _ _).mono ?_;(first|rw [H1.out]|rw [H2.out]);rintro e w1 ⟨rfl,hb1⟩;obtain⟨hc1,hf1,hz1⟩:=bc3 hb1;(try simp at hz1);obtain⟨hy0,hy1,hy2,hy3⟩:=ol4 w w1)
     go_ret;exact⟨qae HF.out.symm,bel⟩
   cases h3:okPt ⟨cx,cy⟩
   · have H1:=hdQ h1
     have H2:=hdQ h2;have H3:=hdQ h3;clear h1 h2 h3 hok
     go_enter Tryz.func221,Tryz.ntmps221
     go_wp2_with (go_at_call 205;refine(qav _ _ _).mono ?_;(first|rw [H1.out]|rw [H2.out]|rw [H3.out]);rintro e w1 ⟨rfl,hb1⟩;obtain⟨hc1,hf1,hz1⟩:=bc3 hb1;(try simp at hz1);obtain⟨hy0,hy1,hy2,hy3⟩:=ol4 w w1)
     go_ret;exact⟨qae HF.out.symm,bel⟩
   · have H1:=hdQ h1
     have H2:=hdQ h2;have H3:=hdQ h3;have H4:Hid (okPt ⟨dx,dy⟩=false):=by simpa [Hid,h1,h2,h3] using hok
     clear h1 h2 h3 hok
     go_enter Tryz.func221,Tryz.ntmps221
     go_wp2_with (go_at_call 205;refine(qav _ _ _).mono ?_;(first|rw [H1.out]|rw [H2.out]|rw [H3.out]|rw [H4.out]);rintro e w1 ⟨rfl,hb1⟩;obtain⟨hc1,hf1,hz1⟩:=bc3 hb1;(try simp at hz1);obtain⟨hy0,hy1,hy2,hy3⟩:=ol4 w w1)
     go_ret;exact⟨qae HF.out.symm,bel⟩
theorem qrt (ax ay cx cy bx by_:Int) (w:World) (h1:okPt ⟨ax,ay⟩=true) (h2:okPt ⟨cx,cy⟩=true) (h3:okPt ⟨bx,by_⟩=true):
 C9 220 #[ptV ax ay,ptV cx cy,ptV bx by_] w (Ret w (.bool (qhv ⟨ax,ay⟩ ⟨cx,cy⟩ ⟨bx,by_⟩))):=by
 have HD:=hdQ (fun w=>q1b cx cy ax ay bx by_ w h2 h1 h3)
 clear h1 h2 h3
 by_cases e1:(⟨ax,ay⟩:Pt)=⟨cx,cy⟩
 · have HF:Hid (qhv ⟨ax,ay⟩ ⟨cx,cy⟩ ⟨bx,by_⟩=false):=by simp [Hid,qhv,e1]
   injection e1 with e2 e3
   subst e2 e3
   go_enter Tryz.func220,Tryz.ntmps220
   go_wp2
   all_goals go_ret
   all_goals exact⟨qae HF.out.symm,bel⟩
 have n1:¬ (ax=cx/\ay=cy):=fun h=>e1 (by rw [h.1,h.2])
 by_cases e2:(⟨bx,by_⟩:Pt)=⟨cx,cy⟩
 · have HF:Hid (qhv ⟨ax,ay⟩ ⟨cx,cy⟩ ⟨bx,by_⟩=false):=by simp [Hid,qhv,e2]
   injection e2 with e3 e4
   subst e3 e4;clear e1
   go_enter Tryz.func220,Tryz.ntmps220
   go_wp2
   all_goals go_ret
   all_goals exact⟨qae HF.out.symm,bel⟩
 have n2:¬ (bx=cx/\by_=cy):=fun h=>e2 (by rw [h.1,h.2])
 have HF:Hid (qhv ⟨ax,ay⟩ ⟨cx,cy⟩ ⟨bx,by_⟩=(decide (qdn ⟨cx,cy⟩ ⟨ax,ay⟩ ⟨bx,by_⟩=0)&&decide (0<dotR ⟨cx,cy⟩ ⟨ax,ay⟩ ⟨bx,by_⟩))):=by simp [Hid,qhv,e1,e2]
 clear e1 e2;obtain⟨n,hn⟩:∃n:Int,qdn ⟨cx,cy⟩ ⟨ax,ay⟩ ⟨bx,by_⟩=n:=⟨_,rfl⟩;obtain⟨d,hd⟩:∃d:Int,dotR ⟨cx,cy⟩ ⟨ax,ay⟩ ⟨bx,by_⟩=d:=⟨_,rfl⟩;have HZ:=hdQ hn;have HY:=hdQ hd;clear hn hd;have k1:(¬ ax=cx)\/(ax=cx/\¬ ay=cy):=oQ
 have k2:(¬ bx=cx)\/(bx=cx/\¬ by_=cy):=oQ
 clear n1 n2
 by_cases hz:n=0
 · subst hz
   rcases k1 with k1|⟨k0,k1⟩<;>rcases k2 with k2|⟨k3,k2⟩<;>(try subst k0)<;>(try subst k3)
   all_goals
    go_enter Tryz.func220,Tryz.ntmps220
    go_wp2_with (first|(go_at_call 226;refine(qdq _ _ _ _ _ _ _).mono ?_;rw [HZ.out];rintro e w1 ⟨rfl,hb1⟩;obtain⟨hc1,hf1,hz1⟩:=bc3 hb1;(try simp at hz1);obtain⟨hy0,hy1,hy2⟩:=ol3 w w1)|(go_at_call 227;refine(HD.out _).mono ?_;rw [HY.out];rintro e w1 ⟨rfl,hb1⟩;obtain⟨hc1,hf1,hz1⟩:=bc3 hb1;(try simp at hz1);obtain⟨hy0,hy1,hy2⟩:=ol3 w w1))
    go_ret;exact⟨qae (by rw [HF.out,HZ.out,HY.out];simp),bel⟩
 · have hz' :(n==0)=false:=by simpa using hz
   have HN:=hdQ hz;clear hz
   rcases k1 with k1|⟨k0,k1⟩<;>rcases k2 with k2|⟨k3,k2⟩<;>(try subst k0)<;>(try subst k3)
   all_goals
    go_enter Tryz.func220,Tryz.ntmps220
    go_wp2_with (first|(go_at_call 226;refine(qdq _ _ _ _ _ _ _).mono ?_;rw [HZ.out];rintro e w1 ⟨rfl,hb1⟩;obtain⟨hc1,hf1,hz1⟩:=bc3 hb1;(try simp at hz1);obtain⟨hy0,hy1,hy2⟩:=ol3 w w1)|(go_at_call 227;refine(HD.out _).mono ?_;rw [HY.out];rintro e w1 ⟨rfl,hb1⟩;obtain⟨hc1,hf1,hz1⟩:=bc3 hb1;(try simp at hz1);obtain⟨hy0,hy1,hy2⟩:=ol3 w w1))
    go_ret;exact⟨qae (by rw [HF.out,HZ.out,HY.out];simp [HN.out]),bel⟩
theorem q2h {k:Nat} (hk:k<=1000000):IntKind.i64.wrap ((k:Int)+1)=(k:Int)+1:=IntWalk.i64_in _ oQ
theorem qn9 (B n c i k:Nat) (A:Option Addr) (l:List Pt) (w:World) (hl:qal w B A n l) (hB:B<=w.heap.size) (hn:n<=1000000) (hik:i<k) (hk:k<n) (hok:l.all okPt=true):
 C9 213 #[.slice A n c,.int .i64 i,.int .i64 k] w (Ret w (.bool (clash l i k))):=by
 have hi:i<n:=oQ
 have hi1:i+1<n:=oQ
 obtain⟨b,off,rfl,hab,c0,c1⟩:=hl.at_ hi;obtain⟨_,_,ho,_,c2,c3⟩:=hl.at_ hi1;injection ho with ho
 injection ho with ho1 ho2
 subst ho1 ho2;have hbw:b<w.heap.size:=oQ
 have hi0:(i:Int)<(n:Int):=oQ
 have hi2:(i:Int)+1<(n:Int):=oQ
 have hi3:(0:Int)<=(i:Int)+1:=oQ
 have hw1:=q2h (k:=i) oQ
 have O1:Hid (okPt ⟨(pt l i).x,(pt l i).y⟩=true):=qd3 hok (by rw [hl.1];exact hi)
 have O2:Hid (okPt ⟨(pt l (i+1)).x,(pt l (i+1)).y⟩=true):=qd3 hok (by rw [hl.1];exact hi1)
 have O3:Hid (okPt ⟨(pt l k).x,(pt l k).y⟩=true):=qd3 hok (by rw [hl.1];exact hk)
 have O4:Hid (okPt ⟨(nx l k).x,(nx l k).y⟩=true):=qm2 hok (by rw [hl.1];exact hk)
 have HS:Hid (clash l i k=if k=i+1 then qhv ⟨(pt l i).x,(pt l i).y⟩ ⟨(pt l (i+1)).x,(pt l (i+1)).y⟩ ⟨(nx l k).x,(nx l k).y⟩
  else if i=0/\k+1=n then qhv ⟨(pt l (i+1)).x,(pt l (i+1)).y⟩ ⟨(pt l i).x,(pt l i).y⟩ ⟨(pt l k).x,(pt l k).y⟩
  else qd4 ⟨(pt l i).x,(pt l i).y⟩ ⟨(pt l (i+1)).x,(pt l (i+1)).y⟩ ⟨(pt l k).x,(pt l k).y⟩ ⟨(nx l k).x,(nx l k).y⟩):=by unfold Hid clash;rw [hl.1]
 clear hok
 go_enter Tryz.func213,Tryz.ntmps213
 go_wp2_with fail;refine qbe [0,1,2,3,4,5,6,7,8] [9,10] [11,12] (fun _=> #[.int .i64 0,.int .i64 0]) kr kr pq (by intro i hi w;simp only [List.mem_cons,List.not_mem_nil,or_false] at hi;rcases hi with rfl|rfl<;>simp only [ldz,lds,tyOf]<;>kernel_rfl) (fun KN hKN=> ?_)
 simp only [zdy,zey,ldz,lds,bare,qak,lcz,lcs,zay]
 repeat((try simp only [Act.put,lsi,lsz,lss]);first|(refine qcx (v:= ?_) rfl ?_ ?_;rotate_left;focus(intro wq hq;obtain⟨hcq,hfq⟩:=qa1 hq;go_simp;try with_reducible rfl))|(refine qdi (v:= ?_) rfl ?_ ?_;rotate_left;focus(intro wq hq K hK;obtain⟨hcq,hfq⟩:=qa1 hq;go_simp;(first|fail);refine hK.out _ _ ?_ bel;simp only [Act.put,lsi,lsz,lss];try with_reducible rfl)))
 (try simp only [Act.put,lsi,lsz,lss])
 refine qeb (hKN.out _ ?_);clear hKN KN;intro gs wf hwf hgs hds
 simp only [zdy,zey,ldz,lds,bare,qak,lcz,lcs,zay,List.foldl_cons,List.foldl_nil,ptrV]
 obtain⟨hg9,HB9⟩:=hgs 9 dE
 obtain⟨hg10,HB10⟩:=hgs 10 dE
 have hd9x10:=hds 9 dE 10 dE dE
 simp only [ldz,lds,tyOf] at HB9 HB10;clear hgs hds;generalize gs 9=g9 at*;generalize gs 10=g10 at*;have cg9:=HB9.cell;have fg9:=HB9.frozen;have cg10:=HB10.cell;have fg10:=HB10.frozen;have hd10x9:=Ne.symm hd9x10
 repeat((try simp only [Act.put,lsi,lsz,lss]);first|(refine qab qaa rfl (fun K hK=> ?_);go_simp;refine hK.out _ _ bel ?_;clear hK K)|(refine qa8 (v:= ?_) qaa rfl ?_ ?_;rotate_left;focus(intro wq hq;go_simp;try with_reducible rfl)))
 refine qad ?_;refine qbt (R:=fun w2=>Below w.heap.size w w2/\Blk w2 g9 46 #[.int .i64 (pt l i).x,.int .i64 (pt l i).y]/\Blk w2 g10 46 #[.int .i64 (pt l (i+1)).x,.int .i64 (pt l (i+1)).y]) ⟨bel,((((HB9.set_ 0 _).set_ 1 _).far (p:=⟨g10,0,none⟩) hd9x10 _).far (p:=⟨g10,1,none⟩) hd9x10 _).eq_ sI,((((HB10.far (p:=⟨g9,0,none⟩) hd10x9 _).far (p:=⟨g9,1,none⟩) hd10x9 _).set_ 0 _).set_ 1 _).eq_ sI⟩ ?_
 rintro w2 ⟨hb2,h9,h10⟩;clear cg9 fg9 HB9 cg10 fg10 HB10;have cg9:=h9.cell;have fg9:=h9.frozen;have lg9:=h9.lt;have cg10:=h10.cell;have fg10:=h10.frozen;have lg10:=h10.lt;obtain⟨hc2,hf2⟩:=qa1 hb2;obtain⟨_,_,ho,_,d0,d1⟩:=(hl.tr hb2 hB).at_ hk;injection ho with ho
 injection ho with ho1 ho2
 subst ho1 ho2;obtain⟨d2,d3⟩:=qwk (hl.tr hb2 hB) hk;obtain⟨m,hm,hwr,htm,hml⟩:=qj1 hk hn;rw [hm] at d2 d3;clear hm c0 c1 c2 c3 hc2 hf2 hwf;have hbs:=hb2.size;have hbw2:b<w2.heap.size:=oQ
 have hk0:(k:Int)<(n:Int):=oQ
 have hk3:(0:Int)<=(k:Int)+1:=oQ
 have hn0:¬ n=0:=oQ
 have hml0:(m:Int)<(n:Int):=oQ
 have wo9:=lg9;have wo10:=lg10;go_wp2_with fail;refine qbe [0,1,2,3,4,5,6,7,8,9,10] [11,12] [13,14] (fun _=> #[.int .i64 0,.int .i64 0]) kr kr pq (by intro i hi w;simp only [List.mem_cons,List.not_mem_nil,or_false] at hi;rcases hi with rfl|rfl<;>simp only [ldz,lds,tyOf]<;>kernel_rfl) (fun KN hKN=> ?_)
 simp only [zdy,zey,ldz,lds,bare,qak,lcz,lcs,zay]
 repeat((try simp only [Act.put,lsi,lsz,lss]);first|(refine qcx (v:= ?_) rfl ?_ ?_;rotate_left;focus(intro wq hq;obtain⟨hcq,hfq⟩:=qa1 hq;go_simp;try with_reducible rfl))|(refine qdi (v:= ?_) rfl ?_ ?_;rotate_left;focus(intro wq hq K hK;obtain⟨hcq,hfq⟩:=qa1 hq;go_simp;(first|fail);refine hK.out _ _ ?_ bel;simp only [Act.put,lsi,lsz,lss];try with_reducible rfl)))
 (try simp only [Act.put,lsi,lsz,lss])
 refine qeb (hKN.out _ ?_);clear hKN KN;intro gs wf hwf hgs hds
 simp only [zdy,zey,ldz,lds,bare,qak,lcz,lcs,zay,List.foldl_cons,List.foldl_nil,ptrV]
 obtain⟨hg11,HB11⟩:=hgs 11 dE
 obtain⟨hg12,HB12⟩:=hgs 12 dE
 have hd11x12:=hds 11 dE 12 dE dE
 simp only [ldz,lds,tyOf] at HB11 HB12;clear hgs hds;generalize gs 11=g11 at*;generalize gs 12=g12 at*;have cg11:=HB11.cell;have fg11:=HB11.frozen;have cg12:=HB12.cell;have fg12:=HB12.frozen;have hd12x11:=Ne.symm hd11x12
 repeat((try simp only [Act.put,lsi,lsz,lss]);first|(refine qab qaa rfl (fun K hK=> ?_);go_simp;refine hK.out _ _ bel ?_;clear hK K)|(refine qa8 (v:= ?_) qaa rfl ?_ ?_;rotate_left;focus(intro wq hq;go_simp;try with_reducible rfl)))
 refine qad ?_;refine qbt (R:=fun w2=>Below w.heap.size w w2/\Blk w2 g11 46 #[.int .i64 (pt l k).x,.int .i64 (pt l k).y]/\Blk w2 g12 46 #[.int .i64 (nx l k).x,.int .i64 (nx l k).y]/\Blk w2 g9 46 #[.int .i64 (pt l i).x,.int .i64 (pt l i).y]/\Blk w2 g10 46 #[.int .i64 (pt l (i+1)).x,.int .i64 (pt l (i+1)).y]) ⟨bel,((((HB11.set_ 0 _).set_ 1 _).far (p:=⟨g12,0,none⟩) hd11x12 _).far (p:=⟨g12,1,none⟩) hd11x12 _).eq_ sI,((((HB12.far (p:=⟨g11,0,none⟩) hd12x11 _).far (p:=⟨g11,1,none⟩) hd12x11 _).set_ 0 _).set_ 1 _).eq_ sI,blkA,blkA⟩ ?_
 rintro w2 ⟨hb2,h11,h12,hE0,hE1⟩;clear cg11 fg11 HB11 cg12 fg12 HB12;have cg11:=h11.cell;have fg11:=h11.frozen;have lg11:=h11.lt;have cg12:=h12.cell;have fg12:=h12.frozen;have lg12:=h12.lt;obtain⟨hc2,hf2⟩:=qa1 hb2;clear cg9 cg10 fg9 fg10 d0 d1 d2 d3 hc2 hf2 hwf h9 h10 hwr htm hw1;have cg9:=hE0.cell;have cg10:=hE1.cell;have lg9:=hE0.lt;have lg10:=hE1.lt
 by_cases h1:k=i+1
 · have hb1:((k:Int)==(i:Int)+1)=true:=by rw [beq_iff_eq];omega
   have HM:=hdQ h1;clear h1
   go_wp2_with (go_at_call 220;refine(qrt _ _ _ _ _ _ _ O1.out O2.out O4.out).monoR ?_;rintro w1 hb1 hc1 hf1 hz1;(try simp at hz1))
   go_ret;exact⟨qae (by rw [HS.out,if_pos HM.out]),bel⟩
 · have hb1:((k:Int)==(i:Int)+1)=false:=by rw [beq_eq_false_iff_ne];omega
   have HM:=hdQ h1;clear h1
   by_cases h2:i=0
   · have hb2:((i:Int)==0)=true:=by rw [beq_iff_eq];omega
     by_cases h3:k+1=n
     · have hb3:((k:Int)==(n:Int)-1)=true:=by rw [beq_iff_eq];omega
       have HN:Hid (i=0/\k+1=n):=⟨h2,h3⟩;clear h2 h3
       go_wp2_with (go_at_call 220;refine(qrt _ _ _ _ _ _ _ O2.out O1.out O3.out).monoR ?_;rintro w1 hb1 hc1 hf1 hz1;(try simp at hz1))
       go_ret;exact⟨qae (by rw [HS.out,if_neg HM.out,if_pos HN.out]),bel⟩
     · have hb3:((k:Int)==(n:Int)-1)=false:=by rw [beq_eq_false_iff_ne];omega
       have HN:Hid (¬ (i=0/\k+1=n)):=fun h=>h3 h.2
       clear h2 h3
       go_wp2_with (go_at_call 221;refine(qn5 _ _ _ _ _ _ _ _ _).monoR ?_;rintro w1 hb1 hc1 hf1 hz1;(try simp at hz1))
       go_ret;exact⟨qae (by rw [HS.out,if_neg HM.out,if_neg HN.out]),bel⟩
   · have hb2:((i:Int)==0)=false:=by rw [beq_eq_false_iff_ne];omega
     have HN:Hid (¬ (i=0/\k+1=n)):=fun h=>h2 h.1
     clear h2
     go_wp2_with (go_at_call 221;refine(qn5 _ _ _ _ _ _ _ _ _).monoR ?_;rintro w1 hb1 hc1 hf1 hz1;(try simp at hz1))
     go_ret;exact⟨qae (by rw [HS.out,if_neg HM.out,if_neg HN.out]),bel⟩
def Ret2 (w:World) (k:Nat):Ending->World->Prop:=fun e w' =>∃id:Int,e=.returned (.tuple #[.int .i64 k,.int .i64 id])/\Below w.heap.size w w'
theorem qj8 {w w' :World} {k:Nat} {id:Int} (h:Below w.heap.size w w'):Ret2 w k (.returned (.tuple #[.int .i64 k,.int .i64 id])) w' :=⟨id,rfl,h⟩
def badC (l:List Pt) (i j:Nat):Bool:=decide (i<j)&&(decide (pt l i=pt l j)||clash l i j)
theorem qmg {l:List Pt} {i k:Nat} (hi:i<l.length) (hk:k<l.length) (h:badC l i k=true):qec l=true:=
 qby _ _ i hi (qby _ _ k hk h)
theorem quj {l:List Pt} (h:∀i,i<l.length->∀k,k<l.length->badC l i k=false):qec l=false:=
 qbq _ _ fun i hi=>qbq _ _ fun k hk=>h i hi k hk
theorem qgy (B n c:Nat) (A:Option Addr) (l:List Pt) (w:World) (hl:qal w B A n l) (hB:B<=w.heap.size):
 C9 206 #[.slice A n c] w (Ret2 w (qcs l)):=by
 by_cases hlen:n<3\/64<n
 · have HK:Hid (qcs l=3):=by unfold Hid qcs;rw [hl.1,if_pos hlen]
   rcases hlen with h|h
   all_goals
    go_enter Tryz.func206,Tryz.ntmps206
    go_wp2
    go_ret2
    rw [HK.out]
    exact qj8 bel
 · have h3:3<=n:=oQ
   have h64:n<=64:=oQ
   have hn:n<=1000000:=oQ
   clear hlen;have hd3:decide ((n:Int)<3)=false:=by simp;omega
   have hd64:decide ((64:Int)<(n:Int))=false:=by simp;omega
   have HK:Hid (qcs l=if l.all okPt then(if qec l then 4 else 0) else 2):=by unfold Hid qcs;rw [hl.1,if_neg oQ]
   go_enter Tryz.func206,Tryz.ntmps206
   go_wp2
   go_loopw [5] (fun i wr=>∃k:Nat,k<=n/\i=.int .i64 k/\(l.take k).all okPt=true/\Below w.heap.size w wr) (fun i _=>n-(intOf i).toNat)
   case atStart=>exact ⟨0,zly _,rfl,by simp,Below.refl _ _⟩
   case round=>
    obtain⟨k,hk,rfl,hall,hb⟩:=hrel
    by_cases hlt:k<n
    · obtain⟨b,off,rfl,hab,c0,c1⟩:=(hl.below (hb.mono hB)).at_ hlt
      have Hp:=hdQ (qa9 okPt l k _ (qi8 (by rw [hl.1];exact hlt)))
      have Hf:=hdQ (qd0 okPt l k _ (qi8 (by rw [hl.1];exact hlt)))
      have Ha:=hdQ hall;clear hall
      cases hx:okPt (pt l k)
      case true=>
       have HE:Hid (okPt ⟨(pt l k).x,(pt l k).y⟩=true):=hx;have Hx:=hdQ hx;clear hx
       go_wp2_with (go_at_call 205;refine(qav _ _ _).mono ?_;rw [HE.out];rintro e w1 ⟨rfl,hb1⟩;obtain⟨hc1,hf1,hz1⟩:=bc3 hb1;(try simp at hz1))
       go_roundw
       case rel=>exact ⟨k+1,by omega,by go_num,by rw [Hp.out,Ha.out,Hx.out];rfl,bel⟩
       case measure=>simp [intOf];omega
      case false=>
       have HE:Hid (okPt ⟨(pt l k).x,(pt l k).y⟩=false):=hx;have HK2:Hid (qcs l=2):=by unfold Hid;rw [HK.out,Hf.out hx];rfl
       clear hx
       go_wp2_with (go_at_call 205;refine(qav _ _ _).mono ?_;rw [HE.out];rintro e w1 ⟨rfl,hb1⟩;obtain⟨hc1,hf1,hz1⟩:=bc3 hb1;(try simp at hz1))
       go_ret2
       rw [HK2.out]
       exact qj8 bel
    · have hkn:l.length<=k:=by rw [hl.1];omega
      rw [zmy hkn] at hall;have HK2:Hid (qcs l=if qec l then 4 else 0):=by unfold Hid;rw [HK.out,hall];rfl
      have HA:=hdQ hall;clear hall;obtain⟨wo,hwo⟩:∃wo:World,wo=wr:=⟨_,rfl⟩;subst hwo;go_wp2
      go_loopw [6,7] (fun i _ wr=>∃k:Nat,k<=n/\i=.int .i64 k/\Hid (∀j,j<k->∀m,m<n->badC l j m=false)/\Below w.heap.size w wr) (fun i _ _=>n-(intOf i).toNat)
      case atStart=>exact ⟨0,zly _,rfl,fun j hj=>by omega,hb⟩
      case round=>
       obtain⟨i,hi,rfl,hbad,hb2⟩:=hrel
       by_cases hil:i<n
       · obtain⟨wp,hwp⟩:∃wp:World,wp=wr:=⟨_,rfl⟩
         subst hwp;go_wp2
         go_loopw [7] (fun i2 wr=>∃m:Nat,i<m/\m<=n/\i2=.int .i64 m/\Hid (∀j,j<m->badC l i j=false)/\Below w.heap.size w wr) (fun i2 _=>n-(intOf i2).toNat)
         case atStart=>exact ⟨i+1,by omega,by omega,by go_num,fun j hj=>by unfold badC;rw [decide_eq_false oQ];rfl,hb2⟩
         case round=>
          obtain⟨m,him,hm,rfl,hbm,hb3⟩:=hrel
          by_cases hml:m<n
          · have hB3:B<=wr.heap.size:=by have:=hb3.size;omega
            obtain⟨b,off,rfl,hab,c0,c1⟩:=(hl.below (hb3.mono hB)).at_ hil;obtain⟨_,_,ho,_,d0,d1⟩:=(hl.below (hb3.mono hB)).at_ hml;injection ho with ho
            injection ho with ho1 ho2
            subst ho1 ho2;have hbw:b<wr.heap.size:=oQ
            have hil0:(i:Int)<(n:Int):=oQ
            have hml0:(m:Int)<(n:Int):=oQ
            by_cases he:pt l i=pt l m
            · have ex:(pt l i).x=(pt l m).x:=by rw [he]
              have ey:(pt l i).y=(pt l m).y:=by rw [he]
              have HK3:Hid (qcs l=4):=by unfold Hid;rw [HK2.out,qmg (i:=i) (k:=m) (by rw [hl.1];exact hil) (by rw [hl.1];exact hml) (by unfold badC;rw [decide_eq_true him,decide_eq_true he];rfl)];rfl
              have HE:=hdQ he;clear he;go_wp2_with fail;refine qac kr kr pq ?_
              simp only [zdy,zey,ldz,lds,bare,qak,lcz,lcs,zay]
              repeat' ((try simp only [Act.put,lsi,lsz,lss]);first|(refine lqx ?_)|(refine qab qaa rfl (fun K hK=> ?_);go_simp;((first|fail|skip)<;>(refine hK.out _ _ bel ?_;clear hK K)))|(refine qbj ?_ ?_;focus(simp only [lAq,zgy,zfy];done))|(refine qa3 ?_ ?_ ?_;(focus(simp only [lAq,zgy,zfy];done));(focus(exact bel)))|(refine qaw (X:= ?_) ?_ ?_ (fun hg=> ?_) (fun hg=> ?_);rotate_left;(focus(simp only [lAq];with_reducible rfl));(focus(exact bel));all_goals(try simp only [zgy,zfy] at hg)))
              (all_goals try simp only [Act.put,lsi,lsz,lss]);all_goals(refine qad ?_)
              go_wp2
              go_ret2
              rw [HK3.out]
              exact qj8 bel
            · have hne:¬ ((pt l i).x=(pt l m).x/\(pt l i).y=(pt l m).y):=fun h=>he (Pt.ext' h.1 h.2)
              have k1:¬ (pt l i).x=(pt l m).x\/((pt l i).x=(pt l m).x/\¬ (pt l i).y=(pt l m).y):=oQ
              have HE:=hdQ he;clear he hne
              cases hs:clash l i m
              · have HS:=hdQ hs
                rcases k1 with k1|⟨k0,k1⟩
                all_goals
                 go_wp2_with fail;refine qac kr kr pq ?_
                 simp only [zdy,zey,ldz,lds,bare,qak,lcz,lcs,zay]
                 repeat' ((try simp only [Act.put,lsi,lsz,lss]);first|(refine lqx ?_)|(refine qab qaa rfl (fun K hK=> ?_);go_simp;((first|(go_at_call 213;refine(qn9 B n c i m _ l _ (hl.tr bel hB) (bsz w hB) hn him hml HA.out).mono ?_;rw [HS.out];rintro e w1 ⟨rfl,hb1⟩;obtain⟨hc1,hf1,hz1⟩:=bc3 hb1;(try simp at hz1))|skip)<;>(refine hK.out _ _ bel ?_;clear hK K)))|(refine qbj ?_ ?_;focus(simp only [lAq,zgy,zfy];done))|(refine qa3 ?_ ?_ ?_;(focus(simp only [lAq,zgy,zfy];done));(focus(exact bel)))|(refine qaw (X:= ?_) ?_ ?_ (fun hg=> ?_) (fun hg=> ?_);rotate_left;(focus(simp only [lAq];with_reducible rfl));(focus(exact bel));all_goals(try simp only [zgy,zfy] at hg)))
                 (all_goals try simp only [Act.put,lsi,lsz,lss]);all_goals(refine qad ?_)
                 go_wp2
                 go_roundw
                 case rel=>exact ⟨m+1,by omega,by omega,by go_num,fun j hj=>by
                  by_cases e:j=m
                  · subst e;unfold badC;rw [decide_eq_false HE.out,HS.out];simp
                  · exact hbm.out j oQ,bel⟩
                 case measure=>simp [intOf];omega
              · have HS:=hdQ hs
                have HK3:Hid (qcs l=4):=by unfold Hid;rw [HK2.out,qmg (i:=i) (k:=m) (by rw [hl.1];exact hil) (by rw [hl.1];exact hml) (by unfold badC;rw [decide_eq_true him,HS.out];simp)];rfl
                rcases k1 with k1|⟨k0,k1⟩
                all_goals
                 go_wp2_with fail;refine qac kr kr pq ?_
                 simp only [zdy,zey,ldz,lds,bare,qak,lcz,lcs,zay]
                 repeat' ((try simp only [Act.put,lsi,lsz,lss]);first|(refine lqx ?_)|(refine qab qaa rfl (fun K hK=> ?_);go_simp;((first|(go_at_call 213;refine(qn9 B n c i m _ l _ (hl.tr bel hB) (bsz w hB) hn him hml HA.out).mono ?_;rw [HS.out];rintro e w1 ⟨rfl,hb1⟩;obtain⟨hc1,hf1,hz1⟩:=bc3 hb1;(try simp at hz1))|skip)<;>(refine hK.out _ _ bel ?_;clear hK K)))|(refine qbj ?_ ?_;focus(simp only [lAq,zgy,zfy];done))|(refine qa3 ?_ ?_ ?_;(focus(simp only [lAq,zgy,zfy];done));(focus(exact bel)))|(refine qaw (X:= ?_) ?_ ?_ (fun hg=> ?_) (fun hg=> ?_);rotate_left;(focus(simp only [lAq];with_reducible rfl));(focus(exact bel));all_goals(try simp only [zgy,zfy] at hg)))
                 (all_goals try simp only [Act.put,lsi,lsz,lss]);all_goals(refine qad ?_)
                 go_wp2
                 go_ret2
                 rw [HK3.out]
                 exact qj8 bel
          · go_wp2
            go_roundw
            case rel=>exact ⟨i+1,by omega,by go_num,fun j hj q hq=>by
             by_cases e:j=i
             · subst e;exact hbm.out q oQ
             · exact hbad.out j oQ q hq,bel⟩
            case measure=>simp [intOf];omega
       · have HK3:Hid (qcs l=0):=by unfold Hid;rw [HK2.out,quj (fun j hj m hm=>hbad.out j (by rw [hl.1] at hj;omega) m (by rw [<-hl.1];exact hm))];rfl
         go_wp2
         go_ret2
         rw [HK3.out]
         exact qj8 bel
theorem qgx (B n c:Nat) (A:Option Addr) (l:List Pt) (w:World) (hl:qal w B A n l) (hB:B<=w.heap.size) (hn:n<=1000000):
 C9 206 #[.slice A n c] w (Ret2 w (qcs l)):=qgy B n c A l w hl hB
theorem qff (B n c:Nat) (k:Int) (A:Option Addr) (l:List Pt) (w:World) (hl:qal w B A n l) (hB:B<=w.heap.size) (hn:n<=1000000):
 C9 197 #[obV k A n c] w (Ret w (.int .i64 (qd5 ⟨k,l⟩))):=by
 by_cases k1:k=1
 · subst k1
   by_cases h:n=1
   · subst h
     obtain⟨b,off,rfl,hab,c0,c1⟩:=hl.at_ (k:=0) oQ
     simp only [Nat.zero_mul,Nat.add_zero] at c0 c1;have hbw:b<w.heap.size:=oQ
     have hbw1:b<w.heap.size+1:=oQ
     cases ho:okPt (pt l 0)
     · have HF:Hid (qd5 ⟨1,l⟩=2):=by simp [Hid,qd5,hl.1,ho]
       have HO:Hid (okPt ⟨(pt l 0).x,(pt l 0).y⟩=false):=ho;clear ho
       go_enter Tryz.func197,Tryz.ntmps197
       go_wp2_with (go_at_call 205;refine(qav _ _ _).mono ?_;rw [HO.out];rintro e w1 ⟨rfl,hb1⟩;obtain⟨hc1,hf1,hz1⟩:=bc3 hb1;(try simp at hz1);have hy0:=ol1 w w1;have hbz:b<w1.heap.size:=oQ)
       go_ret;exact⟨by rw [HF.out];rfl,bel⟩
     · have HF:Hid (qd5 ⟨1,l⟩=0):=by simp [Hid,qd5,hl.1,ho]
       have HO:Hid (okPt ⟨(pt l 0).x,(pt l 0).y⟩=true):=ho;clear ho
       go_enter Tryz.func197,Tryz.ntmps197
       go_wp2_with (go_at_call 205;refine(qav _ _ _).mono ?_;rw [HO.out];rintro e w1 ⟨rfl,hb1⟩;obtain⟨hc1,hf1,hz1⟩:=bc3 hb1;(try simp at hz1);have hy0:=ol1 w w1;have hbz:b<w1.heap.size:=oQ)
       refine qac kr kr pq ?_
       simp only [zdy,zey,ldz,lds,bare,qak,lcz,lcs,zay]
       repeat' ((try simp only [Act.put,lsi,lsz,lss]);first|(refine lqx ?_)|(refine qab qaa rfl (fun K hK=> ?_);go_simp;((first|fail|skip)<;>(refine hK.out _ _ bel ?_;clear hK K)))|(refine qbj ?_ ?_;focus(simp only [lAq,zgy,zfy];done))|(refine qa3 ?_ ?_ ?_;(focus(simp only [lAq,zgy,zfy];done));(focus(exact bel)))|(refine qaw (X:= ?_) ?_ ?_ (fun hg=> ?_) (fun hg=> ?_);rotate_left;(focus(simp only [lAq];with_reducible rfl));(focus(exact bel));all_goals(try simp only [zgy,zfy] at hg)))
       (all_goals try simp only [Act.put,lsi,lsz,lss]);all_goals(refine qad ?_)
       go_wp2;go_ret;exact⟨by rw [HF.out];rfl,bel⟩
   · have HF:Hid (qd5 ⟨1,l⟩=3):=by simp [Hid,qd5,hl.1,h]
     have hne:¬ (n:Int)=1:=oQ
     go_enter Tryz.func197,Tryz.ntmps197
     go_wp2;go_ret;exact⟨by rw [HF.out];rfl,bel⟩
 by_cases k2:k=2
 · subst k2
   by_cases h:n=1
   · subst h
     obtain⟨b,off,rfl,hab,c0,c1⟩:=hl.at_ (k:=0) oQ
     simp only [Nat.zero_mul,Nat.add_zero] at c0 c1;have hbw:b<w.heap.size:=oQ
     have hbw1:b<w.heap.size+1:=oQ
     cases ho:okPt (pt l 0)
     · have HF:Hid (qd5 ⟨2,l⟩=2):=by simp [Hid,qd5,qk3,hl.1,ho]
       have HO:Hid (okPt ⟨(pt l 0).x,(pt l 0).y⟩=false):=ho;clear ho
       go_enter Tryz.func197,Tryz.ntmps197
       go_wp2_with (go_at_call 205;refine(qav _ _ _).mono ?_;rw [HO.out];rintro e w1 ⟨rfl,hb1⟩;obtain⟨hc1,hf1,hz1⟩:=bc3 hb1;(try simp at hz1);have hy0:=ol1 w w1;have hbz:b<w1.heap.size:=oQ)
       go_ret;exact⟨by rw [HF.out];rfl,bel⟩
     · have HF:Hid (qd5 ⟨2,l⟩=if (pt l 0).y<(pt l 0).x then 1 else 0):=by simp [Hid,qd5,qk3,hl.1,ho]
       have HO:Hid (okPt ⟨(pt l 0).x,(pt l 0).y⟩=true):=ho;clear ho
       by_cases hlt:(pt l 0).y<(pt l 0).x
       all_goals
        go_enter Tryz.func197,Tryz.ntmps197
        go_wp2_with (go_at_call 205;refine(qav _ _ _).mono ?_;rw [HO.out];rintro e w1 ⟨rfl,hb1⟩;obtain⟨hc1,hf1,hz1⟩:=bc3 hb1;(try simp at hz1);have hy0:=ol1 w w1;have hbz:b<w1.heap.size:=oQ)
        refine qac kr kr pq ?_
        simp only [zdy,zey,ldz,lds,bare,qak,lcz,lcs,zay]
        repeat' ((try simp only [Act.put,lsi,lsz,lss]);first|(refine lqx ?_)|(refine qab qaa rfl (fun K hK=> ?_);go_simp;((first|fail|skip)<;>(refine hK.out _ _ bel ?_;clear hK K)))|(refine qbj ?_ ?_;focus(simp only [lAq,zgy,zfy];done))|(refine qa3 ?_ ?_ ?_;(focus(simp only [lAq,zgy,zfy];done));(focus(exact bel)))|(refine qaw (X:= ?_) ?_ ?_ (fun hg=> ?_) (fun hg=> ?_);rotate_left;(focus(simp only [lAq];with_reducible rfl));(focus(exact bel));all_goals(try simp only [zgy,zfy] at hg)))
        (all_goals try simp only [Act.put,lsi,lsz,lss]);all_goals(refine qad ?_)
        go_wp2;go_ret;exact⟨by rw [HF.out];first|(rw [if_pos oQ];rfl)|(rw [if_neg oQ];rfl),bel⟩
   · have HF:Hid (qd5 ⟨2,l⟩=3):=by simp [Hid,qd5,hl.1,h]
     have hne:¬ (n:Int)=1:=oQ
     go_enter Tryz.func197,Tryz.ntmps197
     go_wp2;go_ret;exact⟨by rw [HF.out];rfl,bel⟩
 by_cases k3:k=3
 · subst k3
   by_cases h:n=2
   · subst h
     have HF:Hid (qd5 ⟨3,l⟩=qa4 ⟨⟨(pt l 0).x,(pt l 0).y⟩,⟨(pt l 1).x,(pt l 1).y⟩⟩):=by simp [Hid,qd5,hl.1]
     obtain⟨b,off,rfl,hab,c0,c1⟩:=hl.at_ (k:=0) oQ
     obtain⟨b',off',he,hab',c2,c3⟩:=hl.at_ (k:=1) oQ
     injection he with he
     injection he with he1 he2
     subst he1 he2;simp only [Nat.zero_mul,Nat.add_zero,Nat.one_mul] at c0 c1 c2 c3;have hbw:b<w.heap.size:=oQ
     have hbw1:b<w.heap.size+1:=oQ
     go_enter Tryz.func197,Tryz.ntmps197
     go_wp2_with fail;refine qac kr kr pq ?_
     simp only [zdy,zey,ldz,lds,bare,qak,lcz,lcs,zay]
     repeat' ((try simp only [Act.put,lsi,lsz,lss]);first|(refine lqx ?_)|(refine qab qaa rfl (fun K hK=> ?_);go_simp;((first|(go_at_call 204;refine(qbg _ _ _ _ _).monoR ?_;rintro w1 hb1 hc1 hf1 hz1;(try simp at hz1);have hy0:=ol1 w w1)|skip)<;>(refine hK.out _ _ bel ?_;clear hK K))))
     (all_goals try simp only [Act.put,lsi,lsz,lss]);all_goals(refine qad ?_)
     go_wp2;go_ret;exact⟨by rw [HF.out];first|done|rfl,bel⟩
   · have HF:Hid (qd5 ⟨3,l⟩=3):=by simp [Hid,qd5,hl.1,h]
     have hne:¬ (n:Int)=2:=oQ
     go_enter Tryz.func197,Tryz.ntmps197
     go_wp2;go_ret;exact⟨by rw [HF.out];rfl,bel⟩
 by_cases k4:k=4
 · subst k4
   have HF:Hid (qd5 ⟨4,l⟩=qcs l):=by simp [Hid,qd5]
   go_enter Tryz.func197,Tryz.ntmps197
   go_wp2_with (go_at_call 206;refine(qgx B n c A l _ (hl.tr bel hB) (bsz w hB) hn).mono ?_;rintro e w1 ⟨id1,rfl,hb1⟩;obtain⟨hc1,hf1,hz1⟩:=bc3 hb1;(try simp at hz1))
   go_ret;exact⟨by rw [HF.out];first|done|rfl,bel⟩
 · have HF:Hid (qd5 ⟨k,l⟩=5):=by simp [Hid,qd5,k1,k2,k3,k4]
   go_enter Tryz.func197,Tryz.ntmps197
   go_wp2;go_ret;exact⟨by rw [HF.out];rfl,bel⟩
theorem qtd (B n c:Nat) (k:Int) (b:Bx) (A:Option Addr) (l:List Pt) (w:World) (hl:qal w B A n l) (hB:B<=w.heap.size):
 C9 192 #[quV k b A n c] w (Ret w (.int .i64 (qh4 ⟨k,b,l⟩))):=by
 by_cases k12:k=1\/k=2
 · have HF:Hid (qh4 ⟨k,b,l⟩=qa4 ⟨⟨b.lo.x,b.lo.y⟩,⟨b.hi.x,b.hi.y⟩⟩):=by rcases k12 with rfl|rfl<;>simp [Hid,qh4]
   rcases k12 with rfl|rfl
   all_goals
    go_enter Tryz.func192,Tryz.ntmps192
    go_wp2_with (go_at_call 204;refine(qbg _ _ _ _ _).monoR ?_;rintro w1 hb1 hc1 hf1 hz1;(try simp at hz1);have hy0:=ol1 w w1)
    go_ret;exact⟨by rw [HF.out];first|done|rfl,bel⟩
 have k1:¬ k=1:=fun h=>k12 (.inl h)
 have k2:¬ k=2:=fun h=>k12 (.inr h)
 clear k12
 by_cases k3:k=3
 · subst k3
   cases ho:okPt b.lo
   · have HF:Hid (qh4 ⟨3,b,l⟩=2):=by simp [Hid,qh4,ho]
     have HO:Hid (okPt ⟨b.lo.x,b.lo.y⟩=false):=ho;clear ho
     go_enter Tryz.func192,Tryz.ntmps192
     go_wp2_with (go_at_call 205;refine(qav _ _ _).mono ?_;rw [HO.out];rintro e w1 ⟨rfl,hb1⟩;obtain⟨hc1,hf1,hz1⟩:=bc3 hb1;(try simp at hz1);have hy0:=ol1 w w1)
     go_ret;exact⟨by rw [HF.out];rfl,bel⟩
   · have HF:Hid (qh4 ⟨3,b,l⟩=0):=by simp [Hid,qh4,ho]
     have HO:Hid (okPt ⟨b.lo.x,b.lo.y⟩=true):=ho;clear ho
     go_enter Tryz.func192,Tryz.ntmps192
     go_wp2_with (go_at_call 205;refine(qav _ _ _).mono ?_;rw [HO.out];rintro e w1 ⟨rfl,hb1⟩;obtain⟨hc1,hf1,hz1⟩:=bc3 hb1;(try simp at hz1);have hy0:=ol1 w w1)
     go_ret;exact⟨by rw [HF.out];rfl,bel⟩
 by_cases k4:k=4
 · subst k4
   have HF:Hid (qh4 ⟨4,b,l⟩=qcs l):=by simp [Hid,qh4]
   go_enter Tryz.func192,Tryz.ntmps192
   go_wp2_with (go_at_call 206;refine(qgy B n c A l _ (hl.tr bel hB) (bsz w hB)).mono ?_;rintro e w1 ⟨id1,rfl,hb1⟩;obtain⟨hc1,hf1,hz1⟩:=bc3 hb1;(try simp at hz1))
   go_ret;exact⟨by rw [HF.out];first|done|rfl,bel⟩
 · have HF:Hid (qh4 ⟨k,b,l⟩=5):=by simp [Hid,qh4,k1,k2,k3,k4]
   go_enter Tryz.func192,Tryz.ntmps192
   go_wp2;go_ret;exact⟨by rw [HF.out];rfl,bel⟩
theorem qtc (B n c:Nat) (k:Int) (b:Bx) (A:Option Addr) (l:List Pt) (w:World) (hl:qal w B A n l) (hB:B<=w.heap.size) (hn:n<=1000000):
 C9 192 #[quV k b A n c] w (Ret w (.int .i64 (qh4 ⟨k,b,l⟩))):=qtd B n c k b A l w hl hB
end Go.Proofs.YtfnhnjbkkggbeaaGreat
