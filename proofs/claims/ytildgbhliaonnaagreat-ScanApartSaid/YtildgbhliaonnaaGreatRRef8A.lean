/-Contracts of the references of chapters 4 to 6-/
import Derived.Test.YtildgbhliaonnaaGreatRRef6
set_option linter.unusedVariables false
set_option linter.unusedSimpArgs false
set_option maxHeartbeats 2000000
set_option maxRecDepth 20000
namespace Go.Proofs.YtildgbhliaonnaaGreat
open Go.RowKit Pg
theorem qpt (B n c:Nat) (px py:Int) (A:Option Addr) (l:List Pt) (w:World) (hl:qan w B A n l) (hB:B<=w.heap.size) (hn:n<=1000000):
 C9 86 #[.slice A n c,ptV px py] w (Ret w (.bool (qmr l ⟨px,py⟩))):=by
 go_enter Tryz.func86,Tryz.ntmps86
 go_wp2
 go_loopw [5] (fun i wr=>∃k:Nat,k<=n/\i=.int .i64 k/\Hid (∀j,j<k->onS (pt l j) (nx l j) ⟨px,py⟩=false)/\Blk wr w.heap.size 24 #[.int .i64 px,.int .i64 py]/\Below w.heap.size w wr) (fun i _=>n-(intOf i).toNat)
 case atStart=>exact ⟨0,zly _,rfl,fun j hj=>by omega,Blk.new rfl rfl,bel⟩
 case round=>
  obtain⟨k,hk,rfl,hno,hP,hb⟩:=hrel
  by_cases hlt:k<n
  · obtain⟨b,off,rfl,hab,c0,c1⟩:=(hl.below (hb.mono hB)).at_ hlt
    obtain⟨c2,c3⟩:=qkb (hl.below (hb.mono hB)) hlt;have hPl:=hP.lt;have hPc:=hP.cell;have hbs:=hb.size;have hbw:b<wr.heap.size:=oQ
    have hk0:(k:Int)<(n:Int):=oQ
    have hk3:(0:Int)<=(k:Int)+1:=oQ
    obtain⟨m,hm,hwr,htm,hml⟩:=qet hlt hn;rw [hm] at c2 c3;clear hm;have hn0:¬ n=0:=oQ
    have hml0:(m:Int)<(n:Int):=oQ
    go_wp2_with fail;refine qac kr kr pq ?_
    simp only [zdy,zey,ldz,lds,bare,qak,lcz,lcs,zay]
    repeat' ((try simp only [Act.put,lsi,lsz,lss]);first|(refine lqx ?_)|(refine qab qaa rfl (fun K hK=> ?_);go_simp;((first|(go_at_call 133;refine(qx5 _ _ _ _ _ _ _).monoR ?_;rintro w1 hb1 hc1 hf1 hz1;(try simp at hz1))|skip)<;>(refine hK.out _ _ bel ?_;clear hK K))))
    (all_goals try simp only [Act.put,lsi,lsz,lss]);all_goals(refine qad ?_)
    go_wp2
    · go_ret
      exact⟨qae (qbg _ (fun j=>onS (pt l j) (nx l j) ⟨px,py⟩) k (by rw [hl.1];exact hlt) (by assumption)).symm,bel⟩
    · have hf:onS ⟨(pt l k).x,(pt l k).y⟩ ⟨(nx l k).x,(nx l k).y⟩ ⟨px,py⟩=false:=by first|assumption|(simpa using (by assumption:¬ onS ⟨(pt l k).x,(pt l k).y⟩ ⟨(nx l k).x,(nx l k).y⟩ ⟨px,py⟩=true))
      have HF:=hdQ hf;clear hf
      go_roundw
      case rel=>exact ⟨k+1,by omega,by go_num,fun j hj=>by
       by_cases e:j=k
       · subst e;exact HF.out
       · exact hno.out j oQ,blkA,bel⟩
      case measure=>simp [intOf];omega
  · have HF:Hid (qmr l ⟨px,py⟩=false):=qa9 _ _ fun j hj=>hno.out j (by rw [hl.1] at hj;omega)
    go_wp2;go_ret;exact⟨qae HF.out.symm,hb⟩
theorem q6w {A B C:Prop} [Decidable A] [Decidable B] [Decidable C] {p:Bool} (h:A/\B/\C):Value.bool (!p)=Value.bool (xor p (decide A&&decide B&&decide C)):=by
 rw [decide_eq_true h.1,decide_eq_true h.2.1,decide_eq_true h.2.2];simp
theorem q6x {A B C:Prop} [Decidable A] [Decidable B] [Decidable C] {p:Bool} (h:¬ (A/\B/\C)):Value.bool p=Value.bool (xor p (decide A&&decide B&&decide C)):=by
 have:(decide A&&decide B&&decide C)=false:=by
  cases hd:(decide A&&decide B&&decide C)
  · rfl
  · simp at hd;exact absurd ⟨hd.1.1,hd.1.2,hd.2⟩ h
 rw [this];simp
theorem qel (B n c:Nat) (px py:Int) (A:Option Addr) (l:List Pt) (w:World) (hl:qan w B A n l) (hB:B<=w.heap.size) (hn:n<=1000000):
 C9 54 #[.slice A n c,ptV px py] w (Ret w (.bool (qdv l ⟨px,py⟩))):=by
 cases he:qmr l ⟨px,py⟩
 case true=>
  have HG:Hid (qdv l ⟨px,py⟩=true):=by unfold Hid qdv;rw [he];rfl
  have HEB:=hdQ he;clear he
  go_enter Tryz.func54,Tryz.ntmps54
  go_wp2_with (go_at_call 86;refine(qpt B n c _ _ A l _ (hl.tr bel hB) (bsz w hB) hn).mono ?_;rw [HEB.out];rintro e w1 ⟨rfl,hb1⟩;obtain⟨hc1,hf1,hz1⟩:=bc3 hb1;(try simp at hz1);have hy0:=ol1 w w1)
  go_ret;exact⟨qae HG.out.symm,bel⟩
 case false=>
  have HG:Hid (qdv l ⟨px,py⟩=qcj l ⟨px,py⟩ l.length):=by unfold Hid qdv;rw [he];rfl
  have HEB:=hdQ he;clear he
  go_enter Tryz.func54,Tryz.ntmps54
  go_wp2_with (go_at_call 86;refine(qpt B n c _ _ A l _ (hl.tr bel hB) (bsz w hB) hn).mono ?_;rw [HEB.out];rintro e w1 ⟨rfl,hb1⟩;obtain⟨hc1,hf1,hz1⟩:=bc3 hb1;(try simp at hz1);have hy0:=ol1 w w1)
  have hP0:Blk w1 w.heap.size 24 #[.int .i64 px,.int .i64 py]:=blkA;have hb0:Below w.heap.size w w1:=bel
  go_loopw [5,6,7,8] (fun s i _ _ wr=>∃k:Nat,k<=n/\i=.int .i64 k/\s=.bool (qcj l ⟨px,py⟩ k)/\Blk wr w.heap.size 24 #[.int .i64 px,.int .i64 py]/\Below w.heap.size w wr) (fun _ i _ _ _=>n-(intOf i).toNat)
  case atStart=>exact ⟨0,zly _,rfl,rfl,hP0,hb0⟩
  case round=>
   obtain⟨k,hk,rfl,rfl,hP,hb⟩:=hrel
   by_cases hlt:k<n
   · obtain⟨b,off,rfl,hab,c0,c1⟩:=(hl.below (hb.mono hB)).at_ hlt
     obtain⟨c2,c3⟩:=qkb (hl.below (hb.mono hB)) hlt;have hPl:=hP.lt;have hPc:=hP.cell;have hbs:=hb.size;have hbw:b<wr.heap.size:=oQ
     have hbw1:b<wr.heap.size+1:=oQ
     have hk0:(k:Int)<(n:Int):=oQ
     have hk3:(0:Int)<=(k:Int)+1:=oQ
     obtain⟨m,hm,hwr,htm,hml⟩:=qet hlt hn;rw [hm] at c2 c3;clear hm hb0 hP0 hb1 hc1 hf1 hz1;have hn0:¬ n=0:=oQ
     have hml0:(m:Int)<(n:Int):=oQ
     have HX:Hid (qcj l ⟨px,py⟩ (k+1)=xor (qcj l ⟨px,py⟩ k) (qbo ⟨(pt l k).x,(pt l k).y⟩ ⟨(nx l k).x,(nx l k).y⟩ ⟨px,py⟩)):=rfl
     by_cases hsw:(nx l k).y<(pt l k).y
     all_goals
      go_wp2_with (go_at_call 87;refine(qcx _ _ _ _ _ _ _).monoR ?_;rintro w1 hb1 hc1 hf1 hz1;(try simp at hz1);have hyr:wr.heap.size<w1.heap.size:=oQ;have hyr1:wr.heap.size+1<w1.heap.size:=oQ;have hyr0:w.heap.size<w1.heap.size:=oQ)
      all_goals
       go_roundw
       case rel=>exact ⟨k+1,by omega,by go_num,by rw [HX.out,qbo];(first|rw [if_pos (by simpa using hsw)]|rw [if_neg (by simp only [Int.not_lt];simpa using hsw)]);(first|exact q6w ⟨by(try dsimp only);omega,by(try dsimp only);omega,by(try dsimp only);omega⟩|exact q6x (by(try dsimp only);omega)),blkA,bel⟩
       case measure=>simp [intOf];omega
   · have HL:Hid (k=n):=by unfold Hid;omega
     have HR:Hid (qdv l ⟨px,py⟩=qcj l ⟨px,py⟩ k):=by unfold Hid;rw [HG.out,HL.out,hl.1]
     go_wp2;go_ret;exact⟨qae HR.out.symm,hb⟩
def crn (r:Bx):List Pt:= [r.lo,⟨r.hi.x,r.lo.y⟩,r.hi,⟨r.lo.x,r.hi.y⟩]
theorem qy8 (a b:Pt) (r:Bx):qgr a b r=((okPt a&&okPt b&&okBx r)&&((bhas r a||bhas r b)||(List.range 4).any fun i=>qbf a b (pt (crn r) i) (nx (crn r) i))):=by
 have e:(List.range 4).any (fun i=>qbf a b (pt (crn r) i) (nx (crn r) i))=(qbf a b r.lo ⟨r.hi.x,r.lo.y⟩||(qbf a b ⟨r.hi.x,r.lo.y⟩ r.hi||(qbf a b r.hi ⟨r.lo.x,r.hi.y⟩||(qbf a b ⟨r.lo.x,r.hi.y⟩ r.lo||false)))):=by
  rw [show List.range 4= [0,1,2,3] by decide]
  simp only [List.any_cons,List.any_nil]
  simp [crn,pt,nx]
 rw [e,qgr]
 cases okPt a<;>cases okPt b<;>cases okBx r<;>simp [Bool.or_assoc]
theorem q3y {w:World} {g:Nat} {r:Bx} {t:TypeId} (h:Blk w g t #[.int .i64 r.lo.x,.int .i64 r.lo.y,.int .i64 r.hi.x,.int .i64 r.lo.y,.int .i64 r.hi.x,.int .i64 r.hi.y,.int .i64 r.lo.x,.int .i64 r.hi.y]):qan w w.heap.size (some ⟨g,0,none⟩) 4 (crn r):=
 ⟨rfl,fun _=>⟨g,0,rfl,h.lt,fun k s hs=>by
  match k,hs with
  | 0,hs=>
    simp [crn] at hs
    subst hs;exact⟨by rw [h.cell];rfl,by rw [h.cell];rfl⟩
  | 1,hs=>
    simp [crn] at hs
    subst hs;exact⟨by rw [h.cell];rfl,by rw [h.cell];rfl⟩
  | 2,hs=>
    simp [crn] at hs
    subst hs;exact⟨by rw [h.cell];rfl,by rw [h.cell];rfl⟩
  | 3,hs=>
    simp [crn] at hs
    subst hs
    exact⟨by rw [h.cell];rfl,by rw [h.cell];rfl⟩⟩⟩
theorem qpu (r:Bx) (w:World):
 C9 140 #[bxV r.lo.x r.lo.y r.hi.x r.hi.y] w fun e w' =>∃g,e=.returned (.slice (some ⟨g,0,none⟩) 4 4)/\Blk w' g 24 #[.int .i64 r.lo.x,.int .i64 r.lo.y,.int .i64 r.hi.x,.int .i64 r.lo.y,.int .i64 r.hi.x,.int .i64 r.hi.y,.int .i64 r.lo.x,.int .i64 r.hi.y]/\Below w.heap.size w w' :=by
 go_enter Tryz.func140,Tryz.ntmps140
 go_wp2;go_ret;exact⟨_,rfl,blkA,bel⟩
theorem q6m {f:Nat->Bool} (h:∀j,j<4->f j=false):(List.range 4).any f=false:=qa9 4 f h
theorem qn4 (ax ay bx by_:Int) (r:Bx) (w:World):
 C9 97 #[ptV ax ay,ptV bx by_,bxV r.lo.x r.lo.y r.hi.x r.hi.y] w (Ret w (.bool (qgr ⟨ax,ay⟩ ⟨bx,by_⟩ r))):=by
 have HF:=hdQ (qy8 ⟨ax,ay⟩ ⟨bx,by_⟩ r)
 cases h1:okPt ⟨ax,ay⟩
 · have HG:Hid (qgr ⟨ax,ay⟩ ⟨bx,by_⟩ r=false):=by unfold Hid;rw [HF.out,h1];rfl
   have H1:=hdQ h1;clear h1
   go_enter Tryz.func97,Tryz.ntmps97
   go_wp2_with (go_at_call 6;refine(qah _ _ _).mono ?_;rw [H1.out];rintro e w1 ⟨rfl,hb1⟩;obtain⟨hc1,hf1,hz1⟩:=bc3 hb1;(try simp at hz1);obtain⟨hy0,hy1,hy2⟩:=ol3 w w1)
   go_ret;exact⟨qae HG.out.symm,bel⟩
 cases h2:okPt ⟨bx,by_⟩
 · have HG:Hid (qgr ⟨ax,ay⟩ ⟨bx,by_⟩ r=false):=by unfold Hid;rw [HF.out,h1,h2];rfl
   have H1:=hdQ h1;have H2:=hdQ h2;clear h1 h2
   go_enter Tryz.func97,Tryz.ntmps97
   go_wp2_with (go_at_call 6;refine(qah _ _ _).mono ?_;(first|rw [H1.out]|rw [H2.out]);rintro e w1 ⟨rfl,hb1⟩;obtain⟨hc1,hf1,hz1⟩:=bc3 hb1;(try simp at hz1);obtain⟨hy0,hy1,hy2⟩:=ol3 w w1)
   go_ret;exact⟨qae HG.out.symm,bel⟩
 obtain⟨m,hm⟩:∃m:Nat,qa5 ⟨⟨r.lo.x,r.lo.y⟩,⟨r.hi.x,r.hi.y⟩⟩=m:=⟨_,rfl⟩;have HM:=hdQ hm
 by_cases hz:m=0
 case neg=>
  have hz1:((m:Int) !=0)=true:=by rw [bne_iff_ne];omega
  have HG:Hid (qgr ⟨ax,ay⟩ ⟨bx,by_⟩ r=false):=by
   have:okBx r=false:=by rw [<-Bool.not_eq_true,qei];intro h;exact hz (hm.symm.trans h)
   unfold Hid;rw [HF.out,h1,h2,this];rfl
  have H1:=hdQ h1;have H2:=hdQ h2;clear h1 h2 hm hz
  go_enter Tryz.func97,Tryz.ntmps97
  go_wp2_with (first|(go_at_call 6;refine(qah _ _ _).mono ?_;(first|rw [H1.out]|rw [H2.out]);rintro e w1 ⟨rfl,hb1⟩;obtain⟨hc1,hf1,hz1⟩:=bc3 hb1;(try simp at hz1);obtain⟨hy0,hy1,hy2⟩:=ol3 w w1)|(go_at_call 83;refine(qay _ _ _ _ _).mono ?_;rw [HM.out];rintro e w1 ⟨rfl,hb1⟩;obtain⟨hc1,hf1,hz1⟩:=bc3 hb1;(try simp at hz1);obtain⟨hy0,hy1,hy2⟩:=ol3 w w1))
  go_ret;exact⟨qae HG.out.symm,bel⟩
 subst hz;have hok:okBx r=true:=qei.2 hm;have HG:Hid (qgr ⟨ax,ay⟩ ⟨bx,by_⟩ r=((bhas ⟨⟨r.lo.x,r.lo.y⟩,⟨r.hi.x,r.hi.y⟩⟩ ⟨ax,ay⟩||bhas ⟨⟨r.lo.x,r.lo.y⟩,⟨r.hi.x,r.hi.y⟩⟩ ⟨bx,by_⟩)||(List.range 4).any fun i=>qbf ⟨ax,ay⟩ ⟨bx,by_⟩ (pt (crn r) i) (nx (crn r) i))):=by unfold Hid;rw [HF.out,h1,h2,hok];rfl
 have H1:=hdQ h1;have H2:=hdQ h2;clear h1 h2 hm hok HF
 cases b1:bhas ⟨⟨r.lo.x,r.lo.y⟩,⟨r.hi.x,r.hi.y⟩⟩ ⟨ax,ay⟩
 case true=>
  have B1:=hdQ b1;clear b1
  go_enter Tryz.func97,Tryz.ntmps97
  go_wp2_with (first|(go_at_call 6;refine(qah _ _ _).mono ?_;(first|rw [H1.out]|rw [H2.out]);rintro e w1 ⟨rfl,hb1⟩;obtain⟨hc1,hf1,hz1⟩:=bc3 hb1;(try simp at hz1);obtain⟨hy0,hy1,hy2⟩:=ol3 w w1)|(go_at_call 83;refine(qay _ _ _ _ _).mono ?_;rw [HM.out];rintro e w1 ⟨rfl,hb1⟩;obtain⟨hc1,hf1,hz1⟩:=bc3 hb1;(try simp at hz1);obtain⟨hy0,hy1,hy2⟩:=ol3 w w1)|(go_at_call 95;refine(qea _ _ _ _ _ _ _).mono ?_;rw [B1.out];rintro e w1 ⟨rfl,hb1⟩;obtain⟨hc1,hf1,hz1⟩:=bc3 hb1;(try simp at hz1);obtain⟨hy0,hy1,hy2⟩:=ol3 w w1))
  go_ret;exact⟨qae (by rw [HG.out,B1.out];rfl),bel⟩
 cases b2:bhas ⟨⟨r.lo.x,r.lo.y⟩,⟨r.hi.x,r.hi.y⟩⟩ ⟨bx,by_⟩
 case true=>
  have B1:=hdQ b1;have B2:=hdQ b2;clear b1 b2
  go_enter Tryz.func97,Tryz.ntmps97
  go_wp2_with (first|(go_at_call 6;refine(qah _ _ _).mono ?_;(first|rw [H1.out]|rw [H2.out]);rintro e w1 ⟨rfl,hb1⟩;obtain⟨hc1,hf1,hz1⟩:=bc3 hb1;(try simp at hz1);obtain⟨hy0,hy1,hy2⟩:=ol3 w w1)|(go_at_call 83;refine(qay _ _ _ _ _).mono ?_;rw [HM.out];rintro e w1 ⟨rfl,hb1⟩;obtain⟨hc1,hf1,hz1⟩:=bc3 hb1;(try simp at hz1);obtain⟨hy0,hy1,hy2⟩:=ol3 w w1)|(go_at_call 95;refine(qea _ _ _ _ _ _ _).mono ?_;(first|rw [B1.out]|rw [B2.out]);rintro e w1 ⟨rfl,hb1⟩;obtain⟨hc1,hf1,hz1⟩:=bc3 hb1;(try simp at hz1);obtain⟨hy0,hy1,hy2⟩:=ol3 w w1))
  go_ret;exact⟨qae (by rw [HG.out,B1.out,B2.out];rfl),bel⟩
 have HG2:Hid (qgr ⟨ax,ay⟩ ⟨bx,by_⟩ r=(List.range 4).any fun i=>qbf ⟨ax,ay⟩ ⟨bx,by_⟩ (pt (crn r) i) (nx (crn r) i)):=by unfold Hid;rw [HG.out,b1,b2];rfl
 have B1:=hdQ b1;have B2:=hdQ b2;clear b1 b2 HG
 go_enter Tryz.func97,Tryz.ntmps97
 go_wp2_with (first|(go_at_call 6;refine(qah _ _ _).mono ?_;(first|rw [H1.out]|rw [H2.out]);rintro e w1 ⟨rfl,hb1⟩;obtain⟨hc1,hf1,hz1⟩:=bc3 hb1;(try simp at hz1);obtain⟨hy0,hy1,hy2⟩:=ol3 w w1)|(go_at_call 83;refine(qay _ _ _ _ _).mono ?_;rw [HM.out];rintro e w1 ⟨rfl,hb1⟩;obtain⟨hc1,hf1,hz1⟩:=bc3 hb1;(try simp at hz1);obtain⟨hy0,hy1,hy2⟩:=ol3 w w1)|(go_at_call 95;refine(qea _ _ _ _ _ _ _).mono ?_;(first|rw [B1.out]|rw [B2.out]);rintro e w1 ⟨rfl,hb1⟩;obtain⟨hc1,hf1,hz1⟩:=bc3 hb1;(try simp at hz1);obtain⟨hy0,hy1,hy2⟩:=ol3 w w1)|(go_at_call 140;refine(qpu r _).mono ?_;rintro e wc ⟨g,rfl,hC,hbc⟩;obtain⟨hcc,hfc,hzc⟩:=bc3 hbc;(try simp at hzc)))
 have hA0:Blk wc w.heap.size 24 #[.int .i64 ax,.int .i64 ay]:=blkA;have hB0:Blk wc (w.heap.size+1) 24 #[.int .i64 bx,.int .i64 by_]:=blkA;have hb0:Below w.heap.size w wc:=bel;have hPC:=q3y hC;obtain⟨L,hL⟩:∃L,crn r=L:=⟨_,rfl⟩;rw [hL] at hPC HG2;have HC:=hdQ hPC;clear hL hPC;have HBw:=hdQ hb0;clear hC hbc hcc hfc hzc hb1 hc1 hf1 hz1 hy0 hy1 hy2
 go_loopw [8] (fun i wr=>∃k:Nat,k<=4/\i=.int .i64 k/\Hid (∀j,j<k->qbf ⟨ax,ay⟩ ⟨bx,by_⟩ (pt L j) (nx L j)=false)/\Blk wr w.heap.size 24 #[.int .i64 ax,.int .i64 ay]/\Blk wr (w.heap.size+1) 24 #[.int .i64 bx,.int .i64 by_]/\Below wc.heap.size wc wr) (fun i _=>4-(intOf i).toNat)
 case atStart=>exact ⟨0,by omega,rfl,fun j hj=>by omega,hA0,hB0,Below.refl _ _⟩
 case round=>
  obtain⟨k,hk,rfl,hno,hA,hB,hb⟩:=hrel;have hbw0:Below w.heap.size w wr:=HBw.out.trans (hb.mono HBw.out.size)
  by_cases hlt:k<4
  · have HL:=HC.out.below hb
    obtain⟨b,off,ho,hab,c0,c1⟩:=HL.at_ hlt;injection ho with ho
    injection ho with ho1 ho2
    subst ho1 ho2;obtain⟨c2,c3⟩:=qkb HL hlt;have hbs:=hb.size;have cA:=hA.cell;have cB:=hB.cell;have lA:=hA.lt;have lB:=hB.lt;have hgw:g<wr.heap.size:=oQ
    have hk0:(k:Int)<4:=oQ
    have hk3:(0:Int)<=(k:Int)+1:=oQ
    obtain⟨m,hm,hwr,htm,hml⟩:=qet hlt oQ
    rw [hm] at c2 c3;have htm' :((k:Int)+1).tmod 4=(m:Int):=htm;clear hm htm HL hA0 hB0 hb0;have hml0:(m:Int)<4:=oQ
    simp only [Nat.zero_add] at c0 c1 c2 c3;go_wp2_with fail;refine qac kr kr pq ?_
    simp only [zdy,zey,ldz,lds,bare,qak,lcz,lcs,zay]
    repeat' ((try simp only [Act.put,lsi,lsz,lss]);first|(refine lqx ?_)|(refine qab qaa rfl (fun K hK=> ?_);go_simp;((first|(go_at_call 96;refine(qiu _ _ _ _ _ _ _ _ _).monoR ?_;rintro w1 hb1 hc1 hf1 hz1;(try simp at hz1))|skip)<;>(refine hK.out _ _ bel ?_;clear hK K))))
    (all_goals try simp only [Act.put,lsi,lsz,lss]);all_goals(refine qad ?_)
    go_wp2
    · go_ret
      exact⟨qae (by rw [HG2.out,qbg 4 (fun j=>qbf ⟨ax,ay⟩ ⟨bx,by_⟩ (pt L j) (nx L j)) k hlt (by assumption)]),bel⟩
    · have hf:qbf ⟨ax,ay⟩ ⟨bx,by_⟩ ⟨(pt L k).x,(pt L k).y⟩ ⟨(nx L k).x,(nx L k).y⟩=false:=by first|assumption|(simpa using (by assumption:¬ qbf ⟨ax,ay⟩ ⟨bx,by_⟩ ⟨(pt L k).x,(pt L k).y⟩ ⟨(nx L k).x,(nx L k).y⟩=true))
      have HN:=hdQ hf;clear hf
      go_roundw
      case rel=>exact ⟨k+1,by omega,by go_num,fun j hj=>by
       by_cases e:j=k
       · subst e;exact HN.out
       · exact hno.out j oQ,blkA,blkA,Below.trans hb (Below.mono bel hbs)⟩
      case measure=>simp [intOf];omega
  · have HR:Hid (qgr ⟨ax,ay⟩ ⟨bx,by_⟩ r=false):=by unfold Hid;rw [HG2.out];exact q6m fun j hj=>hno.out j oQ
    clear hA0 hB0 hb0;have hk4:¬ (k:Int)<4:=oQ
    go_wp2;go_ret;exact⟨qae HR.out.symm,bel⟩
theorem q5k {l:List Pt} {b:Bx} {k:Nat} (hk:k<l.length) (h:qgr (pt l k) (nx l k) b=true):qdj l b=true:=by
 unfold qdj
 rw [qbg _ (fun i=>qgr (pt l i) (nx l i) b) k hk h,Bool.or_true]
theorem qj1 (B n c:Nat) (r:Bx) (A:Option Addr) (l:List Pt) (w:World) (hl:qan w B A n l) (hB:B<=w.heap.size) (hn:n<=1000000):
 C9 61 #[.slice A n c,bxV r.lo.x r.lo.y r.hi.x r.hi.y] w (Ret w (.bool (qdj l r))):=by
 cases h0:qdv l ⟨r.lo.x,r.lo.y⟩
 case true=>
  have HG:Hid (qdj l r=true):=by
   have h1:qdv l r.lo=true:=h0;unfold Hid qdj
   rw [h1,Bool.true_or]
  have H0:=hdQ h0;clear h0
  go_enter Tryz.func61,Tryz.ntmps61
  go_wp2_with (go_at_call 54;refine(qel B n c _ _ A l _ (hl.tr bel hB) (bsz w hB) hn).mono ?_;rw [H0.out];rintro e w1 ⟨rfl,hb1⟩;obtain⟨hc1,hf1,hz1⟩:=bc3 hb1;(try simp at hz1);have hy0:=ol1 w w1)
  go_ret;exact⟨qae HG.out.symm,bel⟩
 case false=>
  have H0:=hdQ h0;clear h0
  go_enter Tryz.func61,Tryz.ntmps61
  go_wp2_with (go_at_call 54;refine(qel B n c _ _ A l _ (hl.tr bel hB) (bsz w hB) hn).mono ?_;rw [H0.out];rintro e wc ⟨rfl,hbc⟩;obtain⟨hcc,hfc,hzc⟩:=bc3 hbc;(try simp at hzc);have hyc:=ol1 w wc)
  have hP0:Blk wc w.heap.size 46 #[.int .i64 r.lo.x,.int .i64 r.lo.y,.int .i64 r.hi.x,.int .i64 r.hi.y]:=blkA;have hb0:Below w.heap.size w wc:=bel
  go_loopw [5] (fun i wr=>∃k:Nat,k<=n/\i=.int .i64 k/\Hid (∀j,j<k->qgr (pt l j) (nx l j) r=false)/\Blk wr w.heap.size 46 #[.int .i64 r.lo.x,.int .i64 r.lo.y,.int .i64 r.hi.x,.int .i64 r.hi.y]/\Below w.heap.size w wr) (fun i _=>n-(intOf i).toNat)
  case atStart=>exact ⟨0,zly _,rfl,fun j hj=>by omega,hP0,hb0⟩
  case round=>
   obtain⟨k,hk,rfl,hno,hP,hb⟩:=hrel;clear hP0 hb0 hbc hcc hfc hzc hyc
   by_cases hlt:k<n
   · obtain⟨b,off,rfl,hab,c0,c1⟩:=(hl.below (hb.mono hB)).at_ hlt
     obtain⟨c2,c3⟩:=qkb (hl.below (hb.mono hB)) hlt;have hPl:=hP.lt;have hPc:=hP.cell;have hbs:=hb.size;have hbw:b<wr.heap.size:=oQ
     have hk0:(k:Int)<(n:Int):=oQ
     have hk3:(0:Int)<=(k:Int)+1:=oQ
     obtain⟨m,hm,hwr,htm,hml⟩:=qet hlt hn;rw [hm] at c2 c3;clear hm;have hn0:¬ n=0:=oQ
     have hml0:(m:Int)<(n:Int):=oQ
     go_wp2_with fail;refine qac kr kr pq ?_
     simp only [zdy,zey,ldz,lds,bare,qak,lcz,lcs,zay]
     repeat' ((try simp only [Act.put,lsi,lsz,lss]);first|(refine lqx ?_)|(refine qab qaa rfl (fun K hK=> ?_);go_simp;((first|(go_at_call 97;refine(qn4 _ _ _ _ r _).monoR ?_;rintro w1 hb1 hc1 hf1 hz1;(try simp at hz1))|skip)<;>(refine hK.out _ _ bel ?_;clear hK K))))
     (all_goals try simp only [Act.put,lsi,lsz,lss]);all_goals(refine qad ?_)
     go_wp2
     · go_ret
       exact⟨qae (q5k (by rw [hl.1];exact hlt) (by assumption)).symm,bel⟩
     · have hf:qgr ⟨(pt l k).x,(pt l k).y⟩ ⟨(nx l k).x,(nx l k).y⟩ r=false:=by first|assumption|(simpa using (by assumption:¬ qgr ⟨(pt l k).x,(pt l k).y⟩ ⟨(nx l k).x,(nx l k).y⟩ r=true))
       have HF:=hdQ hf;clear hf
       go_roundw
       case rel=>exact ⟨k+1,by omega,by go_num,fun j hj=>by
        by_cases e:j=k
        · subst e;exact HF.out
        · exact hno.out j oQ,blkA,bel⟩
       case measure=>simp [intOf];omega
   · have HF:Hid (qdj l r=false):=by
      have h1:qdv l r.lo=false:=H0.out;unfold Hid qdj
      rw [h1,qa9 _ _ fun j hj=>hno.out j (by rw [hl.1] at hj;omega)]
      rfl
     go_wp2;go_ret;exact⟨qae HF.out.symm,hb⟩
theorem qsz {a b:List Pt} {i k:Nat} (hi:i<a.length) (hk:k<b.length) (h:qbf (pt a i) (nx a i) (pt b k) (nx b k)=true):qd0 a b=true:=
 qbg _ _ i hi (qbg _ _ k hk h)
theorem qs0 {a b:List Pt} (h:∀i,i<a.length->∀k,k<b.length->qbf (pt a i) (nx a i) (pt b k) (nx b k)=false):qd0 a b=false:=
 qa9 _ _ fun i hi=>qa9 _ _ fun k hk=>h i hi k hk
theorem qvn (B n c n' c' :Nat) (A A' :Option Addr) (l l' :List Pt) (w:World) (hl:qan w B A n l) (hl' :qan w B A' n' l') (hB:B<=w.heap.size) (hn:n<=1000000) (hn' :n' <=1000000) (h1:1<=n) (h1' :1<=n'):
 C9 60 #[.slice A n c,.slice A' n' c'] w (Ret w (.bool (qg3 l l'))):=by
 obtain⟨b,off,rfl,hab,c0,c1⟩:=hl.at_ (k:=0) oQ
 obtain⟨b',off',rfl,hab',d0,d1⟩:=hl'.at_ (k:=0) oQ
 simp only [Nat.zero_mul,Nat.add_zero] at c0 c1 d0 d1;have hbw:b<w.heap.size:=oQ
 have hbw' :b' <w.heap.size:=oQ
 have hn1:0<n:=oQ
 have hn1' :0<n' :=oQ
 cases e1:qdv l ⟨(pt l' 0).x,(pt l' 0).y⟩
 case true=>
  have HG:Hid (qg3 l l' =true):=by
   have h1:qdv l (pt l' 0)=true:=e1;unfold Hid qg3
   rw [h1,Bool.true_or,Bool.true_or]
  have E1:=hdQ e1;clear e1
  go_enter Tryz.func60,Tryz.ntmps60
  go_wp2_with (go_at_call 54;refine(qel B n c _ _ _ l _ (hl.tr bel hB) (bsz w hB) hn).mono ?_;rw [E1.out];rintro e w1 ⟨rfl,hb1⟩;obtain⟨hc1,hf1,hz1⟩:=bc3 hb1;(try simp at hz1))
  go_ret;exact⟨qae HG.out.symm,bel⟩
 cases e2:qdv l' ⟨(pt l 0).x,(pt l 0).y⟩
 case true=>
  have HG:Hid (qg3 l l' =true):=by
   have h1:qdv l' (pt l 0)=true:=e2;unfold Hid qg3
   rw [h1,Bool.or_true,Bool.true_or]
  have E1:=hdQ e1;have E2:=hdQ e2;clear e1 e2
  go_enter Tryz.func60,Tryz.ntmps60
  go_wp2_with (first|(go_at_call 54;have _hz:=hza;refine(qel B n' c' _ _ _ l' _ (hl'.tr bel hB) (bsz w hB) hn').mono ?_;rw [E2.out];rintro e w1 ⟨rfl,hb1⟩;obtain⟨hc1,hf1,hz1⟩:=bc3 hb1;(try simp at hz1))|(go_at_call 54;refine(qel B n c _ _ _ l _ (hl.tr bel hB) (bsz w hB) hn).mono ?_;rw [E1.out];rintro e wa ⟨rfl,hba⟩;obtain⟨hca,hfa,hza⟩:=bc3 hba;(try simp at hza);have hbx:b<wa.heap.size:=oQ))
  go_ret;exact⟨qae HG.out.symm,bel⟩
 have HF:Hid (qg3 l l' =qd0 l l'):=by
  have h1:qdv l (pt l' 0)=false:=e1;have h2:qdv l' (pt l 0)=false:=e2;unfold Hid qg3
  rw [h1,h2]
  rfl
 have E1:=hdQ e1;have E2:=hdQ e2;clear e1 e2
 go_enter Tryz.func60,Tryz.ntmps60
 go_wp2_with (first|(go_at_call 54;have _hz:=hza;refine(qel B n' c' _ _ _ l' _ (hl'.tr bel hB) (bsz w hB) hn').mono ?_;rw [E2.out];rintro e wc ⟨rfl,hbc⟩;obtain⟨hcc,hfc,hzc⟩:=bc3 hbc;(try simp at hzc))|(go_at_call 54;refine(qel B n c _ _ _ l _ (hl.tr bel hB) (bsz w hB) hn).mono ?_;rw [E1.out];rintro e wa ⟨rfl,hba⟩;obtain⟨hca,hfa,hza⟩:=bc3 hba;(try simp at hza);have hbx:b<wa.heap.size:=oQ))
 have hb0:Below w.heap.size w wc:=bel;clear c0 c1 d0 d1 hba hca hfa hza hbx hbc hcc hfc hzc
 go_loopw [5,6] (fun i _ wr=>∃k:Nat,k<=n/\i=.int .i64 k/\Hid (∀j,j<k->∀p,p<n' ->qbf (pt l j) (nx l j) (pt l' p) (nx l' p)=false)/\Below w.heap.size w wr) (fun i _ _=>n-(intOf i).toNat)
 case atStart=>exact ⟨0,zly _,rfl,fun j hj=>by omega,hb0⟩
 case round=>
  obtain⟨k,hk,rfl,hno,hb⟩:=hrel;clear hb0
  by_cases hlt:k<n
  · obtain⟨wo,hwo⟩:∃wo:World,wo=wr:=⟨_,rfl⟩
    subst hwo;go_wp2
    go_loopw [6] (fun i wr=>∃q:Nat,q<=n' /\i=.int .i64 q/\Hid (∀p,p<q->qbf (pt l k) (nx l k) (pt l' p) (nx l' p)=false)/\Below w.heap.size w wr) (fun i _=>n' - (intOf i).toNat)
    case atStart=>exact ⟨0,zly _,rfl,fun j hj=>by omega,hb⟩
    case round=>
     obtain⟨q,hq,rfl,hnq,hb3⟩:=hrel
     by_cases hqt:q<n'
     · obtain⟨_,_,ho,_,c0,c1⟩:=(hl.below (hb3.mono hB)).at_ hlt
       injection ho with ho
       injection ho with ho1 ho2
       subst ho1 ho2;obtain⟨_,_,ho,_,d0,d1⟩:=(hl'.below (hb3.mono hB)).at_ hqt;injection ho with ho
       injection ho with ho1 ho2
       subst ho1 ho2;obtain⟨c2,c3⟩:=qkb (hl.below (hb3.mono hB)) hlt;obtain⟨d2,d3⟩:=qkb (hl'.below (hb3.mono hB)) hqt;have hbs3:=hb3.size;have hbw0:b<wr.heap.size:=oQ
       have hbw2:b' <wr.heap.size:=oQ
       have hk0:(k:Int)<(n:Int):=oQ
       have hq0:(q:Int)<(n' :Int):=oQ
       have hk3:(0:Int)<=(k:Int)+1:=oQ
       have hq3:(0:Int)<=(q:Int)+1:=oQ
       obtain⟨m,hm,hwr,htm,hml⟩:=qet hlt hn;rw [hm] at c2 c3;clear hm;obtain⟨m',hm',hwr',htm',hml'⟩:=qet hqt hn';rw [hm'] at d2 d3;clear hm';have hn0:¬ n=0:=oQ
       have hn0' :¬ n' =0:=oQ
       have hml0:(m:Int)<(n:Int):=oQ
       have hml0' :(m' :Int)<(n' :Int):=oQ
       go_wp2_with fail;refine qac kr kr pq ?_
       simp only [zdy,zey,ldz,lds,bare,qak,lcz,lcs,zay]
       repeat' ((try simp only [Act.put,lsi,lsz,lss]);first|(refine lqx ?_)|(refine qab qaa rfl (fun K hK=> ?_);go_simp;((first|(go_at_call 96;refine(qiu _ _ _ _ _ _ _ _ _).monoR ?_;rintro w1 hb1 hc1 hf1 hz1;(try simp at hz1))|skip)<;>(refine hK.out _ _ bel ?_;clear hK K))))
       (all_goals try simp only [Act.put,lsi,lsz,lss]);all_goals(refine qad ?_)
       go_wp2
       · go_ret
         exact⟨qae (by rw [HF.out,qsz (i:=k) (k:=q) (by rw [hl.1];exact hlt) (by rw [hl'.1];exact hqt) (by assumption)]),bel⟩
       · have hf:qbf ⟨(pt l k).x,(pt l k).y⟩ ⟨(nx l k).x,(nx l k).y⟩ ⟨(pt l' q).x,(pt l' q).y⟩ ⟨(nx l' q).x,(nx l' q).y⟩=false:=by first|assumption|(simpa using (by assumption:¬ qbf ⟨(pt l k).x,(pt l k).y⟩ ⟨(nx l k).x,(nx l k).y⟩ ⟨(pt l' q).x,(pt l' q).y⟩ ⟨(nx l' q).x,(nx l' q).y⟩=true))
         have HN:=hdQ hf;clear hf
         go_roundw
         case rel=>exact ⟨q+1,by omega,by go_num,fun j hj=>by
          by_cases e:j=q
          · subst e;exact HN.out
          · exact hnq.out j oQ,bel⟩
         case measure=>simp [intOf];omega
     · go_wp2
       go_roundw
       case rel=>exact ⟨k+1,by omega,by go_num,fun j hj p hp=>by
        by_cases e:j=k
        · subst e;exact hnq.out p oQ
        · exact hno.out j oQ p hp,bel⟩
       case measure=>simp [intOf];omega
  · have HR:Hid (qg3 l l' =false):=by
     unfold Hid
     rw [HF.out]
     exact qs0 fun i hi p hp=>hno.out i (by rw [hl.1] at hi;omega) p (by rw [<-hl'.1];exact hp)
    go_wp2;go_ret;exact⟨qae HR.out.symm,bel⟩
end Go.Proofs.YtildgbhliaonnaaGreat
