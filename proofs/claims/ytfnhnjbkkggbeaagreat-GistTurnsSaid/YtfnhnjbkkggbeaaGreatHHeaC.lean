/-heap-/
import Derived.Test.YtfnhnjbkkggbeaaGreatHGisB
import Derived.Test.YtfnhnjbkkggbeaaGreatHSplR
set_option linter.unusedVariables false
set_option linter.unusedSimpArgs false
set_option maxHeartbeats 8000000
set_option maxRecDepth 20000
namespace Pg
open Go Go.RowKit
section
variable {α:Type} {f:α->List Value} {s:Nat}
theorem q3g (hf:∀a,(f a).length=s) (l:List α):(l.flatMap f).length=l.length*s:=by
 induction l with
 | nil=>simp
 | cons a r ih=>rw [zvy,zny,ih,hf,zax,Nat.succ_mul];omega
theorem qqq (hf:∀a,(f a).length=s) (l:List α) (k:Nat):(l.flatMap f).drop (k*s)=(l.drop k).flatMap f:=by
 induction l generalizing k with
 | nil=>simp
 | cons a r ih=>
   cases k with
   | zero=>simp
   | succ k=>
     rw [List.drop_succ_cons,zvy,<-ih,show (k+1)*s=s+k*s by rw [Nat.succ_mul];omega,<-List.drop_drop]
     congr 1
     rw [List.drop_append_of_le_length (by rw [hf];omega),List.drop_eq_nil_of_le (by rw [hf];omega),List.nil_append]
theorem qg5 (hf:∀a,(f a).length=s) (l:List α) (k:Nat):(l.flatMap f).take (k*s)=(l.take k).flatMap f:=by
 induction l generalizing k with
 | nil=>simp
 | cons a r ih=>
   cases k with
   | zero=>simp
   | succ k=>
     rw [List.take_succ_cons,zvy,zvy,<-ih,show (k+1)*s=(f a).length+k*s by rw [Nat.succ_mul,hf];omega,List.take_length_add_append]
theorem q5s (hf:∀a,(f a).length=s) {l:List α} {k:Nat} {x:α} (h:l[k]? =some x) {j:Nat} (hj:j<s):(l.flatMap f)[k*s+j]? =(f x)[j]? :=by
 have hk:k<l.length:=by
  rcases zry k l.length with q|q
  · exact q
  · rw [zoy q] at h;cases h
 rw [<-List.getElem?_drop,qqq hf,zgx hk]
 rw [zby hk] at h;injection h with h
 rw [h,zvy,zex (by rw [hf];exact hj)]
def setN (xs:List Value) (o:Nat):List Value->List Value
 | []=>xs
 | u::r=>setN (xs.set o u) (o+1) r
theorem qyb:∀(us xs:List Value) (o:Nat),o+us.length<=xs.length->setN xs o us=xs.take o++us++xs.drop (o+us.length)
 | [],xs,o,_=>by simp [setN]
 | u::r,xs,o,h=>by
   unfold setN
   rw [zax] at h ⊢
   rw [qyb r _ _ (by rw [zkx];omega)]
   rw [List.take_set,List.drop_set_of_lt oQ,zwy,zby (show o<xs.length by omega)]
   rw [List.set_append_right _ _ (by simp;omega)]
   simp
   have h1:o-min o xs.length=0:=oQ
   rw [h1]
   simp
   congr 1
   omega
theorem qz5 (hf:∀a,(f a).length=s) {l:List α} {k:Nat} (hk:k<l.length) (y:α):setN (l.flatMap f) (k*s) (f y)=(l.set k y).flatMap f:=by
 have h1:k*s+s<=l.length*s:=by rw [<-Nat.succ_mul];exact zuy _ hk
 rw [qyb _ _ _ (by rw [hf,q3g hf];exact h1),hf,qg5 hf,show k*s+s=(k+1)*s by rw [Nat.succ_mul],qqq hf,List.set_eq_take_append_cons_drop,if_pos hk]
 simp [List.flatMap_append,zvy]
end
end Pg
namespace Go.Proofs.YtfnhnjbkkggbeaaGreat
open Go Go.RowKit Pg
abbrev heV (e:HE):Value:=.agg #[.int .i64 e.id,.int .u64 ((e.d.num/18446744073709551616:Nat):Int),.int .u64 ((e.d.num%18446744073709551616:Nat):Int),.int .u64 (e.d.den:Int),.bool e.item,.int .i64 (e.node:Int)]
def qbp (x:Pu):List Value:= [.int .i64 x.1.id,.int .u64 ((x.1.d.num/18446744073709551616:Nat):Int),.int .u64 ((x.1.d.num%18446744073709551616:Nat):Int),.int .u64 (x.1.d.den:Int),.bool x.1.item,.int .i64 (x.1.node:Int),.int .i64 (x.2:Int)]
def qh5 (l:List Pu):List Value:=l.flatMap qbp
theorem qhf (x:Pu):(qbp x).length=7:=rfl
structure HeapAt (w:World) (F:Nat->Prop) (hb:Nat) (v:Value) (h:List Pu) (c:Nat):Prop where
 blk:Blk w hb 135 #[v,.int .i64 c]
 row:w.ownsRow 0 137 7 v h.length (qh5 h)
 oB:F hb
 oR:∀g,v.ownBlock=some g->F g
 lim:∀g,F g->g<w.heap.size
 ok:∀x∈h,FrOk x.1.d
theorem qt6 (e:HE) (w:World):C9 126 #[heV e] w (Ret w (.int .i64 (qiq e))):=by
 obtain⟨id,d,it,nd⟩:=e
 cases it
 · go_enter Tryz.func126,Tryz.ntmps126
   go_wp2;go_ret;exact⟨by simp [qiq],bel⟩
 · go_enter Tryz.func126,Tryz.ntmps126
   go_wp2;go_ret;exact⟨by simp [qiq],bel⟩
theorem qnd (e:HE) (w:World):C9 127 #[heV e] w (Ret w (.int .i64 (numH e))):=by
 obtain⟨id,d,it,nd⟩:=e
 cases it
 · go_enter Tryz.func127,Tryz.ntmps127
   go_wp2;go_ret;exact⟨by simp [numH],bel⟩
 · go_enter Tryz.func127,Tryz.ntmps127
   go_wp2;go_ret;exact⟨by simp [numH],bel⟩
theorem q49 (x y z:Int):or3 x y z=orI x (orI y z):=by unfold or3 orI;rfl
theorem q2h (g:Nat) (t:TypeId) (x y:Int) (w:World) (h:Blk w g t #[.int .i64 x,.int .i64 y]):
 C9 86 #[.slice (some ⟨g,0,none⟩) 2 2] w fun e w' =>e=.returned (.int .i64 (orI x y))/\w=w' :=by
 obtain⟨c0,c1⟩:=ce2 h
 by_cases hx:x=0
 · subst hx
   by_cases hy:y=0
   · subst hy
     go_enter Tryz.func86,Tryz.ntmps86
     go_wp2;refine wp_loop_rounds 3 ?_
     rw [rounds_succ]
     go_wp2
     rw [rounds_succ]
     go_wp2
     rw [rounds_succ]
     go_wp2;go_ret;exact⟨by simp [orI],rfl⟩
   · have hb:(y==0)=false:=by simpa using hy
     go_enter Tryz.func86,Tryz.ntmps86
     go_wp2;refine wp_loop_rounds 2 ?_
     rw [rounds_succ]
     go_wp2
     rw [rounds_succ]
     go_wp2;go_ret;exact⟨by simp [orI],rfl⟩
 · have hb:(x==0)=false:=by simpa using hx
   go_enter Tryz.func86,Tryz.ntmps86
   go_wp2;refine wp_loop_rounds 1 ?_
   rw [rounds_succ]
   go_wp2;go_ret;exact⟨by simp [orI,hx],rfl⟩
theorem qqy (a b:HE) (ha:FrOk a.d) (hb:FrOk b.d) (w:World):C9 87 #[heV a,heV b] w (Ret w (.int .i64 (cmpH a b))):=by
 have HR:=hdQ (fun W=>qoe a.d b.d ha hb W)
 have HRa:=hdQ (fun W=>qt6 a W)
 have HRb:=hdQ (fun W=>qt6 b W)
 have HNa:=hdQ (fun W=>qnd a W)
 have HNb:=hdQ (fun W=>qnd b W)
 have HV:Hid (or3 (cmpF a.d b.d) (sgn (qiq a-qiq b)) (sgn (numH a-numH b))=cmpH a b):=by unfold Hid;rw [q49];rfl
 obtain⟨aid,⟨an,ad⟩,ait,and⟩:=a;obtain⟨bid,⟨bn,bd⟩,bit,bnd⟩:=b
 simp only at*
 generalize cmpF ⟨an,ad⟩ ⟨bn,bd⟩=X at*;generalize qiq ⟨aid,⟨an,ad⟩,ait,and⟩=ra at*;generalize qiq ⟨bid,⟨bn,bd⟩,bit,bnd⟩=rb at*;generalize numH ⟨aid,⟨an,ad⟩,ait,and⟩=na at*;generalize numH ⟨bid,⟨bn,bd⟩,bit,bnd⟩=nb at*;generalize cmpH ⟨aid,⟨an,ad⟩,ait,and⟩ ⟨bid,⟨bn,bd⟩,bit,bnd⟩=R at*;simp only [fV] at HR
 simp only [heV] at*
 generalize an/18446744073709551616=a1 at*;generalize an%18446744073709551616=a0 at*;generalize bn/18446744073709551616=b1 at*;generalize bn%18446744073709551616=b0 at*;clear ha hb
 go_enter Tryz.func87,Tryz.ntmps87
 go_wp2_with fail;refine qah [0,1,2,3,4,5,7,9,12,14,6,8,10,11,13,15,16,17,18,19] kr kr pq ?_
 simp only [zdy,zey,ldz,lds,bare,qaj,lcz,lcs,zay]
 repeat' ((try simp only [Act.put,lsi,lsz,lss]);first|(refine lqx ?_)|(refine qab qaa rfl (fun K hK=> ?_);go_simp;((first|(go_at_call 103;(with_reducible refine(HR.out _).monoR ?_);rintro wp hbp hcp hfp hzp;(try simp at hzp);obtain⟨hyp0,hyp1⟩:=ol2 w wp)|(go_at_call 126;(first|(with_reducible refine(HRa.out _).monoR ?_);rintro wq hbq hcq hfq hzq;(try simp at hzq);obtain⟨hyq0,hyq1⟩:=ol2 w wq|(with_reducible refine(HRb.out _).monoR ?_);rintro wr hbr hcr hfr hzr;(try simp at hzr);obtain⟨hyr0,hyr1⟩:=ol2 w wr))|(go_at_call 127;(first|(with_reducible refine(HNa.out _).monoR ?_);rintro ws hbs hcs hfs hzs;(try simp at hzs);obtain⟨hys0,hys1⟩:=ol2 w ws|(with_reducible refine(HNb.out _).monoR ?_);rintro wt hbt hct hft hzt;(try simp at hzt);obtain⟨hyt0,hyt1⟩:=ol2 w wt))|(go_at_call 88;refine(qfq _ _ _).mono ?_;rintro e w1 ⟨rfl,rfl⟩)|(go_at_call 86;(with_reducible refine(q5a _ 3 X (sgn (ra-rb)) (sgn (na-nb)) _ ?_).mono ?_);(focus exact blkA);rintro e w1 ⟨rfl,rfl⟩)|skip)<;>(refine hK.out _ _ bel ?_;clear hK K))))
 (all_goals try simp only [Act.put,lsi,lsz,lss]);all_goals(refine qad ?_)
 go_wp2;go_ret;exact⟨by rw [HV.out];rfl,bel⟩
theorem qn0 {P:Program} {c:Code} {Q:Exit->Act->World->Prop} {a:Act} {w:World} (R:World->Prop) (h:R w) (k:∀w2,R w2->c.wp P Q a w2):c.wp P Q a w:=k w h
theorem qsy {Φ:World->Prop} {w:World} (R:World->Prop) (h:R w) (k:∀w2,R w2->Φ w2):Φ w:=k w h
theorem qe5 {P:Program} {f:Func} {Q:Ending->World->Prop} {x:Exit} {a:Act} {w:World} (R:World->Prop) (h:R w) (k:∀w2,R w2->bodyPost P f Q x a w2):bodyPost P f Q x a w:=k w h
section
variable {w w' :World} {F:Nat->Prop} {hb c:Nat} {v:Value} {h:List Pu}
theorem HeapAt.tr (H:HeapAt w F hb v h c) (hw:Below w.heap.size w w'):HeapAt w' F hb v h c:=
 ⟨H.blk.tr hw,qam H.row (qag hw) sI,H.oB,H.oR,fun g hg=>zky (H.lim g hg) hw.size,H.ok⟩
theorem HeapAt.cells (H:HeapAt w F hb v h c):w.cell? ⟨hb,0,none⟩=some v/\w.cell? ⟨hb,1,none⟩=some (.int .i64 c)/\hb<w.heap.size:=by
 refine⟨?_,?_,H.blk.lt⟩<;>rw [H.blk.cell]<;>rfl
theorem HeapAt.at_ (H:HeapAt w F hb v h c) {k:Nat} {x:Pu} (hk:h[k]? =some x):∃g cc,v=.slice (some ⟨g,0,none⟩) h.length cc/\g<w.heap.size/\g≠hb/\(∀j,j<7->w.cell? ⟨g,k*7+j,none⟩=(qbp x)[j]?):=by
 have hkl:k<h.length:=by
  rcases zry k h.length with q|q
  · exact q
  · rw [zoy q] at hk;cases hk
 rcases H.row.2 with ⟨_,h0⟩|⟨g,cap,cur,rfl,_,hg,_⟩
 · omega
 · refine⟨g,cap,rfl,(zqy.1 hg).1,?_,fun j hj=> ?_⟩
   · exact Blk.ne (show Blk w g _ cur from hg) H.blk dE
   · rw [H.row.cellAt _ (by
      have:=H.row.1;have:k*7+7<=h.length*7:=oQ
      omega)]
     exact q5s qhf hk hj
theorem ql5 (w:World):C9 33 #[] w fun e w' =>∃hb,e=.returned (.pointer (some ⟨hb,0,none⟩))/\HeapAt w' (fun g=>g=hb) hb (.slice none 0 0) [] 0/\w.heap.size<=hb/\Below w.heap.size w w' :=by
 go_enter Tryz.func33,Tryz.ntmps33
 go_wp2;go_ret;refine⟨_,rfl,⟨?_,World.ownsRow_nil _ _ _ _,rfl,by simp [Value.ownBlock],fun g e=> ?_,by simp⟩,?_,bel⟩
 · exact Blk.new sI rfl
 · subst e;simp
 · simp
theorem qsu (H:HeapAt w F hb v h c):C9 104 #[.pointer (some ⟨hb,0,none⟩)] w (Ret w (.int .i64 (h.length:Nat))):=by
 obtain⟨c0,c1,lt⟩:=H.cells;obtain⟨A,cc,rfl,_⟩:=qaq H.row;clear H
 go_enter Tryz.func104,Tryz.ntmps104
 go_wp2;go_ret;exact⟨rfl,bel⟩
theorem qg1 (H:HeapAt w F hb v h c) {i k:Nat} {x y:Pu} (hi:h[i]? =some x) (hk:h[k]? =some y) (hn:h.length<=1000000):
 C9 58 #[.pointer (some ⟨hb,0,none⟩),.int .i64 (i:Nat),.int .i64 (k:Nat)] w (Ret w (.bool (ltPu x y))):=by
 obtain⟨c0,c1,lt⟩:=H.cells;obtain⟨g,cc,rfl,hg,hgb,ci⟩:=H.at_ hi;obtain⟨g',cc',hv,_,_,ck⟩:=H.at_ hk;injection hv with hv1 hv2 hv3
 injection hv1 with hv1
 injection hv1 with hv1
 subst hv1
 have hil:i<h.length:=by
  rcases zry i h.length with q|q
  · exact q
  · rw [zoy q] at hi;cases hi
 have hkl:k<h.length:=by
  rcases zry k h.length with q|q
  · exact q
  · rw [zoy q] at hk;cases hk
 have hi0:(i:Int)<(h.length:Int):=oQ
 have hk0:(k:Int)<(h.length:Int):=oQ
 have HC:=hdQ (fun W=>qqy x.1 y.1 (H.ok x (zjy hi)) (H.ok y (zjy hk)) W)
 have i0:=ci 0 dE
 have i1:=ci 1 dE
 have i2:=ci 2 dE
 have i3:=ci 3 dE
 have i4:=ci 4 dE
 have i5:=ci 5 dE
 have i6:=ci 6 dE
 have k0:=ck 0 dE
 have k1:=ck 1 dE
 have k2:=ck 2 dE
 have k3:=ck 3 dE
 have k4:=ck 4 dE
 have k5:=ck 5 dE
 have k6:=ck 6 dE
 have HV:Hid (ltPu x y=decide (orI (cmpH x.1 y.1) (sgn ((x.2:Int)-(y.2:Int)))<0)):=rfl;clear ci ck H hv2 hv3 hi hk;obtain⟨⟨xid,xd,xit,xnd⟩,xn⟩:=x;obtain⟨⟨yid,yd,yit,ynd⟩,yn⟩:=y;simp only [qbp,lcz,lcs,Nat.add_zero] at i0 i1 i2 i3 i4 i5 i6 k0 k1 k2 k3 k4 k5 k6;simp only [heV] at HC
 simp only at HV
 generalize cmpH ⟨xid,xd,xit,xnd⟩ ⟨yid,yd,yit,ynd⟩=V at*;generalize xd.num/18446744073709551616=x1 at*;generalize xd.num%18446744073709551616=x0 at*;generalize yd.num/18446744073709551616=y1 at*;generalize yd.num%18446744073709551616=y0 at*
 go_enter Tryz.func58,Tryz.ntmps58
 go_wp2_with fail;refine qah [0,1,2,3,4,5,6,7,8,9,10,11,12,13,14,15,17,18,19,20,21,22,23,24,25,26,27,28,29,30,31,32,16,33,34,35,36,37] kr kr pq ?_
 simp only [zdy,zey,ldz,lds,bare,qaj,lcz,lcs,zay]
 repeat' ((try simp only [Act.put,lsi,lsz,lss]);first|(refine lqx ?_)|(refine qab qaa rfl (fun K hK=> ?_);go_simp;((first|(go_at_call 87;(with_reducible refine(HC.out _).monoR ?_);rintro wp hbp hcp hfp hzp;(try simp at hzp))|(go_at_call 88;refine(qfq _ _ _).mono ?_;rintro e w1 ⟨rfl,rfl⟩)|(go_at_call 86;(with_reducible refine(q2h _ 3 V (sgn ((xn:Int)-(yn:Int))) _ ?_).mono ?_);(focus exact blkA);rintro e w1 ⟨rfl,rfl⟩)|skip)<;>(refine hK.out _ _ bel ?_;clear hK K))))
 (all_goals try simp only [Act.put,lsi,lsz,lss]);all_goals(refine qad ?_)
 go_wp2;go_ret;exact⟨by rw [HV.out];rfl,bel⟩
theorem qer {W:World} {g:Nat} {t:TypeId} {x0 x1 x2 x3 x4 x5 a0 a1 a2 a3 a4 a5:Value} (h:Blk W g t #[x0,x1,x2,x3,x4,x5]):
 Blk ((((((W.setCell ⟨g,0,none⟩ a0).setCell ⟨g,1,none⟩ a1).setCell ⟨g,2,none⟩ a2).setCell ⟨g,3,none⟩ a3).setCell ⟨g,4,none⟩ a4).setCell ⟨g,5,none⟩ a5) g t #[a0,a1,a2,a3,a4,a5]:=
 ((((((h.set_ 0 a0).set_ 1 a1).set_ 2 a2).set_ 3 a3).set_ 4 a4).set_ 5 a5).eq_ sI
def topV:List Pu->Value
 | []=> .tuple #[heV ⟨0,⟨0,0⟩,false,0⟩,.bool false]
 | x::_=> .tuple #[heV x.1,.bool true]
theorem quy (H:HeapAt w F hb v h c) (hn:h.length<=1000000):
 C9 66 #[.pointer (some ⟨hb,0,none⟩)] w (Ret w (topV h)):=by
 obtain⟨c0,c1,lt⟩:=H.cells;have HL:=hdQ (fun W (hW:Below w.heap.size w W)=>qsu (H.tr hW))
 cases h with
 | nil=>
   clear H;simp only [List.length_nil] at HL
   go_enter Tryz.func66,Tryz.ntmps66
   go_wp2_with (go_at_call 104;(with_reducible refine(HL.out _ bel).monoR ?_);rintro w1 hb1 hc1 hf1 hz1;(try simp at hz1))
   refine qe5 (fun w2=>Blk w2 w.heap.size 103 #[.int .i64 0,.int .u64 0,.int .u64 0,.int .u64 0,.bool false,.int .i64 0]/\Below w.heap.size w w2) ⟨qer (x0:=.int .i64 0) (x1:=.int .u64 0) (x2:=.int .u64 0) (x3:=.int .u64 0) (x4:=.bool false) (x5:=.int .i64 0) blkA,bel⟩ ?_
   rintro w2 ⟨HR,hb2⟩;obtain⟨r0,r1,r2,r3,r4,r5⟩:=ce6 HR;exact bodyPost_ret (v:=.tuple #[.agg #[.int .i64 0,.int .u64 0,.int .u64 0,.int .u64 0,.bool false,.int .i64 0],.bool false]) (by simp [results,Tryz.results66,go_sem,r0,r1,r2,r3,r4,r5]) rfl ⟨by simp [topV,heV],hb2⟩
 | cons x r=>
   obtain⟨g,cc,rfl,hg,hgb,ci⟩:=H.at_ (k:=0) (x:=x) rfl;have i0:=ci 0 dE
   have i1:=ci 1 dE
   have i2:=ci 2 dE
   have i3:=ci 3 dE
   have i4:=ci 4 dE
   have i5:=ci 5 dE
   have hlen:((r.length+1:Nat):Int)≠0:=oQ
   have hlen0:(0:Int)<((r.length+1:Nat):Int):=oQ
   clear ci H;obtain⟨⟨xid,xd,xit,xnd⟩,xn⟩:=x;simp only [qbp,lcz,lcs,Nat.zero_mul,Nat.zero_add] at i0 i1 i2 i3 i4 i5
   simp only [topV,heV,zax] at*
   generalize xd.num/18446744073709551616=x1 at*;generalize xd.num%18446744073709551616=x0 at*;generalize r.length+1=m at*
   go_enter Tryz.func66,Tryz.ntmps66
   go_wp2_with (go_at_call 104;(with_reducible refine(HL.out _ bel).monoR ?_);rintro w1 hb1 hc1 hf1 hz1;(try simp at hz1))
   refine qe5 (fun w2=>Blk w2 w.heap.size 103 #[.int .i64 xid,.int .u64 (x1:Int),.int .u64 (x0:Int),.int .u64 (xd.den:Int),.bool xit,.int .i64 (xnd:Int)]/\Below w.heap.size w w2) ⟨qer (x0:=.int .i64 0) (x1:=.int .u64 0) (x2:=.int .u64 0) (x3:=.int .u64 0) (x4:=.bool false) (x5:=.int .i64 0) blkA,bel⟩ ?_
   rintro w2 ⟨HR,hb2⟩;obtain⟨r0,r1,r2,r3,r4,r5⟩:=ce6 HR;exact bodyPost_ret (v:=.tuple #[.agg #[.int .i64 xid,.int .u64 (x1:Int),.int .u64 (x0:Int),.int .u64 (xd.den:Int),.bool xit,.int .i64 (xnd:Int)],.bool true]) (by simp [results,Tryz.results66,go_sem,r0,r1,r2,r3,r4,r5]) rfl ⟨by simp [topV,heV],hb2⟩
theorem Tryz.infoPuH:(Tryz.prog.info? 137).map (fun i=>(i.zero,i.size,i.bytes))=some (some (.agg #[.int .i64 0,.int .u64 0,.int .u64 0,.int .u64 0,.bool false,.int .i64 0,.int .i64 0]),7,56):=by kernel_rfl
theorem qya {w:World} {a b c d e f g:Value} {t:TypeId}:∀(j:Nat) (v:Value),[a,b,c,d,e,f,g][j]? =some v->(w.alloc (.cells #[a,b,c,d,e,f,g] t)).cell? ((⟨w.heap.size,0,none⟩:Addr).add j)=some v:=by
 intro j v hj
 match j,hj with
 | 0,hj=>simp at hj;subst hj;simp [Addr.add]
 | 1,hj=>simp at hj;subst hj;simp [Addr.add]
 | 2,hj=>simp at hj;subst hj;simp [Addr.add]
 | 3,hj=>simp at hj;subst hj;simp [Addr.add]
 | 4,hj=>simp at hj;subst hj;simp [Addr.add]
 | 5,hj=>simp at hj;subst hj;simp [Addr.add]
 | 6,hj=>simp at hj;subst hj;simp [Addr.add]
theorem HeapAt.count (H:HeapAt w F hb v h c) (n:Nat):HeapAt (w.setCell ⟨hb,1,none⟩ (.int .i64 (n:Int))) F hb v h n:=
 ⟨H.blk.set_ 1 _,qam H.row (qcm _ _ _) (fun g e=>by cases e;exact qfi H.row H.blk dE),H.oB,H.oR,fun g hg=>zky (H.lim g hg) (by simp [World.setCell]),H.ok⟩
theorem HeapAt.newRow (H:HeapAt w F hb v h c) {v' :Value} {h' :List Pu} {w1:World} (hg:w.grownBy w1 v.ownBlock) (hr:w1.ownsRow 0 137 7 v' h'.length (qh5 h')) (hok:∀x∈h',FrOk x.1.d) (hv:∀g,v'.ownBlock=some g->F g\/w.heap.size<=g):
 HeapAt (w1.setCell ⟨hb,0,none⟩ v') (fun g=>F g\/v'.ownBlock=some g) hb v' h' c:=by
 have hB:Blk w1 hb 135 #[v,.int .i64 c]:=Blk.kept H.blk hg (fun e=>qfi H.row H.blk dE e)
 refine⟨hB.set_ 0 v',qam hr (qcm _ _ _) (fun g e=>by cases e;exact qfi hr hB dE),.inl H.oB,fun g e=> .inr e,fun g hg' => ?_,hok⟩
 rcases hg' with q|q
 · exact zky (H.lim g q) (by simp [World.setCell];exact hg.size)
 · have:=(hr.lt g q).2
   simp [World.setCell]
   exact this
def setW (w:World) (g o:Nat):List Value->World
 | []=>w
 | u::r=>setW (w.setCell ⟨g,o,none⟩ u) g (o+1) r
theorem quc {w:World} {base size n g c o:Nat} {e:TypeId} {xs:List Value} (h:w.ownsRow base e size (.slice (some ⟨g,0,none⟩) n c) n xs) (ho:o<n*size) (u:Value):(w.setCell ⟨g,o,none⟩ u).ownsRow base e size (.slice (some ⟨g,0,none⟩) n c) n (xs.set o u):=by
 rcases h.2 with ⟨h0,_⟩|⟨g',cap,cur,h0,hbg,hg,hnc,hcm,hcs,htake⟩
 · cases h0
 · injection h0 with h1 h2 h3
   injection h1 with h1
   injection h1 with h1
   subst h1 h3;refine⟨by rw [zkx];exact h.1,.inr ⟨g,c,cur.setIfInBounds o u,rfl,hbg,?_,hnc,hcm,?_,?_⟩⟩
   · simp [World.setCell,Array.getElem?_modify,hg]
   · simpa using hcs
   · simp [List.take_set,htake]
theorem qub {base size n g c:Nat} {e:TypeId}:∀(us:List Value) (w:World) (o:Nat) (xs:List Value),w.ownsRow base e size (.slice (some ⟨g,0,none⟩) n c) n xs->o+us.length<=n*size->(setW w g o us).ownsRow base e size (.slice (some ⟨g,0,none⟩) n c) n (setN xs o us)
 | [],_,_,_,h,_=>h
 | u::r,w,o,xs,h,hl=>by
   simp only [zax] at hl;exact qub r _ _ _ (quc h oQ u) oQ
theorem qo5 {g b:Nat} {t:TypeId} {cs:Array Value} (hne:b≠g):∀(us:List Value) (w:World) (o:Nat),Blk w b t cs->Blk (setW w g o us) b t cs
 | [],_,_,h=>h
 | u::r,w,o,h=>qo5 hne r _ _ (h.far (p:=⟨g,o,none⟩) hne u)
theorem qb5 {F:Nat->Prop} {a:World} {g:Nat} (hg:F g\/a.heap.size<=g):∀(us:List Value) (w:World) (o:Nat),TurnF F a w->TurnF F a (setW w g o us)
 | [],_,_,h=>h
 | u::r,w,o,h=>qb5 hg r _ _ (h.set_ (p:=⟨g,o,none⟩) hg u)
theorem qk9 {g:Nat}:∀(us:List Value) (w:World) (o:Nat),(setW w g o us).heap.size=w.heap.size
 | [],_,_=>rfl
 | u::r,w,o=>by
   unfold setW
   rw [qk9 r]
   simp [World.setCell]
theorem HeapAt.setAt {g cc:Nat} (H:HeapAt w F hb (.slice (some ⟨g,0,none⟩) h.length cc) h c) {k:Nat} (hk:k<h.length) (y:Pu) (hy:FrOk y.1.d):HeapAt (setW w g (k*7) (qbp y)) F hb (.slice (some ⟨g,0,none⟩) h.length cc) (h.set k y) c:=by
 have h1:k*7+7<=h.length*7:=oQ
 have hr:=qub (qbp y) w (k*7) _ H.row (by rw [qhf];exact h1)
 have hne:hb≠g:=fun e=>qfi H.row H.blk dE (by rw [e];rfl)
 refine⟨qo5 hne _ _ _ H.blk,?_,H.oB,H.oR,fun k hk=>by rw [qk9];exact H.lim k hk,fun z hz=> ?_⟩
 · rw [zkx]
   unfold qh5 at hr ⊢;rw [qz5 qhf hk] at hr;exact hr
 · rcases List.mem_or_eq_of_mem_set hz with q|q
   · exact H.ok z q
   · rw [q];exact hy
theorem HeapAt.two {g cc:Nat} (H:HeapAt w F hb (.slice (some ⟨g,0,none⟩) h.length cc) h c) {i p:Nat} {x y:Pu} (hi:h[i]? =some x) (hp:h[p]? =some y):HeapAt (setW (setW w g (i*7) (qbp y)) g (p*7) (qbp x)) F hb (.slice (some ⟨g,0,none⟩) h.length cc) (qd3 h i p) c:=by
 have hil:=(zsy.1 hi).1;have hpl:=(zsy.1 hp).1;have h1:=H.setAt hil y (H.ok y (zjy hp));have hl:(h.set i y).length=h.length:=zkx;rw [<-hl] at h1;have h2:=h1.setAt (k:=p) (by rw [hl];exact hpl) x (H.ok x (zjy hi))
 rw [hl] at h2;have e:qd3 h i p=(h.set i y).set p x:=by unfold qd3;rw [hi,hp]
 rw [e]
 exact h2
theorem HeapAt.drew (H:HeapAt w F hb v h c):HeapAt w.drew F hb v h c:=H.tr bel
theorem HeapAt.fz {g cc n:Nat} (H:HeapAt w F hb (.slice (some ⟨g,0,none⟩) n cc) h c):∀o,w.frozen? ⟨g,o,none⟩=false:=by
 intro o
 rcases H.row.2 with ⟨h0,_⟩|⟨g',cap,cur,h0,_,hg,_⟩
 · cases h0
 · injection h0 with h1 h2 h3
   injection h1 with h1
   injection h1 with h1
   subst h1;exact(show Blk w g _ cur from hg).frozen o
theorem qua (H:HeapAt w F hb v h c) (x:HE) (hx:FrOk x.d) (hn:h.length<=100000) (hc:c<=1000000):
 C9 34 #[.pointer (some ⟨hb,0,none⟩),heV x] w fun e w' =>e=.returned (.tuple #[])/\∃v' F',HeapAt w' F' hb v' (qit ltPu h (x,c+1)) (c+1)/\TurnF F w w' /\(∀k,F' k->F k\/w.heap.size<=k):=by
 obtain⟨i0,hi,iz0,iz1,iz2⟩:=info_parts Tryz.infoPuH;obtain⟨c0,c1,lt⟩:=H.cells;have hcw:IntKind.i64.wrap ((c:Int)+1)=((c+1:Nat):Int):=by rw [IntWalk.i64_in _ ⟨by omega,by omega⟩];rfl
 have HH:=hdQ H;have HX:=hdQ hx;have fz:=H.blk.frozen;clear H hx;obtain⟨P0,hP0⟩:∃P0,qit ltPu h (x,c+1)=P0:=⟨_,rfl⟩;have HP:=hdQ hP0
 rw [hP0]
 clear hP0;obtain⟨xid,xd,xit,xnd⟩:=x
 simp only [heV]
 obtain⟨x1,hx1⟩:∃z,xd.num/18446744073709551616=z:=⟨_,rfl⟩;obtain⟨x0,hx0⟩:∃z,xd.num%18446744073709551616=z:=⟨_,rfl⟩
 have HE:Hid (qbp (⟨xid,xd,xit,xnd⟩,c+1)= [.int .i64 xid,.int .u64 (x1:Int),.int .u64 (x0:Int),.int .u64 (xd.den:Int),.bool xit,.int .i64 (xnd:Int),.int .i64 ((c+1:Nat):Int)]):=by
  unfold Hid qbp
  simp only [hx1,hx0]
 rw [hx1,hx0]
 clear hx1 hx0
 go_enter Tryz.func34,Tryz.ntmps34
 go_wp2_with fail
 try rw [hcw]
 try rw [show (c:Int)+1=((c+1:Nat):Int) from rfl]
 refine qn0 (fun w2=>HeapAt w2 F hb v h (c+1)/\Blk w2 w.heap.size 103 #[.int .i64 xid,.int .u64 (x1:Int),.int .u64 (x0:Int),.int .u64 (xd.den:Int),.bool xit,.int .i64 (xnd:Int)]/\TurnF F w w2) ⟨(HH.out.count (c+1)).tr bel,Blk.new sI rfl,((TurnF.refl F w).set_ (p:=⟨hb,1,none⟩) (.inl HH.out.oB) _).below bel⟩ ?_
 clear c0 c1 lt HH;rintro w2 ⟨H2,hB2,ht2⟩;obtain⟨c0,c1,lt⟩:=H2.cells;have cB:=hB2.cell;have lB:=hB2.lt;have HH:=hdQ H2;have HT:=hdQ ht2;clear H2 ht2;refine qa1 [0,1,2,3,4,5,6,7,8,9,10,11] [12,13,14,15] kr kr pq ?_
 simp only [zdy,zey,ldz,lds,bare,qaj,lcz,lcs,zay,qdx,Option.isNone_none,Bool.and_true,Bool.true_and,Bool.false_and,Bool.and_self]
 repeat((try simp only [Act.put,lsi,lsz,lss]);first|(refine qb0 (v:= ?_) qaa rfl ?_ ?_;rotate_left;focus(intro wq;go_simp;try with_reducible rfl))|(refine qbm (v:= ?_) qaa rfl ?_ ?_;rotate_left;focus(intro wq hq;obtain⟨hcq,hfq⟩:=qbb hq;go_simp;try with_reducible rfl))|(refine qbn qaa rfl (fun K hK=> ?_);go_simp;((first|fail|skip)<;>(refine hK.out _ _ bel ?_;clear hK K))))
 (all_goals try simp only [Act.put,lsi,lsz,lss])
 refine qcl ?_;refine qar (fun K hK=> ?_)
 (have HD:=HH.out.tr (show Below w2.heap.size w2 (w2.drew.alloc (.cells #[.int .i64 xid,.int .u64 (x1:Int),.int .u64 (x0:Int),.int .u64 (xd.den:Int),.bool xit,.int .i64 (xnd:Int),.int .i64 ((c+1:Nat):Int)] 137)) from bel));(refine qcy _ _ _ 133 rfl 137 i0 (.agg #[.int .i64 0,.int .u64 0,.int .u64 0,.int .u64 0,.bool false,.int .i64 0,.int .i64 0]) 7 56 Tryz.underlying133 hi iz0 iz1 iz2 rfl dE _ h.length (qh5 h) rfl HD.row ⟨w2.heap.size,0,none⟩ 1 1 [.int .i64 xid,.int .u64 (x1:Int),.int .u64 (x0:Int),.int .u64 (xd.den:Int),.bool xit,.int .i64 (xnd:Int),.int .i64 ((c+1:Nat):Int)] rfl rfl ?_ ?_ ?_ ?_ ?_ ?_);(focus(exact qya));(focus(simp [Value.oneCell']));(focus(unfold maxLen;omega));(focus omega);(focus(decide));intro v' w3 hown' hgrow hwh;(have HW:=hdQ hwh);(clear hwh);(have HN:=HD.newRow (h' :=h++ [(⟨xid,xd,xit,xnd⟩,c+1)]) hgrow (by rw [zny];unfold qh5;rw [List.flatMap_append,zvy,List.flatMap_nil,List.append_nil,HE.out];exact hown') (fun z hz=>by (rcases List.mem_append.1 hz with q|q);(exact HD.ok z q);(simp at q;subst q;exact HX.out)) (fun g e=>by (rcases HW.out with q|q);(exact .inl (HD.oR g (q ▸ e)));(exact .inr (by rw [q] at e;injection e with e;exact Nat.le_of_eq e))));(have HN2:=hdQ HN);(clear HN);(have hb3:=Blk.kept HD.blk hgrow (fun e=>qfi HD.row HD.blk dE e));(have fz3:=hb3.frozen 0);(have cz3:w3.cell? ⟨hb,0,none⟩=some v:=(by rw [hb3.cell];rfl));(clear hb3);(have HG:=hdQ (((HT.out.below (show Below w2.heap.size w2 (w2.drew.alloc (.cells #[.int .i64 xid,.int .u64 (x1:Int),.int .u64 (x0:Int),.int .u64 (xd.den:Int),.bool xit,.int .i64 (xnd:Int),.int .i64 ((c+1:Nat):Int)] 137)) from bel)).grown hgrow (fun k e=> .inl (HD.oR k e))).set_ (p:=⟨hb,0,none⟩) (.inl HD.oB) v'));(clear HD hgrow);(obtain⟨A',cc',rfl,_,_,_⟩:=qaq hown');(clear hown')
 refine hK.out _ _ ?_;clear hK K
 (try simp only [Act.put,lsi,lsz,lss])
 refine qar (fun K hK=> ?_)
 go_simp
 refine hK.out _ _ ?_;clear hK K
 (try simp only [Act.put,lsi,lsz,lss])
 refine qar (fun K hK=> ?_)
 go_simp
 refine hK.out _ _ ?_;clear hK K
 (try simp only [Act.put,lsi,lsz,lss])
 refine qar (fun K hK=> ?_)
 go_simp
 refine hK.out _ _ ?_;clear hK K
 (try simp only [Act.put,lsi,lsz,lss])
 refine qck ?_;obtain⟨F4,hF4⟩:∃F',(fun g=>F g\/(Value.slice A' (h.length+1) cc').ownBlock=some g)=F' :=⟨_,rfl⟩
 obtain⟨h4,hh4⟩:∃l,h++ [((⟨xid,xd,xit,xnd⟩:Pg.HE),c+1)]=l:=⟨_,rfl⟩;have hl4:h4.length=h.length+1:=by rw [<-hh4];simp
 have HFF:Hid (∀k,F4 k->F k\/w.heap.size<=k):=by
  intro k hk;rw [<-hF4] at hk
  rcases hk with q|q
  · exact .inl q
  · rcases HW.out with q2|q2
    · exact .inl (HH.out.oR k (q2 ▸ q))
    · rw [q2] at q
      injection q with q
      simp at q
      have:=HT.out.size;exact .inr oQ
 refine qsy (Φ:=fun w=>Exit.then _ _ Exit.normal _ w) (fun w4=>HeapAt w4 F4 hb (.slice A' (h.length+1) cc') h4 (c+1)/\TurnF F w w4) ⟨by rw [<-hF4,<-hh4];exact HN2.out,HG.out⟩ ?_
 rintro w4 ⟨H4,ht4⟩
 have HP4:Hid (upS ltPu (h.length+1) h4 h.length=P0):=by
  unfold Hid
  rw [<-hh4]
  exact HP.out
 clear HN2 HG fz fz3 cz3 HH HT c0 c1 lt cB lB hcw HE HX HP HW hF4 hh4 hB2 i0 hi iz0 iz1 iz2;obtain⟨y4,hy4⟩:∃y,h4[0]? =some y:=⟨h4[0]'oQ,zby _⟩
 obtain⟨g,ccx,hv,hg4,_,_⟩:=H4.at_ hy4;injection hv with hv1 hv2 hv3
 subst hv1;clear hy4 hv2 hv3;generalize hmm:h.length+1=m at*;have hm1:(h.length:Int)=(m:Int)-1:=oQ
 obtain⟨c0,c1,lt⟩:=H4.cells;have HH4:=hdQ H4;have HT4:=hdQ ht4;clear H4 ht4;go_wp2_with fail
 go_loopw [4] (fun vi wr=>∃(i f:Nat) (hc:List Pu),vi=.int .i64 i/\i<m/\i<f/\hc.length=m/\upS ltPu f hc i=P0/\HeapAt wr F4 hb (.slice (some ⟨g,0,none⟩) m cc') hc (c+1)/\TurnF F w wr) (fun vi _=>(Go.RowKit.intOf vi).toNat)
 case atStart=>exact ⟨h.length,m,h4,by rw [hm1],by omega,by omega,hl4,HP4.out,HH4.out,HT4.out⟩
 case round=>
  obtain⟨i,f,hcu,rfl,him,hif,hcl,hup,hH,hT⟩:=hrel;clear c0 c1 lt HH4 HT4 HP4;obtain⟨c0,c1,lt⟩:=hH.cells;have HT:=hdQ hT;clear hT
  by_cases hi0:i=0
  · subst hi0
    have e:hcu=P0:=by
     rw [<-hup]
     cases f with
     | zero=>rfl
     | succ f=>unfold upS;rw [if_pos rfl]
    subst e;have HH:=hdQ hH;clear hH hup;go_wp2_with fail
    go_end0
    exact⟨rfl,_,_,HH.out,HT.out,HFF.out⟩
  obtain⟨f,rfl⟩:∃f',f=f' +1:=⟨f-1,by omega⟩
  obtain⟨p,hp⟩:∃p,(i-1)/2=p:=⟨_,rfl⟩;have hpi:p<i:=oQ
  obtain⟨x,hx⟩:∃x,hcu[i]? =some x:=⟨hcu[i]'oQ,zby _⟩
  obtain⟨y,hy⟩:∃y,hcu[p]? =some y:=⟨hcu[p]'oQ,zby _⟩
  have hup2:=hup;rw [upS,if_neg hi0,hp,hx,hy] at hup2
  simp only at hup2
  have HLs:=hdQ (fun(W:World) (a b:Int) (hW:Below wr.heap.size wr W) (ha:a=(i:Int)) (hb2:b=(p:Int))=>show C9 58 #[.pointer (some ⟨hb,0,none⟩),.int .i64 a,.int .i64 b] W (Ret W (.bool (ltPu x y))) from by
   subst ha hb2
   exact qg1 (hH.tr hW) hx hy oQ)
  have hi1:(0:Int)<(i:Int):=oQ
  have hi2:(1:Int)<=(i:Int):=oQ
  have hpp:((i:Int)-1).tdiv 2=(p:Int):=by
   rw [<-hp,show (i:Int)-1=((i-1:Nat):Int) by omega]
   rfl
  have HH:=hdQ hH;clear hup
  cases hlt:ltPu x y with
  | false=>
    rw [hlt] at HLs hup2;simp only [Bool.false_eq_true,if_false] at hup2;subst hup2;clear hx hy hH
    go_wp2_with (go_at_call 58;(refine(HLs.out _ _ _ bel rfl (by simp only [hpp])).monoR ?_);rintro w1 hb1 hc1 hf1 hz1;(try simp at hz1))
    go_end0
    exact⟨rfl,_,_,HH.out.tr bel,HT.out.below bel,HFF.out⟩
  | true=>
    rw [hlt] at HLs hup2;simp only [if_true] at hup2;obtain⟨gx,ccx,hvx,hgl,hgb,_⟩:=hH.at_ hx;injection hvx with hv1 hv2 hv3
    injection hv1 with hv1
    injection hv1 with hv1
    subst hv1;clear hv2 hv3;have HX:=hdQ hx;have HY:=hdQ hy;have HU:=hdQ hup2;have HCL:=hdQ hcl;clear hx hy hH hup2 hcl
    go_wp2_with (go_at_call 58;(refine(HLs.out _ _ _ bel rfl (by simp only [hpp])).monoR ?_);rintro w1 hb1 hc1 hf1 hz1;(try simp at hz1))
    have hH1:=HH.out.tr (show Below wr.heap.size wr w1 from bel)
    have HT1:=hdQ (HT.out.below (show Below wr.heap.size wr w1 from bel))
    obtain⟨d0,d1,dlt⟩:=hH1.cells
    have ie:∀(q:Nat),q<7->(w1.cell? ⟨g,i*7+q,none⟩=(qbp x)[q]?):=fun q hq=>by
     obtain⟨g2,_,hv2,_,_,ix2⟩:=hH1.at_ HX.out;injection hv2 with hv1 _ _
     injection hv1 with hv1
     injection hv1 with hv1
     rw [hv1]
     exact ix2 q hq
    have pe:∀(q:Nat),q<7->(w1.cell? ⟨g,p*7+q,none⟩=(qbp y)[q]?):=fun q hq=>by
     obtain⟨g2,_,hv2,_,_,ix2⟩:=hH1.at_ HY.out;injection hv2 with hv1 _ _
     injection hv1 with hv1
     injection hv1 with hv1
     rw [hv1]
     exact ix2 q hq
    have i0:=ie 0 dE
    have i1:=ie 1 dE
    have i2:=ie 2 dE
    have i3:=ie 3 dE
    have i4:=ie 4 dE
    have i5:=ie 5 dE
    have i6:=ie 6 dE
    have k0:=pe 0 dE
    have k1:=pe 1 dE
    have k2:=pe 2 dE
    have k3:=pe 3 dE
    have k4:=pe 4 dE
    have k5:=pe 5 dE
    have k6:=pe 6 dE
    have fz:=hH1.fz
    have HH2:=hdQ (show HeapAt (setW (setW w1 g (i*7) (qbp y)) g (p*7) (qbp x)) F4 hb (.slice (some ⟨g,0,none⟩) m cc') (qd3 hcu i p) (c+1) from by
     have:=hH1
     rw [<-HCL.out] at this ⊢
     exact this.two HX.out HY.out)
    have HT2:=hdQ (qb5 (HFF.out g (hH1.oR g rfl)) (qbp x) _ (p*7) (qb5 (HFF.out g (hH1.oR g rfl)) (qbp y) _ (i*7) HT1.out));have him2:(i:Int)<(m:Int):=oQ
    have wa1:IntKind.i64.wrap ((i:Int)-1)=(i:Int)-1:=IntWalk.i64_in _ ⟨by omega,by omega⟩
    have wa2:IntKind.i64.wrap (p:Int)=(p:Int):=IntWalk.i64_in _ ⟨by omega,by omega⟩
    have hpm:(p:Int)<(m:Int):=oQ
    have glt:g<w1.heap.size:=hH1.lim g (hH1.oR g rfl);clear ie pe hH1 HX HY HH HT HT1 hc1 hf1 c0 c1;obtain⟨⟨xid,xd,xit,xnd⟩,xn⟩:=x;obtain⟨⟨yid,yd,yit,ynd⟩,yn⟩:=y;simp only [qbp,lcz,lcs,Nat.add_zero] at i0 i1 i2 i3 i4 i5 i6 k0 k1 k2 k3 k4 k5 k6 HH2 HT2;generalize xd.num/18446744073709551616=x1 at*;generalize xd.num%18446744073709551616=x0 at*;generalize yd.num/18446744073709551616=y1 at*;generalize yd.num%18446744073709551616=y0 at*;refine qa1 [0,1,2,3,4,5,6,7,8,9,10,11,12,13,14,15,16,17,18,19,20,21,22,23,24,25,26,27] [28,29,30,31] kr kr pq ?_
    simp only [zdy,zey,ldz,lds,bare,qaj,lcz,lcs,zay,qdx,Option.isNone_none,Bool.and_true,Bool.true_and,Bool.false_and,Bool.and_self]
    repeat((try simp only [Act.put,lsi,lsz,lss]);first|(refine qb0 (v:= ?_) qaa rfl ?_ ?_;rotate_left;focus(intro wq;go_simp;try with_reducible rfl))|(refine qbm (v:= ?_) qaa rfl ?_ ?_;rotate_left;focus(intro wq hq;obtain⟨hcq,hfq⟩:=qbb hq;go_simp;try with_reducible rfl))|(refine qbn qaa rfl (fun K hK=> ?_);go_simp;((first|fail|skip)<;>(refine hK.out _ _ bel ?_;clear hK K))))
    (all_goals try simp only [Act.put,lsi,lsz,lss])
    refine qcl ?_;refine qar (fun K hK=> ?_)
    go_simp
    refine hK.out _ _ ?_;clear hK K
    (try simp only [Act.put,lsi,lsz,lss])
    refine qar (fun K hK=> ?_)
    go_simp
    refine hK.out _ _ ?_;clear hK K
    (try simp only [Act.put,lsi,lsz,lss])
    refine qar (fun K hK=> ?_)
    go_simp
    refine hK.out _ _ ?_;clear hK K
    (try simp only [Act.put,lsi,lsz,lss])
    refine qar (fun K hK=> ?_)
    go_simp
    refine hK.out _ _ ?_;clear hK K
    (try simp only [Act.put,lsi,lsz,lss])
    refine qck ?_;refine qsy (Φ:=fun w=>Exit.inBlock 1 _ Exit.normal _ w) (fun w5=>HeapAt w5 F4 hb (.slice (some ⟨g,0,none⟩) m cc') (qd3 hcu i p) (c+1)/\TurnF F w w5) ⟨HH2.out.drew,HT2.out.drew⟩ ?_
    rintro w5 ⟨H5,ht5⟩;have HH5:=hdQ H5;have HT5:=hdQ ht5;have HS:Hid ((qd3 hcu i p).length=m):=by unfold Hid;rw [qe3];exact HCL.out
    clear H5 ht5 HH2 HT2 d0 d1 dlt i0 i1 i2 i3 i4 i5 i6 k0 k1 k2 k3 k4 k5 k6 fz HLs;go_wp2_with fail
    go_roundw
    case rel=>exact ⟨p,f,qd3 hcu i p,by simp only [wa1,hpp,wa2],by omega,by omega,HS.out,HU.out,HH5.out,HT5.out⟩
    case measure=>simp [Go.RowKit.intOf, *];try omega
end
section
variable {w w' :World} {F:Nat->Prop} {hb c:Nat} {v:Value} {h:List Pu}
theorem qnb {base size n m g cc:Nat} {e:TypeId} {xs:List Value} (h:w.ownsRow base e size (.slice (some ⟨g,0,none⟩) n cc) n xs) (hm:m<=n):w.ownsRow base e size (.slice (some ⟨g,0,none⟩) m cc) m (xs.take (m*size)):=by
 rcases h.2 with ⟨h0,_⟩|⟨g',cap,cur,h0,hbg,hg,hnc,hcm,hcs,htake⟩
 · cases h0
 · injection h0 with h1 h2 h3
   injection h1 with h1
   injection h1 with h1
   subst h1 h3;have hx:=h.1;have hms:m*size<=n*size:=zuy _ hm;refine⟨by rw [List.length_take];omega,.inr ⟨g,cc,cur,rfl,hbg,hg,by omega,hcm,hcs,?_⟩⟩
   rw [<-htake,List.take_take,Nat.min_eq_left hms]
theorem HeapAt.shrink {g cc n:Nat} (H:HeapAt w F hb (.slice (some ⟨g,0,none⟩) h.length cc) h c) (hn:n<=h.length):HeapAt (w.setCell ⟨hb,0,none⟩ (.slice (some ⟨g,0,none⟩) n cc)) F hb (.slice (some ⟨g,0,none⟩) n cc) (h.take n) c:=by
 have hr:=qnb H.row hn;have hl:(h.take n).length=n:=by rw [List.length_take];omega
 have e:(qh5 h).take (n*7)=qh5 (h.take n):=Pg.qg5 qhf h n;rw [e] at hr;refine⟨H.blk.set_ 0 _,?_,H.oB,H.oR,fun g hg=>zky (H.lim g hg) (by simp [World.setCell]),fun x hx=>H.ok x (List.mem_of_mem_take hx)⟩
 rw [hl]
 exact qam hr (qcm _ _ _) (fun g e=>by cases e;exact qfi hr H.blk dE)
theorem qlm {b base size n:Nat} {e:TypeId} {v:Value} {xs:List Value} (hne:v.ownBlock≠some b):∀(us:List Value) (w:World) (o:Nat),w.ownsRow base e size v n xs->(setW w b o us).ownsRow base e size v n xs
 | [],_,_,h=>h
 | u::r,w,o,h=>qlm hne r _ _ (ownsRow_setCell_other h (a:=⟨b,o,none⟩) hne u)
theorem HeapAt.off {b:Nat} (H:HeapAt w F hb v h c) (hF:¬ F b) (us:List Value) (o:Nat):HeapAt (setW w b o us) F hb v h c:=
 ⟨qo5 (fun e=>hF (by rw [<-e];exact H.oB)) _ _ _ H.blk,qlm (fun e=>hF (H.oR b e)) _ _ _ H.row,H.oB,H.oR,fun k hk=>by rw [qk9];exact H.lim k hk,H.ok⟩
theorem qv6 (H:HeapAt w F hb v [] c):
 C9 37 #[.pointer (some ⟨hb,0,none⟩)] w fun e w' =>e=.returned (topV [])/\Below w.heap.size w w' :=by
 have HT:=hdQ (fun W (hW:Below w.heap.size w W)=>quy (H.tr hW) sI)
 clear H;have e0:topV []=.tuple #[.agg #[.int .i64 0,.int .u64 0,.int .u64 0,.int .u64 0,.bool false,.int .i64 0],.bool false]:=by simp [topV,heV]
 rw [e0] at HT ⊢
 go_enter Tryz.func37,Tryz.ntmps37
 go_wp2_with (go_at_call 66;(with_reducible refine(HT.out _ bel).monoR ?_);rintro w1 hb1 hc1 hf1 hz1;(try simp at hz1);have hy0:=ol1 w w1)
 refine qe5 (fun w2=>Blk w2 w.heap.size 103 #[.int .i64 0,.int .u64 0,.int .u64 0,.int .u64 0,.bool false,.int .i64 0]/\Below w.heap.size w w2) ⟨(qer (show Blk w1 w.heap.size 103 #[.int .i64 0,.int .u64 0,.int .u64 0,.int .u64 0,.bool false,.int .i64 0] from blkA)).alloc _,bel⟩ ?_
 rintro w2 ⟨HR,hb2⟩;obtain⟨r0,r1,r2,r3,r4,r5⟩:=ce6 HR;exact bodyPost_ret (v:=.tuple #[.agg #[.int .i64 0,.int .u64 0,.int .u64 0,.int .u64 0,.bool false,.int .i64 0],.bool false]) (by simp [results,Tryz.results37,go_sem,r0,r1,r2,r3,r4,r5]) rfl ⟨rfl,hb2⟩
theorem qsb {x:Pu} {r:List Pu} (H:HeapAt w F hb v (x::r) c) (hn:(x::r).length<=100000):
 C9 37 #[.pointer (some ⟨hb,0,none⟩)] w fun e w' =>e=.returned (topV (x::r))/\∃v',HeapAt w' F hb v' (popS ltPu (x::r)) c/\TurnF F w w' :=by
 have HT:=hdQ (fun W (hW:Below w.heap.size w W)=>quy (H.tr hW) oQ)
 have HFL:=hdQ H.lim;obtain⟨c0,c1,lt⟩:=H.cells;obtain⟨g,cc,rfl,hg,hgb,_⟩:=H.at_ (k:=0) (x:=x) rfl;obtain⟨_,_,hrf,hmc,_,_⟩:=qaq H.row;injection hrf with hr1 hr2 hr3
 subst hr3;clear hr1 hr2;obtain⟨P0,hP0⟩:∃P0,popS ltPu (x::r)=P0:=⟨_,rfl⟩;have HP:=hdQ hP0
 rw [hP0]
 clear hP0;have HH:=hdQ H;clear H;have hx0:(x::r)[0]? =some x:=rfl;have HE:Hid (topV (x::r)=.tuple #[heV x.1,.bool true]):=rfl;have hlen:(x::r).length=r.length+1:=rfl;have HEL:Hid (popS ltPu (x::r)=P0):=HP.out;generalize x::r=l0 at*
 rw [HE.out] at HT ⊢
 clear HE;generalize r.length=n at*;obtain⟨⟨xid,xd,xit,xnd⟩,xn⟩:=x
 simp only [heV] at HT ⊢
 generalize xd.num/18446744073709551616=x1 at*;generalize xd.num%18446744073709551616=x0 at*
 go_enter Tryz.func37,Tryz.ntmps37
 go_wp2_with (go_at_call 66;(with_reducible refine(HT.out _ bel).monoR ?_);rintro w1 hb1 hc1 hf1 hz1;(try simp at hz1);have hy0:=ol1 w w1;have lt1:hb<w1.heap.size:=oQ;have lt2:hb<w.heap.size+1:=oQ)
 refine qn0 (fun w2=>HeapAt w2 F hb (.slice (some ⟨g,0,none⟩) l0.length cc) l0 c/\TurnF F w w2/\Blk w2 w.heap.size 103 #[.int .i64 0,.int .u64 0,.int .u64 0,.int .u64 0,.bool false,.int .i64 0]/\Blk w2 w1.heap.size 103 #[.int .i64 xid,.int .u64 (x1:Int),.int .u64 (x0:Int),.int .u64 (xd.den:Int),.bool xit,.int .i64 (xnd:Int)]) ⟨HH.out.tr bel,(TurnF.refl F w).below bel,blkA,blkA⟩ ?_
 rintro w2 ⟨H2,ht2,hz2,hx2⟩;obtain⟨b4,hb4⟩:∃b,w1.heap.size=b:=⟨_,rfl⟩;have hb4w:w.heap.size<b4:=oQ
 rw [hb4] at hx2 ⊢
 clear c0 c1 lt hc1 hf1 hb1 hz1 lt1 lt2 hy0 HH hb4 HT;obtain⟨zq,hzq⟩:∃z,l0[n]? =some z:=⟨l0[n]'oQ,zby _⟩
 obtain⟨c0,c1,lt⟩:=H2.cells;have fz:=H2.fz;have fb:=H2.blk.frozen;have glt:g<w2.heap.size:=H2.lim g (H2.oR g rfl)
 have gat:∀(k:Nat) (y:Pu),l0[k]? =some y->∀(q:Nat),q<7->(w2.cell? ⟨g,k*7+q,none⟩=(qbp y)[q]?):=fun k y hk q hq=>by
  obtain⟨g2,_,hv2,_,_,ix2⟩:=H2.at_ hk;injection hv2 with hv1 _ _
  injection hv1 with hv1
  injection hv1 with hv1
  rw [hv1]
  exact ix2 q hq
 have i0:=gat 0 _ hx0 0 dE
 have i1:=gat 0 _ hx0 1 dE
 have i2:=gat 0 _ hx0 2 dE
 have i3:=gat 0 _ hx0 3 dE
 have i4:=gat 0 _ hx0 4 dE
 have i5:=gat 0 _ hx0 5 dE
 have i6:=gat 0 _ hx0 6 dE
 have k0:=gat n _ hzq 0 dE
 have k1:=gat n _ hzq 1 dE
 have k2:=gat n _ hzq 2 dE
 have k3:=gat n _ hzq 3 dE
 have k4:=gat n _ hzq 4 dE
 have k5:=gat n _ hzq 5 dE
 have k6:=gat n _ hzq 6 dE
 have HH2:=hdQ (H2.setAt (k:=0) oQ zq (H2.ok zq (zjy hzq)))
 have HT2:=hdQ (qb5 (.inl (H2.oR g rfl)) (qbp zq) _ (0*7) (TurnF.refl F w2));have HTw:=hdQ ht2;have HZ2:=hdQ hz2;have HX2:=hdQ hx2;have HQ:=hdQ hzq;clear gat H2 ht2 hz2 hx2 hzq;obtain⟨⟨yid,yd,yit,ynd⟩,yn⟩:=zq;simp only [qbp,lcz,lcs,Nat.add_zero,Nat.zero_mul,Nat.zero_add] at i0 i1 i2 i3 i4 i5 i6 k0 k1 k2 k3 k4 k5 k6 HH2 HT2;generalize yd.num/18446744073709551616=y1 at*;generalize yd.num%18446744073709551616=y0 at*;have hnl:(n:Int)<(n:Int)+1:=oQ
 have h0l:(0:Int)<(n:Int)+1:=oQ
 refine qa1 [0,1,2,3,4,5,6,7,8,9,10] [11,12] kr kr pq ?_
 simp only [zdy,zey,ldz,lds,bare,qaj,lcz,lcs,zay,qdx,Option.isNone_none,Bool.and_true,Bool.true_and,Bool.false_and,Bool.and_self]
 repeat((try simp only [Act.put,lsi,lsz,lss]);first|(refine qb0 (v:= ?_) qaa rfl ?_ ?_;rotate_left;focus(intro wq;go_simp;try with_reducible rfl))|(refine qbm (v:= ?_) qaa rfl ?_ ?_;rotate_left;focus(intro wq hq;obtain⟨hcq,hfq⟩:=qbb hq;go_simp;try with_reducible rfl))|(refine qbn qaa rfl (fun K hK=> ?_);go_simp;((first|fail|skip)<;>(refine hK.out _ _ bel ?_;clear hK K))))
 (all_goals try simp only [Act.put,lsi,lsz,lss])
 refine qcl ?_;refine qar (fun K hK=> ?_)
 go_simp
 refine hK.out _ _ ?_;clear hK K
 (try simp only [Act.put,lsi,lsz,lss])
 refine qar (fun K hK=> ?_)
 go_simp
 refine hK.out _ _ ?_;clear hK K
 (try simp only [Act.put,lsi,lsz,lss])
 refine qck ?_;refine qsy (Φ:=fun w=>Exit.then _ _ Exit.normal _ w) (fun w3=>HeapAt w3 F hb (.slice (some ⟨g,0,none⟩) l0.length cc) (l0.set 0 ⟨⟨yid,yd,yit,ynd⟩,yn⟩) c/\TurnF F w2 w3) ⟨HH2.out.drew,HT2.out.drew⟩ ?_
 rintro w3 ⟨H3,ht3⟩;have hl3:(l0.set 0 ((⟨⟨yid,yd,yit,ynd⟩,yn⟩:Pu))).length=l0.length:=zkx
 have HD:Hid (dnS ltPu (n+1) ((l0.set 0 ((⟨⟨yid,yd,yit,ynd⟩,yn⟩:Pu))).take n) 0=P0):=by
  unfold Hid
  rw [<-HP.out]
  unfold popS
  rw [List.getLast?_eq_getElem?,show l0.length-1=n by omega,HQ.out]
  simp only
  rw [List.dropLast_eq_take,hl3,show l0.length-1=n by omega,hlen]
 have hl4:((l0.set 0 ((⟨⟨yid,yd,yit,ynd⟩,yn⟩:Pu))).take n).length=n:=by rw [List.length_take,hl3];omega
 rw [<-hl3] at H3;have HS3:=hdQ (H3.shrink (n:=n) oQ)
 rw [hl3] at H3;have HT3:=hdQ ((ht3.set_ (p:=⟨hb,0,none⟩) (.inl H3.oB) (.slice (some ⟨g,0,none⟩) n cc)));clear c0 c1 lt fz fb glt i0 i1 i2 i3 i4 i5 i6 k0 k1 k2 k3 k4 k5 k6 HH2 HT2 hnl h0l;obtain⟨c0,c1,lt⟩:=H3.cells;have fb:=H3.blk.frozen;have hnc:n<=cc:=oQ
 rw [hlen] at c0;clear H3 ht3 hl3 HP HEL HQ;generalize (l0.set 0 ((⟨⟨yid,yd,yit,ynd⟩,yn⟩:Pu))).take n=h5 at*;go_wp2_with fail
 go_loopw [7] (fun vi wr=>∃(i f:Nat) (hcu:List Pu),vi=.int .i64 i/\i<=n/\n<=f+i/\hcu.length=n/\dnS ltPu f hcu i=P0/\HeapAt wr F hb (.slice (some ⟨g,0,none⟩) n cc) hcu c/\TurnF F w2 wr) (fun vi _=>n-(Go.RowKit.intOf vi).toNat)
 case atStart=>exact ⟨0,n+1,h5,rfl,by omega,by omega,hl4,HD.out,HS3.out,HT3.out⟩
 case round=>
  obtain⟨i,f,hcu,rfl,hin,hnf,hcl,hup,hH,hT⟩:=hrel;clear c0 c1 lt fb HS3 HT3 HD hl4;obtain⟨c0,c1,lt⟩:=hH.cells;have B2:=hT.blk HZ2.out (fun q=>Nat.lt_irrefl _ (HFL.out _ q))
  have B4:=hT.blk HX2.out (fun q=>by have:=HFL.out _ q;omega)
  obtain⟨e0,e1,e2,e3,e4,e5⟩:=ce6 B4;obtain⟨f0,f1,f2,f3,f4,f5⟩:=ce6 B2;have fz2:=B2.frozen;have lt2:=B2.lt;have lt4:=B4.lt;have HT:=hdQ hT;have HH:=hdQ hH;have HB2:=hdQ B2
  by_cases hkn:2*i+1<n
  case neg=>
   have e:hcu=P0:=by
    rw [<-hup]
    cases f with
    | zero=>rfl
    | succ f=>rw [dnS,show kidS ltPu hcu i=none from by unfold kidS;rw [if_neg oQ]]
   rw [e] at HH;clear hH hT B2 B4 hup e;go_wp2_with fail;refine qe5 (fun w9=>HeapAt w9 F hb (.slice (some ⟨g,0,none⟩) n cc) P0 c/\TurnF F w w9/\Blk w9 w.heap.size 103 #[.int .i64 xid,.int .u64 (x1:Int),.int .u64 (x0:Int),.int .u64 (xd.den:Int),.bool xit,.int .i64 (xnd:Int)]) ⟨(HH.out).off (fun q=>Nat.lt_irrefl _ (HFL.out _ q)) [.int .i64 xid,.int .u64 (x1:Int),.int .u64 (x0:Int),.int .u64 (xd.den:Int),.bool xit,.int .i64 (xnd:Int)] 0,qb5 (.inr (zhy _)) [.int .i64 xid,.int .u64 (x1:Int),.int .u64 (x0:Int),.int .u64 (xd.den:Int),.bool xit,.int .i64 (xnd:Int)] _ 0 (HTw.out.trans HT.out (fun _ q=> .inl q)),qer (HB2.out)⟩ ?_
   rintro w9 ⟨H9,ht9,HR⟩;obtain⟨r0,r1,r2,r3,r4,r5⟩:=ce6 HR;exact bodyPost_ret (v:=.tuple #[.agg #[.int .i64 xid,.int .u64 (x1:Int),.int .u64 (x0:Int),.int .u64 (xd.den:Int),.bool xit,.int .i64 (xnd:Int)],.bool true]) (by simp [results,Tryz.results37,go_sem,r0,r1,r2,r3,r4,r5]) rfl ⟨rfl,_,H9,ht9⟩
  obtain⟨f,rfl⟩:∃f',f=f' +1:=⟨f-1,by omega⟩
  obtain⟨k1,hk1⟩:∃k,2*i+1=k:=⟨_,rfl⟩;obtain⟨k2,hk2⟩:∃k,k1+1=k:=⟨_,rfl⟩;obtain⟨z1,hz1⟩:∃z,hcu[k1]? =some z:=⟨hcu[k1]'oQ,zby _⟩
  obtain⟨zi,hzi⟩:∃z,hcu[i]? =some z:=⟨hcu[i]'oQ,zby _⟩
  have HZ1:=hdQ hz1;have HZI:=hdQ hzi;rw [dnS] at hup;have hka:k1<=2*i+1:=oQ
  have hkb:2*i+1<=k1:=oQ
  have hkc:k2<=k1+1:=oQ
  have hkd:k1+1<=k2:=oQ
  have hke:2*(i:Int)+1=(k1:Int):=oQ
  have hkf:(k1:Int)+1=(k2:Int):=oQ
  have hin3:i<n:=oQ
  have hkn3:(k1:Int)<(n:Int):=oQ
  have hkS:kidS ltPu hcu i=some (match hcu[k2]?,some z1 with
   | some y,some x=>if ltPu y x then k2 else k1
   | _,_=>k1):=by
   unfold kidS
   rw [if_pos oQ,show 2*i+2=k2 by omega,show 2*i+1=k1 by omega,hz1]
   cases hcu[k2]? <;>rfl
  have HCL:=hdQ hcl
  by_cases h2:k2<n
  · obtain⟨z2,hz2⟩:∃z,hcu[k2]? =some z:=⟨hcu[k2]'oQ,zby _⟩
    have HZ2_:=hdQ hz2;rw [hz2] at hkS
    simp only at hkS
    have h2i:(k2:Int)<(n:Int):=oQ
    have HLa:=hdQ (fun(W:World) (a b:Int) (hW:Below wr.heap.size wr W) (ha:a=(k2:Int)) (hb2:b=(k1:Int))=>show C9 58 #[.pointer (some ⟨hb,0,none⟩),.int .i64 a,.int .i64 b] W (Ret W (.bool (ltPu z2 z1))) from by
     subst ha hb2
     exact qg1 (HH.out.tr hW) HZ2_.out HZ1.out (by rw [HCL.out];omega))
    clear hH hT B2 B4 hz1 hzi hz2 hcl hk1 hk2 hkn
    cases hb12:ltPu z2 z1 with
    | true=>
      rw [hb12] at HLa hkS;have hk:kidS ltPu hcu i=some k2:=hkS;clear hkS;rw [hk] at hup;simp only [HZI.out,HZ2_.out] at hup
      have HLk:=hdQ (fun(W:World) (a b:Int) (hW:Below wr.heap.size wr W) (ha:a=(k2:Int)) (hb2:b=(i:Int))=>show C9 58 #[.pointer (some ⟨hb,0,none⟩),.int .i64 a,.int .i64 b] W (Ret W (.bool (ltPu z2 zi))) from by
       subst ha hb2
       exact qg1 (HH.out.tr hW) HZ2_.out HZI.out (by rw [HCL.out];omega))
      cases hlt:ltPu z2 zi with
      | false=>
        rw [hlt] at HLk hup;simp only [Bool.false_eq_true,if_false] at hup;rw [hup] at HH;clear hup hk
        go_wp2_with (first|(go_at_call 58;(refine(HLa.out _ _ _ bel (by first|with_reducible rfl|omega) (by first|with_reducible rfl|omega)).monoR ?_);rintro wp hbp hcp hfp hzp;(try simp at hzp);have l2p:=ol1 w wp;have l4p:b4<wp.heap.size:=oQ;have lp:hb<wp.heap.size:=oQ)|(go_at_call 58;(refine(HLk.out _ _ _ bel (by first|with_reducible rfl|omega) (by first|with_reducible rfl|omega)).monoR ?_);rintro wq hbq hcq hfq hzq;(try simp at hzq);have l2q:=ol1 w wq;have l4q:b4<wq.heap.size:=oQ;have lq:hb<wq.heap.size:=oQ))
        refine qe5 (fun w9=>HeapAt w9 F hb (.slice (some ⟨g,0,none⟩) n cc) P0 c/\TurnF F w w9/\Blk w9 w.heap.size 103 #[.int .i64 xid,.int .u64 (x1:Int),.int .u64 (x0:Int),.int .u64 (xd.den:Int),.bool xit,.int .i64 (xnd:Int)]) ⟨(HH.out.tr (show Below wr.heap.size wr wq from bel)).off (fun q=>Nat.lt_irrefl _ (HFL.out _ q)) [.int .i64 xid,.int .u64 (x1:Int),.int .u64 (x0:Int),.int .u64 (xd.den:Int),.bool xit,.int .i64 (xnd:Int)] 0,qb5 (.inr (zhy _)) [.int .i64 xid,.int .u64 (x1:Int),.int .u64 (x0:Int),.int .u64 (xd.den:Int),.bool xit,.int .i64 (xnd:Int)] _ 0 (HTw.out.trans (HT.out.below (show Below wr.heap.size wr wq from bel)) (fun _ q=> .inl q)),qer (HB2.out.tr (show Below wr.heap.size wr wq from bel))⟩ ?_
        rintro w9 ⟨H9,ht9,HR⟩;obtain⟨r0,r1,r2,r3,r4,r5⟩:=ce6 HR;exact bodyPost_ret (v:=.tuple #[.agg #[.int .i64 xid,.int .u64 (x1:Int),.int .u64 (x0:Int),.int .u64 (xd.den:Int),.bool xit,.int .i64 (xnd:Int)],.bool true]) (by simp [results,Tryz.results37,go_sem,r0,r1,r2,r3,r4,r5]) rfl ⟨rfl,_,H9,ht9⟩
      | true=>
        rw [hlt] at HLk hup;simp only [if_true] at hup;have HU:=hdQ hup;clear hup hk
        go_wp2_with (first|(go_at_call 58;(refine(HLa.out _ _ _ bel (by first|with_reducible rfl|omega) (by first|with_reducible rfl|omega)).monoR ?_);rintro wp hbp hcp hfp hzp;(try simp at hzp);have l2p:=ol1 w wp;have l4p:b4<wp.heap.size:=oQ;have lp:hb<wp.heap.size:=oQ)|(go_at_call 58;(refine(HLk.out _ _ _ bel (by first|with_reducible rfl|omega) (by first|with_reducible rfl|omega)).monoR ?_);rintro wq hbq hcq hfq hzq;(try simp at hzq);have l2q:=ol1 w wq;have l4q:b4<wq.heap.size:=oQ;have lq:hb<wq.heap.size:=oQ))
        have H1:=HH.out.tr (show Below wr.heap.size wr wq from bel)
        have HT1:=hdQ (HT.out.below (show Below wr.heap.size wr wq from bel))
        have hll:hcu.length=n:=HCL.out;obtain⟨d0,d1,dlt⟩:=H1.cells
        have gat:∀(k:Nat) (y:Pu),hcu[k]? =some y->∀(q:Nat),q<7->(wq.cell? ⟨g,k*7+q,none⟩=(qbp y)[q]?):=fun k y hk q hq=>by
         obtain⟨g2,_,hv2,_,_,ix2⟩:=H1.at_ hk;injection hv2 with hv1 _ _
         injection hv1 with hv1
         injection hv1 with hv1
         rw [hv1]
         exact ix2 q hq
        have i0:=gat i _ HZI.out 0 dE
        have i1:=gat i _ HZI.out 1 dE
        have i2:=gat i _ HZI.out 2 dE
        have i3:=gat i _ HZI.out 3 dE
        have i4:=gat i _ HZI.out 4 dE
        have i5:=gat i _ HZI.out 5 dE
        have i6:=gat i _ HZI.out 6 dE
        have k0_:=gat k2 _ HZ2_.out 0 dE
        have k1_:=gat k2 _ HZ2_.out 1 dE
        have k2_:=gat k2 _ HZ2_.out 2 dE
        have k3_:=gat k2 _ HZ2_.out 3 dE
        have k4_:=gat k2 _ HZ2_.out 4 dE
        have k5_:=gat k2 _ HZ2_.out 5 dE
        have k6_:=gat k2 _ HZ2_.out 6 dE
        have fz:=H1.fz
        have HH2:=hdQ (show HeapAt (setW (setW wq g (i*7) (qbp z2)) g (k2*7) (qbp zi)) F hb (.slice (some ⟨g,0,none⟩) n cc) (qd3 hcu i k2) c from by
         have:=H1
         rw [<-hll] at this ⊢
         exact this.two HZI.out HZ2_.out)
        have HT2:=hdQ (qb5 (.inl (H1.oR g rfl)) (qbp zi) _ (k2*7) (qb5 (.inl (H1.oR g rfl)) (qbp z2) _ (i*7) HT1.out));have hin2:(i:Int)<(n:Int):=oQ
        have hkn2:(k2:Int)<(n:Int):=oQ
        have glt:g<wq.heap.size:=H1.lim g (H1.oR g rfl);clear gat H1 HH HT HT1 hcq hfq c0 c1 e0 e1 e2 e3 e4 e5 f0 f1 f2 f3 f4 f5 fz2 hll HLk HZI HZ1 HLa HZ2_;obtain⟨⟨iid,⟨idn,idd⟩,iit,ind⟩,inn⟩:=zi;obtain⟨⟨yid,⟨ydn,ydd⟩,yit,ynd⟩,yn⟩:=z2;simp only [qbp,lcz,lcs,Nat.add_zero] at i0 i1 i2 i3 i4 i5 i6 k0_ k1_ k2_ k3_ k4_ k5_ k6_ HH2 HT2;generalize idn/18446744073709551616=z1 at*;generalize idn%18446744073709551616=z0 at*;generalize ydn/18446744073709551616=y1 at*;generalize ydn%18446744073709551616=y0 at*;refine qa1 [0,1,2,3,4,5,6,7,8,9,10,11,12,13,14,15,16,17,18,19,20,21,22,23] [24,25,26,27] kr kr pq ?_
        simp only [zdy,zey,ldz,lds,bare,qaj,lcz,lcs,zay,qdx,Option.isNone_none,Bool.and_true,Bool.true_and,Bool.false_and,Bool.and_self]
        repeat((try simp only [Act.put,lsi,lsz,lss]);first|(refine qb0 (v:= ?_) qaa rfl ?_ ?_;rotate_left;focus(intro wq;go_simp;try with_reducible rfl))|(refine qbm (v:= ?_) qaa rfl ?_ ?_;rotate_left;focus(intro wq hq;obtain⟨hcq,hfq⟩:=qbb hq;go_simp;try with_reducible rfl))|(refine qbn qaa rfl (fun K hK=> ?_);go_simp;((first|fail|skip)<;>(refine hK.out _ _ bel ?_;clear hK K))))
        (all_goals try simp only [Act.put,lsi,lsz,lss])
        refine qcl ?_;refine qar (fun K hK=> ?_)
        go_simp
        refine hK.out _ _ ?_;clear hK K
        (try simp only [Act.put,lsi,lsz,lss])
        refine qar (fun K hK=> ?_)
        go_simp
        refine hK.out _ _ ?_;clear hK K
        (try simp only [Act.put,lsi,lsz,lss])
        refine qar (fun K hK=> ?_)
        go_simp
        refine hK.out _ _ ?_;clear hK K
        (try simp only [Act.put,lsi,lsz,lss])
        refine qar (fun K hK=> ?_)
        go_simp
        refine hK.out _ _ ?_;clear hK K
        (try simp only [Act.put,lsi,lsz,lss])
        refine qck ?_;refine qsy (Φ:=fun w=>Exit.then _ _ Exit.normal _ w) (fun w5=>HeapAt w5 F hb (.slice (some ⟨g,0,none⟩) n cc) (qd3 hcu i k2) c/\TurnF F w2 w5) ⟨HH2.out.drew,HT2.out.drew⟩ ?_
        rintro w5 ⟨H5,ht5⟩;have HH5:=hdQ H5;have HT5:=hdQ ht5;have HS:Hid ((qd3 hcu i k2).length=n):=by unfold Hid;rw [qe3];exact HCL.out
        clear H5 ht5 HH2 HT2 d0 d1 dlt i0 i1 i2 i3 i4 i5 i6 k0_ k1_ k2_ k3_ k4_ k5_ k6_ fz;go_wp2_with fail
        go_roundw
        case rel=>exact ⟨k2,f,qd3 hcu i k2,rfl,by omega,by omega,HS.out,HU.out,HH5.out,HT5.out⟩
        case measure=>simp [Go.RowKit.intOf];omega
    | false=>
      rw [hb12] at HLa hkS;have hk:kidS ltPu hcu i=some k1:=hkS;clear hkS;rw [hk] at hup;simp only [HZI.out,HZ1.out] at hup
      have HLk:=hdQ (fun(W:World) (a b:Int) (hW:Below wr.heap.size wr W) (ha:a=(k1:Int)) (hb2:b=(i:Int))=>show C9 58 #[.pointer (some ⟨hb,0,none⟩),.int .i64 a,.int .i64 b] W (Ret W (.bool (ltPu z1 zi))) from by
       subst ha hb2
       exact qg1 (HH.out.tr hW) HZ1.out HZI.out (by rw [HCL.out];omega))
      cases hlt:ltPu z1 zi with
      | false=>
        rw [hlt] at HLk hup;simp only [Bool.false_eq_true,if_false] at hup;rw [hup] at HH;clear hup hk
        go_wp2_with (first|(go_at_call 58;(refine(HLa.out _ _ _ bel (by first|with_reducible rfl|omega) (by first|with_reducible rfl|omega)).monoR ?_);rintro wp hbp hcp hfp hzp;(try simp at hzp);have l2p:=ol1 w wp;have l4p:b4<wp.heap.size:=oQ;have lp:hb<wp.heap.size:=oQ)|(go_at_call 58;(refine(HLk.out _ _ _ bel (by first|with_reducible rfl|omega) (by first|with_reducible rfl|omega)).monoR ?_);rintro wq hbq hcq hfq hzq;(try simp at hzq);have l2q:=ol1 w wq;have l4q:b4<wq.heap.size:=oQ;have lq:hb<wq.heap.size:=oQ))
        refine qe5 (fun w9=>HeapAt w9 F hb (.slice (some ⟨g,0,none⟩) n cc) P0 c/\TurnF F w w9/\Blk w9 w.heap.size 103 #[.int .i64 xid,.int .u64 (x1:Int),.int .u64 (x0:Int),.int .u64 (xd.den:Int),.bool xit,.int .i64 (xnd:Int)]) ⟨(HH.out.tr (show Below wr.heap.size wr wq from bel)).off (fun q=>Nat.lt_irrefl _ (HFL.out _ q)) [.int .i64 xid,.int .u64 (x1:Int),.int .u64 (x0:Int),.int .u64 (xd.den:Int),.bool xit,.int .i64 (xnd:Int)] 0,qb5 (.inr (zhy _)) [.int .i64 xid,.int .u64 (x1:Int),.int .u64 (x0:Int),.int .u64 (xd.den:Int),.bool xit,.int .i64 (xnd:Int)] _ 0 (HTw.out.trans (HT.out.below (show Below wr.heap.size wr wq from bel)) (fun _ q=> .inl q)),qer (HB2.out.tr (show Below wr.heap.size wr wq from bel))⟩ ?_
        rintro w9 ⟨H9,ht9,HR⟩;obtain⟨r0,r1,r2,r3,r4,r5⟩:=ce6 HR;exact bodyPost_ret (v:=.tuple #[.agg #[.int .i64 xid,.int .u64 (x1:Int),.int .u64 (x0:Int),.int .u64 (xd.den:Int),.bool xit,.int .i64 (xnd:Int)],.bool true]) (by simp [results,Tryz.results37,go_sem,r0,r1,r2,r3,r4,r5]) rfl ⟨rfl,_,H9,ht9⟩
      | true=>
        rw [hlt] at HLk hup;simp only [if_true] at hup;have HU:=hdQ hup;clear hup hk
        go_wp2_with (first|(go_at_call 58;(refine(HLa.out _ _ _ bel (by first|with_reducible rfl|omega) (by first|with_reducible rfl|omega)).monoR ?_);rintro wp hbp hcp hfp hzp;(try simp at hzp);have l2p:=ol1 w wp;have l4p:b4<wp.heap.size:=oQ;have lp:hb<wp.heap.size:=oQ)|(go_at_call 58;(refine(HLk.out _ _ _ bel (by first|with_reducible rfl|omega) (by first|with_reducible rfl|omega)).monoR ?_);rintro wq hbq hcq hfq hzq;(try simp at hzq);have l2q:=ol1 w wq;have l4q:b4<wq.heap.size:=oQ;have lq:hb<wq.heap.size:=oQ))
        have H1:=HH.out.tr (show Below wr.heap.size wr wq from bel)
        have HT1:=hdQ (HT.out.below (show Below wr.heap.size wr wq from bel))
        have hll:hcu.length=n:=HCL.out;obtain⟨d0,d1,dlt⟩:=H1.cells
        have gat:∀(k:Nat) (y:Pu),hcu[k]? =some y->∀(q:Nat),q<7->(wq.cell? ⟨g,k*7+q,none⟩=(qbp y)[q]?):=fun k y hk q hq=>by
         obtain⟨g2,_,hv2,_,_,ix2⟩:=H1.at_ hk;injection hv2 with hv1 _ _
         injection hv1 with hv1
         injection hv1 with hv1
         rw [hv1]
         exact ix2 q hq
        have i0:=gat i _ HZI.out 0 dE
        have i1:=gat i _ HZI.out 1 dE
        have i2:=gat i _ HZI.out 2 dE
        have i3:=gat i _ HZI.out 3 dE
        have i4:=gat i _ HZI.out 4 dE
        have i5:=gat i _ HZI.out 5 dE
        have i6:=gat i _ HZI.out 6 dE
        have k0_:=gat k1 _ HZ1.out 0 dE
        have k1_:=gat k1 _ HZ1.out 1 dE
        have k2_:=gat k1 _ HZ1.out 2 dE
        have k3_:=gat k1 _ HZ1.out 3 dE
        have k4_:=gat k1 _ HZ1.out 4 dE
        have k5_:=gat k1 _ HZ1.out 5 dE
        have k6_:=gat k1 _ HZ1.out 6 dE
        have fz:=H1.fz
        have HH2:=hdQ (show HeapAt (setW (setW wq g (i*7) (qbp z1)) g (k1*7) (qbp zi)) F hb (.slice (some ⟨g,0,none⟩) n cc) (qd3 hcu i k1) c from by
         have:=H1
         rw [<-hll] at this ⊢
         exact this.two HZI.out HZ1.out)
        have HT2:=hdQ (qb5 (.inl (H1.oR g rfl)) (qbp zi) _ (k1*7) (qb5 (.inl (H1.oR g rfl)) (qbp z1) _ (i*7) HT1.out));have hin2:(i:Int)<(n:Int):=oQ
        have hkn2:(k1:Int)<(n:Int):=oQ
        have glt:g<wq.heap.size:=H1.lim g (H1.oR g rfl);clear gat H1 HH HT HT1 hcq hfq c0 c1 e0 e1 e2 e3 e4 e5 f0 f1 f2 f3 f4 f5 fz2 hll HLk HZI HZ1 HLa HZ2_;obtain⟨⟨iid,⟨idn,idd⟩,iit,ind⟩,inn⟩:=zi;obtain⟨⟨yid,⟨ydn,ydd⟩,yit,ynd⟩,yn⟩:=z1;simp only [qbp,lcz,lcs,Nat.add_zero] at i0 i1 i2 i3 i4 i5 i6 k0_ k1_ k2_ k3_ k4_ k5_ k6_ HH2 HT2;generalize idn/18446744073709551616=z1 at*;generalize idn%18446744073709551616=z0 at*;generalize ydn/18446744073709551616=y1 at*;generalize ydn%18446744073709551616=y0 at*;refine qa1 [0,1,2,3,4,5,6,7,8,9,10,11,12,13,14,15,16,17,18,19,20,21,22,23] [24,25,26,27] kr kr pq ?_
        simp only [zdy,zey,ldz,lds,bare,qaj,lcz,lcs,zay,qdx,Option.isNone_none,Bool.and_true,Bool.true_and,Bool.false_and,Bool.and_self]
        repeat((try simp only [Act.put,lsi,lsz,lss]);first|(refine qb0 (v:= ?_) qaa rfl ?_ ?_;rotate_left;focus(intro wq;go_simp;try with_reducible rfl))|(refine qbm (v:= ?_) qaa rfl ?_ ?_;rotate_left;focus(intro wq hq;obtain⟨hcq,hfq⟩:=qbb hq;go_simp;try with_reducible rfl))|(refine qbn qaa rfl (fun K hK=> ?_);go_simp;((first|fail|skip)<;>(refine hK.out _ _ bel ?_;clear hK K))))
        (all_goals try simp only [Act.put,lsi,lsz,lss])
        refine qcl ?_;refine qar (fun K hK=> ?_)
        go_simp
        refine hK.out _ _ ?_;clear hK K
        (try simp only [Act.put,lsi,lsz,lss])
        refine qar (fun K hK=> ?_)
        go_simp
        refine hK.out _ _ ?_;clear hK K
        (try simp only [Act.put,lsi,lsz,lss])
        refine qar (fun K hK=> ?_)
        go_simp
        refine hK.out _ _ ?_;clear hK K
        (try simp only [Act.put,lsi,lsz,lss])
        refine qar (fun K hK=> ?_)
        go_simp
        refine hK.out _ _ ?_;clear hK K
        (try simp only [Act.put,lsi,lsz,lss])
        refine qck ?_;refine qsy (Φ:=fun w=>Exit.then _ _ Exit.normal _ w) (fun w5=>HeapAt w5 F hb (.slice (some ⟨g,0,none⟩) n cc) (qd3 hcu i k1) c/\TurnF F w2 w5) ⟨HH2.out.drew,HT2.out.drew⟩ ?_
        rintro w5 ⟨H5,ht5⟩;have HH5:=hdQ H5;have HT5:=hdQ ht5;have HS:Hid ((qd3 hcu i k1).length=n):=by unfold Hid;rw [qe3];exact HCL.out
        clear H5 ht5 HH2 HT2 d0 d1 dlt i0 i1 i2 i3 i4 i5 i6 k0_ k1_ k2_ k3_ k4_ k5_ k6_ fz;go_wp2_with fail
        go_roundw
        case rel=>exact ⟨k1,f,qd3 hcu i k1,rfl,by omega,by omega,HS.out,HU.out,HH5.out,HT5.out⟩
        case measure=>simp [Go.RowKit.intOf];omega
  · have h2i:¬ ((k2:Int)<(n:Int)):=oQ
    rw [zoy (show hcu.length<=k2 by omega)] at hkS
    have hk:kidS ltPu hcu i=some k1:=hkS;clear hH hT B2 B4 hz1 hzi hcl hk1 hk2 hkn hkS;rw [hk] at hup;simp only [HZI.out,HZ1.out] at hup
    have HLk:=hdQ (fun(W:World) (a b:Int) (hW:Below wr.heap.size wr W) (ha:a=(k1:Int)) (hb2:b=(i:Int))=>show C9 58 #[.pointer (some ⟨hb,0,none⟩),.int .i64 a,.int .i64 b] W (Ret W (.bool (ltPu z1 zi))) from by
     subst ha hb2
     exact qg1 (HH.out.tr hW) HZ1.out HZI.out (by rw [HCL.out];omega))
    cases hlt:ltPu z1 zi with
    | false=>
      rw [hlt] at HLk hup;simp only [Bool.false_eq_true,if_false] at hup;rw [hup] at HH;clear hup hk
      go_wp2_with (go_at_call 58;(refine(HLk.out _ _ _ bel (by first|with_reducible rfl|omega) (by first|with_reducible rfl|omega)).monoR ?_);rintro wq hbq hcq hfq hzq;(try simp at hzq);have l2q:=ol1 w wq;have l4q:b4<wq.heap.size:=oQ;have lq:hb<wq.heap.size:=oQ)
      refine qe5 (fun w9=>HeapAt w9 F hb (.slice (some ⟨g,0,none⟩) n cc) P0 c/\TurnF F w w9/\Blk w9 w.heap.size 103 #[.int .i64 xid,.int .u64 (x1:Int),.int .u64 (x0:Int),.int .u64 (xd.den:Int),.bool xit,.int .i64 (xnd:Int)]) ⟨(HH.out.tr (show Below wr.heap.size wr wq from bel)).off (fun q=>Nat.lt_irrefl _ (HFL.out _ q)) [.int .i64 xid,.int .u64 (x1:Int),.int .u64 (x0:Int),.int .u64 (xd.den:Int),.bool xit,.int .i64 (xnd:Int)] 0,qb5 (.inr (zhy _)) [.int .i64 xid,.int .u64 (x1:Int),.int .u64 (x0:Int),.int .u64 (xd.den:Int),.bool xit,.int .i64 (xnd:Int)] _ 0 (HTw.out.trans (HT.out.below (show Below wr.heap.size wr wq from bel)) (fun _ q=> .inl q)),qer (HB2.out.tr (show Below wr.heap.size wr wq from bel))⟩ ?_
      rintro w9 ⟨H9,ht9,HR⟩;obtain⟨r0,r1,r2,r3,r4,r5⟩:=ce6 HR;exact bodyPost_ret (v:=.tuple #[.agg #[.int .i64 xid,.int .u64 (x1:Int),.int .u64 (x0:Int),.int .u64 (xd.den:Int),.bool xit,.int .i64 (xnd:Int)],.bool true]) (by simp [results,Tryz.results37,go_sem,r0,r1,r2,r3,r4,r5]) rfl ⟨rfl,_,H9,ht9⟩
    | true=>
      rw [hlt] at HLk hup;simp only [if_true] at hup;have HU:=hdQ hup;clear hup hk
      go_wp2_with (go_at_call 58;(refine(HLk.out _ _ _ bel (by first|with_reducible rfl|omega) (by first|with_reducible rfl|omega)).monoR ?_);rintro wq hbq hcq hfq hzq;(try simp at hzq);have l2q:=ol1 w wq;have l4q:b4<wq.heap.size:=oQ;have lq:hb<wq.heap.size:=oQ)
      have H1:=HH.out.tr (show Below wr.heap.size wr wq from bel)
      have HT1:=hdQ (HT.out.below (show Below wr.heap.size wr wq from bel))
      have hll:hcu.length=n:=HCL.out;obtain⟨d0,d1,dlt⟩:=H1.cells
      have gat:∀(k:Nat) (y:Pu),hcu[k]? =some y->∀(q:Nat),q<7->(wq.cell? ⟨g,k*7+q,none⟩=(qbp y)[q]?):=fun k y hk q hq=>by
       obtain⟨g2,_,hv2,_,_,ix2⟩:=H1.at_ hk;injection hv2 with hv1 _ _
       injection hv1 with hv1
       injection hv1 with hv1
       rw [hv1]
       exact ix2 q hq
      have i0:=gat i _ HZI.out 0 dE
      have i1:=gat i _ HZI.out 1 dE
      have i2:=gat i _ HZI.out 2 dE
      have i3:=gat i _ HZI.out 3 dE
      have i4:=gat i _ HZI.out 4 dE
      have i5:=gat i _ HZI.out 5 dE
      have i6:=gat i _ HZI.out 6 dE
      have k0_:=gat k1 _ HZ1.out 0 dE
      have k1_:=gat k1 _ HZ1.out 1 dE
      have k2_:=gat k1 _ HZ1.out 2 dE
      have k3_:=gat k1 _ HZ1.out 3 dE
      have k4_:=gat k1 _ HZ1.out 4 dE
      have k5_:=gat k1 _ HZ1.out 5 dE
      have k6_:=gat k1 _ HZ1.out 6 dE
      have fz:=H1.fz
      have HH2:=hdQ (show HeapAt (setW (setW wq g (i*7) (qbp z1)) g (k1*7) (qbp zi)) F hb (.slice (some ⟨g,0,none⟩) n cc) (qd3 hcu i k1) c from by
       have:=H1
       rw [<-hll] at this ⊢
       exact this.two HZI.out HZ1.out)
      have HT2:=hdQ (qb5 (.inl (H1.oR g rfl)) (qbp zi) _ (k1*7) (qb5 (.inl (H1.oR g rfl)) (qbp z1) _ (i*7) HT1.out));have hin2:(i:Int)<(n:Int):=oQ
      have hkn2:(k1:Int)<(n:Int):=oQ
      have glt:g<wq.heap.size:=H1.lim g (H1.oR g rfl);clear gat H1 HH HT HT1 hcq hfq c0 c1 e0 e1 e2 e3 e4 e5 f0 f1 f2 f3 f4 f5 fz2 hll HLk HZI HZ1;obtain⟨⟨iid,⟨idn,idd⟩,iit,ind⟩,inn⟩:=zi;obtain⟨⟨yid,⟨ydn,ydd⟩,yit,ynd⟩,yn⟩:=z1;simp only [qbp,lcz,lcs,Nat.add_zero] at i0 i1 i2 i3 i4 i5 i6 k0_ k1_ k2_ k3_ k4_ k5_ k6_ HH2 HT2;generalize idn/18446744073709551616=z1 at*;generalize idn%18446744073709551616=z0 at*;generalize ydn/18446744073709551616=y1 at*;generalize ydn%18446744073709551616=y0 at*;refine qa1 [0,1,2,3,4,5,6,7,8,9,10,11,12,13,14,15,16,17,18,19,20,21,22,23] [24,25,26,27] kr kr pq ?_
      simp only [zdy,zey,ldz,lds,bare,qaj,lcz,lcs,zay,qdx,Option.isNone_none,Bool.and_true,Bool.true_and,Bool.false_and,Bool.and_self]
      repeat((try simp only [Act.put,lsi,lsz,lss]);first|(refine qb0 (v:= ?_) qaa rfl ?_ ?_;rotate_left;focus(intro wq;go_simp;try with_reducible rfl))|(refine qbm (v:= ?_) qaa rfl ?_ ?_;rotate_left;focus(intro wq hq;obtain⟨hcq,hfq⟩:=qbb hq;go_simp;try with_reducible rfl))|(refine qbn qaa rfl (fun K hK=> ?_);go_simp;((first|fail|skip)<;>(refine hK.out _ _ bel ?_;clear hK K))))
      (all_goals try simp only [Act.put,lsi,lsz,lss])
      refine qcl ?_;refine qar (fun K hK=> ?_)
      go_simp
      refine hK.out _ _ ?_;clear hK K
      (try simp only [Act.put,lsi,lsz,lss])
      refine qar (fun K hK=> ?_)
      go_simp
      refine hK.out _ _ ?_;clear hK K
      (try simp only [Act.put,lsi,lsz,lss])
      refine qar (fun K hK=> ?_)
      go_simp
      refine hK.out _ _ ?_;clear hK K
      (try simp only [Act.put,lsi,lsz,lss])
      refine qar (fun K hK=> ?_)
      go_simp
      refine hK.out _ _ ?_;clear hK K
      (try simp only [Act.put,lsi,lsz,lss])
      refine qck ?_;refine qsy (Φ:=fun w=>Exit.then _ _ Exit.normal _ w) (fun w5=>HeapAt w5 F hb (.slice (some ⟨g,0,none⟩) n cc) (qd3 hcu i k1) c/\TurnF F w2 w5) ⟨HH2.out.drew,HT2.out.drew⟩ ?_
      rintro w5 ⟨H5,ht5⟩;have HH5:=hdQ H5;have HT5:=hdQ ht5;have HS:Hid ((qd3 hcu i k1).length=n):=by unfold Hid;rw [qe3];exact HCL.out
      clear H5 ht5 HH2 HT2 d0 d1 dlt i0 i1 i2 i3 i4 i5 i6 k0_ k1_ k2_ k3_ k4_ k5_ k6_ fz;go_wp2_with fail
      go_roundw
      case rel=>exact ⟨k1,f,qd3 hcu i k1,rfl,by omega,by omega,HS.out,HU.out,HH5.out,HT5.out⟩
      case measure=>simp [Go.RowKit.intOf];omega
end
end Go.Proofs.YtfnhnjbkkggbeaaGreat
