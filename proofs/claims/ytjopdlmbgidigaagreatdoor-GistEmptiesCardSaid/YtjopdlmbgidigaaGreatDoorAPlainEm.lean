/-pergolaalike.Shape: objects that may be.-/
import Derived.Test.YtjopdlmbgidigaaGreatDoorABldA
set_option linter.unusedVariables false
set_option linter.unusedSimpArgs false
set_option maxHeartbeats 4000000
set_option maxRecDepth 20000
namespace Go.Proofs.YtjopdlmbgidigaaGreatDoor
open Go.RowKit Pg
theorem qhl {P:Program} {f:Func} {Q:Ending->World->Prop} {x:Exit} {a:Act} {w:World} (R:World->Prop) (h:R w) (k:∀w2,R w2->bodyPost P f Q x a w2):bodyPost P f Q x a w:=k w h
theorem qio {W:World} {g:Nat} {t:TypeId} {x y a b:Value} (h:Blk W g t #[x,y]):Blk ((W.setCell ⟨g,0,none⟩ a).setCell ⟨g,1,none⟩ b) g t #[a,b]:=((h.set_ 0 a).set_ 1 b).eq_ sI
end Go.Proofs.YtjopdlmbgidigaaGreatDoor
namespace Pg
def qpx (d X Y N:Nat):Ob:=match d with
 | 0=>⟨1,[⟨X,Y⟩]⟩
 | 1=>⟨2,[⟨X,X+(1+N)⟩]⟩
 | 2=>⟨3,[⟨X,Y⟩,⟨X+(1+N),Y+(1+N)⟩]⟩
 | _=>⟨4,[⟨X,Y⟩,⟨X+3*(1+N),Y⟩,⟨X+3*(1+N),Y+3*(1+N)⟩,⟨X+2*(1+N),Y+(1+N)⟩]⟩
end Pg
namespace Go.Proofs.YtjopdlmbgidigaaGreatDoor
open Go Go.RowKit Pg
def qpw (k x y n:Int):Ob:=qpx (qfj k 4) (qfj x 1000) (qfj y 1000) (qfj n 50)
theorem qhk {w:World} {g m:Nat} {l:List Pt} (h:Blk w g 56 (qbq l).toArray) (hm:l.length=m):qan w w.heap.size (some ⟨g,0,none⟩) m l:=by
 refine⟨hm,fun _=>⟨g,0,rfl,h.lt,fun k p hp=> ?_⟩⟩
 have h0:=h.cell (k*2);have h1:=h.cell (k*2+1);rw [lta] at h0 h1;rw [(qfz l k p hp).1] at h0;rw [(qfz l k p hp).2] at h1;exact⟨by simpa using h0,by simpa using h1⟩
theorem qvq (k x y n:Int) (w:World):C9 17 #[.int .i64 k,.int .i64 x,.int .i64 y,.int .i64 n] w fun e w' =>∃g m,e=.returned (obV (qpw k x y n).kind (some ⟨g,0,none⟩) m m)/\qan w' w'.heap.size (some ⟨g,0,none⟩) m (qpw k x y n).pts/\m<=4/\Below w.heap.size w w' :=by
 have R1:=hdQ (fun W=>qir x 1000 dE dE W)
 have R2:=hdQ (fun W=>qir y 1000 dE dE W)
 have R3:=hdQ (fun W=>qir n 50 dE dE W)
 have R4:=hdQ (fun W=>qir k 4 dE dE W)
 have l1:=qgv (k:=x) (n:=1000) dE
 have l2:=qgv (k:=y) (n:=1000) dE
 have l3:=qgv (k:=n) (n:=50) dE
 have l4:=qgv (k:=k) (n:=4) dE
 unfold qpw;generalize qfj x 1000=X at*;generalize qfj y 1000=Y at*;generalize qfj n 50=N at*;generalize qfj k 4=d at*
 simp only [show ((1000:Nat):Int)=1000 from rfl,show ((50:Nat):Int)=50 from rfl,show ((4:Nat):Int)=4 from rfl] at*
 obtain rfl|rfl|rfl|rfl:d=0\/d=1\/d=2\/d=3:=oQ
 all_goals
  go_enter Tryz.func17,Tryz.ntmps17
  go_wp2_with (first|(go_at_call 40;(with_reducible refine(R1.out _).monoR ?_);rintro wa hba hca hfa hza;(try simp at hza);have hya0:=ol1 w wa)|(go_at_call 40;(with_reducible refine(R2.out _).monoR ?_);rintro wb hbb hcb hfb hzb;(try simp at hzb);have hyb0:=ol1 w wb)|(go_at_call 40;(with_reducible refine(R3.out _).monoR ?_);rintro wc hbc hcc hfc hzc;(try simp at hzc);have hyc0:=ol1 w wc)|(go_at_call 40;(with_reducible refine(R4.out _).monoR ?_);rintro wd hbd hcd hfd hzd;(try simp at hzd);have hyd0:=ol1 w wd))
  have hB0:Blk wd w.heap.size 25 #[.int .i64 0,.slice none 0 0]:=blkA;have hbW:Below w.heap.size w wd:=bel;clear hba hbb hbc hca hcb hcc hfa hfb hfc
 · refine qhl (fun w2=>Blk w2 w.heap.size 25 #[.int .i64 1,.slice (some ⟨wd.heap.size,0,none⟩) 1 1]/\qan w2 w2.heap.size (some ⟨wd.heap.size,0,none⟩) 1 (qpx 0 X Y N).pts/\Below w.heap.size w w2) ⟨(qio (x:=.int .i64 0) (y:=.slice none 0 0) hB0).alloc _,qhk (Blk.new sI rfl) rfl,bel⟩ ?_
   rintro w2 ⟨HR,HP,hb2⟩;obtain⟨r0,r1⟩:=ce2 HR;exact bodyPost_ret (v:=.agg #[.int .i64 1,.slice (some ⟨wd.heap.size,0,none⟩) 1 1]) (by simp [results,Tryz.results17,go_sem,r0,r1]) rfl ⟨_,1,rfl,HP,by decide,hb2⟩
 · refine qhl (fun w2=>Blk w2 w.heap.size 25 #[.int .i64 2,.slice (some ⟨wd.heap.size,0,none⟩) 1 1]/\qan w2 w2.heap.size (some ⟨wd.heap.size,0,none⟩) 1 (qpx 1 X Y N).pts/\Below w.heap.size w w2) ⟨(qio (x:=.int .i64 0) (y:=.slice none 0 0) hB0).alloc _,qhk (Blk.new sI rfl) rfl,bel⟩ ?_
   rintro w2 ⟨HR,HP,hb2⟩;obtain⟨r0,r1⟩:=ce2 HR;exact bodyPost_ret (v:=.agg #[.int .i64 2,.slice (some ⟨wd.heap.size,0,none⟩) 1 1]) (by simp [results,Tryz.results17,go_sem,r0,r1]) rfl ⟨_,1,rfl,HP,by decide,hb2⟩
 · refine qhl (fun w2=>Blk w2 w.heap.size 25 #[.int .i64 3,.slice (some ⟨wd.heap.size,0,none⟩) 2 2]/\qan w2 w2.heap.size (some ⟨wd.heap.size,0,none⟩) 2 (qpx 2 X Y N).pts/\Below w.heap.size w w2) ⟨(qio (x:=.int .i64 0) (y:=.slice none 0 0) hB0).alloc _,qhk (Blk.new sI rfl) rfl,bel⟩ ?_
   rintro w2 ⟨HR,HP,hb2⟩;obtain⟨r0,r1⟩:=ce2 HR;exact bodyPost_ret (v:=.agg #[.int .i64 3,.slice (some ⟨wd.heap.size,0,none⟩) 2 2]) (by simp [results,Tryz.results17,go_sem,r0,r1]) rfl ⟨_,2,rfl,HP,by decide,hb2⟩
 · refine qhl (fun w2=>Blk w2 w.heap.size 25 #[.int .i64 4,.slice (some ⟨wd.heap.size,0,none⟩) 4 4]/\qan w2 w2.heap.size (some ⟨wd.heap.size,0,none⟩) 4 (qpx 3 X Y N).pts/\Below w.heap.size w w2) ⟨(qio (x:=.int .i64 0) (y:=.slice none 0 0) hB0).alloc _,qhk (Blk.new sI rfl) rfl,bel⟩ ?_
   rintro w2 ⟨HR,HP,hb2⟩;obtain⟨r0,r1⟩:=ce2 HR;exact bodyPost_ret (v:=.agg #[.int .i64 4,.slice (some ⟨wd.heap.size,0,none⟩) 4 4]) (by simp [results,Tryz.results17,go_sem,r0,r1]) rfl ⟨_,4,rfl,HP,by decide,hb2⟩
end Go.Proofs.YtjopdlmbgidigaaGreatDoor
namespace Pg
open Go Go.RowKit
section
variable {α:Type}
theorem qq1 {id:Int} {v:α}:∀{m:List (Int×α)},qb5 m->getK id m=some v->(delK id m).length+1=m.length
 | [],_,h=>by cases h
 | p::r,hr,h=>by
   obtain⟨h1,h2⟩:=List.pairwise_cons.1 hr;rw [qef] at h
   by_cases e:p.1=id
   · have:delK id (p::r)=r:=by
      unfold delK
      rw [List.filter_cons,if_neg (by simp [e]),List.filter_eq_self]
      intro q hq;have:=h1 q hq
      simp
      omega
     rw [this,zax]
   · rw [if_neg e] at h
     have:=qq1 h2 h
     have e2:delK id (p::r)=p::delK id r:=by
      unfold delK
      rw [List.filter_cons,if_pos (by simp [e])]
     rw [e2,zax,zax]
     omega
theorem q5s {id:Int} {v:α} {m:List (Int×α)} (hr:qb5 m) (h:getK id m=none):delK id (putK id v m)=m:=by
 refine q5k ((hr.put id v).del id) hr fun i=> ?_
 rw [qg8 (hr.put id v),get_put hr]
 by_cases e:i=id
 · rw [if_pos e,e,h]
 · rw [if_neg e,if_neg e]
theorem qqo {id:Int} {v:α}:∀{m:List (Int×α)},(∀p∈m,p.1<id)->insK id v m=m++ [(id,v)]
 | [],_=>rfl
 | p::r,h=>by
   have h1:=h p sI
   unfold insK
   rw [if_neg oQ,qqo fun q hq=>h q (by simp [hq])]
   rfl
theorem q18 {id:Int} {v:α} {m:List (Int×α)} (h:∀p∈m,p.1<id):putK id v m=m++ [(id,v)]:=by
 unfold putK
 have:delK id m=m:=by
  unfold delK
  rw [List.filter_eq_self]
  intro q hq;have:=h q hq
  simp
  omega
 rw [this,qqo h]
end
end Pg
namespace Go.Proofs.YtjopdlmbgidigaaGreatDoor
open Go Go.RowKit Pg
def shpE (j:Nat):Ob:=qpw (j:Int) ((37*j:Nat):Int) ((91*j:Nat):Int) (j:Int)
def qgi (n:Nat):List (Int×Ob):=(List.range n).map fun j:Nat=>((j:Int),shpE j)
theorem qvp:(List.range 150).all (fun j=>decide (ckOb (shpE j)=0))=true:=by decide+kernel
theorem q4n {j:Nat} (h:j<150):ckOb (shpE j)=0:=of_decide_eq_true (List.all_eq_true.1 qvp j (List.mem_range.2 h))
theorem ql3 {n:Nat} {p:Int×Ob} (h:p∈qgi n):∃j,j<n/\p.1=(j:Int):=by
 obtain⟨j,hj,rfl⟩:=zty.1 h;exact⟨j,List.mem_range.1 hj,rfl⟩
theorem qqs (n:Nat):(qgi n).length=n:=by unfold qgi;rw [zyy,List.length_range]
theorem qwn (n:Nat):putK (n:Int) (shpE n) (qgi n)=qgi (n+1):=by
 rw [q18 fun p hp=>by obtain⟨j,hj,e⟩:=ql3 hp;omega]
 unfold qgi
 rw [List.range_succ,zfx]
 rfl
theorem qzy {n:Nat} (h:n<150):insO (clsC 3 0 false 0) (qgi n) (n:Int) (shpE n)=0:=by
 have hg:getK (n:Int) (qgi n)=none:=qee.2 fun p hp=>by obtain⟨j,hj,e⟩:=ql3 hp;omega
 have hc:=q4n h;unfold insO
 rw [if_neg oQ,if_neg oQ,if_neg (by show ¬ ckOb (shpE n)≠0;omega),hg]
 rfl
structure EmpS (I:List (Int×Ob)) (s:Nat->Bool) (n:Nat):Prop where
 rise:qb5 I
 mem:∀p∈I,∃j,j<n/\p.1=(j:Int)
 got:∀j,j<n->(getK (j:Int) I).isSome= !s j
theorem qnu (n:Nat):qb5 (qgi n):=by
 unfold qgi qb5
 rw [List.pairwise_map]
 exact List.pairwise_lt_range.imp fun h=>by simpa using h
theorem EmpS.start (n:Nat):EmpS (qgi n) (fun _=>false) n where
 rise:=qnu n
 mem p hp:=ql3 hp
 got j hj:=by
  rw [qfl (qnu n) (v:=shpE j) (zty.2 ⟨j,List.mem_range.2 hj,rfl⟩)]
  rfl
theorem EmpS.step {I:List (Int×Ob)} {s:Nat->Bool} {n a:Nat} (h:EmpS I s n) (ha:a<n) (hs:s a=false):EmpS (delK (a:Int) I) (fun j=>s j||decide (j=a)) n/\(delK (a:Int) I).length+1=I.length:=by
 obtain⟨v,hv⟩:=Option.isSome_iff_exists.1 (show (getK (a:Int) I).isSome=true by rw [h.got a ha,hs];rfl)
 refine⟨⟨h.rise.del _,fun p hp=>h.mem p (qhn.1 hp).1,fun j hj=> ?_⟩,qq1 h.rise hv⟩
 rw [qg8 h.rise]
 by_cases e:j=a
 · subst e
   simp
 · rw [if_neg oQ,h.got j hj]
   simp [e]
theorem EmpS.free {I:List (Int×Ob)} {s:Nat->Bool} {n:Nat} (h:EmpS I s n) (hl:0<I.length):∃f,f<n/\s f=false:=by
 obtain⟨p,r,rfl⟩:∃p r,I=p::r:=by
  cases I with
  | nil=>cases hl
  | cons p r=>exact ⟨p,r,rfl⟩
 obtain⟨j,hj,e⟩:=h.mem p sI
 refine⟨j,hj,?_⟩;have:=h.got j hj;rw [qef,if_pos e] at this
 simpa using this
def wayE (n f a:Nat):Nat:=(f+n-a)%n
theorem qxq {n f a:Nat} (hf:f<n) (ha:a<n) (hne:a≠f):wayE n f ((a+1)%n)<wayE n f a:=by
 unfold wayE
 by_cases h:a+1=n
 · subst h
   rw [Nat.mod_self,show f+(a+1)-0=f+(a+1) by omega,Nat.add_mod_right,zzy hf,show f+(a+1)-a=f+1 by omega,zzy oQ]
   omega
 · rw [zzy (show a+1<n by omega)]
   by_cases hlt:a<f
   · rw [show f+n-(a+1)=(f-a-1)+n by omega,Nat.add_mod_right,zzy oQ,show f+n-a=(f-a)+n by omega,Nat.add_mod_right,zzy oQ]
     omega
   · rw [zzy oQ,zzy oQ]
     omega
end Go.Proofs.YtjopdlmbgidigaaGreatDoor
