/-pergolaalike.Items and Round-/
import Derived.Test.YteodamnfgcnmmaaGreatDoorTMadS
import Derived.Test.YteodamnfgcnmmaaGreatDoorTScaB
set_option linter.unusedVariables false
set_option linter.unusedSimpArgs false
set_option maxHeartbeats 4000000
set_option maxRecDepth 20000
namespace Go.Proofs.YteodamnfgcnmmaaGreatDoor
open Go Go.RowKit Pg
theorem qzh (B n c top:Nat) (A:Option Addr) (L:List (Int×Ob)) (w:World) (hl:qfq w B A n L) (hB:B<=w.heap.size) (hn:n<=1000000) (ht:top<1099511627776):
 C9 16 #[.slice A n c,.int .i64 top] w fun e w' =>∃t:Nat,e=.returned (.int .i64 t)/\(t<=top->∀p∈L,p.2.pts.length<=top)/\Below w.heap.size w w' :=by
 have hLn:=hl.1;have HL:=hdQ hl;clear hl
 go_enter Tryz.func16,Tryz.ntmps16
 go_wp2_with (go_at_call 40;(with_reducible refine(q01 _ n 3 _ ?_).mono ?_);(focus exact blkA);rintro e w1 ⟨rfl,rfl⟩)
 go_loopw [5,6] (fun vn vi wr=>∃k m:Nat,k<=n/\vi=.int .i64 k/\vn=.int .i64 m/\m<=1099511627776/\(m<=top->∀l∈L.take k,l.2.pts.length<=top)/\Below w.heap.size w wr) (fun _ vi _=>n-(Go.RowKit.intOf vi).toNat)
 case atStart=>exact ⟨0,_,by omega,rfl,rfl,(qrk _ _ dE).2,fun _ l hl=>by simp at hl,bel⟩
 case round=>
  obtain⟨k,m,hk,rfl,rfl,hm,hs,hb⟩:=hrel
  by_cases hlt:k<n
  · have hk1:(k:Int)<(n:Int):=oQ
    by_cases hmt:m<=top
    · have hmt1:(m:Int)<=(top:Int):=oQ
      obtain⟨b,off,p,A',n',c',rfl,hab,hx,q0,q1,q2,hpt⟩:=(HL.out.below (hb.mono hB)).at_ hlt;have hbw:b<wr.heap.size:=by have:=hb.size;omega
      have hS:=hdQ (And.intro (hs hmt) (And.intro hx hpt.1));have hM:=hdQ hm;obtain⟨m',hm'⟩:∃m',sumS m [n']=m' :=⟨_,rfl⟩;have HM' :=hdQ hm';have HSS:=hdQ (fun g t w hg=>qxu g m n' t w hg hm)
      rw [hm'] at HSS;clear hs hm hm' hpt hx
      go_wp2_with (go_at_call 40;(with_reducible refine(HSS.out _ 3 _ ?_).mono ?_);(focus exact blkA);rintro e w1 ⟨rfl,rfl⟩)
      go_roundw
      case rel=>
       refine⟨k+1,m',by omega,by go_num,rfl,by rw [<-HM'.out];exact(qrk _ _ hM.out).2,fun h l hl=> ?_,bel⟩
       obtain⟨h1,h2,h3⟩:=hS.out;rw [zwy,h2] at hl
       rcases List.mem_append.1 hl with hl|hl
       · exact h1 l hl
       · simp at hl
         subst hl;have:=qmy [n'] m hM.out (by rw [HM'.out];omega)
         rw [HM'.out] at this
         simp at this
         omega
      case measure=>simp [Go.RowKit.intOf];omega
    · have hmt1:¬ (m:Int)<=(top:Int):=oQ
      clear hs;go_wp2_with fail;go_ret;exact⟨m,rfl,fun h=>absurd h hmt,hb⟩
  · obtain rfl:n=k:=oQ
    rw [zmy oQ] at hs
    have HS:=hdQ hs;clear hs;go_wp2_with fail;go_ret;exact⟨m,rfl,HS.out,hb⟩
theorem qpk (B n c:Nat) (A:Option Addr) (L:List (Int×Ob)) (w:World) (hl:qfq w B A n L) (hB:B<=w.heap.size) (hn:n<=9223372036854775807):
 C9 5 #[.slice A n c] w fun e w' =>∃s:Bool,e=.returned (.bool s)/\(s=true->n<=80/\∀p∈L,p.2.pts.length<=1000)/\Below w.heap.size w w' :=by
 have HL:=hdQ hl;clear hl
 by_cases h80:n<=80
 · have h1:(n:Int)<=80:=oQ
   have HI:=hdQ (fun W (hW:Below w.heap.size w W)=>qzh B n c 1000 A L W (HL.out.below (hW.mono hB)) (zcy hB hW.size) oQ dE)
   go_enter Tryz.func5,Tryz.ntmps5
   go_wp2_with (go_at_call 16;(refine(HI.out _ bel).mono ?_);rintro e w1 ⟨t,rfl,hs,hb1⟩;have HS:=hdQ hs;clear hs;obtain⟨hc1,hf1,hz1⟩:=bc3 hb1;(try simp at hz1))
   go_ret;refine⟨_,rfl,fun h=>⟨h80,?_⟩,bel⟩
   have:t<=1000:=by simp at h;omega
   exact HS.out this
 · have h1:¬ (n:Int)<=80:=oQ
   go_enter Tryz.func5,Tryz.ntmps5
   go_wp2;go_ret;refine⟨rfl,?_⟩;exact bel
theorem q4o {w:World} {Z:Nat->Prop} {A:Option Addr} {S:List Nr} (h:qb4 w Z A (nrVs S)) {k:Nat} {x:Nr} (hx:S[k]? =some x):∃b off,A=some ⟨b,off,none⟩/\b<w.heap.size/\w.cell? ⟨b,off+k*4,none⟩=some (.int .i64 x.1)/\w.cell? ⟨b,off+k*4+1,none⟩=some (.int .u64 ((x.2.num/18446744073709551616:Nat):Int))/\w.cell? ⟨b,off+k*4+2,none⟩=some (.int .u64 ((x.2.num%18446744073709551616:Nat):Int))/\w.cell? ⟨b,off+k*4+3,none⟩=some (.int .u64 (x.2.den:Int)):=by
 have hk:k<S.length:=(zsy.1 hx).1;obtain⟨b,off,e,_,hb,hc⟩:=h (by rw [qdw];omega)
 have hd:(nrVs S).drop (k*4)=nrV x++nrVs (S.drop (k+1)):=by
  rw [qll,zgx hk]
  have:S[k]=x:=by rw [zby hk] at hx;exact zjx hx
  rw [this]
  rfl
 have hg:∀j u,(nrV x)[j]? =some u->w.cell? ⟨b,off+k*4+j,none⟩=some u:=fun j u hu=>by
  have:(nrVs S)[k*4+j]? =some u:=by
   rw [<-List.getElem?_drop,hd,zex ((zsy.1 hu).1)]
   exact hu
  rw [show off+k*4+j=off+(k*4+j) by omega]
  exact hc _ _ this
 exact⟨b,off,e,hb,hg 0 _ rfl,hg 1 _ rfl,hg 2 _ rfl,hg 3 _ rfl⟩
theorem qpp (A A2:Option Addr) (c c2:Nat) (S:List Nr) (Z Z2:Nat->Prop) (w:World) (h:qb4 w Z A (nrVs S)) (h2:qb4 w Z2 A2 (nrVs S)) (hS:S.length<=1000000):
 C9 29 #[.slice A S.length c,.slice A2 S.length c2] w (Ret w (.bool true)):=by
 have H1:=hdQ h;have H2:=hdQ h2;obtain⟨n,hn⟩:∃n,S.length=n:=⟨_,rfl⟩;have HN:=hdQ hn
 rw [hn] at hS ⊢
 clear h h2 hn
 go_enter Tryz.func29,Tryz.ntmps29
 go_wp2_with fail
 go_loopw [5] (fun vi wr=>∃k:Nat,k<=n/\vi=.int .i64 k/\Below w.heap.size w wr) (fun vi _=>n-(Go.RowKit.intOf vi).toNat)
 case atStart=>exact ⟨0,by omega,rfl,bel⟩
 case round=>
  obtain⟨k,hk,rfl,hb⟩:=hrel
  by_cases hlt:k<n
  · have hk1:(k:Int)<(n:Int):=oQ
    obtain⟨x,hx⟩:∃x,S[k]? =some x:=⟨_,zby (by rw [HN.out];exact hlt)⟩
    obtain⟨b,off,rfl,hbl,a0,a1,a2,a3⟩:=q4o (H1.out.kept (qaf hb) sI) hx
    obtain⟨b',off',rfl,hbl',d0,d1,d2,d3⟩:=q4o (H2.out.kept (qaf hb) sI) hx
    generalize x.2.num/18446744073709551616=e1 at*;generalize x.2.num%18446744073709551616=e0 at*;generalize x.2.den=ed at*;generalize x.1=ei at*;clear hx;go_wp2_with fail;refine qac kr kr pq ?_
    simp only [zdy,zey,ldz,lds,bare,qak,lcz,lcs,zay]
    repeat' ((try simp only [Act.put,lsi,lsz,lss]);first|(refine lqx ?_)|(refine qab qaa rfl (fun K hK=> ?_);go_simp;((first|fail|skip)<;>(refine hK.out _ _ bel ?_;clear hK K))))
    (all_goals try simp only [Act.put,lsi,lsz,lss]);all_goals(refine qae ?_)
    go_wp2_with fail
    go_roundw
    case rel=>exact ⟨k+1,by omega,by go_num,bel⟩
    case measure=>simp [Go.RowKit.intOf];omega
  · obtain rfl:n=k:=oQ
    go_wp2_with fail;go_ret;exact⟨rfl,bel⟩
theorem q4v {w:World} {own imm:Nat->Prop} {tb mb:Nat} {ct:TypeId} {cv:Value} {t:Tr} {H:Nat->Prop} {L:Int->Prop} (h:Lay w own imm tb mb (.iface ct cv) t H L):C9 25 #[gP tb] w (Ret w (.int .i64 (t.items.length:Nat))):=by
 obtain⟨t0,t1,t2,t3,tlt⟩:=h.c0;have HG:=hdQ (fun W (hW:Below w.heap.size w W)=>qhp (h.tr hW))
 have HM:=hdQ h.mp;have hml:(t.items.map fun p=>(p.1,gP p.2.blk)).length=t.items.length:=zyy _
 have HML:=hdQ hml;clear h hml
 try simp only [gP] at*
 go_enter Tryz.func25,Tryz.ntmps25
 have HLn:Hid (∀W,Below w.heap.size w W->∀ty,(Builtin.len_ #[112] ty #[.map (some mb)]).run Tryz.prog W=.ok (.int .i64 (t.items.length:Nat)) W):=fun W hW ty=>by
  have:=World.ownsMap.len (show W.ownsMap Tryz.prog 3 RV mb _ (toD (t.items.map fun p=>(p.1,gP p.2.blk))) from qbr.tr HM.out hW) Tryz.underlying112 ty
  rw [qtn,HML.out] at this;exact this
 go_wp2_with (go_at_call 47;(refine(HG.out _ bel).monoR ?_);rintro w1 hb1 hc1 hf1 hz1;(try simp at hz1);have hln:=HLn.out w1 hb1)
 go_ret;exact⟨rfl,bel⟩
theorem q11 {C:Cl} {cl:Value} {w:World} {own imm:Nat->Prop} {tb mb:Nat} {t:Tr} (h:GAt C cl w own imm tb mb t) {id:Int} {o:Ob} (ho:obsT t.items= [(id,o)]):t.lv t.root=some 0/\∃e,t.es t.root= [e]/\e.id=id/\∃x,getK id t.items=some x/\x.ob=o:=by
 obtain⟨x,hx,hxo⟩:∃x,t.items= [(id,x)]/\x.ob=o:=by
  unfold obsT at ho
  match hm:t.items,ho with
  | [p],ho=>
    simp at ho
    exact⟨p.2,by rw [<-ho.1],ho.2⟩
 have hg:getK id t.items=some x:=by rw [hx];simp [qej]
 obtain⟨l,hl⟩:=Option.isSome_iff_exists.1 h.shape.root.1
 have hl0:l=0:=by
  rcases h.shape.level h.fill h.fan4 hl with q|q
  · exact q
  · rw [hx] at q
    have:2 ^ (l+1)≥2:=by
     have:=Nat.one_le_two_pow (n:=l)
     rw [Nat.pow_succ]
     omega
    simp at q
 subst hl0;obtain⟨h1,e,he,hid⟩:=h.shape.itm id x hg (fun q=>q)
 have hlf:t.leaf id=t.root:=by
  obtain⟨q,_,q2,q3⟩:=h.shape.und_lv h1 (h.shape.under h1);rw [hl] at q2
  cases q2
  exact q3 rfl
 rw [hlf] at he;refine⟨hl,e,?_,hid,x,hg,hxo⟩
 have hall:∀e' ∈t.es t.root,e'.id=id:=fun e' he' =>by
  obtain⟨_,it,hit,_⟩:=h.shape.ent _ _ hl he';rw [hx] at hit
  by_cases q:e'.id=id
  · exact q
  · simp [qej,qfm] at hit
    omega
 have hnd:=h.shape.ids _ hl
 match hm:t.es t.root with
 | []=>rw [hm] at he;cases he
 | [a]=>rw [hm] at he;rw [zhx.1 he]
 | a::b::r=>
   rw [hm] at hnd hall;have ha:=hall a sI
   have hb:=hall b sI
   simp [ha,hb] at hnd
end Go.Proofs.YteodamnfgcnmmaaGreatDoor
namespace Go.Proofs.YteodamnfgcnmmaaGreatDoor
open Go.RowKit Pg
theorem qf6 {P:Program} {f:Func} {Q:Ending->World->Prop} {x:Exit} {a:Act} {w:World} (R:World->Prop) (h:R w) (k:∀w2,R w2->bodyPost P f Q x a w2):bodyPost P f Q x a w:=k w h
theorem qgz {W:World} {g:Nat} {t:TypeId} {x y a b:Value} (h:Blk W g t #[x,y]):Blk ((W.setCell ⟨g,0,none⟩ a).setCell ⟨g,1,none⟩ b) g t #[a,b]:=((h.set_ 0 a).set_ 1 b).eq_ sI
theorem qvh (w:World):C9 17 #[.int .i64 0,.int .i64 1,.int .i64 1,.int .i64 1] w fun e w' =>∃g,e=.returned (obV 1 (some ⟨g,0,none⟩) 1 1)/\Blk w' g 24 #[.int .i64 1,.int .i64 1]/\w.heap.size<g/\Below w.heap.size w w' :=by
 have R1:=hdQ (fun W=>show C9 41 #[.int .i64 1,.int .i64 1000] W (Ret W (.int .i64 1)) from qe9 1 1000 dE dE W)
 have R2:=hdQ (fun W=>show C9 41 #[.int .i64 1,.int .i64 50] W (Ret W (.int .i64 1)) from qe9 1 50 dE dE W)
 have R3:=hdQ (fun W=>show C9 41 #[.int .i64 0,.int .i64 4] W (Ret W (.int .i64 0)) from qe9 0 4 dE dE W)
 go_enter Tryz.func17,Tryz.ntmps17
 go_wp2_with (first|(go_at_call 41;have _z:=hya0;(with_reducible refine(R1.out _).monoR ?_);rintro wb hbb hcb hfb hzb;(try simp at hzb);have hyb0:=ol1 w wb)|(go_at_call 41;(with_reducible refine(R1.out _).monoR ?_);rintro wa hba hca hfa hza;(try simp at hza);have hya0:=ol1 w wa)|(go_at_call 41;(with_reducible refine(R2.out _).monoR ?_);rintro wc hbc hcc hfc hzc;(try simp at hzc);have hyc0:=ol1 w wc)|(go_at_call 41;(with_reducible refine(R3.out _).monoR ?_);rintro wd hbd hcd hfd hzd;(try simp at hzd);have hyd0:=ol1 w wd))
 have hB0:Blk wd w.heap.size 62 #[.int .i64 0,.slice none 0 0]:=blkA;have hbW:Below w.heap.size w wd:=bel;clear hba hbb hbc hca hcb hcc hfa hfb hfc;refine qf6 (fun w2=>Blk w2 w.heap.size 62 #[.int .i64 1,.slice (some ⟨wd.heap.size,0,none⟩) 1 1]/\Blk w2 wd.heap.size 24 #[.int .i64 1,.int .i64 1]/\Below w.heap.size w w2) ⟨?_,blkA,bel⟩ ?_
 · exact(qgz (x:=.int .i64 0) (y:=.slice none 0 0) hB0).alloc _
 rintro w2 ⟨HR,HP,hb2⟩;obtain⟨r0,r1⟩:=ce2 HR;exact bodyPost_ret (v:=.agg #[.int .i64 1,.slice (some ⟨wd.heap.size,0,none⟩) 1 1]) (by simp [results,Tryz.results17,go_sem,r0,r1]) rfl ⟨_,rfl,HP,by omega,hb2⟩
end Go.Proofs.YteodamnfgcnmmaaGreatDoor
namespace Pg
def qpl (d X Y N:Nat):Ob:=match d with
 | 0=>⟨1,[⟨X,Y⟩]⟩
 | 1=>⟨2,[⟨X,X+(1+N)⟩]⟩
 | 2=>⟨3,[⟨X,Y⟩,⟨X+(1+N),Y+(1+N)⟩]⟩
 | _=>⟨4,[⟨X,Y⟩,⟨X+3*(1+N),Y⟩,⟨X+3*(1+N),Y+3*(1+N)⟩,⟨X+2*(1+N),Y+(1+N)⟩]⟩
end Pg
namespace Go.Proofs.YteodamnfgcnmmaaGreatDoor
open Go Go.RowKit Pg
def qx0 (k x y n:Int):Ob:=qpl (qfk k 4) (qfk x 1000) (qfk y 1000) (qfk n 50)
theorem qhl {w:World} {g m:Nat} {l:List Pt} (h:Blk w g 24 (qbu l).toArray) (hm:l.length=m):qan w w.heap.size (some ⟨g,0,none⟩) m l:=by
 refine⟨hm,fun _=>⟨g,0,rfl,h.lt,fun k p hp=> ?_⟩⟩
 have h0:=h.cell (k*2);have h1:=h.cell (k*2+1);rw [lta] at h0 h1;rw [(qe0 l k p hp).1] at h0;rw [(qe0 l k p hp).2] at h1;exact⟨by simpa using h0,by simpa using h1⟩
theorem qvg (k x y n:Int) (w:World):C9 17 #[.int .i64 k,.int .i64 x,.int .i64 y,.int .i64 n] w fun e w' =>∃g m,e=.returned (obV (qx0 k x y n).kind (some ⟨g,0,none⟩) m m)/\qan w' w'.heap.size (some ⟨g,0,none⟩) m (qx0 k x y n).pts/\m<=4/\Below w.heap.size w w' :=by
 have R1:=hdQ (fun W=>qe9 x 1000 dE dE W)
 have R2:=hdQ (fun W=>qe9 y 1000 dE dE W)
 have R3:=hdQ (fun W=>qe9 n 50 dE dE W)
 have R4:=hdQ (fun W=>qe9 k 4 dE dE W)
 have l1:=qg4 (k:=x) (n:=1000) dE
 have l2:=qg4 (k:=y) (n:=1000) dE
 have l3:=qg4 (k:=n) (n:=50) dE
 have l4:=qg4 (k:=k) (n:=4) dE
 unfold qx0;generalize qfk x 1000=X at*;generalize qfk y 1000=Y at*;generalize qfk n 50=N at*;generalize qfk k 4=d at*
 simp only [show ((1000:Nat):Int)=1000 from rfl,show ((50:Nat):Int)=50 from rfl,show ((4:Nat):Int)=4 from rfl] at*
 obtain rfl|rfl|rfl|rfl:d=0\/d=1\/d=2\/d=3:=oQ
 all_goals
  go_enter Tryz.func17,Tryz.ntmps17
  go_wp2_with (first|(go_at_call 41;(with_reducible refine(R1.out _).monoR ?_);rintro wa hba hca hfa hza;(try simp at hza);have hya0:=ol1 w wa)|(go_at_call 41;(with_reducible refine(R2.out _).monoR ?_);rintro wb hbb hcb hfb hzb;(try simp at hzb);have hyb0:=ol1 w wb)|(go_at_call 41;(with_reducible refine(R3.out _).monoR ?_);rintro wc hbc hcc hfc hzc;(try simp at hzc);have hyc0:=ol1 w wc)|(go_at_call 41;(with_reducible refine(R4.out _).monoR ?_);rintro wd hbd hcd hfd hzd;(try simp at hzd);have hyd0:=ol1 w wd))
  have hB0:Blk wd w.heap.size 62 #[.int .i64 0,.slice none 0 0]:=blkA;have hbW:Below w.heap.size w wd:=bel;clear hba hbb hbc hca hcb hcc hfa hfb hfc
 · refine qf6 (fun w2=>Blk w2 w.heap.size 62 #[.int .i64 1,.slice (some ⟨wd.heap.size,0,none⟩) 1 1]/\qan w2 w2.heap.size (some ⟨wd.heap.size,0,none⟩) 1 (qpl 0 X Y N).pts/\Below w.heap.size w w2) ⟨(qgz (x:=.int .i64 0) (y:=.slice none 0 0) hB0).alloc _,qhl (Blk.new sI rfl) rfl,bel⟩ ?_
   rintro w2 ⟨HR,HP,hb2⟩;obtain⟨r0,r1⟩:=ce2 HR;exact bodyPost_ret (v:=.agg #[.int .i64 1,.slice (some ⟨wd.heap.size,0,none⟩) 1 1]) (by simp [results,Tryz.results17,go_sem,r0,r1]) rfl ⟨_,1,rfl,HP,by decide,hb2⟩
 · refine qf6 (fun w2=>Blk w2 w.heap.size 62 #[.int .i64 2,.slice (some ⟨wd.heap.size,0,none⟩) 1 1]/\qan w2 w2.heap.size (some ⟨wd.heap.size,0,none⟩) 1 (qpl 1 X Y N).pts/\Below w.heap.size w w2) ⟨(qgz (x:=.int .i64 0) (y:=.slice none 0 0) hB0).alloc _,qhl (Blk.new sI rfl) rfl,bel⟩ ?_
   rintro w2 ⟨HR,HP,hb2⟩;obtain⟨r0,r1⟩:=ce2 HR;exact bodyPost_ret (v:=.agg #[.int .i64 2,.slice (some ⟨wd.heap.size,0,none⟩) 1 1]) (by simp [results,Tryz.results17,go_sem,r0,r1]) rfl ⟨_,1,rfl,HP,by decide,hb2⟩
 · refine qf6 (fun w2=>Blk w2 w.heap.size 62 #[.int .i64 3,.slice (some ⟨wd.heap.size,0,none⟩) 2 2]/\qan w2 w2.heap.size (some ⟨wd.heap.size,0,none⟩) 2 (qpl 2 X Y N).pts/\Below w.heap.size w w2) ⟨(qgz (x:=.int .i64 0) (y:=.slice none 0 0) hB0).alloc _,qhl (Blk.new sI rfl) rfl,bel⟩ ?_
   rintro w2 ⟨HR,HP,hb2⟩;obtain⟨r0,r1⟩:=ce2 HR;exact bodyPost_ret (v:=.agg #[.int .i64 3,.slice (some ⟨wd.heap.size,0,none⟩) 2 2]) (by simp [results,Tryz.results17,go_sem,r0,r1]) rfl ⟨_,2,rfl,HP,by decide,hb2⟩
 · refine qf6 (fun w2=>Blk w2 w.heap.size 62 #[.int .i64 4,.slice (some ⟨wd.heap.size,0,none⟩) 4 4]/\qan w2 w2.heap.size (some ⟨wd.heap.size,0,none⟩) 4 (qpl 3 X Y N).pts/\Below w.heap.size w w2) ⟨(qgz (x:=.int .i64 0) (y:=.slice none 0 0) hB0).alloc _,qhl (Blk.new sI rfl) rfl,bel⟩ ?_
   rintro w2 ⟨HR,HP,hb2⟩;obtain⟨r0,r1⟩:=ce2 HR;exact bodyPost_ret (v:=.agg #[.int .i64 4,.slice (some ⟨wd.heap.size,0,none⟩) 4 4]) (by simp [results,Tryz.results17,go_sem,r0,r1]) rfl ⟨_,4,rfl,HP,by decide,hb2⟩
theorem quc:qel ⟨1,[⟨1,1⟩]⟩ ⟨1,2⟩=⟨1,1⟩:=by decide+kernel
theorem qwc:qjq [(3,⟨1,[⟨1,1⟩]⟩)]= [(3,⟨1,[⟨1,1⟩]⟩)]:=by
 have:qhd 3 ⟨1,[⟨1,1⟩]⟩=0:=by decide+kernel
 simp [qjq,putP,this,qfm,putK,delK,insK]
theorem qv2 {C:Cl} {ct:TypeId} {cv:Value} {w:World} {own imm:Nat->Prop} {tb mb:Nat} {t:Tr} (h:GAt C (.iface ct cv) w own imm tb mb t) (ho:obsT t.items= [(3,⟨1,[⟨1,1⟩]⟩)]):
 C9 24 #[gP tb,ptV 1 2,.int .i64 1] w fun e w' =>∃v,e=.returned v/\w'.ownsRow 0 58 4 v 1 (nrVs [(3,⟨1,1⟩)])/\Below w.heap.size w w' :=by
 obtain⟨hr,e,he,hid,x,hx,hxo⟩:=q11 h ho
 have h1:heOf t ⟨1,2⟩ e=⟨3,⟨1,1⟩,true,0⟩:=by
  unfold heOf
  rw [hid,hx]
  simp [hxo,quc]
 have hN:qld 1 (qfv t ⟨1,2⟩ (t.es t.root) [] 0)= [(⟨3,⟨1,1⟩,true,0⟩,1)]:=by
  rw [he]
  simp only [qfv,h1]
  rfl
 have:=qqa h.lay hr (by rw [he];simp) 1 2 (by decide+kernel) (by
  intro e' he'
  rw [he] at he'
  rw [zhx.1 he',hid]
  exact⟨by decide,by decide,x,hx,by rw [hxo,quc];unfold FrOk;decide⟩) 1 dE dE
 rw [hN] at this;exact this
theorem qtg (w:World):C9 6 #[] w (Ret w (.bool true)):=by
 have HSh:=hdQ qvh
 have HMd:Hid (∀W b g,Blk W b 65 #[.int .i64 3,.int .i64 1,.slice (some ⟨g,0,none⟩) 1 1]->Blk W g 24 #[.int .i64 1,.int .i64 1]->C9 7 #[.slice (some ⟨b,0,none⟩) 1 1] W fun e w' =>∃tb mm,e=.returned (.tuple #[gP tb,gP mm,.bool true])/\q3r W w' tb mm [(3,⟨1,[⟨1,1⟩]⟩)]/\Below W.heap.size W w'):=fun W b g hb hg=>by
  have:=qm9 (some ⟨b,0,none⟩) 1 1 [(3,⟨1,[⟨1,1⟩]⟩)] W ⟨rfl,fun _=>⟨b,0,rfl,hb.lt⟩,fun b' off k p e hk=>by
   injection e with e
   injection e with e1 e2
   subst e1 e2
   cases k with
   | succ k=>simp at hk
   | zero=>
     simp at hk
     subst hk;refine⟨some ⟨g,0,none⟩,1,1,?_,?_,?_,(q7p (p:=⟨1,1⟩) hg)⟩
     · simpa using hb.cell 0
     · simpa using hb.cell 1
     · simpa using hb.cell 2⟩ dE (by intro p hp;simp at hp;subst hp;simp)
  rw [qwc] at this;exact this
 go_enter Tryz.func6,Tryz.ntmps6
 go_wp2_with (first
  | (go_at_call 17;(with_reducible refine(HSh.out _).mono ?_);rintro e w1 ⟨g1,rfl,hB1,hg1,hb1⟩;obtain⟨hc1,hf1,hz1⟩:=bc3 hb1;(try simp at hz1))
  | (go_at_call 7;(refine(HMd.out _ _ _ blkA blkA).mono ?_);rintro e w2 ⟨tb,mm,rfl,hm2,hb2⟩;obtain⟨mb,own,imm,Z,t,L,hS,hf,hfr⟩:=hm2;have hg2:GAt (clsC 3 0 false 0) (.iface 71 (clV 3 0 false 0)) w2 own imm tb mb t:=hS.g;have hot:=hS.ot;have hil:t.items.length=1:=(by have:=congrArg List.length hot;simpa [obsT] using this);have HNr:=hdQ (fun W (hW:Below w2.heap.size w2 W)=>q4q (some ⟨tb,0,none⟩) 1 2 (by decide+kernel) 1 [(3,⟨1,1⟩)] W (fun W' hW' =>by have:=q4v ((hg2.tr hW).tr hW').lay;rw [hil] at this;exact this) (fun W' hW' =>qv2 ((hg2.tr hW).tr hW') hot));clear hS hf hfr hg2 hot hil;obtain⟨hc2,hf2,hz2⟩:=bc3 hb2;(try simp at hz2))
  | (go_at_call 8;(refine(HNr.out _ bel).mono ?_);rintro e w3 ⟨cb,v3,rfl,hC3,hcb,hb3⟩;have HC3:=hdQ (show C9 18 #[gP cb] w3 fun e w' =>e=.returned (.tuple #[.agg #[.int .i64 3,.int .u64 0,.int .u64 1,.int .u64 1],.nilIface])/\CurAt w' _ cb _ 1 true/\TurnF (fun b=>b=cb) w3 w' from qp8 hC3 dE rfl);clear hC3;obtain⟨hc3,hf3,hz3⟩:=bc3 hb3;(try simp at hz3))
  | (go_at_call 18;(refine HC3.out.mono ?_);rintro e w4 ⟨rfl,_,ht4⟩;have hb4:Below w.heap.size w3 w4:=qcs ht4 (fun k q=>by omega) oQ;clear ht4))
 go_ret;have h3:Below w.heap.size w w3:=by clear hb4;exact bel
 have h4:Below w.heap.size w w4:=h3.trans hb4;exact⟨rfl,bel⟩
end Go.Proofs.YteodamnfgcnmmaaGreatDoor
