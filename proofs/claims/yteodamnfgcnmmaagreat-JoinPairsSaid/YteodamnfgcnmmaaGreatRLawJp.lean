/-The reference's pairs;two rows of pairs are the same.-/
import Derived.Test.YteodamnfgcnmmaaGreatRAwk22
import Derived.Test.YteodamnfgcnmmaaGreatRItmO
set_option linter.unusedVariables false
set_option linter.unusedSimpArgs false
set_option maxHeartbeats 8000000
set_option maxRecDepth 20000
namespace Pg
def okR (self:Bool) (x y:Int×Ob):Bool:=(!self||decide (x.1<y.1))&&qbl x.2 y.2
def rowR (self:Bool) (x:Int×Ob) (b:List (Int×Ob)):List (Int×Int):=(b.filter fun y=>okR self x y).map fun y=>(x.1,y.1)
def qdu (self:Bool) (a b:List (Int×Ob)):List (Int×Int):=a.flatMap fun x=>rowR self x b
theorem qrb (self:Bool) (x:Int×Ob) (b:List (Int×Ob)) (y:Int×Ob):rowR self x (b++ [y])=rowR self x b++if okR self x y then [(x.1,y.1)] else []:=by
 unfold rowR
 rw [List.filter_append,zfx]
 congr 1
 cases h:okR self x y<;>simp [h]
theorem qno (self:Bool) (a b:List (Int×Ob)) (x:Int×Ob):qdu self (a++ [x]) b=qdu self a b++rowR self x b:=by
 unfold qdu
 rw [List.flatMap_append]
 simp
theorem qol (self:Bool) (x:Int×Ob) (b:List (Int×Ob)):(rowR self x b).length<=b.length:=by
 unfold rowR
 rw [zyy]
 exact List.length_filter_le _ _
theorem qpu (self:Bool) (a b:List (Int×Ob)):(qdu self a b).length<=a.length*b.length:=by
 induction a with
 | nil=>simp [qdu]
 | cons x r ih=>
   have h1:qdu self (x::r) b=rowR self x b++qdu self r b:=rfl
   rw [h1,zny,zax,znx]
   have:=qol self x b
   omega
theorem ql8 (a b:List (Int×Ob)):qdu false a b=qb6 a b:=by
 unfold qdu qb6 rowR rowP okR
 simp
theorem qnn (a b:List (Int×Ob)):qdu true a b=upJ (qb6 a b):=by
 induction a with
 | nil=>rfl
 | cons x r ih=>
   have h1:qdu true (x::r) b=rowR true x b++qdu true r b:=rfl;have h2:qb6 (x::r) b=rowP x b++qb6 r b:=rfl
   rw [h1,h2,ih]
   unfold upJ
   rw [List.filter_append]
   congr 1;unfold rowR rowP okR
   rw [List.filter_map,List.filter_filter]
   rfl
end Pg
namespace Go.Proofs.YteodamnfgcnmmaaGreat
open Go Go.RowKit Pg
theorem qj8 {w:World} {Z:Nat->Prop} {A:Option Addr} {P:List (Int×Int)} (h:qci w Z A (qan P)) {k:Nat} {p:Int×Int} (hp:P[k]? =some p):∃b off,A=some ⟨b,off,none⟩/\b<w.heap.size/\w.cell? ⟨b,off+k*2,none⟩=some (.int .i64 p.1)/\w.cell? ⟨b,off+k*2+1,none⟩=some (.int .i64 p.2):=by
 have hk:k<P.length:=(zsy.1 hp).1;obtain⟨b,off,e,_,hb,hc⟩:=h (by rw [qgq];omega)
 have e2:∀(l:List (Int×Int)) (k:Nat) (p:Int×Int),l[k]? =some p->(qan l)[k*2]? =some (.int .i64 p.1)/\(qan l)[k*2+1]? =some (.int .i64 p.2):=fun l=>by
  induction l with
  | nil=>intro k p h;simp at h
  | cons a r ih=>
    intro k p h;have e0:qan (a::r)= [.int .i64 a.1,.int .i64 a.2]++qan r:=rfl
    rw [e0]
    cases k with
    | zero=>simp at h;subst h;exact⟨rfl,rfl⟩
    | succ k=>
      have:=ih k p (by simpa using h)
      rw [show (k+1)*2=k*2+2 by omega]
      exact this
 exact⟨b,off,e,hb,hc _ _ (e2 P k p hp).1,by rw [Nat.add_assoc];exact hc _ _ (e2 P k p hp).2⟩
theorem qor (A A2:Option Addr) (c c2:Nat) (P:List (Int×Int)) (Z Z2:Nat->Prop) (w:World) (h:qci w Z A (qan P)) (h2:qci w Z2 A2 (qan P)) (hP:P.length<=1000000):
 C9 13 #[.slice A P.length c,.slice A2 P.length c2] w (Ret w (.bool true)):=by
 have H1:=hdQ h;have H2:=hdQ h2;obtain⟨n,hn⟩:∃n,P.length=n:=⟨_,rfl⟩;have HN:=hdQ hn
 rw [hn] at hP ⊢
 clear h h2 hn
 go_enter Tryz.func13,Tryz.ntmps13
 go_wp2_with fail
 go_loopw [5] (fun vi wr=>∃k:Nat,k<=n/\vi=.int .i64 k/\Below w.heap.size w wr) (fun vi _=>n-(Go.RowKit.intOf vi).toNat)
 case atStart=>exact ⟨0,by omega,rfl,bel⟩
 case round=>
  obtain⟨k,hk,rfl,hb⟩:=hrel
  by_cases hlt:k<n
  case neg=>
   obtain rfl:n=k:=oQ
   go_wp2_with fail;go_ret;exact⟨rfl,bel⟩
  have hk0:(k:Int)<(n:Int):=oQ
  obtain⟨x,hx⟩:∃x,P[k]? =some x:=⟨P[k]'(by rw [HN.out];exact hlt),zby _⟩
  obtain⟨b,off,rfl,hbl,r0,r1⟩:=qj8 (H1.out.kept (qad hb) sI) hx
  obtain⟨b',off',rfl,hbl',s0,s1⟩:=qj8 (H2.out.kept (qad hb) sI) hx
  have HB:=hdQ hb;clear hx hb;obtain⟨xa,xb⟩:=x
  simp only at r0 r1 s0 s1
  go_wp2_with fail;refine qab kr kr pq ?_
  simp only [zdy,zey,ldz,lds,bare,qam,lcz,lcs,zay]
  repeat' ((try simp only [Act.put,lsi,lsz,lss]);first|(refine qbb ?_ ?_;focus(simp only [lAq,zgy,zfy];done))|(refine qa4 ?_ ?_ ?_;(focus(simp only [lAq,zgy,zfy];done));(focus(exact bel)))|(refine qap (X:= ?_) ?_ ?_ (fun hg=> ?_) (fun hg=> ?_);rotate_left;(focus(simp only [lAq];with_reducible rfl));(focus(exact bel));all_goals(try simp only [zgy,zfy] at hg))|(refine lqx ?_)|(refine qac qaa rfl (fun K hK=> ?_);go_simp;((first |  fail|skip)<;>(refine hK.out _ _ bel ?_;clear hK K))))
  (all_goals try simp only [Act.put,lsi,lsz,lss]);all_goals(refine qaf ?_)
  go_wp2_with fail
  go_roundw
  case rel=>exact ⟨k+1,by omega,by go_num,HB.out.trans ((show Below wr.heap.size wr _ from bel).mono HB.out.size)⟩
  case measure=>simp [Go.RowKit.intOf];omega
theorem Tryz.infoArJ:(Tryz.prog.info? 84).map (fun i=>(i.zero,i.size,i.bytes))=some (some (.agg #[.int .i64 0,.int .i64 0]),2,16):=by kernel_rfl
theorem qj7 (self:Bool) {w:World} {Ya Za Yb Zb:Nat->Prop} {ma mb:Nat} {La Lb:List (Int×Mi)} (ha:MrAt w Ya Za ma La) (hb:MrAt w Yb Zb mb Lb) (hna:La.length<=100) (hnb:Lb.length<=100) (hs:self=true->∀(i k:Nat) x y,La[i]? =some x->Lb[k]? =some y->(i<k↔x.1<y.1)):
 C9 14 #[gP ma,gP mb,.bool self] w fun e w' =>∃v,e=.returned v/\w'.ownsRow w.heap.size 84 2 v (qdu self (obsM La) (obsM Lb)).length (qan (qdu self (obsM La) (obsM Lb)))/\Below w.heap.size w w' :=by
 obtain⟨sa,hBa,hra,_⟩:=ha.rw;obtain⟨sb,hBb,hrb,_⟩:=hb.rw;obtain⟨na,hna'⟩:∃n,La.length=n:=⟨_,rfl⟩;obtain⟨nb,hnb'⟩:∃n,Lb.length=n:=⟨_,rfl⟩;obtain⟨Aa,ca,rfl,_,_,_⟩:=qar hra;obtain⟨Ab,cb,rfl,_,_,_⟩:=qar hrb;rw [hna'] at hna hBa;rw [hnb'] at hnb hBb;obtain⟨la,hla⟩:∃l,obsM La=l:=⟨_,rfl⟩;obtain⟨lb,hlb⟩:∃l,obsM Lb=l:=⟨_,rfl⟩;have HLn:=hdQ (And.intro hna' (And.intro hnb' (And.intro hla hlb)));have hl2:la.length=na/\lb.length=nb:=by rw [<-hla,<-hlb];unfold obsM;rw [zyy,zyy];exact⟨hna',hnb'⟩
 have HLl:=hdQ hl2;have HA:=hdQ (And.intro ha (And.intro hBa hra));have HB:=hdQ (And.intro hb (And.intro hBb hrb));have HSf:=hdQ hs;obtain⟨i0,hi,iz0,iz1,iz2⟩:=info_parts Tryz.infoArJ
 rw [hla,hlb]
 clear ha hb hBa hra hBb hrb hna' hnb' hla hlb hl2 hs
 simp only [gP]
 go_enter Tryz.func14,Tryz.ntmps14
 go_wp2_with fail
 go_loopw [7,8] (fun v7 vi wr=>∃(i co:Nat) (acc:List (Int×Int)) (Ao:Option Addr),v7=.slice Ao acc.length co/\vi=.int .i64 i/\i<=na/\acc=qdu self (la.take i) lb/\wr.ownsRow w.heap.size 84 2 (.slice Ao acc.length co) acc.length (qan acc)/\Below w.heap.size w wr) (fun _ vi _=>na-(Go.RowKit.intOf vi).toNat)
 case atStart=>exact ⟨0,0,[],none,rfl,rfl,zly _,rfl,World.ownsRow_nil _ _ _ _,Below.refl _ _⟩
 case round=>
  obtain⟨i,co,acc,Ao,rfl,rfl,hin,hacc,hro,hbw⟩:=hrel;have a0:=(HA.out.2.1.tr hbw).cell 0;have al' :=(HA.out.2.1.tr hbw).lt;simp only [lta,lcz] at a0
  by_cases hlt:i<na
  case neg=>
   obtain rfl:na=i:=oQ
   rw [zmy (by rw [HLl.out.1];exact zhy _)] at hacc
   have HE:=hdQ (And.intro hacc (And.intro hro hbw));clear hacc hro hbw;go_wp2_with fail;go_ret
   rw [<-HE.out.1]
   exact⟨_,rfl,HE.out.2.1,HE.out.2.2⟩
  case pos=>
   have hltI:(i:Int)<(na:Int):=oQ
   obtain⟨p,hp⟩:∃p,La[i]? =some p:=⟨La[i]'(by rw [HLn.out.1];exact hlt),zby _⟩
   have hlp:la[i]? =some (p.1,p.2.ob):=by rw [<-HLn.out.2.2.1];unfold obsM;rw [zpx,hp];rfl
   have HI0:=hdQ (And.intro hacc (And.intro hro (And.intro hbw (And.intro hp hlp))));clear hacc hro hbw hp hlp;go_wp2_with fail
   go_loopw [7,9] (fun v7 vi wr=>∃(k co:Nat) (acc' :List (Int×Int)) (Ao:Option Addr),v7=.slice Ao acc'.length co/\vi=.int .i64 k/\k<=nb/\acc' =acc++rowR self (p.1,p.2.ob) (lb.take k)/\wr.ownsRow w.heap.size 84 2 (.slice Ao acc'.length co) acc'.length (qan acc')/\Below w.heap.size w wr) (fun _ vi _=>nb-(Go.RowKit.intOf vi).toNat)
   case atStart=>exact ⟨0,co,acc,Ao,rfl,rfl,zly _,by simp [rowR],HI0.out.2.1,HI0.out.2.2.1⟩
   case round=>
    clear a0 al';obtain⟨k,co',acc',Ao',rfl,rfl,hkn,hacc',hro',hbw⟩:=hrel;have b0:=(HB.out.2.1.tr hbw).cell 0;have bl:=(HB.out.2.1.tr hbw).lt;have a0:=(HA.out.2.1.tr hbw).cell 0;have al' :=(HA.out.2.1.tr hbw).lt;simp only [lta,lcz] at b0 a0
    by_cases hlt2:k<nb
    case neg=>
     obtain rfl:nb=k:=oQ
     rw [zmy (by rw [HLl.out.2];exact zhy _)] at hacc'
     have HE:=hdQ (show acc' =qdu self (la.take (i+1)) lb/\wr.ownsRow w.heap.size 84 2 (.slice Ao' acc'.length co') acc'.length (qan acc')/\Below w.heap.size w wr from ⟨by rw [zwy,HI0.out.2.2.2.2,hacc',HI0.out.1];exact(qno _ _ _ _).symm,hro',hbw⟩)
     clear hacc' hro' hbw;go_wp2_with fail
     go_roundw
     case rel=>exact ⟨i+1,co',acc',Ao',rfl,by go_num,by omega,HE.out.1,HE.out.2.1,HE.out.2.2⟩
     case measure=>simp [Go.RowKit.intOf];omega
    case pos=>
     have hlt2I:(k:Int)<(nb:Int):=oQ
     obtain⟨q,hq⟩:∃q,Lb[k]? =some q:=⟨Lb[k]'(by rw [HLn.out.2.1];exact hlt2),zby _⟩
     have hlq:lb[k]? =some (q.1,q.2.ob):=by rw [<-HLn.out.2.2.2];unfold obsM;rw [zpx,hq];rfl
     obtain⟨g,c,hv,hgl,r0,r1,r2⟩:=qgv (qai HA.out.2.2 (qad hbw) sI) HI0.out.2.2.2.1
     injection hv with hv1 hv2 hv3
     subst hv1 hv3;obtain⟨g2,c2,hv,hgl2,s0,s1,s2⟩:=qgv (qai HB.out.2.2 (qad hbw) sI) hq
     injection hv with hv1 hv2 hv3
     subst hv1 hv3;obtain⟨A',c',ep,hpt⟩:=((HA.out.1.tr hbw).pts p (zjy HI0.out.2.2.2.1)).pts;obtain⟨A2,c2',ep2,hpt2⟩:=((HB.out.1.tr hbw).pts q (zjy hq)).pts;rw [ep] at r2;rw [ep2] at s2;have hpl:=(HA.out.1.pts p (zjy HI0.out.2.2.2.1)).1;have hpl2:=(HB.out.1.pts q (zjy hq)).1;have htch:=fun W (hW:Below wr.heap.size wr W)=>qpo wr.heap.size _ c' _ c2' p.2.ob.kind q.2.ob.kind A' A2 p.2.ob.pts q.2.ob.pts W (hpt.below hW) (hpt2.below hW) hW.size hpl hpl2
     have hself:=fun e=>HSf.out e i k p q HI0.out.2.2.2.1 hq
     have hrp:rowR self (p.1,p.2.ob) (lb.take (k+1))=rowR self (p.1,p.2.ob) (lb.take k)++if okR self (p.1,p.2.ob) (q.1,q.2.ob) then [(p.1,q.1)] else []:=by
      rw [zwy,hlq,Option.toList_some,qrb]
     have hpairs:acc'.length<=10100:=by
      rw [hacc',zny,HI0.out.1]
      have h1:=qpu self (la.take i) lb;have h2:=qol self (p.1,p.2.ob) (lb.take k);rw [HLl.out.2] at h1;rw [List.length_take] at h1 h2;have h3:min i la.length*nb<=100*100:=Nat.mul_le_mul oQ oQ
      omega
     obtain⟨tt,htt⟩:∃b,qbl p.2.ob q.2.ob=b:=⟨_,rfl⟩;have htt' :qbl ⟨p.2.ob.kind,p.2.ob.pts⟩ ⟨q.2.ob.kind,q.2.ob.pts⟩=tt:=htt;simp only [htt'] at htch;have hok:okR self (p.1,p.2.ob) (q.1,q.2.ob)=((!self||decide (p.1<q.1))&&tt):=by unfold okR;simp only [htt]
     rw [hok] at hrp;have HTo:=hdQ htch;have HRp:=hdQ hrp;have HM' :=hdQ (And.intro hacc' (And.intro hro' hbw));have HSe:=hdQ hself;clear hq hlq ep ep2 hpt hpt2 hpl hpl2 htch htt htt' hrp hok hself hacc' hro' hbw;simp only [obV] at HTo;obtain⟨pid,hpid⟩:∃x,p.1=x:=⟨_,rfl⟩;obtain⟨qid,hqid⟩:∃x,q.1=x:=⟨_,rfl⟩;obtain⟨po,hpo⟩:∃x,p.2.ob=x:=⟨_,rfl⟩;rw [hpid] at r0;rw [hqid] at s0;rw [hpid,hqid,hpo] at HRp
     rw [hpid,hpo] at HM'
     rw [hpid,hpo]
     have HSe' :=hdQ (show self=true->(i<k↔pid<qid) from fun e=>by rw [<-hpid,<-hqid];exact HSe.out e)
     rw [hpo] at r1 r2 HTo;clear HSe hpid hqid hpo;generalize po.kind=pk at*;generalize po.pts.length=pn at*;generalize q.2.ob.kind=qk at*;generalize q.2.ob.pts.length=qn at*
     cases self with
     | false=>
       have HDk:=hdQ trivial
       cases tt with
       | false=>
         go_wp2_with fail;refine qab kr kr pq ?_
         simp only [zdy,zey,ldz,lds,bare,qam,lcz,lcs,zay]
         repeat' ((try simp only [Act.put,lsi,lsz,lss]);first|(refine qbb ?_ ?_;focus(simp only [lAq,zgy,zfy];done))|(refine qa4 ?_ ?_ ?_;(focus(simp only [lAq,zgy,zfy];done));(focus(exact bel)))|(refine qap (X:= ?_) ?_ ?_ (fun hg=> ?_) (fun hg=> ?_);rotate_left;(focus(simp only [lAq];with_reducible rfl));(focus(exact bel));all_goals(try simp only [zgy,zfy] at hg))|(refine lqx ?_)|(refine qac qaa rfl (fun K hK=> ?_);go_simp;((first |  (go_at_call 32;(refine(HTo.out _ bel).monoR ?_);rintro wt hbt hct hft hzt;(try simp at hzt))|skip)<;>(refine hK.out _ _ bel ?_;clear hK K))))
         (all_goals try simp only [Act.put,lsi,lsz,lss]);all_goals(refine qaf ?_)
         go_wp2_with fail
         go_roundw
         case rel=>exact ⟨k+1,co',acc',Ao',rfl,by go_num,by omega,by rw [HRp.out,HM'.out.1];simp [HDk.out],qai HM'.out.2.1 (qad bel) sI,HM'.out.2.2.trans ((show Below wr.heap.size wr _ from bel).mono HM'.out.2.2.size)⟩
         case measure=>simp [Go.RowKit.intOf];omega
       | true=>
         go_wp2_with fail;refine qab kr kr pq ?_
         simp only [zdy,zey,ldz,lds,bare,qam,lcz,lcs,zay]
         repeat' ((try simp only [Act.put,lsi,lsz,lss]);first|(refine qbb ?_ ?_;focus(simp only [lAq,zgy,zfy];done))|(refine qa4 ?_ ?_ ?_;(focus(simp only [lAq,zgy,zfy];done));(focus(exact bel)))|(refine qap (X:= ?_) ?_ ?_ (fun hg=> ?_) (fun hg=> ?_);rotate_left;(focus(simp only [lAq];with_reducible rfl));(focus(exact bel));all_goals(try simp only [zgy,zfy] at hg))|(refine lqx ?_)|(refine qac qaa rfl (fun K hK=> ?_);go_simp;((first |  (go_at_call 32;(refine(HTo.out _ bel).monoR ?_);rintro wt hbt hct hft hzt;(try simp at hzt))|skip)<;>(refine hK.out _ _ bel ?_;clear hK K))))
         (all_goals try simp only [Act.put,lsi,lsz,lss]);all_goals(refine qaf ?_)
         refine qvw (Φ:=fun W=>Exit.then _ _ Exit.normal _ W) (fun W=>Below wr.heap.size wr W) bel ?_
         clear hct hft hbt hzt;rintro w10 hb10;have HB10:=hdQ (HM'.out.2.2.trans (hb10.mono HM'.out.2.2.size));obtain⟨hc10,_,hz10⟩:=bc3 hb10;have a0' :=(hc10 _ _ al').trans a0;have b0' :=(hc10 _ _ bl).trans b0;have r0' :=(hc10 _ _ hgl).trans r0;have s0' :=(hc10 _ _ hgl2).trans s0;have al2:=zky al' hz10;have bl2:=zky bl hz10;have gl2:=zky hgl hz10;have gl3:=zky hgl2 hz10;have HR8:=hdQ (qai HM'.out.2.1 (qad hb10) sI)
         clear a0 b0 r0 r1 r2 s0 s1 s2 al' bl hgl hgl2 hb10 hc10;go_wp2_with fail;refine qbw [0,1,2,3,4,5,6,7,8,9,10,11,12,13,14,15,16,17,18] [19,20] kr kr pq ?_
         simp only [zdy,zey,ldz,lds,bare,qam,lcz,lcs,zay,qeq,Option.isNone_none,Bool.and_true,Bool.true_and,Bool.false_and,Bool.and_self]
         repeat((try simp only [Act.put,lsi,lsz,lss]);first|(refine qdl (v:= ?_) qaa rfl ?_ ?_;rotate_left;focus(intro wq;go_simp;try with_reducible rfl))|(refine qcv (v:= ?_) qaa rfl ?_ ?_;rotate_left;focus(intro wq hq;obtain⟨hcq,hfq⟩:=qbn hq;go_simp;try with_reducible rfl))|(refine qc7 qaa rfl (fun K hK=> ?_);go_simp;((first|fail|skip)<;>(refine hK.out _ _ bel ?_;clear hK K))))
         (all_goals try simp only [Act.put,lsi,lsz,lss])
         refine qee ?_;refine qby (fun K hK=> ?_)
         (refine qca _ _ _ 36 rfl 84 i0 (.agg #[.int .i64 0,.int .i64 0]) 2 16 Tryz.underlying36 hi iz0 iz1 iz2 rfl dE (.slice Ao' acc'.length co') acc'.length (qan acc') rfl (qax (qai HR8.out (qad bel) sI) (zly _)) ⟨w10.heap.size,0,none⟩ 1 1 [.int .i64 pid,.int .i64 qid] rfl rfl ?_ ?_ ?_ ?_ ?_ ?_);(focus(exact qm8));(focus(simp [Value.oneCell']));(focus(unfold maxLen;omega));(focus omega);(focus(decide));intro v' w3 hown hgrow hwh
         refine hK.out _ _ ?_;clear hK K
         (try simp only [Act.put,lsi,lsz,lss])
         refine qby (fun K hK=> ?_)
         go_simp
         refine hK.out _ _ ?_;clear hK K
         (try simp only [Act.put,lsi,lsz,lss])
         refine qec ?_;have hx:Below w.heap.size w ((w10.alloc (.cells #[.int .i64 pid,.int .i64 qid] 84)).drew):=HB10.out.trans ((show Below w10.heap.size w10 ((w10.alloc (.cells #[.int .i64 pid,.int .i64 qid] 84)).drew) from bel).mono HB10.out.size)
         have hb3:=hx.grown hgrow hx.size fun k e=>(HR8.out.lt k e).1
         have ho3:w3.ownsRow w.heap.size 84 2 v' (acc'.length+1) _:=qi8 hown fun g e=>by
          rcases hwh with q|q
          · rw [e] at q
            exact(HR8.out.lt g q.symm).1
          · rw [e] at q
            injection q with q
            have:=hx.size
            omega
         obtain⟨A9,c9,hv9,_,_,_⟩:=qar ho3;subst hv9;have HE:=hdQ (show w3.ownsRow w.heap.size 84 2 (.slice A9 (acc' ++ [(pid,qid)]).length c9) (acc' ++ [(pid,qid)]).length (qan (acc' ++ [(pid,qid)]))/\Below w.heap.size w w3 from ⟨by rw [zny,qeh];exact ho3,hb3⟩)
         clear hown hgrow hwh hx hb3 ho3;go_wp2_with fail
         go_roundw
         case rel=>exact ⟨k+1,c9,acc' ++ [(pid,qid)],A9,by rw [zny];rfl,by go_num,by omega,by rw [HRp.out,HM'.out.1,List.append_assoc];simp [HDk.out],HE.out.1,HE.out.2⟩
         case measure=>simp [Go.RowKit.intOf];omega
     | true=>
       have hse:=HSe'.out rfl
       by_cases hik:i<k
       case neg=>
        have hikI:¬ ((i:Int)<(k:Int)):=oQ
        have HDk:Hid (decide (pid<qid)=false):=hdQ (by rw [decide_eq_false_iff_not,<-hse];exact hik)
        clear hse;go_wp2_with fail;refine qab kr kr pq ?_
        simp only [zdy,zey,ldz,lds,bare,qam,lcz,lcs,zay]
        repeat' ((try simp only [Act.put,lsi,lsz,lss]);first|(refine qbb ?_ ?_;focus(simp only [lAq,zgy,zfy];done))|(refine qa4 ?_ ?_ ?_;(focus(simp only [lAq,zgy,zfy];done));(focus(exact bel)))|(refine qap (X:= ?_) ?_ ?_ (fun hg=> ?_) (fun hg=> ?_);rotate_left;(focus(simp only [lAq];with_reducible rfl));(focus(exact bel));all_goals(try simp only [zgy,zfy] at hg))|(refine lqx ?_)|(refine qac qaa rfl (fun K hK=> ?_);go_simp;((first |  fail|skip)<;>(refine hK.out _ _ bel ?_;clear hK K))))
        (all_goals try simp only [Act.put,lsi,lsz,lss]);all_goals(refine qaf ?_)
        go_wp2_with fail
        go_roundw
        case rel=>exact ⟨k+1,co',acc',Ao',rfl,by go_num,by omega,by rw [HRp.out,HM'.out.1];simp [HDk.out],qai HM'.out.2.1 (qad bel) sI,HM'.out.2.2.trans ((show Below wr.heap.size wr _ from bel).mono HM'.out.2.2.size)⟩
        case measure=>simp [Go.RowKit.intOf];omega
       case pos=>
        have hikI:(i:Int)<(k:Int):=oQ
        have HDk:Hid (decide (pid<qid)=true):=hdQ (by rw [decide_eq_true_iff,<-hse];exact hik)
        clear hse
        cases tt with
        | false=>
          go_wp2_with fail;refine qab kr kr pq ?_
          simp only [zdy,zey,ldz,lds,bare,qam,lcz,lcs,zay]
          repeat' ((try simp only [Act.put,lsi,lsz,lss]);first|(refine qbb ?_ ?_;focus(simp only [lAq,zgy,zfy];done))|(refine qa4 ?_ ?_ ?_;(focus(simp only [lAq,zgy,zfy];done));(focus(exact bel)))|(refine qap (X:= ?_) ?_ ?_ (fun hg=> ?_) (fun hg=> ?_);rotate_left;(focus(simp only [lAq];with_reducible rfl));(focus(exact bel));all_goals(try simp only [zgy,zfy] at hg))|(refine lqx ?_)|(refine qac qaa rfl (fun K hK=> ?_);go_simp;((first |  (go_at_call 32;(refine(HTo.out _ bel).monoR ?_);rintro wt hbt hct hft hzt;(try simp at hzt))|skip)<;>(refine hK.out _ _ bel ?_;clear hK K))))
          (all_goals try simp only [Act.put,lsi,lsz,lss]);all_goals(refine qaf ?_)
          go_wp2_with fail
          go_roundw
          case rel=>exact ⟨k+1,co',acc',Ao',rfl,by go_num,by omega,by rw [HRp.out,HM'.out.1];simp [HDk.out],qai HM'.out.2.1 (qad bel) sI,HM'.out.2.2.trans ((show Below wr.heap.size wr _ from bel).mono HM'.out.2.2.size)⟩
          case measure=>simp [Go.RowKit.intOf];omega
        | true=>
          go_wp2_with fail;refine qab kr kr pq ?_
          simp only [zdy,zey,ldz,lds,bare,qam,lcz,lcs,zay]
          repeat' ((try simp only [Act.put,lsi,lsz,lss]);first|(refine qbb ?_ ?_;focus(simp only [lAq,zgy,zfy];done))|(refine qa4 ?_ ?_ ?_;(focus(simp only [lAq,zgy,zfy];done));(focus(exact bel)))|(refine qap (X:= ?_) ?_ ?_ (fun hg=> ?_) (fun hg=> ?_);rotate_left;(focus(simp only [lAq];with_reducible rfl));(focus(exact bel));all_goals(try simp only [zgy,zfy] at hg))|(refine lqx ?_)|(refine qac qaa rfl (fun K hK=> ?_);go_simp;((first |  (go_at_call 32;(refine(HTo.out _ bel).monoR ?_);rintro wt hbt hct hft hzt;(try simp at hzt))|skip)<;>(refine hK.out _ _ bel ?_;clear hK K))))
          (all_goals try simp only [Act.put,lsi,lsz,lss]);all_goals(refine qaf ?_)
          refine qvw (Φ:=fun W=>Exit.then _ _ Exit.normal _ W) (fun W=>Below wr.heap.size wr W) bel ?_
          clear hct hft hbt hzt;rintro w10 hb10;have HB10:=hdQ (HM'.out.2.2.trans (hb10.mono HM'.out.2.2.size));obtain⟨hc10,_,hz10⟩:=bc3 hb10;have a0' :=(hc10 _ _ al').trans a0;have b0' :=(hc10 _ _ bl).trans b0;have r0' :=(hc10 _ _ hgl).trans r0;have s0' :=(hc10 _ _ hgl2).trans s0;have al2:=zky al' hz10;have bl2:=zky bl hz10;have gl2:=zky hgl hz10;have gl3:=zky hgl2 hz10;have HR8:=hdQ (qai HM'.out.2.1 (qad hb10) sI)
          clear a0 b0 r0 r1 r2 s0 s1 s2 al' bl hgl hgl2 hb10 hc10;go_wp2_with fail;refine qbw [0,1,2,3,4,5,6,7,8,9,10,11,12,13,14,15,16,17,18] [19,20] kr kr pq ?_
          simp only [zdy,zey,ldz,lds,bare,qam,lcz,lcs,zay,qeq,Option.isNone_none,Bool.and_true,Bool.true_and,Bool.false_and,Bool.and_self]
          repeat((try simp only [Act.put,lsi,lsz,lss]);first|(refine qdl (v:= ?_) qaa rfl ?_ ?_;rotate_left;focus(intro wq;go_simp;try with_reducible rfl))|(refine qcv (v:= ?_) qaa rfl ?_ ?_;rotate_left;focus(intro wq hq;obtain⟨hcq,hfq⟩:=qbn hq;go_simp;try with_reducible rfl))|(refine qc7 qaa rfl (fun K hK=> ?_);go_simp;((first|fail|skip)<;>(refine hK.out _ _ bel ?_;clear hK K))))
          (all_goals try simp only [Act.put,lsi,lsz,lss])
          refine qee ?_;refine qby (fun K hK=> ?_)
          (refine qca _ _ _ 36 rfl 84 i0 (.agg #[.int .i64 0,.int .i64 0]) 2 16 Tryz.underlying36 hi iz0 iz1 iz2 rfl dE (.slice Ao' acc'.length co') acc'.length (qan acc') rfl (qax (qai HR8.out (qad bel) sI) (zly _)) ⟨w10.heap.size,0,none⟩ 1 1 [.int .i64 pid,.int .i64 qid] rfl rfl ?_ ?_ ?_ ?_ ?_ ?_);(focus(exact qm8));(focus(simp [Value.oneCell']));(focus(unfold maxLen;omega));(focus omega);(focus(decide));intro v' w3 hown hgrow hwh
          refine hK.out _ _ ?_;clear hK K
          (try simp only [Act.put,lsi,lsz,lss])
          refine qby (fun K hK=> ?_)
          go_simp
          refine hK.out _ _ ?_;clear hK K
          (try simp only [Act.put,lsi,lsz,lss])
          refine qec ?_;have hx:Below w.heap.size w ((w10.alloc (.cells #[.int .i64 pid,.int .i64 qid] 84)).drew):=HB10.out.trans ((show Below w10.heap.size w10 ((w10.alloc (.cells #[.int .i64 pid,.int .i64 qid] 84)).drew) from bel).mono HB10.out.size)
          have hb3:=hx.grown hgrow hx.size fun k e=>(HR8.out.lt k e).1
          have ho3:w3.ownsRow w.heap.size 84 2 v' (acc'.length+1) _:=qi8 hown fun g e=>by
           rcases hwh with q|q
           · rw [e] at q
             exact(HR8.out.lt g q.symm).1
           · rw [e] at q
             injection q with q
             have:=hx.size
             omega
          obtain⟨A9,c9,hv9,_,_,_⟩:=qar ho3;subst hv9;have HE:=hdQ (show w3.ownsRow w.heap.size 84 2 (.slice A9 (acc' ++ [(pid,qid)]).length c9) (acc' ++ [(pid,qid)]).length (qan (acc' ++ [(pid,qid)]))/\Below w.heap.size w w3 from ⟨by rw [zny,qeh];exact ho3,hb3⟩)
          clear hown hgrow hwh hx hb3 ho3;go_wp2_with fail
          go_roundw
          case rel=>exact ⟨k+1,c9,acc' ++ [(pid,qid)],A9,by rw [zny];rfl,by go_num,by omega,by rw [HRp.out,HM'.out.1,List.append_assoc];simp [HDk.out],HE.out.1,HE.out.2⟩
          case measure=>simp [Go.RowKit.intOf];omega
theorem qdw.moreJ {w:World} {B B' n:Nat} {A:Option Addr} {l:List (Int×Ob)} (h:qdw w B A n l) (hB:B<=B'):qdw w B' A n l:=by
 refine⟨h.1,fun hn=> ?_,fun b off k p hA hp=> ?_⟩
 · obtain⟨b,off,e,hb⟩:=h.2.1 hn
   exact⟨b,off,e,by omega⟩
 · obtain⟨A',n',c',h1,h2,h3,h4⟩:=h.2.2 b off k p hA hp
   exact⟨A',n',c',h1,h2,h3,h4.more hB⟩
theorem qvg {α:Type} {L:List (Int×α)} (h:qcm L) {i k:Nat} {x y:Int×α} (hx:L[i]? =some x) (hy:L[k]? =some y):i<k↔x.1<y.1:=by
 obtain⟨hi,ex⟩:=zsy.1 hx;obtain⟨hk,ey⟩:=zsy.1 hy;have hp:=List.pairwise_iff_getElem.1 h
 constructor
 · intro q
   rw [<-ex,<-ey]
   exact hp i k hi hk q
 · intro q
   rcases Nat.lt_trichotomy i k with c|c|c
   · exact c
   · subst c
     rw [<-ex,<-ey] at q
     omega
   · have:=hp k i hk hi c
     rw [ex,ey] at this
     omega
theorem qvc {k k2:Int} {W0 W1 w2 w3:World} {ta ma tb mb:Nat} {a b:List (Int×Ob)} (h:qsz k W0 w2 ta ma a) (h2:qsz k2 W1 w3 tb mb b) (hb:Below w2.heap.size w2 w3) (ha:a.length<=50) (hbn:b.length<=50):
 ∃P Q:List (Int×Int),P.length<=1000000/\Q.length<=1000000/\∀W,Below w3.heap.size w3 W->
  (C9 11 #[gP ta,gP tb] W fun e w' =>∃v,e=.returned (.tuple #[v,.nilIface])/\w'.ownsRow W.heap.size 43 2 v P.length (qan P)/\Below W.heap.size W w')/\
  (C9 12 #[gP ta] W fun e w' =>∃v,e=.returned (.tuple #[v,.nilIface])/\w'.ownsRow W.heap.size 43 2 v Q.length (qan Q)/\Below W.heap.size W w')/\
  (C9 14 #[gP ma,gP mb,.bool false] W fun e w' =>∃v,e=.returned v/\w'.ownsRow W.heap.size 84 2 v P.length (qan P)/\Below W.heap.size W w')/\
  (C9 14 #[gP ma,gP ma,.bool true] W fun e w' =>∃v,e=.returned v/\w'.ownsRow W.heap.size 84 2 v Q.length (qan Q)/\Below W.heap.size W w'):=by
 obtain⟨mA,ownA,immA,ZA,tA,LA,hA,_,_⟩:=h;obtain⟨mB,ownB,immB,ZB,tB,LB,hB,_,_⟩:=h2;have e1:tA.items.length=a.length:=by rw [<-hA.ot];unfold obsT;rw [zyy]
 have e2:tB.items.length=b.length:=by rw [<-hB.ot];unfold obsT;rw [zyy]
 have e3:LA.length=a.length:=by rw [<-hA.om];unfold obsM;rw [zyy]
 have e4:LB.length=b.length:=by rw [<-hB.om];unfold obsM;rw [zyy]
 have l1:=qf0 a b;have l2:=qf0 a a;have l3:a.length*b.length<=50*50:=Nat.mul_le_mul ha hbn;have l4:a.length*a.length<=50*50:=Nat.mul_le_mul ha ha;have l5:(upJ (qb6 a a)).length<=(qb6 a a).length:=List.length_filter_le _ _;refine⟨qb6 a b,upJ (qb6 a a),by omega,by omega,fun W hW=> ?_⟩
 have hx:Below w2.heap.size w2 W:=hb.trans (hW.mono hb.size);refine⟨?_,?_,?_,?_⟩
 · have:=qkn (hA.g.tr hx) (hB.g.tr hW) oQ oQ
   rw [hA.ot,hB.ot] at this;exact this
 · have:=qm5 (hA.g.tr hx) oQ
   rw [hA.ot] at this;exact this
 · have:=qj7 false (hA.r.tr hx) (hB.r.tr hW) oQ oQ (fun e=>by cases e)
   rw [hA.om,hB.om,ql8] at this;exact this
 · have:=qj7 true (hA.r.tr hx) (hA.r.tr hx) oQ oQ (fun _ i k x y hi hk=>qvg hA.r.rise hi hk)
   rw [hA.om,qnn] at this;exact this
theorem joinPairs_walk (n c n2 c2:Nat) (A A2:Option Addr) (l r:List (Int×Ob)) (z:Int) (w:World) (hl:qdw w w.heap.size A n l) (hn:n<=9223372036854775807) (hr:qdw w w.heap.size A2 n2 r) (hn2:n2<=9223372036854775807):
 C9 3 #[.slice A n c,.slice A2 n2 c2,.int .i64 z] w (Ret w (.bool true)):=by
 have HSa:=hdQ (fun W (hW:Below w.heap.size w W)=>qi0 w.heap.size n c A l W (hl.below hW) hW.size hn)
 have HSb:=hdQ (fun W (hW:Below w.heap.size w W)=>qi0 w.heap.size n2 c2 A2 r W (hr.below hW) hW.size hn2)
 have HA:=hdQ qoe;have HL:=hdQ hl;have HR:=hdQ hr;clear hl hr
 go_enter Tryz.func3,Tryz.ntmps3
 go_wp2_with (first
  | (go_at_call 8;(have _q:=HS1);(refine(HSb.out _ bel).mono ?_);rintro e wb ⟨sb,rfl,hsb,hbb⟩;obtain⟨hcb,hfb,hzb⟩:=bc3 hbb;(try simp at hzb);have HS2:=hdQ hsb;clear hsb;cases sb)
  | (go_at_call 8;(refine(HSa.out _ bel).mono ?_);rintro e w1 ⟨s,rfl,hs,hb1⟩;obtain⟨hc1,hf1,hz1⟩:=bc3 hb1;(try simp at hz1);have HS1:=hdQ hs;clear hs;cases s)
  | (go_at_call 9;(with_reducible refine(HA.out _).monoR ?_);rintro wa hba hca hfa hza;(try simp at hza)))
 · go_ret
   exact⟨rfl,bel⟩
 · go_ret
   exact⟨rfl,bel⟩
 obtain⟨h50,hpts⟩:=HS1.out (by trivial)
 obtain⟨h502,hpts2⟩:=HS2.out (by trivial)
 have HMa:=hdQ (fun W (hW:Below w.heap.size w W)=>qh3 A n c l z W ((HL.out.below hW).moreJ hW.size) oQ (fun p hp=>zcy (hpts p hp) dE))
 have HMb:=hdQ (fun W (hW:Below w.heap.size w W) z=>qh3 A2 n2 c2 r z W ((HR.out.below hW).moreJ hW.size) oQ (fun p hp=>zcy (hpts2 p hp) dE))
 have H50:=hdQ (show (qgy l).length<=50/\(qgy r).length<=50 from ⟨by have:=qjf l;have:=HL.out.1;omega,by have:=qjf r;have:=HR.out.1;omega⟩)
 have hbw:Below w.heap.size w wb:=bel;have HBW:=hdQ hbw;clear h50 hpts h502 hpts2 HS1 HS2 HSa HSb hbw
 go_wp2_with (first
  | (go_at_call 10;(have _q:=HM2);(refine(HMb.out _ bel _).mono ?_);rintro e w3 ⟨tb,mb,rfl,hm3,hb3⟩;have HM3:=hdQ hm3;clear hm3;obtain⟨hc3,hf3,hz3⟩:=bc3 hb3;(try simp at hz3))
  | (go_at_call 10;(refine(HMa.out _ bel).mono ?_);rintro e w2 ⟨ta,ma,rfl,hm2,hb2⟩;have HM2:=hdQ hm2;clear hm2;obtain⟨hc2,hf2,hz2⟩:=bc3 hb2;(try simp at hz2)))
 have hb23:Below w2.heap.size w2 w3:=bel;have hb03:Below w.heap.size w w3:=bel;have HB03:=hdQ hb03;obtain⟨P,Q,hP,hQ,hPQ⟩:=qvc HM2.out HM3.out hb23 H50.out.1 H50.out.2;have HPQ:=hdQ hPQ;have HEqP:Hid (∀(W W4 W6:World) (A4 A6:Option Addr) (c4 c6:Nat) (Z4 Z6:Nat->Prop),qci W4 Z4 A4 (qan P)->qci W6 Z6 A6 (qan P)->Below W4.heap.size W4 W->Below W6.heap.size W6 W->C9 13 #[.slice A4 P.length c4,.slice A6 P.length c6] W (Ret W (.bool true))):=fun W W4 W6 A4 A6 c4 c6 Z4 Z6 h4 h6 b4 b6=>qor A4 A6 c4 c6 P Z4 Z6 W (h4.kept (qad b4) sI) (h6.kept (qad b6) sI) hP
 have HEqQ:Hid (∀(W W4 W6:World) (A4 A6:Option Addr) (c4 c6:Nat) (Z4 Z6:Nat->Prop),qci W4 Z4 A4 (qan Q)->qci W6 Z6 A6 (qan Q)->Below W4.heap.size W4 W->Below W6.heap.size W6 W->C9 13 #[.slice A4 Q.length c4,.slice A6 Q.length c6] W (Ret W (.bool true))):=fun W W4 W6 A4 A6 c4 c6 Z4 Z6 h4 h6 b4 b6=>qor A4 A6 c4 c6 Q Z4 Z6 W (h4.kept (qad b4) sI) (h6.kept (qad b6) sI) hQ
 clear hPQ hb23 hb03 HM2 HM3 hb2 hc2 hf2 hz2 hb3 hc3 hf3 hz3;clear hb1 hc1 hf1 hz1 hbb hcb hfb hzb
 go_wp2_with (first
  | (go_at_call 11;(refine((HPQ.out _ bel).1).mono ?_);rintro e w4 ⟨v4,rfl,ho4,hb4⟩;obtain⟨A4,c4,rfl,_,_,_⟩:=qar ho4;have HO4:=hdQ (qe6 ho4 rfl);clear ho4;obtain⟨hc4,hf4,hz4⟩:=bc3 hb4;(try simp at hz4))
  | (go_at_call 12;(refine((HPQ.out _ bel).2.1).mono ?_);rintro e w5 ⟨v5,rfl,ho5,hb5⟩;obtain⟨A5,c5,rfl,_,_,_⟩:=qar ho5;have HO5:=hdQ (qe6 ho5 rfl);clear ho5;obtain⟨hc5,hf5,hz5⟩:=bc3 hb5;(try simp at hz5))
  | (go_at_call 14;(have _q:=HO6);(refine((HPQ.out _ bel).2.2.2).mono ?_);rintro e w7 ⟨v7,rfl,ho7,hb7⟩;obtain⟨A7,c7,rfl,_,_,_⟩:=qar ho7;have HO7:=hdQ (qe6 ho7 rfl);clear ho7;obtain⟨hc7,hf7,hz7⟩:=bc3 hb7;(try simp at hz7))
  | (go_at_call 14;(refine((HPQ.out _ bel).2.2.1).mono ?_);rintro e w6 ⟨v6,rfl,ho6,hb6⟩;obtain⟨A6,c6,rfl,_,_,_⟩:=qar ho6;have HO6:=hdQ (qe6 ho6 rfl);clear ho6;obtain⟨hc6,hf6,hz6⟩:=bc3 hb6;(try simp at hz6))
  | (go_at_call 13;(have _q:=HO7);(refine(HEqQ.out _ _ _ _ _ _ _ _ _ HO5.out HO7.out bel bel).monoR ?_);rintro wq hbq hcq hfq hzq;(try simp at hzq))
  | (go_at_call 13;(refine(HEqP.out _ _ _ _ _ _ _ _ _ HO4.out HO6.out bel bel).monoR ?_);rintro wp hbp hcp hfp hzp;(try simp at hzp))
  | (go_at_call 9;(with_reducible refine(HA.out _).monoR ?_);rintro wa hba hca hfa hza;(try simp at hza)))
 go_ret;exact⟨rfl,HB03.out.trans ((show Below w3.heap.size w3 _ from bel).mono HB03.out.size)⟩
end Go.Proofs.YteodamnfgcnmmaaGreat
