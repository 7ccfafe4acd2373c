/-pergolalaw17: the walk of GistBroken.-/
import Derived.Test.YtfnhnjbkkggbeaaGreatKLawGb
import Derived.Test.YtfnhnjbkkggbeaaGreatKStpA
import Derived.Test.YtfnhnjbkkggbeaaGreatKFewA
set_option linter.unusedVariables false
set_option linter.unusedSimpArgs false
set_option maxHeartbeats 8000000
set_option maxRecDepth 20000
namespace Go.Proofs.YtfnhnjbkkggbeaaGreat
open Go Go.RowKit Pg
section
variable {C:Cl} {ct:TypeId} {cv:Value} {B:Nat} {w:World} {tb fan N:Nat} {I:List (Int×Ob)} {fM fC fD fU fS fP:Nat}
theorem TreS.insE (h:TreS C (.iface ct cv) B (fun _=>False) w tb fan I) (hC:ClOk ct cv C fM fC fD fU fS fP) (hI:I.length<=N) (hN:N<=3000) (hB:B<=w.heap.size) (id:Int) (B2 n c:Nat) (k:Int) (A:Option Addr) (l:List Pt) (hl:qal w B2 A n l) (hB2:B2<=w.heap.size) (hn2:n<=1000000):
 C9 12 #[gP tb,.int .i64 id,obV k A n c] w fun e w' =>∃v,e=.returned v/\(∃J:List (Int×Ob),J.length<=N+1/\TreS C (.iface ct cv) B (fun _=>False) w' tb fan J)/\TurnF (fun b=>B<=b/\¬ False) w w' :=
 (TreS.ins h hC oQ (fun _ q=>q.elim) hB id B2 n c k A l hl hB2 hn2).mono fun e w' ⟨v,he,_,hT,ht⟩=>⟨v,he,⟨_,by split;exact zcy (qrz _ _ _) oQ;omega,hT⟩,ht⟩
theorem TreS.delE (h:TreS C (.iface ct cv) B (fun _=>False) w tb fan I) (hC:ClOk ct cv C fM fC fD fU fS fP) (hI:I.length<=N) (hN:N<=3000) (hB:B<=w.heap.size) (id:Int) (hid: -9223372036854775808<=id/\id<=9223372036854775807):
 C9 21 #[gP tb,.int .i64 id] w fun e w' =>∃v,e=.returned v/\(∃J:List (Int×Ob),J.length<=N+1/\TreS C (.iface ct cv) B (fun _=>False) w' tb fan J)/\TurnF (fun b=>B<=b/\¬ False) w w' :=
 (TreS.del h hC oQ (fun _ q=>q.elim) hB id hid).mono fun e w' ⟨v,he,_,hT,ht⟩=>⟨v,he,⟨_,by have:=qjj id I;omega,hT⟩,ht⟩
theorem TreS.bldE (h:TreS C (.iface ct cv) B (fun _=>False) w tb fan I) (hC:ClOk ct cv C fM fC fD fU fS fP) (hI:I.length<=N) (h2:2000<=N) (hN:N<=3000) (hB:B<=w.heap.size) (B2 n c:Nat) (A:Option Addr) (l:List (Int×Ob)) (hl:qe4 w B2 A n l) (hB2:B2<=w.heap.size) (hn:l.length<=2000) (hpts:∀p∈l,p.2.pts.length<=2000):
 C9 9 #[gP tb,.slice A n c] w fun e w' =>∃v,e=.returned v/\(∃J:List (Int×Ob),J.length<=N+1/\TreS C (.iface ct cv) B (fun _=>False) w' tb fan J)/\TurnF (fun b=>B<=b/\¬ False) w w' :=
 (TreS.bld h hC oQ (fun _ q=>q.elim) hB B2 n c A l hl hB2 (by rw [<-hl.1];omega) fun p hp=>zcy (hpts p hp) dE).mono fun e w' ⟨v,he,_,hT,ht⟩=>⟨v,he,⟨_,by
   split
   · rename_i h0
     have hz:bldO C I l=bldR C [] l:=by
      unfold bldO at h0 ⊢
      split
      · rfl
      · rename_i q;rw [if_neg q] at h0;cases h0
     rw [hz] at h0
     rw [q2c h0]
     omega
   · omega,hT⟩,ht⟩
end
theorem qne (n c n2 c2 n3 c3:Nat) (A A2 A3:Option Addr) (kd brk:Int) (bits:Nat) (one:Bool) (L:List Stp) (q:List Qu) (p:List Pt) (w:World) (hl:qgh w w.heap.size A n L) (hq:qfn w w.heap.size A2 n2 q) (hp:qal w w.heap.size A3 n3 p) (hn:n<=9223372036854775807) (hn2:n2<=9223372036854775807) (hbits:bits<=20) (hid:∀s∈L,-9223372036854775808<=s.id/\s.id<=9223372036854775807):
 C9 4 #[clV kd bits one brk,.slice A n c,.slice A2 n2 c2,.slice A3 n3 c3] w (Ret w (.bool true)):=by
 have HA:=hdQ qk9;have HSm:=hdQ (fun W (hW:Below w.heap.size w W)=>qj5 w.heap.size n c A L W (hl.below hW) hW.size hn)
 have HFw:=hdQ (fun W (hW:Below w.heap.size w W)=>qo1 w.heap.size n2 c2 n3 c3 A2 A3 q W (hq.below hW) hW.size hn2)
 have HL:=hdQ (And.intro hl (And.intro hq (And.intro hp hid)));have d1:decide ((bits:Int)<0)=false:=by rw [decide_eq_false_iff_not];omega
 have d2:decide ((20:Int)<(bits:Int))=false:=by rw [decide_eq_false_iff_not];omega
 obtain⟨fM,fC,fD,fU,fS,fP,hCl⟩:=qz9 kd bits one brk hbits;have HCl:=hdQ hCl;have HN:=hdQ (fun W=>qqe 34 (clV kd bits one brk) 4 dE dE W)
 clear hl hq hp hid hCl
 go_enter Tryz.func4,Tryz.ntmps4
 go_wp2_with (first
  | (go_at_call 20;(refine(HSm.out _ bel).mono ?_);rintro e w1 ⟨s1,rfl,hs1,hb1⟩;have HS1:=hdQ hs1;clear hs1;obtain⟨hc1,hf1,hz1⟩:=bc3 hb1;(try simp at hz1);have hy1:=ol1 w w1;cases s1)
  | (go_at_call 6;(refine(HFw.out _ bel).mono ?_);rintro e w2 ⟨s2,rfl,hs2,hb2⟩;have HS2:=hdQ hs2;clear hs2;obtain⟨hc2,hf2,hz2⟩:=bc3 hb2;(try simp at hz2);have hy2:=ol1 w w2;cases s2)
  | (go_at_call 7;(with_reducible refine(HA.out _).monoR ?_);rintro wa hba hca hfa hza;(try simp at hza))
  | (go_at_call 8;(refine(HN.out _).mono ?_);rintro e w3 ⟨tb,mb,r,own1,rfl,hL1,hown1,hb3⟩;have HT3:=hdQ (show TreS (clsC kd bits one brk) (.iface 34 (clV kd bits one brk)) w.heap.size (fun _=>False) w3 tb 4 [] from TreS.new hL1 dE dE fun b q=>zcy (bsy w) (hown1 b q));clear hL1 hown1;have HB3:=hdQ (show Below w.heap.size w w3 from bel);obtain⟨hc3,hf3,hz3⟩:=bc3 hb3;(try simp at hz3)))
 · go_ret
   exact⟨rfl,bel⟩
 · go_ret
   exact⟨rfl,bel⟩
 obtain⟨hn150,hst⟩:=HS1.out (by trivial)
 obtain⟨h210,h310,hring⟩:=HS2.out (by trivial)
 have HSt:=hdQ (And.intro hst hring);clear hst hring HS1 HS2 HSm HFw HN hc1 hf1 hb1 hz1 hy1 hc2 hf2 hb2 hz2 hy2 hc3 hf3 hb3 hz3 d1 d2 hn hn2
 go_loopw [11] (fun vi wr=>∃(i:Nat) (I:List (Int×Ob)),i<=n/\vi=.int .i64 i/\I.length<=2000+i/\TreS (clsC kd bits one brk) (.iface 34 (clV kd bits one brk)) w.heap.size (fun _=>False) wr tb 4 I/\Below w.heap.size w wr) (fun vi _=>n-(Go.RowKit.intOf vi).toNat)
 case atStart=>exact ⟨0,[],zly _,rfl,zly _,HT3.out,HB3.out⟩
 case round=>
  obtain⟨i,I,hin,rfl,hIl,hT,hb⟩:=hrel;clear HT3 HB3
  by_cases hlt:i<n
  case pos=>
   have hlt0:(i:Int)<(n:Int):=oQ
   obtain⟨b,off,s,A1,n1,c1,A4,n4,c4,rfl,hab,hx,q0,q1,q2,q3,q4,hpt,hit,hn4⟩:=(HL.out.1.below hb).at_ hlt;have hws:=hb.size;have hbw:b<wr.heap.size:=oQ
   have hok:=HSt.out.1 s (zjy hx);have hsid:=HL.out.2.2.2 s (zjy hx);have HTr:=hdQ (And.intro hT (And.intro hb hIl));obtain⟨sk,sid,⟨ok,ol⟩,sits⟩:=s;unfold q04 at hok
   simp only at q0 q1 q2 hpt hit hok hsid
   have HIn:=hdQ (fun W (hW:Below wr.heap.size wr W)=>show C9 12 #[.pointer (some ⟨tb,0,none⟩),.int .i64 sid,.agg #[.int .i64 ok,.slice A1 n1 c1]] W fun e w' =>∃v,e=.returned v/\(∃J:List (Int×Ob),J.length<=2000+i+1/\TreS (clsC kd bits one brk) (.iface 34 (clV kd bits one brk)) w.heap.size (fun _=>False) w' tb 4 J)/\Below w.heap.size W w' from (TreS.insE (hT.tr hW) HCl.out hIl oQ (zcy hws hW.size) sid w.heap.size n1 c1 ok A1 ol (hpt.below (hW.mono hws)) (zcy hws hW.size) (by have:=hpt.1;omega)).mono fun e w' ⟨v,he,hJ,ht⟩=>⟨v,he,hJ,qek ht (fun k q=>q.1) (zcy hws hW.size)⟩)
   have HDe:=hdQ (fun W (hW:Below wr.heap.size wr W)=>show C9 21 #[.pointer (some ⟨tb,0,none⟩),.int .i64 sid] W fun e w' =>∃v,e=.returned v/\(∃J:List (Int×Ob),J.length<=2000+i+1/\TreS (clsC kd bits one brk) (.iface 34 (clV kd bits one brk)) w.heap.size (fun _=>False) w' tb 4 J)/\Below w.heap.size W w' from (TreS.delE (hT.tr hW) HCl.out hIl oQ (zcy hws hW.size) sid hsid).mono fun e w' ⟨v,he,hJ,ht⟩=>⟨v,he,hJ,qek ht (fun k q=>q.1) (zcy hws hW.size)⟩)
   have HBu:=hdQ (fun W (hW:Below wr.heap.size wr W)=>show C9 9 #[.pointer (some ⟨tb,0,none⟩),.slice A4 n4 c4] W fun e w' =>∃v,e=.returned v/\(∃J:List (Int×Ob),J.length<=2000+i+1/\TreS (clsC kd bits one brk) (.iface 34 (clV kd bits one brk)) w.heap.size (fun _=>False) w' tb 4 J)/\Below w.heap.size W w' from (TreS.bldE (hT.tr hW) HCl.out hIl oQ oQ (zcy hws hW.size) w.heap.size n4 c4 A4 sits (hit.below (hW.mono hws)) (zcy hws hW.size) hok.2.1 hok.2.2).mono fun e w' ⟨v,he,hJ,ht⟩=>⟨v,he,hJ,qek ht (fun k q=>q.1) (zcy hws hW.size)⟩)
   clear hT hb hx hpt hit hok hsid hIl
   by_cases k1:sk=1
   · subst k1
     go_wp2_with fail;refine qbd (w.heap.size) [0,1,2,3,4,5,6,7,8,9,10,11] kr kr pq ?_
     simp only [zdy,zey,ldz,lds,bare,qak,lcz,lcs,zay]
     repeat' ((try simp only [Act.put,lsi,lsz,lss]);first|(refine lqy ?_)|(refine qab qaa rfl (fun K hK=> ?_);go_simp;((first |  (go_at_call 12;(refine(HIn.out _ bel).mono ?_);rintro e w5 ⟨v5,rfl,hJ5,hb5'⟩;have hb5:Below w.heap.size wr w5:=Below.trans (show Below w.heap.size wr _ from bel) hb5';have HJ5:=hdQ hJ5;clear hJ5 hb5')|skip)<;>(refine hK.out _ _ (by first|with_reducible exact qcj|with_reducible exact Below.drew qcj|exact bel) ?_;clear hK K))))
     (all_goals try simp only [Act.put,lsi,lsz,lss]);all_goals(refine qad ?_)
     go_wp2_with fail
     go_roundw
     case rel=>
      obtain⟨J,hJ,hTJ⟩:=HJ5.out;exact⟨i+1,J,by omega,by go_num,by omega,hTJ,HTr.out.2.1.trans hb5⟩
     case measure=>simp [Go.RowKit.intOf];omega
   by_cases k2:sk=2
   · subst k2
     go_wp2_with (go_at_call 21;(refine(HDe.out _ bel).mono ?_);rintro e w5 ⟨v5,rfl,hJ5,hb5⟩;have HJ5:=hdQ hJ5;clear hJ5)
     go_roundw
     case rel=>
      obtain⟨J,hJ,hTJ⟩:=HJ5.out;exact⟨i+1,J,by omega,by go_num,by omega,hTJ,HTr.out.2.1.trans (Below.trans bel hb5)⟩
     case measure=>simp [Go.RowKit.intOf];omega
   by_cases k3:sk=3
   · subst k3
     go_wp2_with (go_at_call 9;(refine(HBu.out _ bel).mono ?_);rintro e w5 ⟨v5,rfl,hJ5,hb5⟩;have HJ5:=hdQ hJ5;clear hJ5)
     go_roundw
     case rel=>
      obtain⟨J,hJ,hTJ⟩:=HJ5.out;exact⟨i+1,J,by omega,by go_num,by omega,hTJ,HTr.out.2.1.trans (Below.trans bel hb5)⟩
     case measure=>simp [Go.RowKit.intOf];omega
   go_wp2_with fail
   go_roundw
   case rel=>exact ⟨i+1,I,by omega,by go_num,by have:=HTr.out.2.2;omega,HTr.out.1,HTr.out.2.1⟩
   case measure=>simp [Go.RowKit.intOf];omega
  obtain rfl:n=i:=oQ
  obtain⟨wS,hwS⟩:∃W:World,W=wr:=⟨_,rfl⟩;subst hwS;have HSe:=hdQ (hT.srchE HCl.out.c oQ)
  have HNe:=hdQ (hT.nearE HCl.out.c oQ)
  have HSn:=hdQ (hT.sndE HCl.out.c oQ)
  have HB:=hdQ hb;clear hT hb hIl hin hlt
  simp only [gP,quV,ptV] at*
  go_wp2_with fail
  go_loopw [12] (fun vi wr=>∃i:Nat,i<=n2/\vi=.int .i64 i/\Below wS.heap.size wS wr) (fun vi _=>n2-(Go.RowKit.intOf vi).toNat)
  case atStart=>exact ⟨0,zly _,rfl,bel⟩
  case round=>
   obtain⟨i,hin,rfl,hb⟩:=hrel;have hwS:=HB.out.size
   by_cases hlt:i<n2
   case pos=>
    have hlt0:(i:Int)<(n2:Int):=oQ
    obtain⟨b,off,A',m,cc,x,rfl,hab,hx,⟨q0,q1,q2,q3,q4,q5⟩,hr⟩:=(HL.out.2.1.below (HB.out.trans (hb.mono hwS))).at_ hlt;have hbw:b<wr.heap.size:=by have:=hb.size;omega
    have hm:=HSt.out.2 x (zjy hx);obtain⟨xk,⟨⟨x0,x1⟩,x2,x3⟩,ring⟩:=x;have HSx:=hdQ (fun W (hW:Below wr.heap.size wr W)=>HSe.out W (hb.trans (hW.mono hb.size)) ⟨xk,⟨⟨x0,x1⟩,x2,x3⟩,ring⟩ A' m cc (by have h1:=hr.1;simp only at h1 hm;omega) ((hr.below (hW.mono (by have:=hb.size;omega))).more (by have:=hb.size;have:=hW.size;omega)))
    have HB2:=hdQ hb;clear hx hr hm hb
    simp only at q0 q1 q2 q3 q4 HSx
    go_wp2_with (go_at_call 13;(refine(HSx.out _ bel).mono ?_);rintro e w6 ⟨v6,rfl,hb6⟩)
    go_roundw
    case rel=>exact ⟨i+1,by omega,by go_num,HB2.out.trans ((show Below wr.heap.size wr _ from bel).mono HB2.out.size)⟩
    case measure=>simp [Go.RowKit.intOf];omega
   obtain rfl:n2=i:=oQ
   obtain⟨wT,hwT⟩:∃W:World,W=wr:=⟨_,rfl⟩;subst hwT;have HB2:=hdQ hb;clear hb hin hlt;go_wp2_with fail
   go_loopw [13] (fun vi wr=>∃i:Nat,i<=n3/\vi=.int .i64 i/\Below wS.heap.size wS wr) (fun vi _=>n3-(Go.RowKit.intOf vi).toNat)
   case atStart=>exact ⟨0,zly _,rfl,HB2.out.trans ((show Below wT.heap.size wT _ from bel).mono HB2.out.size)⟩
   case round=>
    obtain⟨i,hin,rfl,hb⟩:=hrel
    by_cases hlt:i<n3
    case pos=>
     have hlt0:(i:Int)<(n3:Int):=oQ
     obtain⟨b,off,rfl,hab,q0,q1⟩:=(HL.out.2.2.1.below (HB.out.trans (hb.mono hwS))).at_ hlt;have hbw:b<wr.heap.size:=by have:=hb.size;omega
     generalize (pt p i).x=px at*;generalize (pt p i).y=py at*;have HNx:=hdQ (fun W (hW:Below wr.heap.size wr W)=>HNe.out W (hb.trans (hW.mono hb.size)) px py 5)
     have HB3:=hdQ hb;clear hb
     go_wp2_with (go_at_call 15;(refine(HNx.out _ bel).mono ?_);rintro e w6 ⟨v6,rfl,hb6⟩)
     go_roundw
     case rel=>exact ⟨i+1,by omega,by go_num,HB3.out.trans ((show Below wr.heap.size wr _ from bel).mono HB3.out.size)⟩
     case measure=>simp [Go.RowKit.intOf];omega
    obtain rfl:n3=i:=oQ
    have HSy:=hdQ (fun W (hW:Below wr.heap.size wr W)=>HSn.out W (hb.trans (hW.mono hb.size)))
    have HB3:=hdQ hb;clear hb hin hlt
    go_wp2_with (first
     | (go_at_call 19;(refine(HSy.out _ bel).mono ?_);rintro e w7 ⟨v7,rfl,hb7⟩;obtain⟨hc7,hf7,hz7⟩:=bc3 hb7;(try simp at hz7))
     | (go_at_call 7;(with_reducible refine(HA.out _).monoR ?_);rintro wa hba hca hfa hza;(try simp at hza)))
    go_ret;exact⟨rfl,HB.out.trans ((HB3.out.trans ((show Below wr.heap.size wr _ from bel).mono HB3.out.size)).mono HB.out.size)⟩
theorem qll (n c n2 c2 n3 c3:Nat) (A A2 A3:Option Addr) (kd brk bits:Int) (one:Bool) (L:List Stp) (q:List Qu) (w:World) (hl:qgh w w.heap.size A n L) (hq:qfn w w.heap.size A2 n2 q) (hn:n<=9223372036854775807) (hn2:n2<=9223372036854775807) (h:bits<0\/20<bits):
 C9 4 #[.agg #[.int .i64 kd,.int .i64 bits,.bool one,.int .i64 brk],.slice A n c,.slice A2 n2 c2,.slice A3 n3 c3] w (Ret w (.bool true)):=by
 have HA:=hdQ qk9;have HSm:=hdQ (fun W (hW:Below w.heap.size w W)=>qj5 w.heap.size n c A L W (hl.below hW) hW.size hn)
 have HFw:=hdQ (fun W (hW:Below w.heap.size w W)=>qo1 w.heap.size n2 c2 n3 c3 A2 A3 q W (hq.below hW) hW.size hn2)
 clear hl hq;obtain⟨b1,d1⟩:∃b,decide (bits<0)=b:=⟨_,rfl⟩;obtain⟨b2,d2⟩:∃b,decide (20<bits)=b:=⟨_,rfl⟩
 have hs:b1=true\/(b1=false/\b2=true):=by
  rcases h with h|h
  · exact .inl (by rw [<-d1];exact decide_eq_true h)
  · exact .inr ⟨by rw [<-d1,decide_eq_false_iff_not];omega,by rw [<-d2];exact decide_eq_true h⟩
 clear h
 rcases hs with rfl|⟨rfl,rfl⟩
 all_goals(
  go_enter Tryz.func4,Tryz.ntmps4
  go_wp2_with (first
   | (go_at_call 20;(refine(HSm.out _ bel).mono ?_);rintro e w1 ⟨s1,rfl,hs1,hb1⟩;clear hs1;obtain⟨hc1,hf1,hz1⟩:=bc3 hb1;(try simp at hz1);have hy1:=ol1 w w1;cases s1)
   | (go_at_call 6;(refine(HFw.out _ bel).mono ?_);rintro e w2 ⟨s2,rfl,hs2,hb2⟩;clear hs2;obtain⟨hc2,hf2,hz2⟩:=bc3 hb2;(try simp at hz2);have hy2:=ol1 w w2;cases s2)
   | (go_at_call 7;(with_reducible refine(HA.out _).monoR ?_);rintro wa hba hca hfa hza;(try simp at hza)))
  all_goals(go_ret;exact⟨rfl,bel⟩))
theorem gistBroken_walk (n c n2 c2 n3 c3:Nat) (A A2 A3:Option Addr) (kd bits brk:Int) (one:Bool) (L:List Stp) (q:List Qu) (p:List Pt) (w:World) (hl:qgh w w.heap.size A n L) (hq:qfn w w.heap.size A2 n2 q) (hp:qal w w.heap.size A3 n3 p) (hn:n<=9223372036854775807) (hn2:n2<=9223372036854775807) (hid:∀s∈L,-9223372036854775808<=s.id/\s.id<=9223372036854775807):
 C9 4 #[.agg #[.int .i64 kd,.int .i64 bits,.bool one,.int .i64 brk],.slice A n c,.slice A2 n2 c2,.slice A3 n3 c3] w (Ret w (.bool true)):=by
 by_cases h:bits<0\/20<bits
 · exact qll n c n2 c2 n3 c3 A A2 A3 kd brk bits one L q w hl hq hn hn2 h
 · obtain⟨b,rfl⟩:∃b:Nat,bits=(b:Int):=⟨bits.toNat,by omega⟩
   exact qne n c n2 c2 n3 c3 A A2 A3 kd brk b one L q p w hl hq hp hn hn2 oQ hid
end Go.Proofs.YtfnhnjbkkggbeaaGreat
