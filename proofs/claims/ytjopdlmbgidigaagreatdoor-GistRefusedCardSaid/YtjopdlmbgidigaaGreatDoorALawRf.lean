/-pergolalaw17: the walk of GistRefused.-/
import Derived.Test.YtjopdlmbgidigaaGreatDoorALawGb
import Derived.Test.YtjopdlmbgidigaaGreatDoorAPlainEm
set_option linter.unusedVariables false
set_option linter.unusedSimpArgs false
set_option maxHeartbeats 8000000
set_option maxRecDepth 20000
namespace Go.Proofs.YtjopdlmbgidigaaGreatDoor
open Go Go.RowKit Pg
theorem qm0 (n c on oc m mc:Nat) (A oA mA:Option Addr) (l more:List (Int×Ob)) (ok:Int) (ol:List Pt) (id:Int) (w:World) (hl:qeo w w.heap.size A n l) (ho:qan w w.heap.size oA on ol) (hm:qeo w w.heap.size mA m more) (hn:n<=40) (hon:on<=70) (hid: -9223372036854775808<=id/\id<=9223372036854775807) (hm63:m<=9223372036854775807) (hT:ErrT w):
 C9 3 #[.slice A n c,.int .i64 id,obV ok oA on oc,.slice mA m mc] w (Ret w (.bool true)):=by
 have HA:=hdQ qgl;have HT:=hdQ hT;have HI1:=hdQ (fun W (hW:Below w.heap.size w W)=>qlw w.heap.size n c 400 A l W (hl.below hW) hW.size oQ dE)
 have HI2:=hdQ (fun W (hW:Below w.heap.size w W)=>qlw w.heap.size m mc 200 mA more W (hm.below hW) hW.size hm63 dE)
 have HL:=hdQ (And.intro hl (And.intro ho hm));have HID:=hdQ hid;have d1:decide ((40:Int)<(n:Int))=false:=by rw [decide_eq_false_iff_not];omega
 have d2:decide ((70:Int)<(on:Int))=false:=by rw [decide_eq_false_iff_not];omega
 clear hl ho hm hT hid
 simp only [obV] at*
 go_enter Tryz.func3,Tryz.ntmps3
 go_wp2_with (first
  | (go_at_call 5;(have _q:=HS1);(refine(HI2.out _ bel).mono ?_);rintro e w2 ⟨t2,rfl,hs2,hb2⟩;have HS2:=hdQ hs2;clear hs2;obtain⟨hc2,hf2,hz2⟩:=bc3 hb2;(try simp at hz2);obtain⟨b5,d5⟩:∃b,decide ((200:Int)<(t2:Int))=b:=⟨_,rfl⟩;have HD5:=hdQ d5;cases b5)
  | (go_at_call 5;(refine(HI1.out _ bel).mono ?_);rintro e w1 ⟨t1,rfl,hs1,hb1⟩;have HS1:=hdQ hs1;clear hs1;obtain⟨hc1,hf1,hz1⟩:=bc3 hb1;(try simp at hz1);obtain⟨b4,d4⟩:∃b,decide ((400:Int)<(t1:Int))=b:=⟨_,rfl⟩;have HD4:=hdQ d4;cases b4)
  | (go_at_call 6;(with_reducible refine(HA.out _).monoR ?_);rintro wa hba hca hfa hza;(try simp at hza)))
 rotate_left
 · go_ret
   exact⟨rfl,bel⟩
 · go_ret
   exact⟨rfl,bel⟩
 have hp400:∀p∈l,p.2.pts.length<=1000000:=fun p hp=>zcy ((HS1.out (by have:=of_decide_eq_false HD4.out;omega)).2 p hp) dE
 have hmm:=HS2.out (by have:=of_decide_eq_false HD5.out;omega)
 have hpm:∀p∈more,p.2.pts.length<=1000000:=fun p hp=>zcy (hmm.2 p hp) dE
 have HPts:=hdQ (And.intro hp400 (And.intro hmm.1 hpm));have HN:=hdQ (fun W=>qoq 34 (clV 3 0 false 0) 4 dE dE W)
 obtain⟨fM,fC,fD,fU,fS,fP,hCl⟩:=qu7 3 0 false 0 dE
 have HCl:=hdQ hCl;have HLw:=hdQ (qnn 3 0 false);clear hp400 hmm hpm HI1 HI2 HS1 HS2 HD4 HD5 hCl
 go_wp2_with (go_at_call 7;(refine(HN.out _).mono ?_);rintro e w3 ⟨tb,mb,r,own1,rfl,hL1,hown1,hb3⟩;have HL1:=hdQ (And.intro hL1 hown1);clear hL1 hown1;have HB3:=hdQ (show Below w.heap.size w w3 from bel);have HBx:=hdQ (show Blk w3 w.heap.size 25 #[.int .i64 ok,.slice oA on oc] from blkA);obtain⟨hc3,hf3,hz3⟩:=bc3 hb3;(try simp at hz3))
 have hT3:TreS (clsC 3 0 false 0) cl17 (w.heap.size+1) (fun _=>False) w3 tb 4 []:=TreS.new HL1.out.1 dE dE fun b q=>zcy oQ (HL1.out.2 b q)
 have HBd:=hdQ (fun W (hW:Below w3.heap.size w3 W)=>TreS.bld (hT3.tr hW) HCl.out dE (fun _ q=>q.elim) (by have:=hW.size;omega) w.heap.size n c A l (HL.out.1.below (HB3.out.trans (hW.mono HB3.out.size))) (zcy HB3.out.size hW.size) oQ HPts.out.1)
 have HBe:Hid (bldO (clsC 3 0 false 0) [] l=bldR (clsC 3 0 false 0) [] l):=by unfold Hid bldO;rw [if_pos (show ([]:List (Int×Ob)).length=0 from rfl)]
 rw [HBe.out] at HBd;clear hT3 HBe HL1
 go_wp2_with (go_at_call 8;(refine(HBd.out _ bel).mono ?_);rintro e w4 ⟨v,rfl,hx4,hT4,ht4⟩;have HB4:=hdQ (qeq (show Below w.heap.size w _ from bel) ht4 (Nat.le_succ _));have hB4:Blk w4 w.heap.size 25 #[.int .i64 ok,.slice oA on oc]:=ht4.blk HBx.out (fun q=>by have:=q.1;omega);have k0:=hB4.cell 0;have k1:=hB4.cell 1;have kl:=hB4.lt;(simp only [lAq] at k0 k1);have hz4:w.heap.size+1<=w4.heap.size:=(by have:=ht4.size;omega);have HT4:=hdQ hT4;clear hT4 ht4 hB4;rcases qqz hx4 with ⟨hz,rfl⟩|⟨hz,et,eu,rfl⟩;(all_goals(have HZ4:=hdQ hz));(all_goals(clear hx4 hz)))
 rotate_left
 · have hT4:=HT4.out
   rw [if_neg HZ4.out] at hT4;have HLn:=hdQ hT4.len;clear hT4
   go_wp2_with (first|(go_at_call 9;(refine(HLn.out _ bel).monoR ?_);rintro wn hbn hcn hfn hzn;(try simp at hzn))|(go_at_call 6;(with_reducible refine(HA.out _).monoR ?_);rintro wa hba hca hfa hza;(try simp at hza)))
   go_ret;exact⟨rfl,HB4.out.trans ((show Below w4.heap.size w4 _ from bel).mono HB4.out.size)⟩
 have hT4:=HT4.out;rw [if_pos HZ4.out] at hT4;have hIl:(bldM l).length=n:=by rw [q52 HZ4.out];exact HL.out.1.1
 obtain⟨I,hI⟩:∃I,bldM l=I:=⟨_,rfl⟩;rw [hI] at hT4 hIl;have HIt:=hdQ (hT4.its oQ hIl)
 have HT4' :=hdQ (And.intro hT4 hIl);clear hT4 HT4 hI hc1 hf1 hb1 hz1 hc2 hf2 hb2 hz2 hc3 hf3 hb3 hz3 HBd HN HZ4 HBx
 go_wp2_with (go_at_call 10;(refine(HIt.out _ bel).mono ?_);rintro e w5 ⟨A5,c5,L5,rfl,ho5,hl5,hm5,hb5⟩;obtain⟨hc5,hf5,hz5⟩:=bc3 hb5;(try simp at hz5);have HM5:=hdQ (And.intro hm5 (And.intro ho5 hl5));have HB5:=hdQ (show Below w4.heap.size w4 w5 from bel);clear hm5 ho5 hl5)
 obtain⟨F,hF⟩:∃F:Nat->Prop,F=fun b=>w4.heap.size<=b/\b<w5.heap.size:=⟨_,rfl⟩
 have hT5:TreS (clsC 3 0 false 0) cl17 (w.heap.size+1) F w5 tb 4 I:=(HT4'.out.1.more fun b q=> .inr (by rw [hF] at q;exact q.1)).tr HB5.out
 have HF5:=hdQ (show ∀b,F b->b<w5.heap.size from fun b q=>by rw [hF] at q;exact q.2)
 have HM5' :=hdQ (show MisZ w5 F (.slice A5 n c5) L5 from by rw [hF];exact HM5.out.1)
 have HB05:=hdQ (HB4.out.trans (HB5.out.mono HB4.out.size));have HT5:=hdQ hT5;have HIn:=hdQ (fun W (hW:Below w5.heap.size w5 W)=>TreS.ins (hT5.tr hW) HCl.out (by have:=HT4'.out.2;omega) (fun b q=>zky (HF5.out b q) hW.size) (by have:=hW.size;have:=HB5.out.size;omega) id w.heap.size on oc ok oA ol (HL.out.2.1.below (HB05.out.trans (hW.mono HB05.out.size))) (zcy HB05.out.size hW.size) oQ)
 obtain⟨ie,hie⟩:∃x,insO (clsC 3 0 false 0) I id ⟨ok,ol⟩=x:=⟨_,rfl⟩;rw [hie] at HIn;have HIE:=hdQ hie;clear hT5 hie;have HIl:=hdQ HT4'.out.2;clear HT4' HIt hF
 go_wp2_with (go_at_call 11;(refine(HIn.out _ bel).mono ?_);rintro e w6 ⟨v,rfl,hx6,hT6,ht6⟩;have HB6:=hdQ (qeq (show Below w.heap.size w _ from HB05.out.trans ((show Below w5.heap.size w5 _ from bel).mono HB05.out.size)) ht6 (Nat.le_succ _));have hz6:w5.heap.size<=w6.heap.size:=(by have:=ht6.size;omega);have HM6:=hdQ ((HM5'.out.tr (show Below w5.heap.size w5 _ from bel)).turn ht6 fun b q k=>k.2 q);have HT6:=hdQ hT6;clear hT6 ht6;rcases qqz hx6 with ⟨hz,rfl⟩|⟨hz,et,eu,rfl⟩;(all_goals(have HZ6:=hdQ hz));(all_goals(clear hx6 hz)))
 · -- put in
   have hie:insO (clsC 3 0 false 0) I id ⟨ok,ol⟩=0:=HIE.out.trans HZ6.out;have hT6:=HT6.out;rw [if_pos HZ6.out] at hT6;have hg:=quv hie;obtain⟨n1,hn1⟩:∃x,n+1=x:=⟨_,rfl⟩;have hl6:(putK id (⟨ok,ol⟩:Ob) I).length=n1:=by rw [qt7 hg,HIl.out];exact hn1
   have hLn:=hT6.len;rw [hl6] at hLn;have HLn:=hdQ hLn;have e1:(n:Int)+1=(n1:Int):=oQ
   have e2:IntKind.i64.wrap (n1:Int)=(n1:Int):=IntWalk.i64_in _ ⟨by omega,by omega⟩
   have hrise:=HT5.out.rise
   have HDl:=hdQ (fun W (hW:Below w6.heap.size w6 W)=>show C9 12 #[gP tb,.int .i64 id] W fun e w' =>e=.returned .nilIface/\TreS (clsC 3 0 false 0) cl17 (w.heap.size+1) F w' tb 4 I/\TurnF (fun b=>w.heap.size+1<=b/\¬ F b) W w' from by
    refine(TreS.del (hT6.tr hW) HCl.out oQ (fun b q=>zky (HF5.out b q) (by have:=hW.size;omega)) (by have:=hW.size;have:=HB5.out.size;omega) id HID.out).mono ?_
    rintro e w' ⟨v,rfl,hx,hT,ht⟩
    rw [show (getK id (putK id (⟨ok,ol⟩:Ob) I)).isSome=true from by rw [get_put hrise,if_pos rfl];rfl,if_pos rfl] at hx
    rw [q5s hrise hg] at hT;obtain rfl:=ErrX.zero hx
    exact⟨rfl,hT,ht⟩)
   clear hie hT6 hg hl6 hn1 hLn hrise HIn HT6 HZ6 HIE
   go_wp2_with (first|(go_at_call 9;(refine(HLn.out _ bel).monoR ?_);rintro wn hbn hcn hfn hzn;(try simp at hzn))|(go_at_call 12;(refine(HDl.out _ bel).mono ?_);rintro e w7 ⟨rfl,hT7,ht7⟩;have HB7:=hdQ (qeq (show Below w.heap.size w _ from HB6.out.trans ((show Below w6.heap.size w6 _ from bel).mono HB6.out.size)) ht7 (Nat.le_succ _));have hz7:=ht7.size;have HM7:=hdQ ((HM6.out.tr (show Below w6.heap.size w6 _ from bel)).turn ht7 fun b q k=>k.2 q);have HIt7:=hdQ (hT7.its (by have:=HIl.out;omega) HIl.out);clear hT7 ht7)|(go_at_call 10;(refine(HIt7.out _ bel).mono ?_);rintro e w8 ⟨A8,c8,L8,rfl,ho8,hl8,hm8,hb8⟩;obtain⟨hc8,hf8,hz8⟩:=bc3 hb8;(try simp at hz8);have HSm:=hdQ (fun W (hW:Below w8.heap.size w8 W)=>qj5 A8 A5 c8 c5 n L8 L5 _ _ W (hm8.tr hW) ((HM7.out.tr (show Below w7.heap.size w7 w8 from bel)).tr hW) hl8 (by rw [ho8,HM5.out.2.1]) oQ);clear hm8 ho8 hl8)|(go_at_call 13;(refine(HSm.out _ bel).monoR ?_);rintro ws hbs hcs hfs hzs;(try simp at hzs))|(go_at_call 6;(with_reducible refine(HA.out _).monoR ?_);rintro wa hba hca hfa hza;(try simp at hza)))
   go_ret;exact⟨rfl,HB7.out.trans ((show Below w7.heap.size w7 _ from bel).mono HB7.out.size)⟩
 -- refused
 have hT6:=HT6.out;rw [if_neg HZ6.out] at hT6;have HBd:=hdQ (fun W (hW:Below w6.heap.size w6 W)=>TreS.bld (hT6.tr hW) HCl.out (by have:=HIl.out;omega) (fun b q=>zky (HF5.out b q) (by have:=hW.size;omega)) (by have:=hW.size;have:=HB5.out.size;omega) w.heap.size m mc mA more (HL.out.2.2.below (HB6.out.trans (hW.mono HB6.out.size))) (zcy HB6.out.size hW.size) (by have:=HPts.out.2.1;omega) HPts.out.2.2)
 obtain⟨J,hJ⟩:∃J,(if (bldO (clsC 3 0 false 0) I more).1=0 then bldM more else I)=J:=⟨_,rfl⟩
 rw [hJ] at HBd
 have hJn:0<n->J=I/\bldO (clsC 3 0 false 0) I more=(1,0):=fun q=>by
  have:bldO (clsC 3 0 false 0) I more=(1,0):=by unfold bldO;rw [if_neg (by have:=HIl.out;omega)]
  rw [this,if_neg dE] at hJ
  exact⟨hJ.symm,this⟩
 have hJl:J.length<=200:=by
  rw [<-hJ]
  split
  · have:=qvc more
    have:=HL.out.2.2.1;have:=HPts.out.2.1
    omega
  · have:=HIl.out
    omega
 have HJ:=hdQ (And.intro hJn hJl);clear hT6 hJ hJn hJl HT6 HIn HT5
 go_upto_region 13 with (go_at_call 8;(refine(HBd.out _ bel).mono ?_);rintro e w7 ⟨v7,rfl,hx7,hT7,ht7⟩;have HX7:=hdQ hx7;have HB7:=hdQ (qeq (show Below w.heap.size w _ from HB6.out.trans ((show Below w6.heap.size w6 _ from bel).mono HB6.out.size)) ht7 (Nat.le_succ _));have hz7:=ht7.size;have HM7:=hdQ ((HM6.out.tr (show Below w6.heap.size w6 _ from bel)).turn ht7 fun b q k=>k.2 q);have HT7:=hdQ hT7;clear hx7 hT7 ht7)
 have hbF:∀b,F b->b<w7.heap.size:=fun b q=>zky (HF5.out b q) oQ
 have hb7:w.heap.size+1<=w7.heap.size:=by have:=HB5.out.size;omega
 have HGe:=hdQ (HT7.out.get id HID.out.1 HID.out.2)
 have HEnd:Hid (∀W,TreS (clsC 3 0 false 0) cl17 (w.heap.size+1) F W tb 4 J->(∀W',Below W.heap.size W W' ->C9 16 #[gP tb] W' (Ret W' (.bool true)))/\(0<n->∀W',Below W.heap.size W W' ->C9 10 #[gP tb] W' fun e w' =>∃A c L,e=.returned (.slice A n c)/\obsM L=I/\L.length=n/\(∃Z,MisZ w' Z (.slice A n c) L)/\Below W'.heap.size W' w')):=fun W hW=>by
  refine⟨hW.snd HCl.out.c HLw.out (by have:=HJ.out.2;omega),fun q W' hW' => ?_⟩
  have e:=(HJ.out.1 q).1;rw [e] at hW;refine(hW.its (by have:=HIl.out;omega) HIl.out W' hW').mono ?_
  rintro e w' ⟨A,c,L,rfl,h1,h2,h3,h4⟩;exact⟨A,c,L,rfl,h1,h2,⟨_,h3⟩,h4⟩
 have HDl:=hdQ (fun(hg:getK id J=none) W (hW:Below w7.heap.size w7 W)=>show C9 12 #[gP tb,.int .i64 id] W fun e w' =>∃v,e=.returned v/\ErrX w' v 7 ⟨#[100,101,108,101,116,101]⟩ id/\TreS (clsC 3 0 false 0) cl17 (w.heap.size+1) F w' tb 4 J/\TurnF (fun b=>w.heap.size+1<=b/\¬ F b) W w' from by
  refine(TreS.del (HT7.out.tr hW) HCl.out (by have:=HJ.out.2;omega) (fun b q=>zky (hbF b q) hW.size) (zcy hb7 hW.size) id HID.out).mono ?_
  rintro e w' ⟨v,rfl,hx,hT,ht⟩
  rw [show (getK id J).isSome=false from by rw [hg];rfl,if_neg dE] at hx
  rw [qmb hg] at hT
  exact⟨v,rfl,hx,hT,ht⟩)
 have HIs:=hdQ (fun v k s (i:Int) W (hT:ErrT W) (h:ErrX W v k s i) (hk:k<=15)=>qkq v k s i W hT h hk)
 clear hbF HBd HL HPts HCl HLw;obtain⟨hs,hhs⟩:∃b,(getK id J).isSome=b:=⟨_,rfl⟩;rw [hhs] at HGe;have HHs:=hdQ hhs;clear hhs;have HIs1:=hdQ (fun v W (hT:ErrT W) (h:ErrX W v 1 ⟨#[98,117,105,108,100]⟩ 0)=>qkq v 1 ⟨#[98,117,105,108,100]⟩ 0 W hT h dE)
 have HIs7:=hdQ (fun v W (hT:ErrT W) (h:ErrX W v 7 ⟨#[100,101,108,101,116,101]⟩ id)=>qkq v 7 ⟨#[100,101,108,101,116,101]⟩ id W hT h dE)
 have HTw:=hdQ (fun W (hW:Below w.heap.size w W)=>HT.out.tr hW)
 clear HIs
 have hE0:(0<n/\decide ((0:Int)<(n:Int))=true/\((n:Int)==0)=false)\/(n=0/\decide ((0:Int)<(n:Int))=false/\((n:Int)==0)=true):=by
  rcases Nat.eq_zero_or_pos n with q|q
  · exact .inr ⟨q,by subst q;rfl,by subst q;rfl⟩
  · exact .inl ⟨q,by rw [decide_eq_true_eq];omega,by rw [beq_eq_false_iff_ne];omega⟩
 rcases hE0 with ⟨hn0,p1,p2⟩|⟨hn0,p1,p2⟩
 · have HX1:=hdQ (show ErrX w7 v7 1 ⟨#[98,117,105,108,100]⟩ 0 from by have:=HX7.out;rw [(HJ.out.1 hn0).2] at this;exact this)
   have HN0:=hdQ hn0
   have HSm:=hdQ (fun(A8:Option Addr) (c8:Nat) (L8:List (Int×Mi)) (W8 W:World) (h:∃Z,MisZ W8 Z (.slice A8 n c8) L8) (ho:obsM L8=I) (hl:L8.length=n) (W5:World) (h5:MisZ W5 F (.slice A5 n c5) L5) (hW8:Below W8.heap.size W8 W) (hW5:Below W5.heap.size W5 W)=>show C9 13 #[.slice A8 n c8,.slice A5 n c5] W (Ret W (.bool true)) from by
    obtain⟨Z,h⟩:=h
    exact qj5 A8 A5 c8 c5 n L8 L5 Z F W (h.tr hW8) (h5.tr hW5) hl (by rw [ho,HM5.out.2.1]) oQ)
   clear HX7 hn0
   go_wp2_with (first
    | (go_at_call 14;(refine(HIs1.out _ _ (HTw.out _ (HB7.out.trans ((show Below w7.heap.size w7 _ from bel).mono HB7.out.size))) (HX1.out.tr bel)).monoR ?_);rintro wi hbi hci hfi hzi;(try simp at hzi))
    | (go_at_call 15;(refine(HGe.out _ bel).mono ?_);rintro e w8 ⟨k8,A8,n8,c8,rfl,hb8⟩;obtain⟨hc8,hf8,hz8⟩:=bc3 hb8;(try simp at hz8);cases hs))
   · have hg:getK id J=none:=by have:=HHs.out;cases h:getK id J with
      | none=>rfl
      | some x=>rw [h] at this;cases this
     have HDl2:=hdQ (HDl.out hg);clear hg
     go_wp2_with (first
      | (go_at_call 12;(refine(HDl2.out _ bel).mono ?_);rintro e w9 ⟨v9,rfl,hx9,hT9,ht9⟩;have HX9:=hdQ hx9;have HB9:=hdQ (qeq (show Below w.heap.size w _ from HB7.out.trans ((show Below w7.heap.size w7 _ from bel).mono HB7.out.size)) ht9 (Nat.le_succ _));have hz9:=ht9.size;have HM9:=hdQ ((HM7.out.tr (show Below w7.heap.size w7 _ from bel)).turn ht9 fun b q k=>k.2 q);have HE9:=hdQ (HEnd.out w9 hT9);clear hx9 hT9 ht9)
      | (go_at_call 14;(refine(HIs7.out _ _ (HTw.out _ (HB9.out.trans ((show Below w9.heap.size w9 _ from bel).mono HB9.out.size))) (HX9.out.tr bel)).monoR ?_);rintro wj hbj hcj hfj hzj;(try simp at hzj))
      | (go_at_call 10;(refine(HE9.out.2 HN0.out _ bel).mono ?_);rintro e w10 ⟨A10,c10,L10,rfl,ho10,hl10,hm10,hb10⟩;obtain⟨hc10,hf10,hz10⟩:=bc3 hb10;(try simp at hz10);have HR10:=hdQ (And.intro ho10 (And.intro hl10 hm10));clear ho10 hl10 hm10)
      | (go_at_call 13;(refine(HSm.out _ _ _ w10 _ HR10.out.2.2 HR10.out.1 HR10.out.2.1 w9 HM9.out bel bel).monoR ?_);rintro ws hbs hcs hfs hzs;(try simp at hzs))
      | (go_at_call 16;(refine(HE9.out.1 _ bel).monoR ?_);rintro wt hbt hct hft hzt;(try simp at hzt))
      | (go_at_call 6;(with_reducible refine(HA.out _).monoR ?_);rintro wa hba hca hfa hza;(try simp at hza)))
     go_ret;exact⟨rfl,HB9.out.trans ((show Below w9.heap.size w9 _ from bel).mono HB9.out.size)⟩
   · have HE7:=hdQ (HEnd.out w7 HT7.out)
     go_wp2_with (first
      | (go_at_call 10;(refine(HE7.out.2 HN0.out _ bel).mono ?_);rintro e w10 ⟨A10,c10,L10,rfl,ho10,hl10,hm10,hb10⟩;obtain⟨hc10,hf10,hz10⟩:=bc3 hb10;(try simp at hz10);have HR10:=hdQ (And.intro ho10 (And.intro hl10 hm10));clear ho10 hl10 hm10)
      | (go_at_call 13;(refine(HSm.out _ _ _ w10 _ HR10.out.2.2 HR10.out.1 HR10.out.2.1 w7 HM7.out bel bel).monoR ?_);rintro ws hbs hcs hfs hzs;(try simp at hzs))
      | (go_at_call 16;(refine(HE7.out.1 _ bel).monoR ?_);rintro wt hbt hct hft hzt;(try simp at hzt))
      | (go_at_call 6;(with_reducible refine(HA.out _).monoR ?_);rintro wa hba hca hfa hza;(try simp at hza)))
     go_ret;exact⟨rfl,HB7.out.trans ((show Below w7.heap.size w7 _ from bel).mono HB7.out.size)⟩
 · subst hn0
   clear HX7 p1 p2
   cases hs
   · have hg:getK id J=none:=by have:=HHs.out;cases h:getK id J with
      | none=>rfl
      | some x=>rw [h] at this;cases this
     have HDl2:=hdQ (HDl.out hg);clear hg
     go_wp2_with (first
      | (go_at_call 15;(refine(HGe.out _ bel).mono ?_);rintro e w8 ⟨k8,A8,n8,c8,rfl,hb8⟩;obtain⟨hc8,hf8,hz8⟩:=bc3 hb8;(try simp at hz8))
      | (go_at_call 12;(refine(HDl2.out _ bel).mono ?_);rintro e w9 ⟨v9,rfl,hx9,hT9,ht9⟩;have HX9:=hdQ hx9;have HB9:=hdQ (qeq (show Below w.heap.size w _ from HB7.out.trans ((show Below w7.heap.size w7 _ from bel).mono HB7.out.size)) ht9 (Nat.le_succ _));have hz9:=ht9.size;have HE9:=hdQ (HEnd.out w9 hT9);clear hx9 hT9 ht9)
      | (go_at_call 14;(refine(HIs7.out _ _ (HTw.out _ (HB9.out.trans ((show Below w9.heap.size w9 _ from bel).mono HB9.out.size))) (HX9.out.tr bel)).monoR ?_);rintro wj hbj hcj hfj hzj;(try simp at hzj))
      | (go_at_call 16;(refine(HE9.out.1 _ bel).monoR ?_);rintro wt hbt hct hft hzt;(try simp at hzt))
      | (go_at_call 6;(with_reducible refine(HA.out _).monoR ?_);rintro wa hba hca hfa hza;(try simp at hza)))
     go_ret;exact⟨rfl,HB9.out.trans ((show Below w9.heap.size w9 _ from bel).mono HB9.out.size)⟩
   · have HE7:=hdQ (HEnd.out w7 HT7.out)
     go_wp2_with (first
      | (go_at_call 15;(refine(HGe.out _ bel).mono ?_);rintro e w8 ⟨k8,A8,n8,c8,rfl,hb8⟩;obtain⟨hc8,hf8,hz8⟩:=bc3 hb8;(try simp at hz8))
      | (go_at_call 16;(refine(HE7.out.1 _ bel).monoR ?_);rintro wt hbt hct hft hzt;(try simp at hzt))
      | (go_at_call 6;(with_reducible refine(HA.out _).monoR ?_);rintro wa hba hca hfa hza;(try simp at hza)))
     go_ret;exact⟨rfl,HB7.out.trans ((show Below w7.heap.size w7 _ from bel).mono HB7.out.size)⟩
theorem ql0 (n c on oc m mc:Nat) (A oA mA:Option Addr) (l more:List (Int×Ob)) (ok id:Int) (ol:List Pt) (w:World) (hl:qeo w w.heap.size A n l) (h:(decide ((40:Int)<(n:Int))||decide ((70:Int)<(on:Int)))=true):
 C9 3 #[.slice A n c,.int .i64 id,obV ok oA on oc,.slice mA m mc] w (Ret w (.bool true)):=by
 have HA:=hdQ qgl;obtain⟨b1,d1⟩:∃b,decide ((40:Int)<(n:Int))=b:=⟨_,rfl⟩;obtain⟨b2,d2⟩:∃b,decide ((70:Int)<(on:Int))=b:=⟨_,rfl⟩;rw [d1,d2] at h
 simp only [obV] at*
 cases b1 with
 | true=>
   clear h hl
   go_enter Tryz.func3,Tryz.ntmps3
   go_wp2_with (go_at_call 6;(with_reducible refine(HA.out _).monoR ?_);rintro wa hba hca hfa hza;(try simp at hza))
   go_ret;exact⟨rfl,bel⟩
 | false=>
   cases b2 with
   | false=>cases h
   | true=>
     have hn:n<=40:=by have:=of_decide_eq_false d1;omega
     have HI1:=hdQ (fun W (hW:Below w.heap.size w W)=>qlw w.heap.size n c 400 A l W (hl.below hW) hW.size oQ dE)
     clear h hl
     go_enter Tryz.func3,Tryz.ntmps3
     go_wp2_with (first
      | (go_at_call 5;(refine(HI1.out _ bel).mono ?_);rintro e w1 ⟨t1,rfl,hs1,hb1⟩;clear hs1;obtain⟨hc1,hf1,hz1⟩:=bc3 hb1;(try simp at hz1);obtain⟨b4,d4⟩:∃b,decide ((400:Int)<(t1:Int))=b:=⟨_,rfl⟩;cases b4)
      | (go_at_call 6;(with_reducible refine(HA.out _).monoR ?_);rintro wa hba hca hfa hza;(try simp at hza)))
     all_goals(go_ret;exact⟨rfl,bel⟩)
theorem gistRefused_walk (n c on oc m mc:Nat) (A oA mA:Option Addr) (l more:List (Int×Ob)) (ok:Int) (ol:List Pt) (id:Int) (w:World) (hl:qeo w w.heap.size A n l) (ho:qan w w.heap.size oA on ol) (hm:qeo w w.heap.size mA m more) (hid: -9223372036854775808<=id/\id<=9223372036854775807) (hm63:m<=9223372036854775807) (hT:ErrT w):
 C9 3 #[.slice A n c,.int .i64 id,obV ok oA on oc,.slice mA m mc] w (Ret w (.bool true)):=by
 by_cases h:(decide ((40:Int)<(n:Int))||decide ((70:Int)<(on:Int)))=true
 · exact ql0 n c on oc m mc A oA mA l more ok id ol w hl h
 · simp only [Bool.or_eq_true,decide_eq_true_eq,not_or] at h
   exact qm0 n c on oc m mc A oA mA l more ok ol id w hl ho hm oQ oQ hid hm63 hT
end Go.Proofs.YtjopdlmbgidigaaGreatDoor
