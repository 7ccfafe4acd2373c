/-pergolalaw17: the walk of GistNear.-/
import Derived.Test.YtjopdlmbgidigaaGreatABldA
import Derived.Test.YtjopdlmbgidigaaGreatAGisX
import Derived.Test.YtjopdlmbgidigaaGreatAGisZ
import Derived.Test.YtjopdlmbgidigaaGreatAAlkN
import Derived.Test.YtjopdlmbgidigaaGreatALawGn
set_option linter.unusedVariables false
set_option linter.unusedSimpArgs false
set_option maxHeartbeats 8000000
set_option maxRecDepth 20000
namespace V17
section
open Go Go.RowKit Pg
variable {P:Program} {Q:Exit->Act->World->Prop} {S:World->Prop}
end
end V17
namespace Go.Proofs.YtjopdlmbgidigaaGreat
open Go Go.RowKit Pg V17
theorem qs8 (S:List Nr) (k:Nat):∃r,nrVs S=nrVs (S.take k)++r:=by
 refine⟨nrVs (S.drop k),?_⟩;unfold nrVs
 rw [<-List.flatMap_append,List.take_append_drop]
theorem q67 {w:World} {Z:Nat->Prop} {A:Option Addr} {I:List Int} (h:qci w Z A (idcs I)) {k:Nat} {z:Int} (hz:I[k]? =some z):∃b off,A=some ⟨b,off,none⟩/\b<w.heap.size/\w.cell? ⟨b,off+k,none⟩=some (.int .i64 z):=by
 have hk:k<I.length:=(zsy.1 hz).1;obtain⟨b,off,e,_,hb,hc⟩:=h (by unfold idcs;rw [zyy];omega)
 exact⟨b,off,e,hb,hc k _ (by unfold idcs;rw [zpx,hz];rfl)⟩
theorem qci.part {w:World} {Z:Nat->Prop} {A:Option Addr} {xs ys r:List Value} (h:qci w Z A xs) (e:xs=ys++r):qci w Z A ys:=fun hn=>by
 obtain⟨b,off,e1,hZ,hb,hc⟩:=h (by rw [e,zny];omega)
 exact⟨b,off,e1,hZ,hb,fun k u hu=>hc k u (by rw [e,zex (zsy.1 hu).1];exact hu)⟩
theorem q3i {w:World} {v:Value} {k:Nat} {s:ByteArray} {id:Int} (h:ErrX w v k s id):(k=0/\v=.nilIface)\/(k≠0/\∃t u,v=.iface t u):=by
 rcases h with h|⟨h0,g,d,inner,hv,_,_⟩
 · exact .inl h
 · exact .inr ⟨h0,_,_,hv⟩
theorem q4j {I:List (Int×Ob)} {p:Pt} (hr:qb3 I) (ho:∀x∈I,ckOb x.2=0) (op:okPt p=true) (q:Pt) (l:List Pt) {i:Nat} {a:Nr} (ha:(qgx (fun o=>qbu o p) I)[i]? =some a):
 (i<(qdu ⟨3,⟨p,q⟩,l⟩ I).length->a.2=⟨0,1⟩/\(qdu ⟨3,⟨p,q⟩,l⟩ I)[i]? =some a.1)/\(¬ i<(qdu ⟨3,⟨p,q⟩,l⟩ I).length->a.2.num≠0):=by
 have hz:=qzs hr ho op q l;have hl:(qdu ⟨3,⟨p,q⟩,l⟩ I).length=((I.filter fun x=>qa2 x.2 ⟨3,⟨p,q⟩,l⟩).map fun x=>(x.1,(⟨0,1⟩:Fr))).length:=by unfold qdu;rw [zyy,zyy]
 have hmem:∃x∈I,a=(x.1,qbu x.2 p):=qfk.1 (zjy ha)
 constructor
 · intro h
   rw [hz,zex (by rw [<-hl];exact h),zpx] at ha
   obtain⟨x,hx,rfl⟩:=Option.map_eq_some_iff.1 ha;exact⟨rfl,by unfold qdu;rw [zpx,hx];rfl⟩
 · intro h
   rw [hz,zdx (by rw [<-hl];omega)] at ha
   have h1:=(List.mem_filter.1 (zjy ha)).2;obtain⟨x,hx,rfl⟩:=hmem;intro e;have:=qoh (ho x hx) op e
   simp [this] at h1
theorem qtn (n c kn:Nat) (A:Option Addr) (l:List (Int×Ob)) (x y:Int) (w:World) (hl:qew w w.heap.size A n l) (hn:n<=80) (hk:kn<=100) (hp:okPt ⟨x,y⟩=true):
 C9 3 #[.slice A n c,ptV x y,.int .i64 kn] w (Ret w (.bool true)):=by
 have HA:=hdQ qg6;have HIt:=hdQ (fun W (hW:Below w.heap.size w W)=>qji w.heap.size n c 800 A l W (hl.below hW) hW.size oQ dE)
 have HPo:=hdQ (fun W=>qap x y W)
 rw [hp] at HPo;have HL:=hdQ (And.intro hl hp);have d1:decide ((80:Int)<(n:Int))=false:=by rw [decide_eq_false_iff_not];omega
 have d2:decide ((kn:Int)<0)=false:=by rw [decide_eq_false_iff_not];omega
 have d3:decide ((100:Int)<(kn:Int))=false:=by rw [decide_eq_false_iff_not];omega
 clear hl hp
 simp only [ptV] at*
 go_enter Tryz.func3,Tryz.ntmps3
 go_wp2_with (first
  | (go_at_call 5;(refine(HIt.out _ bel).mono ?_);rintro e w1 ⟨t,rfl,hs,hb1⟩;have HS:=hdQ hs;clear hs;obtain⟨hc1,hf1,hz1⟩:=bc3 hb1;(try simp at hz1);obtain⟨b4,d4⟩:∃b,decide ((800:Int)<(t:Int))=b:=⟨_,rfl⟩;have HD4:=hdQ d4;cases b4)
  | (go_at_call 6;(with_reducible refine(HPo.out _).monoR ?_);rintro wp hbp hcp hfp hzp;(try simp at hzp))
  | (go_at_call 7;(with_reducible refine(HA.out _).monoR ?_);rintro wa hba hca hfa hza;(try simp at hza)))
 rotate_left
 · go_ret
   exact⟨rfl,bel⟩
 have hp600:∀p∈l,p.2.pts.length<=1000000:=fun p hp=>zcy (HS.out (by have:=of_decide_eq_false HD4.out;omega) p hp) dE
 have HN:=hdQ (fun W=>qpl 34 (clV 3 0 false 0) 4 dE dE W)
 have HPts:=hdQ hp600;clear hp600 HIt HPo HS HD4
 go_wp2_with (go_at_call 8;(refine(HN.out _).mono ?_);rintro e w2 ⟨tb,mb,r,own1,rfl,hL1,hown1,hb2⟩;have HL1:=hdQ (And.intro hL1 hown1);clear hL1 hown1;have HB2:=hdQ (show Below w.heap.size w w2 from bel);obtain⟨hc2,hf2,hz2⟩:=bc3 hb2;(try simp at hz2))
 have hgA:GAt (clsC 3 0 false 0) (.iface 34 (clV 3 0 false 0)) w2 own1 (fun _=>False) tb mb (newT 4 r):=qtr HL1.out.1 dE dE
 have hbe:bldE (clsC 3 0 false 0) (newT 4 r) l=bldR (clsC 3 0 false 0) [] l:=by unfold bldE;rw [if_pos (show (newT 4 r).items.length=0 from rfl)]
 have HBd:=hdQ (fun W (hW:Below w2.heap.size w2 W)=>qsi (qjp 3 0 false 0 dE) (qq1 3 0 false 0) (qrf 3 0 false 0 dE) (hgA.tr hW) (show 0<=100000 by decide) w.heap.size n c A l (HL.out.1.below (HB2.out.trans (hW.mono HB2.out.size))) (zcy HB2.out.size hW.size) oQ HPts.out)
 have HOw:=hdQ (show ∀b,own1 b->w.heap.size+1<=b from fun b q=>zcy oQ (HL1.out.2 b q))
 have HBx:=hdQ (show Blk w2 w.heap.size 24 #[.int .i64 x,.int .i64 y] from blkA)
 rw [hbe] at HBd;clear hgA hbe HL1
 go_wp2_with (first
  | (go_at_call 9;(refine(HBd.out _ bel).mono ?_);rintro e w3 ⟨v,rfl,hx3,hG3⟩;have HG3:=hdQ hG3;have HB3:=hdQ (show Below w.heap.size w w3 from by
      obtain⟨t3,own3,imm3,mb3,_,hgr,_⟩:=hG3;exact HB2.out.trans (qgo hgr.turn (fun k q=>Nat.le_of_succ_le (HOw.out k q)) HB2.out.size));have hB3:Blk w3 w.heap.size 24 #[.int .i64 x,.int .i64 y]:=(by
      obtain⟨t3,own3,imm3,mb3,_,hgr,_⟩:=hG3
      exact hgr.turn.blk HBx.out (fun q=>by have:=HOw.out _ q;omega));have k0:=hB3.cell 0;have k1:=hB3.cell 1;have kl:=hB3.lt;(simp only [lAq] at k0 k1);clear hG3 hB3;rcases q3i hx3 with ⟨hz3,rfl⟩|⟨hz3,et,eu,rfl⟩;(all_goals(have HZ3:=hdQ hz3));(all_goals(clear hx3 hz3)))
  | (go_at_call 7;(with_reducible refine(HA.out _).monoR ?_);rintro wa hba hca hfa hza;(try simp at hza)))
 rotate_left
 · go_ret
   exact⟨rfl,HB3.out.trans ((show Below w3.heap.size w3 _ from bel).mono HB3.out.size)⟩
 obtain⟨t2,own2,imm2,mb2,hG2,_,_,_,hok⟩:=HG3.out;have hob:=hok (by unfold bldE;rw [if_pos (show (newT 4 r).items.length=0 from rfl)];exact HZ3.out)
 have hlen:(obsT t2.items).length=n:=by rw [hob,q1a HZ3.out];exact HL.out.1.1
 have hlen2:t2.items.length=n:=by rw [<-hlen];unfold obsT;rw [zyy]
 have hris:qb3 (obsT t2.items):=by unfold obsT qb3;rw [List.pairwise_map];exact hG2.shape.rise
 have hcks:∀p∈obsT t2.items,ckOb p.2=0:=fun p hp=>by
  obtain⟨⟨i,it⟩,hm,rfl⟩:=zty.1 hp;exact(hG2.its i it (qeo hG2.shape.rise hm)).2.1
 have hnr:=fun W (hW:Below w3.heap.size w3 W) (k:Int)=>qve (qjp 3 0 false 0 dE) (qka 3 0 false) (hG2.tr hW) oQ x y HL.out.2 k
 have hsr:=fun W (hW:Below w3.heap.size w3 W)=>qot (qjp 3 0 false 0 dE) (qka 3 0 false) W (hG2.tr hW) oQ ⟨3,⟨⟨x,y⟩,⟨0,0⟩⟩,[]⟩ (by unfold ckQu;simp [HL.out.2]) none 0 0 dE ⟨rfl,fun q=>absurd q oQ⟩
 have hza:=fun (i:Nat) (a:Nr) (h:(qgx (fun o=>qbu o ⟨x,y⟩) (obsT t2.items))[i]? =some a)=>q4j hris hcks HL.out.2 ⟨0,0⟩ [] h
 obtain⟨S,hS⟩:∃S,qgx (fun o=>qbu o ⟨x,y⟩) (obsT t2.items)=S:=⟨_,rfl⟩
 obtain⟨hs,hhs⟩:∃l,qdu ⟨3,⟨⟨x,y⟩,⟨0,0⟩⟩,[]⟩ (obsT t2.items)=l:=⟨_,rfl⟩;have hSl:S.length=n:=by rw [<-hS,qmk];exact hlen
 have hSok:∀a∈S,FrOk a.2:=fun a ha=>by
  rw [<-hS] at ha;obtain⟨p,hp,rfl⟩:=qfk.1 ha;exact qrx (hcks p hp) HL.out.2
 rw [hS,hhs] at hza;rw [hhs] at hsr
 have hnr2:∀W,Below w3.heap.size w3 W->∀k m:Nat,min k n=m->C9 10 #[gP tb,.agg #[.int .i64 x,.int .i64 y],.int .i64 (k:Int)] W fun e w' =>∃A c,e=.returned (.slice A m c)/\m<=c/\(∃Z,qci w' Z A (nrVs (S.take k)))/\Below W.heap.size W w' :=fun W hW k m hm=>by
  refine(hnr W hW (k:Int)).mono ?_;rintro e w' ⟨v,rfl,ho,hb⟩;rw [show (qgx (fun o=>qbu o ⟨x,y⟩) (t2.items.map fun q=>(q.1,q.2.ob)))=S from hS,Int.toNat_natCast] at ho
  obtain⟨A',c',rfl,hc,_,_⟩:=qat ho;have hl:(S.take k).length=m:=by rw [List.length_take,hSl,hm]
  rw [hl] at ho hc;exact⟨A',c',by rw [hl],hc,⟨_,qfi ho rfl⟩,hb⟩
 have HNr:=hdQ hnr2;obtain⟨hl,hhl⟩:∃x,hs.length=x:=⟨_,rfl⟩;rw [hhl] at hsr hza;have HSr:=hdQ hsr;have HZa:=hdQ hza;have HSl:=hdQ (And.intro hSl hSok);obtain⟨na,hna⟩:∃m,min kn n=m:=⟨_,rfl⟩;obtain⟨kn1,hk1⟩:∃m,kn+1=m:=⟨_,rfl⟩;obtain⟨nb,hnb⟩:∃m,min kn1 n=m:=⟨_,rfl⟩;have HNn:=hdQ (And.intro hna hnb);have e1:min (kn:Int) (n:Int)=(na:Int):=oQ
 have e2:(kn:Int)+1=(kn1:Int):=oQ
 have e3:min (kn1:Int) (n:Int)=(nb:Int):=oQ
 have x2:IntKind.i64.wrap (kn1:Int)=(kn1:Int):=IntWalk.i64_in _ ⟨by omega,by omega⟩
 have hab:na<=nb:=oQ
 have HEq:Hid (∀(W W4 W5:World) (A4 A5:Option Addr) (c4 c5:Nat),(∃Z,qci W4 Z A4 (nrVs (S.take kn)))->(∃Z,qci W5 Z A5 (nrVs (S.take kn1)))->Below W4.heap.size W4 W->Below W5.heap.size W5 W->C9 11 #[.slice A4 na c4,.slice A5 na c5] W (Ret W (.bool true))):=fun W W4 W5 A4 A5 c4 c5 ⟨Z4,h4⟩ ⟨Z5,h5⟩ b4 b5=>by
  have hl:(S.take kn).length=na:=by rw [List.length_take,hSl,hna]
  obtain⟨r,hr⟩:=qs8 (S.take kn1) kn;rw [List.take_take,show min kn kn1=kn by omega] at hr
  have:=qkl A4 A5 c4 c5 (S.take kn) Z4 Z5 W (h4.kept (qad b4) sI) ((h5.part hr).kept (qad b5) sI) oQ
  rw [hl] at this;exact this
 clear hG2 hok hob hlen hlen2 hris hcks hnr hsr hza hS hhs hSl hSok hnr2 hhl hna hk1 hnb;clear hc1 hf1 hb1 hz1 hcp hfp hbp hzp hc2 hf2 hb2 hz2
 go_wp2_with (first
  | (go_at_call 10;(have _q:=HO6);(refine(HNr.out _ bel n n (Nat.min_self n)).mono ?_);rintro e w7 ⟨A7,c7,rfl,_,ho7,hb7⟩;have HO7:=hdQ ho7;clear ho7;obtain⟨hc7,hf7,hz7⟩:=bc3 hb7;(try simp at hz7))
  | (go_at_call 12;(refine(HSr.out _ bel).mono ?_);rintro e w6 ⟨v6,rfl,ho6,hb6⟩;obtain⟨A6,c6,rfl,_,_,_⟩:=qat ho6;have HO6:=hdQ (qfi ho6 rfl);clear ho6;obtain⟨hc6,hf6,hz6⟩:=bc3 hb6;(try simp at hz6);have p6:=(hc6 _ 0 klq).trans pqz;have q6:=(hc6 _ 1 klq).trans qq;have kl6:=zky klq hb6.size)
  | (go_at_call 10;(have _q:=HO4);(refine(HNr.out _ bel kn1 nb HNn.out.2).mono ?_);rintro e w5 ⟨A5,c5,rfl,hl5,ho5,hb5⟩;have HO5:=hdQ ho5;clear ho5;obtain⟨hc5,hf5,hz5⟩:=bc3 hb5;(try simp at hz5);have p5:=(hc5 _ 0 kl4).trans p4;have q5:=(hc5 _ 1 kl4).trans q4;have kl5:=zky kl4 hb5.size;have hac:na<=c5:=zcy hab hl5)
  | (go_at_call 10;(refine(HNr.out _ bel kn na HNn.out.1).mono ?_);rintro e w4 ⟨A4,c4,rfl,_,ho4,hb4⟩;have HO4:=hdQ ho4;clear ho4;obtain⟨hc4,hf4,hz4⟩:=bc3 hb4;(try simp at hz4);have p4:=(hc4 _ 0 kl).trans k0;have q4:=(hc4 _ 1 kl).trans k1;have kl4:=zky kl hb4.size)
  | (go_at_call 11;(refine(HEq.out _ _ _ _ _ _ _ HO4.out HO5.out bel bel).monoR ?_);rintro wq hbq hcq hfq hzq;(try simp at hzq);have pqz:=(hcq _ 0 kl5).trans p5;have qq:=(hcq _ 1 kl5).trans q5;have klq:=zky kl5 hbq.size))
 have HB7:=hdQ (HB3.out.trans ((show Below w3.heap.size w3 w7 from bel).mono HB3.out.size))
 have HP6:Hid (∃Z,qci w7 Z A6 (idcs hs)):=⟨_,HO6.out.kept (qad (show Below w6.heap.size w6 w7 from bel)) sI⟩
 have HP7:Hid (∃Z,qci w7 Z A7 (nrVs S)):=by
  obtain⟨Z,h⟩:=HO7.out
  rw [zmy (by rw [HSl.out.1];exact zhy _)] at h
  exact⟨Z,h⟩
 clear HO4 HO5 HO6 HO7 HNr HSr HEq hb4 hc4 hf4 hz4 hb5 hc5 hf5 hz5 hb6 hc6 hf6 hz6 hb7 hc7 hf7 hz7 hbq hcq hfq hzq
 go_loopw [13] (fun vi wr=>∃i:Nat,i<=n/\vi=.int .i64 i/\Below w7.heap.size w7 wr) (fun vi _=>n-(Go.RowKit.intOf vi).toNat)
 case atStart=>exact ⟨0,zly _,rfl,Below.refl _ _⟩
 case round=>
  obtain⟨i,hin,rfl,hb⟩:=hrel;have HBi:=hdQ hb
  by_cases hlt:i<n
  case neg=>
   obtain rfl:n=i:=oQ
   clear hb
   go_wp2_with (go_at_call 7;(with_reducible refine(HA.out _).monoR ?_);rintro wa hba hca hfa hza;(try simp at hza))
   go_ret;exact⟨rfl,HB7.out.trans ((HBi.out.trans ((show Below wr.heap.size wr _ from bel).mono HBi.out.size)).mono HB7.out.size)⟩
  have hltI:(i:Int)<(n:Int):=oQ
  obtain⟨a,ha⟩:∃a,S[i]? =some a:=⟨S[i]'(by rw [HSl.out.1];exact hlt),zby _⟩
  obtain⟨Z7,h7⟩:=HP7.out;obtain⟨Z6,h6⟩:=HP6.out;obtain⟨b,off,rfl,hbl,r0,r1,r2,r3⟩:=q2y (h7.kept (qad hb) sI) ha
  have hza:=HZa.out i a ha;have hok:=HSl.out.2 a (zjy ha);obtain⟨id,num,den⟩:=a
  simp only at r0 r1 r2 r3 hza hok
  by_cases hi:i<hl
  case pos=>
   have hiI:(i:Int)<(hl:Int):=oQ
   obtain⟨hz,hx⟩:=hza.1 hi;injection hz with hz1 hz2
   subst hz1 hz2;obtain⟨b',off',rfl,hbl',s0⟩:=q67 (h6.kept (qad hb) sI) hx
   simp only [Nat.zero_div,Nat.zero_mod] at r1 r2;clear hza hok hx hb h6 h7 ha;go_wp2_with fail;refine qac kr kr pq ?_
   simp only [zdy,zey,ldz,lds,bare,qal,lcz,lcs,zay]
   repeat' ((try simp only [Act.put,lsi,lsz,lss]);first|(refine qce ?_ ?_;focus(simp only [lAq,zgy,zfy];done))|(refine qbx ?_ ?_ ?_;(focus(simp only [lAq,zgy,zfy];done));(focus(exact bel)))|(refine lexL_void ?_ ?_ ?_;(focus(simp only [lAq,zgy,zfy];done));(focus(exact bel)))|(refine qbd (X:= ?_) ?_ ?_ (fun hg=> ?_) (fun hg=> ?_);rotate_left;(focus(simp only [lAq];with_reducible rfl));(focus(exact bel));all_goals(try simp only [zgy,zfy] at hg))|(refine lqx ?_)|(refine qab qaa rfl (fun K hK=> ?_);go_simp;((first |  fail|skip)<;>(refine hK.out _ _ bel ?_;clear hK K))))
   (all_goals try simp only [Act.put,lsi,lsz,lss]);all_goals(refine qaf ?_)
   go_wp2_with fail
   go_roundw
   case rel=>exact ⟨i+1,by omega,by go_num,HBi.out.trans ((show Below wr.heap.size wr _ from bel).mono HBi.out.size)⟩
   case measure=>simp [Go.RowKit.intOf];omega
  case neg=>
   have hnz:=hza.2 hi;have d1:decide ((i:Int)<(hl:Int))=false:=by rw [decide_eq_false_iff_not];omega
   obtain⟨hh,hhe⟩:∃x,num/18446744073709551616=x:=⟨_,rfl⟩;obtain⟨lo,hlo⟩:∃x,num%18446744073709551616=x:=⟨_,rfl⟩;rw [hhe] at r1;rw [hlo] at r2;have hor:hh≠0\/lo≠0:=oQ
   clear hza hok hb h6 h7 ha hhe hlo hnz
   rcases hor with ho|ho
   · have h0:((hh:Int)==0)=false:=by rw [beq_eq_false_iff_ne];omega
     clear ho;go_wp2_with fail;refine qac kr kr pq ?_
     simp only [zdy,zey,ldz,lds,bare,qal,lcz,lcs,zay]
     repeat' ((try simp only [Act.put,lsi,lsz,lss]);first|(refine qce ?_ ?_;focus(simp only [lAq,zgy,zfy];done))|(refine qbx ?_ ?_ ?_;(focus(simp only [lAq,zgy,zfy];done));(focus(exact bel)))|(refine lexL_void ?_ ?_ ?_;(focus(simp only [lAq,zgy,zfy];done));(focus(exact bel)))|(refine qbd (X:= ?_) ?_ ?_ (fun hg=> ?_) (fun hg=> ?_);rotate_left;(focus(simp only [lAq];with_reducible rfl));(focus(exact bel));all_goals(try simp only [zgy,zfy] at hg))|(refine lqx ?_)|(refine qab qaa rfl (fun K hK=> ?_);go_simp;((first |  fail|skip)<;>(refine hK.out _ _ bel ?_;clear hK K))))
     (all_goals try simp only [Act.put,lsi,lsz,lss]);all_goals(refine qaf ?_)
     go_wp2_with fail
     go_roundw
     case rel=>exact ⟨i+1,by omega,by go_num,HBi.out.trans ((show Below wr.heap.size wr _ from bel).mono HBi.out.size)⟩
     case measure=>simp [Go.RowKit.intOf];omega
   · have h0:((lo:Int)==0)=false:=by rw [beq_eq_false_iff_ne];omega
     clear ho;go_wp2_with fail;refine qac kr kr pq ?_
     simp only [zdy,zey,ldz,lds,bare,qal,lcz,lcs,zay]
     repeat' ((try simp only [Act.put,lsi,lsz,lss]);first|(refine qce ?_ ?_;focus(simp only [lAq,zgy,zfy];done))|(refine qbx ?_ ?_ ?_;(focus(simp only [lAq,zgy,zfy];done));(focus(exact bel)))|(refine lexL_void ?_ ?_ ?_;(focus(simp only [lAq,zgy,zfy];done));(focus(exact bel)))|(refine qbd (X:= ?_) ?_ ?_ (fun hg=> ?_) (fun hg=> ?_);rotate_left;(focus(simp only [lAq];with_reducible rfl));(focus(exact bel));all_goals(try simp only [zgy,zfy] at hg))|(refine lqx ?_)|(refine qab qaa rfl (fun K hK=> ?_);go_simp;((first |  fail|skip)<;>(refine hK.out _ _ bel ?_;clear hK K))))
     (all_goals try simp only [Act.put,lsi,lsz,lss]);all_goals(refine qaf ?_)
     go_wp2_with fail
     go_roundw
     case rel=>exact ⟨i+1,by omega,by go_num,HBi.out.trans ((show Below wr.heap.size wr _ from bel).mono HBi.out.size)⟩
     case measure=>simp [Go.RowKit.intOf];omega
theorem qrn (n c:Nat) (A:Option Addr) (l:List (Int×Ob)) (x y k:Int) (w:World) (hl:qew w w.heap.size A n l) (h:(decide ((80:Int)<(n:Int))||decide (k<0)||decide (100<k)||!okPt ⟨x,y⟩)=true):
 C9 3 #[.slice A n c,ptV x y,.int .i64 k] w (Ret w (.bool true)):=by
 have HA:=hdQ qg6;have HPo:=hdQ (fun W=>qap x y W)
 obtain⟨b1,d1⟩:∃b,decide ((80:Int)<(n:Int))=b:=⟨_,rfl⟩;obtain⟨b2,d2⟩:∃b,decide (k<0)=b:=⟨_,rfl⟩;obtain⟨b3,d3⟩:∃b,decide (100<k)=b:=⟨_,rfl⟩;obtain⟨b4,d4⟩:∃b,okPt ⟨x,y⟩=b:=⟨_,rfl⟩;rw [d1,d2,d3,d4] at h;rw [d4] at HPo;clear d4
 cases b1 with
 | true=>
   clear h d2 d3 hl
   simp only [ptV] at*
   go_enter Tryz.func3,Tryz.ntmps3
   go_wp2_with (go_at_call 7;(with_reducible refine(HA.out _).monoR ?_);rintro wa hba hca hfa hza;(try simp at hza))
   go_ret;exact⟨rfl,bel⟩
 | false=>
   have hn:n<=80:=by have:=of_decide_eq_false d1;omega
   have HIt:=hdQ (fun W (hW:Below w.heap.size w W)=>qji w.heap.size n c 800 A l W (hl.below hW) hW.size oQ dE)
   clear hl
   cases b2 with
   | true=>
     clear h d3
     simp only [ptV] at*
     go_enter Tryz.func3,Tryz.ntmps3
     go_wp2_with (first
      | (go_at_call 5;(refine(HIt.out _ bel).mono ?_);rintro e w1 ⟨t,rfl,_,hb1⟩;obtain⟨hc1,hf1,hz1⟩:=bc3 hb1;(try simp at hz1);obtain⟨b5,d5⟩:∃b,decide ((800:Int)<(t:Int))=b:=⟨_,rfl⟩;cases b5)
      | (go_at_call 6;(with_reducible refine(HPo.out _).monoR ?_);rintro wp hbp hcp hfp hzp;(try simp at hzp))
      | (go_at_call 7;(with_reducible refine(HA.out _).monoR ?_);rintro wa hba hca hfa hza;(try simp at hza)))
     all_goals(go_ret;exact⟨rfl,bel⟩)
   | false=>
     cases b3 with
     | true=>
       clear h
       simp only [ptV] at*
       go_enter Tryz.func3,Tryz.ntmps3
       go_wp2_with (first
        | (go_at_call 5;(refine(HIt.out _ bel).mono ?_);rintro e w1 ⟨t,rfl,_,hb1⟩;obtain⟨hc1,hf1,hz1⟩:=bc3 hb1;(try simp at hz1);obtain⟨b5,d5⟩:∃b,decide ((800:Int)<(t:Int))=b:=⟨_,rfl⟩;cases b5)
        | (go_at_call 6;(with_reducible refine(HPo.out _).monoR ?_);rintro wp hbp hcp hfp hzp;(try simp at hzp))
        | (go_at_call 7;(with_reducible refine(HA.out _).monoR ?_);rintro wa hba hca hfa hza;(try simp at hza)))
       all_goals(go_ret;exact⟨rfl,bel⟩)
     | false=>
       cases b4 with
       | true=>exact absurd h dE
       | false=>
         clear h
         simp only [ptV] at*
         go_enter Tryz.func3,Tryz.ntmps3
         go_wp2_with (first
          | (go_at_call 5;(refine(HIt.out _ bel).mono ?_);rintro e w1 ⟨t,rfl,_,hb1⟩;obtain⟨hc1,hf1,hz1⟩:=bc3 hb1;(try simp at hz1);obtain⟨b5,d5⟩:∃b,decide ((800:Int)<(t:Int))=b:=⟨_,rfl⟩;cases b5)
          | (go_at_call 6;(with_reducible refine(HPo.out _).monoR ?_);rintro wp hbp hcp hfp hzp;(try simp at hzp))
          | (go_at_call 7;(with_reducible refine(HA.out _).monoR ?_);rintro wa hba hca hfa hza;(try simp at hza)))
         all_goals(go_ret;exact⟨rfl,bel⟩)
theorem gistNear_walk (n c:Nat) (A:Option Addr) (l:List (Int×Ob)) (x y k:Int) (w:World) (hl:qew w w.heap.size A n l):C9 3 #[.slice A n c,ptV x y,.int .i64 k] w (Ret w (.bool true)):=by
 by_cases h:(decide ((80:Int)<(n:Int))||decide (k<0)||decide (100<k)||!okPt ⟨x,y⟩)=true
 · exact qrn n c A l x y k w hl h
 · simp only [Bool.or_eq_true,decide_eq_true_eq,Bool.not_eq_true',not_or,Bool.not_eq_false] at h
   obtain⟨⟨⟨h1,h2⟩,h3⟩,h4⟩:=h;obtain⟨kn,rfl⟩:∃m:Nat,k=m:=⟨k.toNat,by omega⟩
   exact qtn n c kn A l x y w hl oQ oQ h4
end Go.Proofs.YtjopdlmbgidigaaGreat
