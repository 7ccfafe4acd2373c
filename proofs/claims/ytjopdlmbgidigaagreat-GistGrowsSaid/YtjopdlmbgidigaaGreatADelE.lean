/-Delete of an id-/
import Derived.Test.YtjopdlmbgidigaaGreatADelF
import Derived.Deep.CutBlock
import Derived.Deep.DeepCutAuto
set_option linter.unusedVariables false
set_option linter.unusedSimpArgs false
set_option maxHeartbeats 4000000
set_option maxRecDepth 20000
namespace Go.Proofs.YtjopdlmbgidigaaGreat
open Go Go.RowKit Pg
section
variable {w w' :World} {own imm:Nat->Prop} {tb mb:Nat} {t:Tr} {L L' :Int->Prop}
theorem qty {ct:TypeId} {cv:Value} (h:Lay w own imm tb mb (.iface ct cv) t (fun _=>False) L) (id:Int) (hid: -9223372036854775808<=id/\id<=9223372036854775807) (hget:getK id t.items=none):
 C9 18 #[gP tb,.int .i64 id] w fun e w' =>∃v,e=.returned v/\ErrX w' v 7 ⟨#[100,101,108,101,116,101]⟩ id/\Below w.heap.size w w' :=by
 have HM:=hdQ h.mp;obtain⟨t0,t1,t2,t3,tl⟩:=h.c0;have HG:=hdQ (fun W (hW:Below w.heap.size w W)=>qdm (h.tr hW))
 have HN:=hdQ (qg1 hget);have hF:=hdQ (fun W=>qfm ⟨#[100,101,108,101,116,101]⟩ id (.iface 70 (.int .i64 7)) 7 W (.inr ⟨by decide,0,rfl⟩))
 obtain⟨hid1,hid2⟩:=hid;clear h hget
 simp only [gP] at*
 go_enter Tryz.func18,Tryz.ntmps18
 go_wp2_with fail;refine qac kr kr pq ?_
 simp only [zdy,zey,ldz,lds,bare,qal,lcz,lcs,zay]
 repeat' ((try simp only [Act.put,lsi,lsz,lss]);first|(refine qce ?_ ?_;focus(simp only [lAq,zgy,zfy];done))|(refine qbx ?_ ?_ ?_;(focus(simp only [lAq,zgy,zfy];done));(focus(exact bel)))|(refine qbd (X:= ?_) ?_ ?_ (fun hg=> ?_) (fun hg=> ?_);rotate_left;(focus(simp only [lAq];with_reducible rfl));(focus(exact bel));all_goals(try simp only [zgy,zfy] at hg))|(refine lqx ?_)|(refine qab qaa rfl (fun K hK=> ?_);(refine qe8 _ _ _ _ rfl rfl rfl (show MapO _ _ _ (some mb) _ from qbj.tr HM.out bel) Tryz.underlying3 Tryz.underlying75 (Tryz.zeroItG _) oQ oQ ?_;rw [HN.out];simp only [Option.getD_none]);refine hK.out _ _ bel ?_;clear hK K)|(refine qab qaa rfl (fun K hK=> ?_);go_simp;((first |  (go_at_call 22;(with_reducible refine(HG.out _ bel).monoR ?_);rintro w1 hb1 hc1 hf1 hz1;(try simp at hz1);have hy0:=ol1 w w1)  | skip)<;>(refine hK.out _ _ bel ?_;clear hK K))))
 (all_goals try simp only [Act.put,lsi,lsz,lss]);all_goals(refine qaf ?_)
 go_wp2_with (go_at_call 21;(refine(hF.out _).mono ?_);rintro e w2 ⟨v',rfl,hE2,hb2⟩;have HE2:=hdQ hE2;clear hE2;have HB2:=hdQ hb2;obtain⟨hc2,hf2⟩:=qbb hb2)
 go_ret;exact⟨_,rfl,HE2.out,bel⟩
theorem qtx {C:Cl} {ct:TypeId} {cv:Value} {fM fC fD fU fS fP:Nat} (hC:ClAt ct cv C fM fC fD fU fS) (hP:PenAt ct cv fP) (hGA:GAt C (.iface ct cv) w own imm tb mb t) (hcount:t.items.length<=100000) (id:Int) (hid: -9223372036854775808<=id/\id<=9223372036854775807) (x:It) (hget:getK id t.items=some x):
 C9 18 #[gP tb,.int .i64 id] w fun e w' =>e=.returned .nilIface/\DelG C (.iface ct cv) w w' own imm tb mb t id:=by
 have h:=hGA.lay;have hs:=hGA.shape;have hlen:∀b l,t.lv b=some l->(t.es b).length<=16:=fun b l hb=>zcy (hGA.fill b l hb (fun q=>q)).1 hGA.fan16
 have HGA:=hdQ hGA;have HCC:=hdQ hC;have HPP:=hdQ hP;obtain⟨D,hD⟩:=hs.deep;have HD:=hdQ hD;have HCt:=hdQ hcount;obtain⟨i0,hi0,iz0,iz1,iz2⟩:=info_parts Tryz.infoIY;clear hC hP hD hcount;clear hGA;have HM:=hdQ h.mp;obtain⟨t0,t1,t2,t3,tl⟩:=h.c0;have HG:=hdQ (fun W (hW:Below w.heap.size w W)=>qdm (h.tr hW))
 have HN:=hdQ (qdn hget);obtain⟨z,hBi,hz⟩:=h.it id x hget;have hz:=hz (fun q=>q)
 subst hz;obtain⟨hlv,⟨e0,he0,hid0⟩⟩:=hs.itm id x hget (fun q=>q)
 obtain⟨nf,hnf⟩:∃nf,t.leaf id=nf:=⟨_,rfl⟩;rw [hnf] at hBi hlv he0;obtain⟨n0,n1,n2,nlt⟩:=h.n0 hlv;have i3:=hBi.cell 3;have ilt:=hBi.lt;simp only [lAq] at i3;have hrow:=h.row nf 0 hlv (fun q=>q)
 obtain⟨A,c,hsl,hnc,hAn,hAb⟩:=qat hrow
 obtain⟨g,rfl⟩:∃g,A=some ⟨g,0,none⟩:=by
  obtain⟨g,c',e,_⟩:=qcx hrow (k:=0) (e:=(t.es nf)[0]'(List.length_pos_of_mem he0)) (zby _);rw [hsl] at e;injection e with e1 _ _
  exact⟨g,e1⟩
 obtain⟨n,hn⟩:∃n,(t.es nf).length=n:=⟨_,rfl⟩;rw [hn] at hsl;rw [hsl] at n2;have hn16:n<=16:=by rw [<-hn];exact hlen nf _ hlv
 have hid' :=hid;obtain⟨hid1,hid2⟩:=hid;have HH:=hdQ (And.intro h (And.intro hlv (And.intro hsl (And.intro hn hnf))));have HS:=hdQ hs;clear h hget hs hlen hBi hrow hsl hnc hAn hAb hn hnf he0 hid0 hlv
 simp only [gP] at*
 go_enter Tryz.func18,Tryz.ntmps18
 go_wp2_with fail;refine qac kr kr pq ?_
 simp only [zdy,zey,ldz,lds,bare,qal,lcz,lcs,zay]
 repeat' ((try simp only [Act.put,lsi,lsz,lss]);first|(refine qce ?_ ?_;focus(simp only [lAq,zgy,zfy];done))|(refine qbx ?_ ?_ ?_;(focus(simp only [lAq,zgy,zfy];done));(focus(exact bel)))|(refine qbd (X:= ?_) ?_ ?_ (fun hg=> ?_) (fun hg=> ?_);rotate_left;(focus(simp only [lAq];with_reducible rfl));(focus(exact bel));all_goals(try simp only [zgy,zfy] at hg))|(refine lqx ?_)|(refine qab qaa rfl (fun K hK=> ?_);(refine qe8 _ _ _ _ rfl rfl rfl (show MapO _ _ _ (some mb) _ from qbj.tr HM.out bel) Tryz.underlying3 Tryz.underlying75 (Tryz.zeroItG _) oQ oQ ?_;rw [HN.out];simp only [Option.getD_some,gP]);refine hK.out _ _ bel ?_;clear hK K)|(refine qab qaa rfl (fun K hK=> ?_);go_simp;((first |  (go_at_call 22;(with_reducible refine(HG.out _ bel).monoR ?_);rintro w1 hb1 hc1 hf1 hz1;(try simp at hz1);have hy0:=ol1 w w1)  | skip)<;>(refine hK.out _ _ bel ?_;clear hK K))))
 (all_goals try simp only [Act.put,lsi,lsz,lss]);all_goals(refine qaf ?_)
 go_wp2_with fail;have gB:Blk w1 w.heap.size 3 #[.int .i64 id]:=blkA;have hbw:Below w.heap.size w w1:=bel;have HBW:=hdQ hbw;obtain⟨hcx,_⟩:=qbb hbw;have q0:=gB.cell 0;have ql:=gB.lt;simp only [lAq] at q0;have s0:=(hcx tb 0 tl).trans t0;have s1:=(hcx tb 1 tl).trans t1;have s2:=(hcx tb 2 tl).trans t2;have s3:=(hcx tb 3 tl).trans t3;have m0:=(hcx nf 0 nlt).trans n0;have m1:=(hcx nf 1 nlt).trans n1;have m2:=(hcx nf 2 nlt).trans n2;have j3:=(hcx x.blk 3 ilt).trans i3;have hsz:=hbw.size;have tl1:tb<w1.heap.size:=oQ
 have nlt1:nf<w1.heap.size:=oQ
 have ilt1:x.blk<w1.heap.size:=oQ
 have HQ:=hdQ (And.intro gB (And.intro tl (And.intro nlt ilt)));clear t0 t1 t2 t3 n0 n1 n2 i3 tl nlt ilt hb1 hc1 hf1 hz1 hcx gB HG;refine qac kr kr pq ?_
 simp only [zdy,zey,ldz,lds,bare,qal,lcz,lcs,zay]
 repeat' ((try simp only [Act.put,lsi,lsz,lss]);first|(refine lqx ?_)|(refine qab qaa rfl (fun K hK=> ?_);(refine qe8 _ _ _ _ rfl rfl rfl (show MapO _ _ _ (some mb) _ from qbj.tr HM.out bel) Tryz.underlying3 Tryz.underlying75 (Tryz.zeroItG _) oQ oQ ?_;rw [HN.out];simp only [Option.getD_some,gP]);refine hK.out _ _ bel ?_;clear hK K)|(refine qab qaa rfl (fun K hK=> ?_);go_simp;((first|fail  | skip)<;>(refine hK.out _ _ bel ?_;clear hK K))))
 (all_goals try simp only [Act.put,lsi,lsz,lss]);all_goals(refine qaf ?_)
 go_wp2_with fail;refine qdt (fun W=>Below w1.heap.size w1 W) bel ?_
 rintro w2 hb2;obtain⟨hcx,_⟩:=qbb hb2;have q0' :=(hcx _ 0 ql).trans q0;have s0' :=(hcx tb 0 tl1).trans s0;have s1' :=(hcx tb 1 tl1).trans s1;have s2' :=(hcx tb 2 tl1).trans s2;have s3' :=(hcx tb 3 tl1).trans s3;have m0' :=(hcx nf 0 nlt1).trans m0;have m1' :=(hcx nf 1 nlt1).trans m1;have m2' :=(hcx nf 2 nlt1).trans m2;have hsz2:=hb2.size;have tl2:tb<w2.heap.size:=oQ
 have nlt2:nf<w2.heap.size:=oQ
 have ql2:w.heap.size<w2.heap.size:=oQ
 clear q0 s0 s1 s2 s3 m0 m1 m2 j3 hcx tl1 nlt1 ilt1 ql hy0;refine qay [0,1,2,3,4] [5] kr kr pq ?_
 simp only [zdy,zey,ldz,lds,bare,qal,lcz,lcs,zay,qdr,Option.isNone_none,Bool.and_true,Bool.true_and,Bool.false_and,Bool.and_self]
 repeat((try simp only [Act.put,lsi,lsz,lss]);first|(refine qbo (v:= ?_) qaa rfl ?_ ?_;rotate_left;focus(intro wq;go_simp;try with_reducible rfl))|(refine qbf (v:= ?_) qaa rfl ?_ ?_;rotate_left;focus(intro wq hq;obtain⟨hcq,hfq⟩:=qbb hq;go_simp;try with_reducible rfl))|(refine qbh qaa rfl (fun K hK=> ?_);go_simp;((first|fail|skip)<;>(refine hK.out _ _ bel ?_;clear hK K))))
 (all_goals try simp only [Act.put,lsi,lsz,lss])
 refine qb6 ?_;refine qas (fun K hK=> ?_)
 (refine q1i _ _ rfl rfl rfl (show qbj _ _ _ mb _ from qbj.tr HM.out bel) Tryz.underlying3 Tryz.underlying75 oQ oQ ?_);(intro w9 hm9 hg9)
 refine hK.out _ _ ?_;clear hK K
 (try simp only [Act.put,lsi,lsz,lss])
 refine qb5 ?_;have hW2:Below w.heap.size w w2.drew:=(HBW.out.trans (hb2.mono hsz)).drew;have hLa:=HH.out.1.tr hW2;have L9:=hLa.del HS.out.rise hg9 hm9;have hGa:Grow w w9 own imm own imm:=(Grow.of_below hW2).trans (Grow.of_turn ((TurnF.refl own _).grown hg9 fun k e=>by cases e;exact .inl hLa.oM))
 have hmb:mb<w.heap.size:=HH.out.1.lim mb (.inl HH.out.1.oM);have gB9:Blk w9 w.heap.size 3 #[.int .i64 id]:=Blk.kept ((HQ.out.1.tr hb2).drew) hg9 fun e=>by injection e with e;omega
 obtain⟨hlv,hsl,hln,hlf⟩:=HH.out.2;have hogo:own g:=HH.out.1.oR nf 0 g hlv (fun q=>q) (by rw [hsl];rfl)
 have hgl:g<w.heap.size:=HH.out.1.lim g (.inl hogo)
 have hrow9:w9.ownsRow 0 84 3 (.slice (some ⟨g,0,none⟩) n c) n (qaq true (t.es nf)):=by
  have h:=L9.row nf 0 hlv (fun q=>q)
  rw [show (({t with items:=delK id t.items}:Tr).sl nf)=.slice (some ⟨g,0,none⟩) n c from hsl,show (({t with items:=delK id t.items}:Tr).es nf).length=n from hln] at h
  exact h
 have HDF:=hdQ (fun W (hW:Below w9.heap.size w9 W)=>qy2 (t.es nf) g w.heap.size n c id W (qak hrow9 (qad hW) sI) (((gB9.tr hW).cell 0).trans rfl) (gB9.tr hW).lt oQ oQ (fun e he=>by
  obtain⟨Ak,ck,ekv,_⟩:=(L9.ekey nf 0 e hlv he).bys
  exact⟨Ak,_,ck,ekv⟩))
 have nd9:=L9.nd nf 0 hlv;have hng:nf≠g:=fun e=>qfv hrow9 nd9 dE (by rw [e];rfl)
 obtain⟨t0,t1,t2,t3,tl⟩:=L9.c0;obtain⟨n0,n1,n2,nlt⟩:=L9.n0 hlv;rw [show (({t with items:=delK id t.items}:Tr).sl nf)=.slice (some ⟨g,0,none⟩) n c from hsl] at n2
 have q09:=gB9.cell 0;have ql9:=gB9.lt;simp only [lAq] at q09;have HL9:=hdQ (And.intro L9 (And.intro hGa (And.intro gB9 (And.intro nd9 hng))));clear hb2 hsz hsz2 hLa hGa hmb gB9 hlv hsl hln hlf hogo hgl hrow9 nd9 hng hW2 hm9 hg9 q0' s0' s1' s2' s3' m0' m1' m2' tl2 nlt2 ql2 L9 hbw
 simp only [gP] at*
 go_upto_block 0 with (go_at_call 43;(refine(HDF.out _ bel).mono ?_);rintro e' wa ⟨m,hm,rfl,hro,hgr⟩;have HRO:=hdQ (And.intro hm (And.intro hro hgr));clear hm;have nda:Blk wa nf _ _:=Blk.kept HL9.out.2.2.2.1 hgr (fun e=>by injection e with e;exact HL9.out.2.2.2.2 e.symm);have na2:=nda.cell 2;have naf:=nda.frozen 2;have nal:=nda.lt;simp only [lAq] at na2;clear hro hgr nda)
 refine qdt (fun W=>∃t2,ClimbAt C (.iface ct cv) w W own imm tb mb t id t2 [] imm nf 0) ?_ ?_
 · obtain⟨hlv,hsl,hln,hlf⟩:=HH.out.2
   obtain⟨L9,hGa,gB9,nd9,hng⟩:=HL9.out;obtain⟨hm,hro,hgr⟩:=HRO.out;obtain⟨hL,hG⟩:=L9.shrunk (b:=nf) (l:=0) (m:=n) (es:=(t.es nf).filter fun e=> !decide (e.id=id)) hlv hsl hgr hro hm (fun e he=>(List.mem_filter.1 he).1)
   exact⟨_,hL.less (fun _ q=>q) (fun _ q=>q.elim),hGa.trans hG,Climb.start HGA.out.shape HGA.out.fill HGA.out.keyed hlv hlf rfl,hlv,rfl,rfl,fun _ _ q=>q⟩
 clear HL9 HRO HDF HH HS HM HN HQ HBW t0 t1 t2 t3 tl n0 n1 n2 nlt q09 ql9 na2 naf nal hz;rintro wb ⟨t2,hCl⟩;have HB:=hdQ hCl;clear hCl
 go_cut [6] (fun v6 wx=>∃(t3:Tr) (out:List Int) (A:Option Addr) (c l:Nat) (imm3:Nat->Prop),v6=.slice A out.length c/\TopAt C (.iface ct cv) w wx own imm tb mb t id t3 out own imm3 l/\(∀b l,t3.lv b=some l->t.lv b=some l)/\LostAt w wx own imm3 (.slice A out.length c) out)
 case first=>as_aux_lemma=>
  go_wp2_with fail
  go_loopw [5,6] (fun v5 v6 wr=>∃(t3:Tr) (out:List Int) (A:Option Addr) (c l u:Nat) (imm3:Nat->Prop),v5=gP u/\v6=.slice A out.length c/\ClimbAt C (.iface ct cv) w wr own imm tb mb t id t3 out imm3 u l/\LostAt w wr own imm3 (.slice A out.length c) out) (fun v5 _ wr=>D-lvOf t v5)
  case atStart=>exact ⟨t2, [],none,0,0,nf,imm,rfl,rfl,HB.out,LostAt.nil⟩
  case round=>
   clear HB;obtain⟨t3,out,A,c3,l,u,imm3,rfl,rfl,hCl,hLo⟩:=hrel;have hl:=hCl.lv;obtain⟨t0,t1,t2',t3',tl⟩:=hCl.lay.c0;obtain⟨n0,n1,n2,nlt⟩:=hCl.lay.n0 hl;have HCl:=hdQ hCl;have HLo:=hdQ hLo;clear hCl hLo
   cases hup:t3.up u with
   | none=>
     rw [hup] at n0;have HT:=hdQ (HCl.out.top hup);clear hup hl
     simp only [gO,gP] at*
     go_wp2_with fail
     go_meet
     exact⟨t3,out,A,c3,l,imm3,rfl,HT.out,HCl.out.old,HLo.out⟩
   | some p=>
     rw [hup] at n0;have hul:=(HCl.out.climb.up hl hup).1;have HUl:=hdQ (And.intro hl (And.intro hup hul));have hfan:t3.fan<=16:=by rw [HCl.out.fan];exact HGA.out.fan16
     have hlens:=HCl.out.climb.lens;obtain⟨p0,p1,p2,plt⟩:=HCl.out.lay.n0 hul;have HLe:=hdQ (fun W (hW:Below wr.heap.size wr W)=>qri (HCl.out.lay.tr hW) oQ)
     obtain⟨_,e0,he0,hek0⟩:=HCl.out.climb.shape.up u l p hl hup;obtain⟨g,c,cur,hsl,hmc,hBg⟩:=HCl.out.lay.rowAt hul (fun q=>q) he0
     obtain⟨Au,cu,hsu,_,_,_⟩:=qat (HCl.out.lay.row u l hl (fun q=>q))
     rw [hsu] at n2;rw [hsl] at p2;obtain⟨k,hk⟩:∃k,(t3.es u).length=k:=⟨_,rfl⟩;rw [hk] at n2;obtain⟨m,hm⟩:∃m,(t3.es p).length=m:=⟨_,rfl⟩;rw [hm] at p2 hmc hsl;have HFan:=hdQ hfan
     have HFw:Hid (out.length<=100000/\out.length+(below t3 l u).length<=200000/\t3.items.length<=100000):=by
      have h1:=q0l HCl.out.climb.nd HCl.out.climb.has;have h2:=HCl.out.climb.shape.below_len hl;have h3:t3.items.length<=100000:=by rw [HCl.out.its];exact zcy (qp0 _ _) HCt.out
      exact⟨by omega,by omega,h3⟩
     have hm16:m<=16:=by have:=hlens p _ hul;omega
     have hk16:k<=16:=by have:=hlens u _ hl;omega
     obtain⟨q,hq⟩:∃q,t3.fan/2=q:=⟨_,rfl⟩;rw [hq] at HLe;have HQ:=hdQ (And.intro hk (And.intro hm hq));have HPl:=hdQ (fun W imm' out' (h:ClimbAt C (.iface ct cv) w W own imm tb mb t id t3 out' imm' u l)=>qj3 h.lay hl hup hul ⟨e0,he0,hek0⟩ (fun e he=>⟨_,(HCl.out.climb.shape.kid p l e hul he).1⟩) (fun q=>q) oQ)
     have hng:p≠g:=fun e=>qfv (HCl.out.lay.row p _ hul (fun q=>q)) (HCl.out.lay.nd p _ hul) dE (by rw [hsl,<-e];rfl)
     have HSl:=hdQ (And.intro hsl hng);have fR:=hBg.frozen;have hgl:=hBg.lt;clear hup hsu hk hq hm hsl hul hl hlens hng e0 he0 hek0 hfan
     simp only [gO,gP] at*
     go_wp2_with fail;refine qac kr kr pq ?_
     simp only [zdy,zey,ldz,lds,bare,qal,lcz,lcs,zay]
     repeat' ((try simp only [Act.put,lsi,lsz,lss]);first|(refine lqx ?_)|(refine qab qaa rfl (fun K hK=> ?_);go_simp;((first |  (go_at_call 45;(with_reducible refine(HLe.out _ bel).monoR ?_);rintro wl hbl hcl hfl hzl;(try simp at hzl))|skip)<;>(refine hK.out _ _ bel ?_;clear hK K))))
     (all_goals try simp only [Act.put,lsi,lsz,lss]);all_goals(refine qaf ?_)
     by_cases hkq:k<q
     · have hkI:(k:Int)<(q:Int):=oQ
       have HBl:=hdQ (fun W (hW:Below wr.heap.size wr W)=>q1b HCl.out.climb.shape (fun b l hb=>zcy (HCl.out.climb.lens b l hb) HFan.out) HFw.out.2.2 l u W HUl.out.1 (HCl.out.lay.tr hW))
       have hf1:=HFw.out.1;have hf2:=HFw.out.2.1
       go_wp2_with (first
        | (go_at_call 46;(with_reducible refine(HBl.out _ bel).mono ?_);rintro e5 w5 ⟨v5,rfl,ho5,hb5⟩;have HO5:=hdQ ho5;clear ho5;have HB5:=hdQ (show Below wr.heap.size wr w5 from bel);have HR5:=hdQ (HLo.out.tr HB5.out).row)
        | (at_builtin;go_must (refine qie rfl _ _ 39 rfl 3 i0 (.int .i64 0) 1 8 Tryz.underlying39 hi0 iz0 iz1 iz2 rfl dE _ _ _ rfl HR5.out _ _ _ _ rfl HO5.out (qhy _) ?c3 ?c4 ?_)))
       case c3=>unfold maxLen;omega
       case c4=>omega
       intro v8 w8 hown8 hg8 hwh8;have hC5:=HCl.out.tr HB5.out;have hL5:=HLo.out.tr HB5.out;have hC8:=hC5.kept hg8 (fun g e=>hL5.no g e)
       have hL8:=hL5.more hC5.lay.lim hC5.grow.size hown8 hwh8;obtain⟨A8,c8,rfl,_,_,_⟩:=qat hown8;clear n0 n1 n2 nlt p0 p1 p2 plt t0 t1 t2' t3' tl fR hgl hcl hfl hbl hzl hb5;obtain⟨p0,p1,p2,plt⟩:=hC8.lay.n0 HUl.out.2.2;rw [HSl.out.1] at p2;have HC8:=hdQ hC8;have HL8:=hdQ hL8;clear hC5 hL5 hC8 hL8 hown8 hg8 hwh8 hf1 hf2;have HPl8:=hdQ (fun W (hW:Below w8.heap.size w8 W)=>HPl.out W _ _ (HC8.out.tr hW))
       have HPB:=hdQ (HC8.out.lay.nd p _ HUl.out.2.2)
       have HSD:=hdQ (fun W i (hW:Below w8.heap.size w8 W) (hi:i<m)=>qy1 false (t3.es p) g m c i W (by
        have h:=(HC8.out.tr hW).lay.row p _ HUl.out.2.2 (fun q=>q)
        rw [HSl.out.1,HQ.out.2.1,show decide (l+1=0)=false by simp] at h
        exact h) (fun e he=>by
        obtain⟨Ak,ck,ekv,_⟩:=(HC8.out.lay.ekey p _ e HUl.out.2.2 he).bys
        rw [ekv]
        rfl) hi oQ)
       simp only [gP] at*
       go_wp2_with (first
        | (go_at_call 47;(with_reducible refine(HPl8.out _ bel).mono ?_);rintro e9 w9 ⟨i,x9,hx,hxk,rfl,hb9⟩;have HX:=hdQ (And.intro hx hxk);have hil:i<m:=(by have:=(zsy.1 hx).1;rw [HQ.out.2.1] at this;exact this);have hil0:(i:Int)<(m:Int):=oQ;obtain⟨hc9,hf9,hz9⟩:=bc3 hb9;(try simp at hz9);have HB9:=hdQ hb9;clear hx hxk)
        | (go_at_call 48;(with_reducible refine(HSD.out _ _ bel hil).mono ?_);rintro ea wa ⟨rfl,hro,hgr⟩;have HRO:=hdQ (And.intro hro hgr);have nda:=Blk.kept (Blk.tr HPB.out HB9.out) hgr (fun e=>HSl.out.2 (by injection e with e;exact e.symm));have na2:=nda.cell 2;have naf:=nda.frozen 2;have nal:=nda.lt;simp only [lAq] at na2;clear hro hgr nda))
       go_roundw
       case rel=>
        obtain⟨hro,hgr⟩:=HRO.out;obtain⟨t4,hC4,hG4⟩:=(HC8.out.tr HB9.out).dropped HUl.out.2.1 HX.out.1 HX.out.2 HSl.out.1 HQ.out.2.1 hgr hro;exact⟨t4,out++below t3 l u,A8,c8,l+1,p,imm3,rfl,by rw [zny],hC4,by rw [zny];exact(HL8.out.tr HB9.out).grow hG4⟩
       case measure=>
        have h1:=HCl.out.old _ _ HUl.out.1;have h2:=HCl.out.old _ _ HUl.out.2.2;have h3:=HD.out _ _ h2
        simp only [lvOf,h1,h2,Option.getD_some]
        omega
     · have hkI:¬ (k:Int)<(q:Int):=oQ
       go_wp2_with fail;refine qdt (fun W=>Below wr.heap.size wr W) bel ?_
       clear n0 n1 n2 nlt p0 p1 p2 plt t0 t1 t2' t3' tl fR hgl hcl hfl hbl hzl;rintro w2 hb2;have HC2:=hdQ (HCl.out.tr hb2);have HL2:=hdQ (HLo.out.tr hb2);clear hb2;obtain⟨t0,t1,t2',t3',tl⟩:=HC2.out.lay.c0;obtain⟨p0,p1,p2,plt⟩:=HC2.out.lay.n0 HUl.out.2.2;rw [HSl.out.1] at p2;obtain⟨cur2,hBg⟩:=qj5 (HC2.out.lay.row p _ HUl.out.2.2 (fun q=>q)) (by rw [HSl.out.1];rfl)
       have fR:=hBg.frozen;have hgl:=hBg.lt;have HRow:=hdQ (HC2.out.lay.row p _ HUl.out.2.2 (fun q=>q))
       have HPl2:=hdQ (fun W (hW:Below w2.heap.size w2 W)=>HPl.out W _ _ (HC2.out.tr hW))
       have HUn2:=hdQ (fun W (hW:Below w2.heap.size w2 W)=>qhq HCC.out (HC2.out.lay.tr hW) HUl.out.1 (fun q=>q) (by have:=HQ.out.1;omega))
       have hkk:∀k∈(t3.es u).map En.kb,(∀x∈k,x<256)/\k.length<=1000000:=fun k hk' =>by
        obtain⟨e,he,rfl⟩:=zty.1 hk';have:=HC2.out.lay.ekey u _ e HUl.out.1 he;exact⟨this.1,this.2.1⟩
       have hform:=HCC.out.formU _ (fun k hk=>(hkk k hk).1) (fun k hk=>(hkk k hk).2)
       have HREF:=hdQ (fun W (i:Nat) x9 kv (hW:Below w2.heap.size w2 W) (hx:(t3.es p)[i]? =some x9) (hxk:x9.kid=u) (ho:W.ownsRow w2.heap.size 5 1 kv (C.un ((t3.es u).map En.kb)).length (qau (C.un ((t3.es u).map En.kb))))=>HC2.out.keyed HUl.out.2.1 hx hxk (by rw [HQ.out.1,HQ.out.2.2];omega) HSl.out.1 hW ho (zhy _) rfl hform.1 hform.2)
       clear hkk hform hBg;generalize C.un ((t3.es u).map En.kb)=U at*
       simp only [gP] at*
       refine qay [0,1,2,3,4,6,7,5,8,9,10] [11] kr kr pq ?_
       simp only [zdy,zey,ldz,lds,bare,qal,lcz,lcs,zay,qdr,Option.isNone_none,Bool.and_true,Bool.true_and,Bool.false_and,Bool.and_self]
       repeat((try simp only [Act.put,lsi,lsz,lss]);first|(refine qbo (v:= ?_) qaa rfl ?_ ?_;rotate_left;focus(intro wq;go_simp;try with_reducible rfl))|(refine qbf (v:= ?_) qaa rfl ?_ ?_;rotate_left;focus(intro wq hq;obtain⟨hcq,hfq⟩:=qbb hq;go_simp;try with_reducible rfl))|(refine qbh qaa rfl (fun K hK=> ?_);go_simp;((first|(go_at_call 47;(with_reducible refine(HPl2.out _ bel).mono ?_);rintro e w5 ⟨i,x9,hx,hxk,rfl,hb5⟩;obtain⟨hc5,hf5,hz5⟩:=bc3 hb5;(try simp at hz5);have hg5:g<w5.heap.size:=oQ;have HX:=hdQ (And.intro hx hxk);have hil:i<m:=(by have:=(zsy.1 hx).1;rw [HQ.out.2.1] at this;exact this);have hil0:(i:Int)<(m:Int):=oQ;have hrw:=HRow.out;obtain⟨g',c',hv',_,r0,_,_⟩:=qcx hrw hx;rw [HSl.out.1] at hv';injection hv' with hv1 hv2 hv3;injection hv1 with hv1;injection hv1 with hv1;subst hv1;have r5:w5.cell? ⟨g,i*3,none⟩=some x9.kv:=(hc5 g _ (by simpa using hgl)).trans (by simpa using r0);have f5:w5.frozen? ⟨g,i*3,none⟩=false:=(hf5 g _ (by simpa using hgl)).trans (by simpa using fR _);clear hv2 hv3 hrw hx hxk)|(go_at_call 49;(with_reducible refine(HUn2.out _ bel).mono ?_);rintro e w6 ⟨v6,rfl,ho6,hb6⟩;obtain⟨A6,c6,rfl,_,_,_,_⟩:=qa7 ho6;have HO6:=hdQ ho6;clear ho6;obtain⟨hc6,hf6,hz6⟩:=bc3 hb6;(try simp at hz6);have r6:w6.cell? ⟨g,i*3,none⟩=some x9.kv:=(hc6 g _ (by simpa using hg5)).trans (by simpa using r5);have f6:w6.frozen? ⟨g,i*3,none⟩=false:=(hf6 g _ (by simpa using hg5)).trans (by simpa using f5))|skip)<;>(refine hK.out _ _ bel ?_;clear hK K))))
       (all_goals try simp only [Act.put,lsi,lsz,lss])
       refine qb6 ?_;refine qas (fun K hK=> ?_)
       go_simp
       refine q5m (K:=K) (fun w7=>∃t4 imm4,ClimbAt C (.iface ct cv) w w7 own imm tb mb t id t4 out imm4 p (l+1)/\Grow w2 w7 own imm3 own imm4) ?_ ?_;(focus(refine HREF.out _ i x9 (.slice A6 U.length c6) ?_ HX.out.1 HX.out.2 ?_;(focus(exact bel));(focus(refine qa9 (qak HO6.out (qad ?_) sI) (by(try simp);omega);exact bel))));rintro w7 ⟨t4,imm4,hC7,hG7⟩
       refine hK.out _ _ ?_;clear hK K
       (try simp only [Act.put,lsi,lsz,lss])
       refine qb5 ?_;have HE7:=hdQ (And.intro hC7 hG7);clear hC7 hG7 r0 r5 f5 r6 f6 hc5 hf5 hc6 hf6 hb5 hb6 p0 p1 p2 plt t0 t1 t2' t3' tl fR;go_wp2_with fail
       go_roundw
       case rel=>exact ⟨t4,out,A,c3,l+1,p,imm4,rfl,rfl,HE7.out.1,HL2.out.grow HE7.out.2⟩
       case measure=>
        have h1:=HCl.out.old _ _ HUl.out.1;have h2:=HCl.out.old _ _ HUl.out.2.2;have h3:=HD.out _ _ h2
        simp only [lvOf,h1,h2,Option.getD_some]
        omega
 case rest=>
  obtain⟨t3,out,A,c3,l,imm3,rfl,hT,hold,hLo⟩:=hcut;have HT:=hdQ (And.intro hT (And.intro hold hLo))
  have HOut:Hid (out.Nodup/\(∀j∈out,∃it,getK j (delK id t.items)=some it)/\out.length<=100000):=by
   have h1:∀j∈out,∃it,getK j (delK id t.items)=some it:=by rw [<-hT.its];exact hT.top.has
   exact⟨hT.top.nd,h1,zcy (q0l hT.top.nd h1) (zcy (qp0 _ _) HCt.out)⟩
  clear hT hold hLo HB
  go_upto_block 2 with fail
  go_cut [] (fun wx=>∃(t4:Tr) (own4 imm4:Nat->Prop),DoneAt C (.iface ct cv) w wx own imm tb mb t id t4 (fun i=>i∈out) own4 imm4/\LostAt w wx own4 imm4 (.slice A out.length c3) out)
  case first=>as_aux_lemma=>
   go_wp2_with fail
   go_loopw [] (fun wr=>∃(t4:Tr) (imm4:Nat->Prop) (l4:Nat),TopAt C (.iface ct cv) w wr own imm tb mb t id t4 out own imm4 l4/\(∀b l,t4.lv b=some l->t.lv b=some l)/\LostAt w wr own imm4 (.slice A out.length c3) out) (fun wr=>lvOf t ((wr.cell? ⟨tb,2,none⟩).getD .nilIface))
   case atStart=>exact ⟨t3,imm3,l,HT.out.1,HT.out.2.1,HT.out.2.2⟩
   case round=>
    clear HT;obtain⟨t4,imm4,l4,hT,hold,hLo⟩:=hrel;obtain⟨c0,c1,c2,c3',tl⟩:=hT.lay.c0;obtain⟨r0,r1,r2,rl⟩:=hT.lay.n0 hT.lv;obtain⟨Ar,cr,hsl,hlc,_,_⟩:=qat (hT.lay.row _ _ hT.lv (fun q=>q))
    rw [hsl] at r2;have HT:=hdQ (And.intro hT (And.intro hold hLo));have HS:=hdQ hsl
    have hle:(t4.es t4.root).length<=16:=by
     have h1:=hT.top.lens _ _ hT.lv;have h2:=HGA.out.fan16;rw [hT.fan] at h1
     omega
    clear hT hold hLo hsl
    cases l4 with
    | zero=>
      rw [show decide ((0:Nat)=0)=true from rfl] at r1
      simp only [gP] at*
      go_wp2_with fail
      go_meet
      exact⟨t4,own,imm4,HT.out.1.done (.inl rfl),HT.out.2.2⟩
    | succ l4=>
      rw [show decide (l4+1=0)=false by simp] at r1
      obtain⟨n,hn⟩:∃n,(t4.es t4.root).length=n:=⟨_,rfl⟩;rw [hn] at r2;have fT:=HT.out.1.lay.hd.frozen 2;have HN:=hdQ hn
      rcases hes:t4.es t4.root with _|⟨y,_|⟨y2,rest⟩⟩
      · rw [hes] at hn
        obtain rfl:n=0:=by simpa using hn.symm
        have HE:=hdQ (HT.out.1.emptied hes);clear hn hes
        simp only [gP] at*
        go_wp2_with fail
        go_meet
        obtain⟨t5,own5,h5,hG5⟩:=HE.out;exact⟨t5,own5,imm4,h5.done (.inl rfl),HT.out.2.2.grow hG5⟩
      · rw [hes] at hn
        obtain rfl:n=1:=by simpa using hn.symm
        have HE:=hdQ (HT.out.1.sunk hes);obtain⟨g,c',hv,hgl,q0,q1,q2⟩:=qcx (HT.out.1.lay.row _ _ HT.out.1.lv (fun q=>q)) (k:=0) (e:=y) (by rw [hes];rfl)
        rw [HS.out] at hv;injection hv with hv1 hv2 hv3
        subst hv1;rw [show decide (l4+1=0)=false by simp] at q2
        simp only [Nat.zero_mul,Nat.zero_add,Bool.false_eq_true,if_false] at q2;obtain⟨k0,k1,k2,kl⟩:=HT.out.1.lay.n0 HE.out.2.2.2;have fK:=(HT.out.1.lay.nd _ _ HE.out.2.2.2).frozen 0;clear hn hes hv2 hv3 q0 q1 k1 k2
        simp only [gP] at*
        go_wp2_with fail
        go_roundw
        case rel=>exact ⟨_,imm4,l4,HE.out.1,fun b l hb=>HT.out.2.1 b l (HE.out.2.2.1 b l hb),HT.out.2.2.grow HE.out.2.1⟩
        case measure=>
         have h1:=HT.out.2.1 _ _ HT.out.1.lv;have h2:=HT.out.2.1 _ _ HE.out.2.2.2;have h3:=HE.out.1.lay.c0.2.2.1;have h4:=HT.out.1.lay.c0.2.2.1;simp only [gP] at h3 h4
         rw [h3,h4]
         simp only [lvOf,Option.getD_some,h1,h2]
         omega
      · have hn2:2<=n:=by rw [<-hn,hes];simp
        have HE:=hdQ (show 2<=(t4.es t4.root).length by omega)
        clear hn hes;have hnI:¬ (n:Int)<2:=oQ
        rw [HN.out] at hle
        simp only [gP] at*
        go_wp2_with fail
        go_meet
        exact⟨t4,own,imm4,HT.out.1.done (.inr HE.out),HT.out.2.2⟩
  case rest=>
   obtain⟨t4,own4,imm4,hD,hLo⟩:=hcut;obtain⟨n,hn⟩:∃n,out.length=n:=⟨_,rfl⟩;have HD4:=hdQ (And.intro hD hLo);have HN:=hdQ hn;have hn5:n<=100000:=by have:=HOut.out.2.2;omega
   rw [hn]
   clear hD hLo hn HT;go_wp2_with fail
   go_loopw [148] (fun vi wr=>∃(i:Nat) (t5:Tr) (own5 imm5:Nat->Prop),vi=.int .i64 i/\i<=n/\DoneAt C (.iface ct cv) w wr own imm tb mb t id t5 (fun j=>j∈out.drop i) own5 imm5/\LostAt w wr own5 imm5 (.slice A n c3) out) (fun vi _=>n-(Go.RowKit.intOf vi).toNat)
   case atStart=>
    refine⟨0,t4,own4,imm4,rfl,zly _,HD4.out.1,?_⟩;have:=HD4.out.2;rw [HN.out] at this;exact this
   case round=>
    obtain⟨i,t5,own5,imm5,rfl,hin,hD,hLo⟩:=hrel;have HD5:=hdQ (And.intro hD hLo);clear hD hLo HD4
    by_cases hlt:i<n
    case neg=>
     obtain rfl:n=i:=oQ
     go_wp2_with fail;go_ret;exact⟨rfl,HD5.out.1.gat (fun j hj=>by rw [List.drop_eq_nil_of_le (by rw [HN.out];exact zhy _)] at hj;cases hj) HGA.out⟩
    case pos=>
     have hltI:(i:Int)<(n:Int):=oQ
     obtain⟨z,hz⟩:∃z,out[i]? =some z:=⟨out[i]'(by rw [HN.out];exact hlt),zby _⟩
     have hio:i<out.length:=by rw [HN.out];exact hlt
     obtain⟨g,rfl,hgl,q0⟩:=HD5.out.2.at_ hz
     have hdr:out.drop i=z::out.drop (i+1):=by
      rw [zgx hio]
      rw [zby hio] at hz;injection hz with hz
      rw [hz]
     obtain⟨it,hit⟩:=HOut.out.2.1 z (zjy hz)
     have hL:∀j,(j∈out.drop i/\j≠z)↔j∈out.drop (i+1):=fun j=>by
      have hnd:(out.drop i).Nodup:=HOut.out.1.sublist (List.drop_sublist _ _)
      rw [hdr] at hnd ⊢
      rw [List.nodup_cons] at hnd
      rw [List.mem_cons]
      constructor
      · rintro⟨h|h,h2⟩
        · exact absurd h h2
        · exact h
      · intro h
        exact⟨.inr h,fun e=>hnd.1 (e ▸ h)⟩
     have HAdd:=hdQ (fun W (hW:Below wr.heap.size wr W)=>q1e HCC.out HPP.out (HD5.out.1.lay.tr hW) HD5.out.1.shape HD5.out.1.fill HD5.out.1.keyed (by rw [HD5.out.1.fan];exact HGA.out.fan4) (by rw [HD5.out.1.fan];exact HGA.out.fan16) (fun j y hj=>by
      rw [HD5.out.1.its,qkd HGA.out.shape.rise] at hj
      split at hj
      · cases hj
      · exact(HGA.out.its j y hj).1) (id:=z) (x:=it) (by rw [HD5.out.1.its];exact hit) (by rw [hdr];simp))
     have HL:=hdQ hL;clear hz hdr hit hL hio
     simp only [gP] at*
     go_wp2_with (go_at_call 50;(with_reducible refine(HAdd.out _ bel).mono ?_);rintro e w6 ⟨rfl,t6,own6,imm6,hL6,hS6,hF6,hK6,hI6,hf6,hG6⟩;have H6:=hdQ (show DoneAt C (.iface ct cv) w w6 own imm tb mb t id t6 (fun j=>j∈out.drop (i+1)) own6 imm6/\LostAt w w6 own6 imm6 (.slice (some ⟨g,0,none⟩) n c3) out from ⟨DoneAt.less ⟨hL6,HD5.out.1.grow.trans ((Grow.of_below (show Below wr.heap.size wr _ from bel)).trans hG6),hS6,hF6,hK6,hI6.trans HD5.out.1.its,hf6.trans HD5.out.1.fan⟩ HL.out,(HD5.out.2.tr (show Below wr.heap.size wr _ from bel)).grow hG6⟩);clear hL6 hS6 hF6 hK6 hI6 hf6 hG6)
     go_roundw
     case rel=>exact ⟨i+1,t6,own6,imm6,by go_num,by omega,H6.out.1,H6.out.2⟩
     case measure=>simp [Go.RowKit.intOf];omega
def delE (t:Tr) (id:Int):Nat:=if (getK id t.items).isSome then 0 else 7
theorem qx6 {C:Cl} {ct:TypeId} {cv:Value} {fM fC fD fU fS fP:Nat} (hC:ClAt ct cv C fM fC fD fU fS) (hP:PenAt ct cv fP) (hGA:GAt C (.iface ct cv) w own imm tb mb t) (hcount:t.items.length<=100000) (id:Int) (hid: -9223372036854775808<=id/\id<=9223372036854775807):
 C9 18 #[gP tb,.int .i64 id] w fun e w' =>∃v,e=.returned v/\ErrX w' v (delE t id) ⟨#[100,101,108,101,116,101]⟩ id/\DelG C (.iface ct cv) w w' own imm tb mb t id:=by
 unfold delE
 cases hg:getK id t.items with
 | none=>exact (qty hGA.lay id hid hg).mono fun e w' ⟨v,he,hx,hb⟩=>⟨v,he,hx,t,own,imm,hGA.tr hb,Grow.of_below hb,rfl,(q0s hg).symm⟩
 | some x=>exact (qtx hC hP hGA hcount id hid x hg).mono fun e w' ⟨he,h⟩=>⟨_,he,.inl ⟨rfl,rfl⟩,h⟩
end
end Go.Proofs.YtjopdlmbgidigaaGreat
