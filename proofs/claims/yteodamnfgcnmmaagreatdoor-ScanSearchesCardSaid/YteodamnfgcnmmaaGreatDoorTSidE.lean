/-gist: Search, whatever the tree: the ids that match, rising.-/
import Derived.Test.YteodamnfgcnmmaaGreatDoorTGisY
import Derived.Test.YteodamnfgcnmmaaGreatDoorTSrtW
import Derived.Test.YteodamnfgcnmmaaGreatDoorTLawSp
import Derived.Test.YteodamnfgcnmmaaGreatDoorTRefEH
import Derived.Deep.CutBlock
import Derived.Deep.DeepCutAuto
set_option linter.unusedVariables false
set_option linter.unusedSimpArgs false
set_option maxHeartbeats 4000000
set_option maxRecDepth 20000
namespace Go.Proofs.YteodamnfgcnmmaaGreatDoor
open Go Go.RowKit Pg
def qft (q:Qu) (I:List (Int×Ob)):List Int:=(I.filter fun p=>qa6 p.2 q).map (·.1)
theorem qvf {l m:List Int} (hm:m.Pairwise (· <·)) (hl:l.Nodup) (h:∀x,x∈l↔x∈m):qnv l=m:=by
 have hp:(qnv l).Perm l:=List.mergeSort_perm _ _
 have hs:(qnv l).Pairwise (· <=·):=by
  have:=List.pairwise_mergeSort (le:=fun x y:Int=>decide (x<=y)) (fun a b c h1 h2=>by simp only [decide_eq_true_eq] at*;omega) (fun a b=>by simp only [Bool.or_eq_true,decide_eq_true_eq];omega) l
  exact this.imp fun h=>by simpa using h
 have hmn:m.Nodup:=hm.imp fun h=>Int.ne_of_lt h
 have hpm:(qnv l).Perm m:=hp.trans ((List.perm_ext_iff_of_nodup hl hmn).2 h);exact List.Perm.eq_of_pairwise (le:=(· <=·)) (fun a b _ _ h1 h2=>Int.le_antisymm h1 h2) hs (hm.imp fun h=>Int.le_of_lt h) hpm
theorem GAt.search_ids {C:Cl} {cl:Value} {w:World} {own imm:Nat->Prop} {tb mb:Nat} {t:Tr} {cov:List Nat->Ob->Prop} {good:List Nat->Prop} (h:GAt C cl w own imm tb mb t) (hLw:Lawful C cov good) (q:Qu) {lr:Nat} (hr:t.lv t.root=some lr):
 qnv (qcl t (fun kb=>C.cons kb q) (mtT t q) lr t.root)=qft q (obsT t.items):=by
 have h0:∀id it,getK id t.items=some it->good it.kb/\cov it.kb it.ob:=fun id it hi=>by
  obtain⟨_,_,h2,h3⟩:=h.its id it hi
  rw [h3]
  exact(hLw.made _ h2).2
 have hmt:∀id,mtT t q id=true↔∃it,getK id t.items=some it/\qa6 it.ob q=true:=fun id=>by
  unfold mtT
  cases hg:getK id t.items with
  | none=>simp
  | some it=>simp
 rw [qvl h.shape (fun l u e id hu he hid hm=>by
  obtain⟨it,hit,hmi⟩:=(hmt id).1 hm
  exact hLw.cons _ _ _ (qwj hLw h.shape h.fill h.fan4 h.keyed h0 hu he hid hit) hmi) hr]
 refine qvf ?_ (List.Nodup.sublist List.filter_sublist (h.shape.below_nodup hr)) fun id=> ?_
 · unfold qft obsT
   refine List.Pairwise.map _ (R:=fun a b:Int×Ob=>a.1<b.1) (fun a b h=>h) (List.Pairwise.sublist List.filter_sublist ?_)
   exact List.Pairwise.map _ (fun a b h=>h) h.shape.rise
 · rw [List.mem_filter,h.shape.mem_root hr,hmt]
   unfold qft obsT
   simp only [zty,List.mem_filter]
   constructor
   · rintro⟨⟨_,it,hit⟩,it',hit',hm⟩
     rw [hit] at hit'
     cases hit'
     exact⟨(id,it.ob),⟨⟨_,qga hit,rfl⟩,hm⟩,rfl⟩
   · rintro⟨⟨i,o⟩,⟨⟨⟨j,it⟩,hmem,e⟩,hm⟩,rfl⟩
     injection e with e1 e2
     subst e1 e2;have:=qkm h.shape.rise hmem;exact⟨⟨fun q=>q,it,this⟩,it,this,hm⟩
theorem qs6 (B n c:Nat) (A:Option Addr) (l:List Pt) (w:World) (hl:qan w B A n l) (hB:B<=w.heap.size) (hn:n<=1000000):
 C9 74 #[.slice A n c] w fun e w' =>∃v,e=.returned v/\w'.ownsRow w.heap.size 24 2 v n (qbu l)/\Below w.heap.size w w' :=by
 rcases Nat.eq_zero_or_pos n with h0|h0
 case inr=>
  refine(qnk B n c A l w hl hB h0 hn).mono ?_;rintro e w' ⟨g,c',rfl,ho,hb⟩;exact⟨_,rfl,ho,hb⟩
 subst h0;have hl0:l= []:=zbx hl.1;subst hl0;obtain⟨i0,hi,iz0,iz1,iz2⟩:=info_parts Tryz.infoPtH;have q22:∀(w:World) (a:Option Addr) (n c n' c' :Nat),(binOp .eql 47 (.slice a n c) (.slice none n' c')).run Tryz.prog w=.ok (.bool a.isNone) w:=fun w a n c n' c' =>Lib.run_eql_slice_nil w _ _ a n c n' c' Tryz.underlying47
 clear hl
 cases A with
 | none=>
   go_enter Tryz.func74,Tryz.ntmps74
   go_wp2;go_ret;exact⟨.slice none 0 0,rfl,World.ownsRow_nil _ _ _ _,bel⟩
 | some ad=>
   go_enter Tryz.func74,Tryz.ntmps74
   go_wp2_with (at_builtin;refine wpList_append_own _ rfl _ _ 47 rfl w.heap.size 24 i0 (.agg #[.int .i64 0,.int .i64 0]) 2 16 Tryz.underlying47 hi iz0 iz1 iz2 rfl dE _ _ _ rfl (World.ownsRow_made w #[] 0 (zhy _) (zly _) rfl) ad 0 c [] rfl rfl (fun j u h=>by simp at h) (fun u h=>by simp at h) dE dE ?qc6 ?_)
   case qc6=>simp
   intro v' w1 hown hgrow hnil;go_wp2;go_ret;exact⟨_,rfl,hown,((Below.refl _ w).alloc (zhy _) _).grown hgrow sI (by intro k hk;simp [Value.ownBlock] at hk;omega)⟩
theorem qrg (A:Option Addr) (n c:Nat) (w:World):C9 76 #[.slice A n c] w fun e w' =>e=.returned (.func (.func 121) #[] #[.pointer (some ⟨w.heap.size,0,none⟩)])/\Blk w' w.heap.size 52 #[.slice A n c]/\Below w.heap.size w w' :=by
 go_enter Tryz.func76,Tryz.ntmps76
 go_wp2;go_ret;exact⟨rfl,blkA,bel⟩
theorem qt6 {w:World} {base n:Nat} {v:Value} {l:List Pt} (h:w.ownsRow base 24 2 v n (qbu l)):∃A c,v=.slice A n c/\qan w w.heap.size A n l:=by
 rcases h.2 with ⟨rfl,h0⟩|⟨g,cap,cur,rfl,r⟩
 · have h1:=h.1
   rw [qb9] at h1;subst h0;exact⟨none,0,rfl,by omega,fun q=>absurd q oQ⟩
 · exact⟨_,_,rfl,q4g ⟨h.1,.inr ⟨g,cap,cur,rfl,r⟩⟩⟩
section
variable {own imm:Nat->Prop} {tb mb:Nat} {t:Tr}
theorem qxe {C:Cl} {ct:TypeId} {cv:Value} {fM fC fD fU fS:Nat} {cov:List Nat->Ob->Prop} {good:List Nat->Prop} (hC:ClAt ct cv C fM fC fD fU fS) (hLw:Lawful C cov good) (w:World) (h:GAt C (.iface ct cv) w own imm tb mb t) (hcount:t.items.length<=100000) (q:Qu) (hq:ckQu q=0) (A:Option Addr) (m c:Nat) (hm:m<=1000000) (hr:qan w w.heap.size A m q.ring):
 C9 36 #[gP tb,quV q.kind q.box A m c] w fun e w' =>∃v,e=.returned v/\w'.ownsRow w.heap.size 3 1 v (qft q (obsT t.items)).length (idcs (qft q (obsT t.items)))/\Below w.heap.size w w' :=by
 obtain⟨lr,hlr⟩:=Option.isSome_iff_exists.1 h.shape.root.1;have hids:=h.search_ids hLw q hlr;obtain⟨zs,hzs⟩:∃zs,qcl t (fun kb=>C.cons kb q) (mtT t q) lr t.root=zs:=⟨_,rfl⟩
 obtain⟨S,hS⟩:∃S,qft q (obsT t.items)=S:=⟨_,rfl⟩
 have hzl:zs.length<=100000:=by
  have h1:=(qh7 t (fun kb=>C.cons kb q) (mtT t q) lr t.root).length_le
  have h2:=h.shape.below_len hlr;rw [hzs] at h1
  omega
 rw [hzs,hS] at hids;have hSl:S.length=zs.length:=by rw [<-hids];exact(List.mergeSort_perm _ _).length_eq
 rw [hS]
 have HRow:Hid ((zs.map (Value.int .i64))=idcs zs/\((qnv zs).map (Value.int .i64))=idcs S):=⟨rfl,by rw [hids];rfl⟩
 obtain⟨t0,t1,t2,t3,tlt⟩:=h.lay.c0;have HG:=hdQ (fun W (hW:Below w.heap.size w W)=>qhp (h.lay.tr hW))
 have HCQ:=hdQ (fun W (hW:Below w.heap.size w W)=>qfx w.heap.size m c q.kind q.box A q.ring W (hr.below hW) hW.size hm)
 have HCl:=hdQ (fun W (hW:Below w.heap.size w W)=>qs6 w.heap.size m c A q.ring W (hr.below hW) hW.size hm)
 have HSe:=hdQ (fun W (hW:Below w.heap.size w W) A' c' (hr' :qan W W.heap.size A' m q.ring)=>by
  have:=qvk hC h.shape (fun b l hb=>by have:=(h.fill b l hb (fun q=>q)).1;have:=h.fan16;omega) hcount (fun id it hi=>(h.its id it hi).1) q A' m c' hm lr t.root W hlr (h.lay.tr hW) hr'
  rw [hzs] at this
  exact this)
 have HQ0:Hid (ckQu ⟨q.kind,q.box,q.ring⟩=0):=hq;have HZL:=hdQ (And.intro hzl hSl);clear h hC hLw hcount hq hr hzs hids hS hzl hSl hlr;obtain⟨qk,⟨⟨x0,y0⟩,x1,y1⟩,ring⟩:=q
 simp only [gP,quV] at*
 go_enter Tryz.func36,Tryz.ntmps36
 go_wp2_with (first|(go_at_call 47;(refine(HG.out _ bel).monoR ?_);rintro wp hbp hcp hfp hzp;(try simp at hzp);have hyp0:=ol1 w wp)|(go_at_call 35;go_loud ((refine(HCQ.out _ bel).mono ?_);rintro e w2 ⟨v2,rfl,hv2,hb2⟩;rw [HQ0.out] at hv2;obtain rfl:=ErrX.zero (ErrW.x hv2);clear hv2;obtain⟨hc2,hf2,hz2⟩:=bc3 hb2;(try simp at hz2)))|(go_at_call 74;(refine(HCl.out _ bel).mono ?_);rintro e w3 ⟨v3,rfl,hp3,hb3⟩;obtain⟨A3,c3,rfl,_⟩:=qt6 hp3;have HP3:=hdQ hp3;clear hp3;have hBx:Blk w3 w.heap.size 49 #[.int .i64 qk,.int .i64 x0,.int .i64 y0,.int .i64 x1,.int .i64 y1,.slice A m c]:=blkA;have HBX:=hdQ hBx;have k5:=hBx.cell 5;have f5:=hBx.frozen;have l5:=hBx.lt;simp only [lAq] at k5;clear hBx;have hz3:=hb3.size;(try simp at hz3)))
 have hw3:Below w.heap.size w w3:=bel;refine qck (fun w4=>Blk w4 w.heap.size 49 #[.int .i64 qk,.int .i64 x0,.int .i64 y0,.int .i64 x1,.int .i64 y1,.slice A3 m c3]/\qan w4 w4.heap.size A3 m ring/\Below w.heap.size w w4) ⟨(HBX.out.set_ 5 _).eq_ sI,?_,hw3.setCell (p:=⟨w.heap.size,5,none⟩) (zhy _) _⟩ ?_
 · obtain⟨A',c',e,hp⟩:=qt6 (qal HP3.out (qcf w3 ⟨w.heap.size,5,none⟩ (.slice A3 m c3)) (fun g hg q=>by
    cases hg
    have:=(HP3.out.lt _ q).1
    simp at this
    omega))
   injection e with e1 e2 e3
   subst e1;exact hp
 clear k5 f5 l5 hb2 hz2 hb3 hz3 hw3 hc2 hf2 hcp hfp hbp hzp HBX HP3;rintro w4 ⟨hB4,hp4,hb4⟩;have HB4:=hdQ hb4;obtain⟨hc4,hf4,hz4⟩:=bc3 hb4;rw [<-hc4 tb _ tlt] at t0 t1 t2 t3;have tlt4:tb<w4.heap.size:=oQ
 obtain⟨q0,q1,q2,q3,q4,q5⟩:=ce6 hB4;have ql:=hB4.lt;have HS4:=hdQ (fun W (hW:Below w4.heap.size w4 W)=>HSe.out W (hb4.trans (hW.mono hz4)) A3 c3 ((hp4.tr hW (zhy _)).more hW.size))
 clear hc4 hf4 hB4 hp4 hb4 HSe HCl HCQ HG;go_wp2_with fail;refine qac kr kr pq ?_
 simp only [zdy,zey,ldz,lds,bare,qak,lcz,lcs,zay]
 repeat' ((try simp only [Act.put,lsi,lsz,lss]);first|(refine lqx ?_)|(refine qab qaa rfl (fun K hK=> ?_);go_simp;((first|(go_at_call 77;(refine(HS4.out _ bel).mono ?_);rintro e w5 ⟨v5,rfl,ho5,hb5⟩;obtain⟨A5,c5,rfl,_,_,_⟩:=qao ho5;have HO5:=hdQ ho5;clear ho5;have hz5:=hb5.size;(try simp at hz5))|(go_at_call 76;(refine(qrg _ _ _ _).mono ?_);rintro e w6 ⟨rfl,hB6,hb6⟩;have HSo:=hdQ (fun W (hW:Below w6.heap.size w6 W)=>qrn _ _ _ zs (by have:=HZL.out.1;omega) W (qal (qal HO5.out (qaf bel) sI) (qaf hW) sI) (hB6.tr hW).lt (by have:=(hB6.tr hW).cell 0;simpa using this));clear hB6;have hz6:=hb6.size;(try simp at hz6))|(go_at_call 75;(refine(HSo.out _ bel).mono ?_);rintro e w7 ⟨v7,rfl,ho7,hb7⟩;have HO7:=hdQ ho7;clear ho7;have hz7:=hb7.size;(try simp at hz7))|skip)<;>(refine hK.out _ _ bel ?_;clear hK K))))
 (all_goals try simp only [Act.put,lsi,lsz,lss]);all_goals(refine qae ?_)
 go_wp2_with fail;go_ret;refine⟨_,rfl,?_,HB4.out.trans ((show Below w4.heap.size w4 _ from bel).mono hz4)⟩
 have h1:=HO7.out;rw [HRow.out.2,<-HZL.out.2] at h1;exact qa7 h1 oQ
end
def idNr (l:List Int):List Nr:=l.map fun i=>(i,(⟨0,0⟩:Fr))
theorem qr5 (p:Option Addr) (q:Qu) (hq:ckQu q≠0) (A:Option Addr) (m c:Nat) (hm:m<=1000000) (w:World) (hr:qan w w.heap.size A m q.ring):
 C9 13 #[.pointer p,quV q.kind q.box A m c] w fun e w' =>∃v,e=.returned (.tuple #[.pointer none,v])/\ErrX w' v (ckQu q) ⟨#[115,99,97,110]⟩ 0/\Below w.heap.size w w' :=by
 obtain⟨k,hk⟩:∃k,ckQu q=k:=⟨_,rfl⟩
 have HCQ:=hdQ (fun W (hW:Below w.heap.size w W)=>show C9 35 #[quV q.kind q.box A m c] W (RetW W k ⟨#[113,117,101,114,121]⟩ q.kind) from by
  have:=qfx w.heap.size m c q.kind q.box A q.ring W (hr.below hW) hW.size hm;rw [show (⟨q.kind,q.box,q.ring⟩:Qu)=q from rfl,hk] at this
  exact this)
 rw [hk] at hq ⊢
 have HF:=hdQ (fun v W (hv:ErrY W v k)=>qi5 ⟨#[115,99,97,110]⟩ 0 v k W hv)
 have HK:=hdQ hq;clear hr hk hq;obtain⟨qk,⟨⟨x0,y0⟩,x1,y1⟩,ring⟩:=q
 simp only [quV] at*
 go_enter Tryz.func13,Tryz.ntmps13
 go_wp2_with (first|(go_at_call 35;((refine(HCQ.out _ bel).mono ?_);rintro e w2 ⟨v2,rfl,hv2,hb2⟩;obtain⟨te,ue,rfl⟩:=ErrX.succ (ErrW.x hv2) HK.out;have HV:=hdQ (ErrX.y (ErrW.x hv2));clear hv2;obtain⟨hc2,hf2,hz2⟩:=bc3 hb2;(try simp at hz2)))|(go_at_call 23;(refine(HF.out _ _ (HV.out.tr bel)).mono ?_);rintro x w3 ⟨v,rfl,hx,hb3⟩;have HX:=hdQ hx;clear hx))
 go_ret2
 exact⟨_,rfl,HX.out,bel⟩
theorem qp5 (z:Int):nrVs [(z,(⟨0,0⟩:Fr))]= [.int .i64 z,.int .u64 0,.int .u64 0,.int .u64 0]:=by simp [nrVs,nrV]
theorem qur {w:World} {a b c d:Value} {t:TypeId}:∀(j:Nat) (v:Value),[a,b,c,d][j]? =some v->(w.alloc (.cells #[a,b,c,d] t)).cell? ((⟨w.heap.size,0,none⟩:Addr).add j)=some v:=by
 intro j v hj
 match j,hj with
 | 0,hj=>simp at hj;subst hj;simp [Addr.add]
 | 1,hj=>simp at hj;subst hj;simp [Addr.add]
 | 2,hj=>simp at hj;subst hj;simp [Addr.add]
 | 3,hj=>simp at hj;subst hj;simp [Addr.add]
section
variable {w:World} {own imm:Nat->Prop} {tb mb:Nat} {t:Tr}
theorem qyu (h:GAt (clsC 3 0 false 0) cl3 w own imm tb mb t) (hcount:t.items.length<=100000) (q:Qu) (hq:ckQu q=0) (A:Option Addr) (m c:Nat) (hm:m<=1000000) (hr:qan w w.heap.size A m q.ring):
 C9 13 #[gP tb,quV q.kind q.box A m c] w fun e w' =>∃cb Z,e=.returned (.tuple #[gP cb,.nilIface])/\CurAt w' Z cb (idNr (qft q (obsT t.items))) 0 true/\(∀x,Z x\/x=cb->w.heap.size<=x)/\Below w.heap.size w w' :=by
 obtain⟨S,hS⟩:∃S,qft q (obsT t.items)=S:=⟨_,rfl⟩
 have hSl:S.length<=100000:=by
  rw [<-hS]
  unfold qft obsT
  rw [zyy]
  exact zcy (List.length_filter_le _ _) (by rw [zyy];exact hcount)
 have HCQ:=hdQ (fun W (hW:Below w.heap.size w W)=>qfx w.heap.size m c q.kind q.box A q.ring W (hr.below hW) hW.size hm)
 have HQ0:Hid (ckQu ⟨q.kind,q.box,q.ring⟩=0):=hq
 have HSe:=hdQ (fun W (hW:Below w.heap.size w W)=>by
  have:=qxe (qi7 3 0 false 0 dE) (qwi 3 0 false) W (h.tr hW) hcount q hq A m c hm ((hr.below hW).more hW.size)
  rw [hS] at this
  exact this)
 rw [hS]
 clear h hcount hq hr hS;obtain⟨qk,⟨⟨x0,y0⟩,x1,y1⟩,ring⟩:=q
 simp only [gP,quV] at*
 obtain⟨i0,hi,iz0,iz1,iz2⟩:=info_parts Tryz.infoNrF
 go_enter Tryz.func13,Tryz.ntmps13
 go_wp2_with (first|(go_at_call 35;(refine(HCQ.out _ bel).mono ?_);rintro e w2 ⟨v2,rfl,hv2,hb2⟩;rw [HQ0.out] at hv2;obtain rfl:=ErrX.zero (ErrW.x hv2);clear hv2;have hBx:Blk w2 w.heap.size 49 #[.int .i64 qk,.int .i64 x0,.int .i64 y0,.int .i64 x1,.int .i64 y1,.slice A m c]:=blkA;obtain⟨q0,q1,q2,q3,q4,q5⟩:=ce6 hBx;have ql:=hBx.lt;clear hBx;have hz2:=hb2.size;(try simp at hz2))|(go_at_call 36;(refine(HSe.out _ bel).mono ?_);rintro e w3 ⟨v3,rfl,ho3,hb3⟩;obtain⟨A3,c3,rfl,_,_,_⟩:=qao ho3;have HO3:=hdQ ho3;clear ho3;obtain⟨hc3,hf3,hz3⟩:=bc3 hb3;(try simp at hz3)))
 have hw3:Below w.heap.size w w3:=bel;have hC3:Blk w3 w2.heap.size 80 #[.slice none 0 0,.int .i64 0,.bool true]:=by clear hw3;exact blkA
 obtain⟨cb,hcb⟩:∃cb,w2.heap.size=cb:=⟨_,rfl⟩
 rw [hcb] at hC3 ⊢
 have hcw:w.heap.size<=cb:=oQ
 have HW3:=hdQ (And.intro hw3 hC3);have hcl:=hC3.lt;obtain⟨n,hn⟩:∃n,S.length=n:=⟨_,rfl⟩;have HN:=hdQ hn
 rw [hn] at HO3 hSl ⊢
 clear hw3 hC3 hb2 hz2 hb3 hz3 hc3 hf3 q0 q1 q2 q3 q4 q5 ql HSe HCQ hcb hn;go_wp2_with fail
 go_loopw [22] (fun vi wr=>∃(i:Nat) (Al:Option Addr) (cl:Nat),i<=n/\vi=.int .i64 i/\Blk wr cb 80 #[.slice Al i cl,.int .i64 0,.bool true]/\wr.ownsRow w.heap.size 58 4 (.slice Al i cl) i (nrVs (idNr (S.take i)))/\wr.ownsRow 0 3 1 (.slice A3 n c3) n (idcs S)/\Below w.heap.size w wr) (fun vi _=>n-(Go.RowKit.intOf vi).toNat)
 case atStart=>exact ⟨0,none,0,zly _,rfl,HW3.out.2,World.ownsRow_nil _ _ _ _,qa7 HO3.out (zly _),HW3.out.1⟩
 case round=>
  clear HW3 HO3;obtain⟨i,Al,cl,hin,rfl,hC,hro,hrs,hb⟩:=hrel;obtain⟨k0,k1,k2⟩:=ce3 hC;have kf:=hC.frozen;have kl:=hC.lt;have HC:=hdQ hC;have HRO:=hdQ hro;have HRS:=hdQ hrs;have HB:=hdQ hb;have hzb:=hb.size
  by_cases hlt:i<n
  case neg=>
   obtain rfl:n=i:=oQ
   clear hC hro hrs hb;go_wp2_with fail
   go_ret2
   obtain⟨_,_,e,hnc,hA,_⟩:=qao HRO.out;injection e with e1 e2 e3
   subst e1 e3;have htk:S.take n=S:=zmy (by rw [HN.out];exact zhy _)
   have hl:(idNr S).length=n:=by unfold idNr;rw [zyy,HN.out]
   have h1:=HRO.out;rw [htk] at h1;refine⟨cb,fun b=>(Value.slice Al n cl).ownBlock=some b,rfl,⟨⟨Al,cl,by rw [hl];exact HC.out,by rw [hl];exact hnc,hA,qgm h1 rfl⟩,zly _,?_,fun b q=>(h1.lt b q).2⟩,fun x hx=> ?_,HB.out⟩
   · intro q
     exact qdt h1 HC.out dE q
   · rcases hx with q|q
     · exact(h1.lt x q).1
     · omega
  have hiI:(i:Int)<(n:Int):=oQ
  obtain⟨z,hz⟩:∃z,S[i]? =some z:=⟨S[i]'(by rw [HN.out];exact hlt),zby _⟩
  rcases hrs.2 with ⟨_,h0⟩|⟨g,cap,cur,e,_,hg,_⟩
  · omega
  injection e with e1 e2 e3
  subst e1 e3;have gi:=hrs.cellAt i oQ
  rw [show (idcs S)[i]? =some (.int .i64 z) by unfold idcs;rw [zpx,hz];rfl] at gi
  have gl:g<wr.heap.size:=(zqy.1 hg).1
  have htk:idNr (S.take (i+1))=idNr (S.take i)++ [(z,⟨0,0⟩)]:=by
   unfold idNr
   rw [zwy,hz,zfx]
   rfl
  have HTK:=hdQ htk;clear hC hro hrs hb hz hg htk
  go_wp2_with (at_builtin;refine wpList_append_own _ rfl _ _ 40 rfl w.heap.size 58 i0 (.agg #[.int .i64 0,.int .u64 0,.int .u64 0,.int .u64 0]) 4 32 Tryz.underlying40 hi iz0 iz1 iz2 rfl dE _ _ _ rfl (qal HRO.out (qaf bel) sI) _ _ _ _ rfl rfl qur ?c2 ?c3 ?c4 ?c5 ?_)
  case c2=>simp [Value.oneCell']
  case c3=>unfold maxLen;omega
  case c4=>omega
  case c5=>first|omega|(simp;omega)
  intro v7 w7 hown hgrow _;have hne:(Value.slice Al i cl).ownBlock≠some cb:=qdt HRO.out HC.out dE
  have hC7:=(show Blk _ cb 80 #[.slice Al i cl,.int .i64 0,.bool true] from HC.out.alloc _).kept hgrow hne
  have hb7:Below w.heap.size w w7:=(HB.out.alloc hzb _).grown hgrow (by simp;omega) (fun k e=>(HRO.out.lt k e).1)
  have hrs7:=qal (qal HRS.out (qaf ((Below.refl wr.heap.size wr).alloc (zhy _) _)) sI) hgrow (fun q e=>by
   obtain⟨cu,hb1⟩:=qie HRO.out e
   exact qdt HRS.out hb1 dE)
  rw [show nrVs (idNr (S.take i))++ [Value.int .i64 z,.int .u64 0,.int .u64 0,.int .u64 0]=nrVs (idNr (S.take (i+1))) by rw [HTK.out,qgo,qp5]] at hown
  obtain⟨A7,c7,rfl,_,_,_⟩:=qao hown;have hne7:(Value.slice A7 (i+1) c7).ownBlock≠some cb:=qdt hown hC7 dE
  have hneS:(Value.slice (some ⟨g,0,none⟩) n c3).ownBlock≠some cb:=qdt hrs7 hC7 dE
  have k0:=hC7.cell 0;have kf:=hC7.frozen;have kl:=hC7.lt;simp only [lAq] at k0;have H7:=hdQ (And.intro hC7 (And.intro hb7 (And.intro hrs7 hown)));clear hC7 hb7 hrs7 hown hgrow;go_wp2_with fail
  go_roundw
  case rel=>exact ⟨i+1,A7,c7,by omega,by go_num,(H7.out.1.set_ 0 _).eq_ sI,qal H7.out.2.2.2 (qcf w7 ⟨cb,0,none⟩ _) (fun q e=>by cases e;exact hne7),qal H7.out.2.2.1 (qcf w7 ⟨cb,0,none⟩ _) (fun q e=>by cases e;exact hneS),H7.out.2.1.setCell (p:=⟨cb,0,none⟩) hcw _⟩
  case measure=>simp [Go.RowKit.intOf];omega
end
theorem qw5 {w:World} {Z:Nat->Prop} {cb k:Nat} {S:List Nr} (h:CurAt w Z cb S k true):C9 30 #[gP cb] w fun e w' =>e=.returned .nilIface/\CurAt w' Z cb S k false/\TurnF (fun b=>b=cb) w w' :=by
 obtain⟨A,c,h1,h2,h3,h4⟩:=h.hd;have c2:=h1.cell 2;have cl:=h1.lt;have fC:=h1.frozen;simp only [lAq] at c2;have HH:=hdQ (And.intro h h1);have HR:=hdQ (And.intro h2 (And.intro h3 h4));clear h h1 h2 h3 h4
 simp only [gP]
 go_enter Tryz.func30,Tryz.ntmps30
 go_wp2;go_ret;have ht:TurnF (fun b=>b=cb) w (w.setCell ⟨cb,2,none⟩ (.bool false)):=(TurnF.refl (fun b=>b=cb) w).set_ (F:=fun b=>b=cb) (p:=⟨cb,2,none⟩) (.inl rfl) _
 exact⟨rfl,⟨⟨A,c,(HH.out.2.set_ 2 (.bool false)).eq_ sI,HR.out.1,HR.out.2.1,HR.out.2.2.turn ht fun b hb q=>HH.out.1.no (q ▸ hb)⟩,HH.out.1.le,HH.out.1.no,fun b hb=>zky (HH.out.1.lim b hb) ht.size⟩,ht⟩
theorem qow {w:World} {Z:Nat->Prop} {cb k:Nat} {S:List Nr} (h:CurAt w Z cb S k false):C9 30 #[gP cb] w fun x w' =>∃v,x=.returned v/\ErrX w' v 12 ⟨#[99,117,114,115,111,114]⟩ k/\Below w.heap.size w w' :=by
 have HB:=hdQ (fun W (hW:Below w.heap.size w W)=>qoz (some ⟨cb,0,none⟩) k W (.iface 105 (.int .i64 12)) 12 (fun W' hW' =>qda ((h.tr hW).tr hW')) (qoq W 12 dE))
 obtain⟨A,c,h1,h2,h3,h4⟩:=h.hd;have c2:=h1.cell 2;have cl:=h1.lt;simp only [lAq] at c2;clear h h1 h2 h3 h4
 simp only [gP]
 go_enter Tryz.func30,Tryz.ntmps30
 go_wp2_with (go_at_call 42;(refine(HB.out _ bel).mono ?_);rintro x w2 ⟨v,rfl,hx,hb2⟩;have HX:=hdQ hx;clear hx)
 go_ret;exact⟨_,rfl,HX.out,bel⟩
theorem qjy {w:World} {Z:Nat->Prop} {cb k:Nat} {S:List Nr} (h:CurAt w Z cb S k false) (n:Int):C9 28 #[gP cb,.int .i64 n] w fun x w' =>∃v,x=.returned (.tuple #[.slice none 0 0,v])/\ErrX w' v 12 ⟨#[99,117,114,115,111,114]⟩ k/\Below w.heap.size w w' :=by
 have HB:=hdQ (fun W (hW:Below w.heap.size w W)=>qoz (some ⟨cb,0,none⟩) k W (.iface 105 (.int .i64 12)) 12 (fun W' hW' =>qda ((h.tr hW).tr hW')) (qoq W 12 dE))
 obtain⟨A,c,h1,h2,h3,h4⟩:=h.hd;have c2:=h1.cell 2;have cl:=h1.lt;simp only [lAq] at c2;clear h h1 h2 h3 h4
 simp only [gP]
 go_enter Tryz.func28,Tryz.ntmps28
 go_wp2_with (go_at_call 42;(refine(HB.out _ bel).mono ?_);rintro x w2 ⟨v,rfl,hx,hb2⟩;have HX:=hdQ hx;clear hx)
 go_ret2
 exact⟨_,rfl,HX.out,bel⟩
theorem qp9 {w:World} {Z:Nat->Prop} {cb k:Nat} {S:List Nr} (h:CurAt w Z cb S k false):C9 18 #[gP cb] w fun x w' =>∃v,x=.returned (.tuple #[nr0,v])/\ErrX w' v 12 ⟨#[99,117,114,115,111,114]⟩ k/\Below w.heap.size w w' :=by
 have HT:=hdQ (fun W (hW:Below w.heap.size w W)=>qjy (h.tr hW) 1)
 have hcl:cb<w.heap.size:=by obtain⟨A,c,h1,_⟩:=h.hd;exact h1.lt
 clear h
 simp only [gP] at*
 go_enter Tryz.func18,Tryz.ntmps18
 go_wp2_with (go_at_call 28;(refine(HT.out _ bel).mono ?_);rintro x w1 ⟨v1,rfl,hx1,hb1⟩;obtain⟨te,ue,rfl⟩:=ErrX.succ hx1 dE;have HX1:=hdQ hx1;clear hx1;obtain⟨hc1,hf1,hz1⟩:=bc3 hb1;(try simp at hz1);have hy1:=ol1 w w1)
 have hB0:Blk w1 w.heap.size 58 #[.int .i64 0,.int .u64 0,.int .u64 0,.int .u64 0]:=blkA;refine qit (fun w2=>Blk w2 w.heap.size 58 #[.int .i64 0,.int .u64 0,.int .u64 0,.int .u64 0]/\ErrX w2 (.iface te ue) 12 ⟨#[99,117,114,115,111,114]⟩ k/\Below w.heap.size w w2) ⟨qer (x:=.int .i64 0) (y:=.int .u64 0) (z:=.int .u64 0) (u:=.int .u64 0) hB0,?_,bel⟩ ?_
 · exact qqu HX1.out hB0
 rintro w2 ⟨HR,hx2,hb2⟩;obtain⟨r0,r1,r2,r3⟩:=ce4 HR;exact bodyPost_ret (v:=.tuple #[nr0,.iface te ue]) (by simp [nr0,results,Tryz.results18,go_sem,r0,r1,r2,r3]) rfl ⟨_,rfl,hx2,hb2⟩
theorem qva {q:Qu} {I:List (Int×Ob)} {i:Nat} {p:Int×Ob} (h:I[i]? =some p):qft q (I.take (i+1))=qft q (I.take i)++if qa6 p.2 q then [p.1] else []:=by
 unfold qft
 rw [zwy,h,List.filter_append,zfx]
 simp only [Option.toList_some,List.filter_cons,List.filter_nil]
 cases qa6 p.2 q<;>rfl
theorem qpg (q:Qu) (I:List (Int×Ob)):(qft q I).length<=I.length:=by
 unfold qft
 rw [zyy]
 exact List.length_filter_le _ _
section
variable {w:World} {Y Z:Nat->Prop} {mb:Nat} {L:List (Int×Mi)}
theorem qr9 (h:MrAt w Y Z mb L) (hn:L.length<=100000) (q:Qu) (A:Option Addr) (m c:Nat) (hm:m<=1000000) (hr:qan w w.heap.size A m q.ring):
 C9 15 #[gP mb,quV q.kind q.box A m c,.int .i64 0] w fun e w' =>∃v,e=.returned v/\w'.ownsRow w.heap.size 3 1 v (qft q (obsM L)).length (idcs (qft q (obsM L)))/\Below w.heap.size w w' :=by
 obtain⟨i0,hi,iz0,iz1,iz2⟩:=info_parts Tryz.infoIY;obtain⟨sv,hB,hrow,_⟩:=h.rw;obtain⟨Ar,cr,rfl,hnc,hAn,hAb⟩:=qao hrow;have b0:=hB.cell 0;simp only [lta,lcz] at b0;have bl:=hB.lt;have HR0:=hdQ hrow;have HH:=hdQ h;have HRing:=hdQ hr;obtain⟨n,hl⟩:∃n,L.length=n:=⟨_,rfl⟩;have HM:=hdQ hl;rw [hl] at b0 hn HR0 hnc;have HMt:=hdQ (fun W (hW:Below w.heap.size w W) (o:Ob) (A' :Option Addr) (c' :Nat) (hp:qan W W.heap.size A' o.pts.length o.pts) (h2:o.pts.length<=1000000)=>qvr W.heap.size o.pts.length c' m c o.kind q.kind q.box A' A o.pts q.ring W hp ((hr.tr hW (zhy _)).more hW.size) (zhy _) h2 hm)
 have HMt2:Hid (∀o:Ob,qa6 ⟨o.kind,o.pts⟩ ⟨q.kind,q.box,q.ring⟩=qa6 o q):=fun o=>rfl
 clear h hB hrow hAn hAb hnc hl hr;generalize hbx:q.box=bx at*;obtain⟨⟨x0,y0⟩,x1,y1⟩:=bx;have HBX0:=hdQ hbx;clear hbx
 simp only [gP,quV] at*
 go_enter Tryz.func15,Tryz.ntmps15
 go_wp2_with fail;refine qck (fun w3=>Blk w3 w.heap.size 49 #[.int .i64 q.kind,.int .i64 x0,.int .i64 y0,.int .i64 x1,.int .i64 y1,.slice A m c]/\Below w.heap.size w w3) ⟨blkA,bel⟩ ?_
 rintro w3 ⟨hB3,hb3⟩
 go_loopw [7,8] (fun vl vi wr=>∃i:Nat,∃acc:List Int,∃Al cl,i<=n/\vi=.int .i64 i/\vl=.slice Al acc.length cl/\acc=qft q ((obsM L).take i)/\wr.ownsRow (w.heap.size+1) 3 1 vl acc.length (idcs acc)/\Blk wr w.heap.size 49 #[.int .i64 q.kind,.int .i64 x0,.int .i64 y0,.int .i64 x1,.int .i64 y1,.slice A m c]/\Below w.heap.size w wr) (fun _ vi _=>n-(Go.RowKit.intOf vi).toNat)
 case atStart=>exact ⟨0,[],none,0,zly _,rfl,rfl,by rw [List.take_zero];rfl,World.ownsRow_nil _ _ _ _,hB3,hb3⟩
 case round=>
  clear hB3 hb3;obtain⟨i,acc,Al,cl,hin,rfl,rfl,hacc,hro,hBx,hb⟩:=hrel;obtain⟨hc,hf,hz⟩:=bc3 hb;have b0' :=(hc mb _ bl).trans b0;have bl' :mb<wr.heap.size:=oQ
  obtain⟨q0,q1,q2,q3,q4,q5⟩:=ce6 hBx;have ql:=hBx.lt
  have hal:acc.length<=i:=by
   rw [hacc]
   refine zcy (qpg _ _) ?_
   rw [List.length_take]
   omega
  have HRO:=hdQ hro;have HBX:=hdQ hBx;have HW:=hdQ hb;have HAcc:=hdQ hacc;clear hro hBx hacc
  by_cases hlt:i<n
  case neg=>
   obtain rfl:n=i:=oQ
   have e1:(obsM L).take n=obsM L:=zmy (by unfold obsM;rw [zyy,HM.out];exact zhy _)
   rw [e1] at HAcc;clear e1;go_wp2_with fail;go_ret;exact⟨_,rfl,by rw [<-HAcc.out];exact qa7 HRO.out oQ,hb⟩
  have hi1:(i:Int)<(n:Int):=oQ
  obtain⟨p,hp⟩:∃p,L[i]? =some p:=⟨L[i]'(by rw [HM.out];omega),zby _⟩
  have hmem:=zjy hp;have hr:=HR0.out;rw [<-HM.out] at hr;obtain⟨g,c9,hv,hgl,r0,r1,r2⟩:=qsa hr hp;rw [HM.out] at hv;injection hv with hv1 hv2 hv3
  subst hv1 hv3;rw [<-hc g _ hgl] at r0 r1 r2;have hgw:g<wr.heap.size:=oQ
  obtain⟨Ap,cp,ep,hpt⟩:=(HH.out.tr hb).pts p hmem |>.pts
  have hpl:=((HH.out.tr hb).pts p hmem).1;rw [ep] at r2;obtain⟨mv,hmv⟩:∃b,qa6 p.2.ob q=b:=⟨_,rfl⟩
  have HMa:Hid (∀W,Below wr.heap.size wr W->C9 39 #[.agg #[.int .i64 p.2.ob.kind,.slice Ap p.2.ob.pts.length cp],.agg #[.int .i64 q.kind,.int .i64 x0,.int .i64 y0,.int .i64 x1,.int .i64 y1,.slice A m c]] W (Ret W (.bool mv))):=fun W hW=>by
   have h1:=HMt.out W (HW.out.trans (hW.mono hz)) p.2.ob Ap cp ((hpt.below hW).more hW.size) hpl;rw [HMt2.out p.2.ob,hmv] at h1;exact h1
  have hstep:qft q ((obsM L).take (i+1))=acc++if mv then [p.1] else []:=by
   rw [qva (p:=(p.1,p.2.ob)) (by unfold obsM;rw [zpx,hp];rfl),<-HAcc.out,hmv]
  have HST:=hdQ hstep;clear hc hf b0 hr hv2 hp hmem ep hpt hpl hmv hstep;generalize p.2.ob.pts.length=pl at*;generalize p.2.ob.kind=pk at*;generalize p.1=pid at*
  cases mv with
  | false=>
    go_wp2_with fail;refine qac kr kr pq ?_
    simp only [zdy,zey,ldz,lds,bare,qak,lcz,lcs,zay]
    repeat' ((try simp only [Act.put,lsi,lsz,lss]);first|(refine qbw ?_ ?_;focus(simp only [lAq,zgy,zfy];done))|(refine qbg ?_ ?_ ?_;(focus(simp only [lAq,zgy,zfy];done));(focus(exact bel)))|(refine qay (X:= ?_) ?_ ?_ (fun hg=> ?_) (fun hg=> ?_);rotate_left;(focus(simp only [lAq];with_reducible rfl));(focus(exact bel));all_goals(try simp only [zgy,zfy] at hg))|(refine lqx ?_)|(refine qab qaa rfl (fun K hK=> ?_);go_simp;((first |  (go_at_call 39;(with_reducible refine(HMa.out _ bel).monoR ?_);rintro w1 hb1 hc1 hf1 hz1;(try simp at hz1))|skip)<;>(refine hK.out _ _ bel ?_;clear hK K))))
    (all_goals try simp only [Act.put,lsi,lsz,lss]);all_goals(refine qae ?_)
    go_wp2_with fail
    go_roundw
    case rel=>exact ⟨i+1,acc,Al,cl,by omega,by go_num,rfl,by rw [HST.out];simp,qal HRO.out (qaf bel) sI,HBX.out.tr bel,HW.out.trans ((show Below wr.heap.size wr _ from bel).mono hz)⟩
    case measure=>simp [Go.RowKit.intOf];omega
  | true=>
    go_wp2_with fail;refine qac kr kr pq ?_
    simp only [zdy,zey,ldz,lds,bare,qak,lcz,lcs,zay]
    repeat' ((try simp only [Act.put,lsi,lsz,lss]);first|(refine qbw ?_ ?_;focus(simp only [lAq,zgy,zfy];done))|(refine qbg ?_ ?_ ?_;(focus(simp only [lAq,zgy,zfy];done));(focus(exact bel)))|(refine qay (X:= ?_) ?_ ?_ (fun hg=> ?_) (fun hg=> ?_);rotate_left;(focus(simp only [lAq];with_reducible rfl));(focus(exact bel));all_goals(try simp only [zgy,zfy] at hg))|(refine lqx ?_)|(refine qab qaa rfl (fun K hK=> ?_);go_simp;((first |  (go_at_call 39;(with_reducible refine(HMa.out _ bel).mono ?_);rintro e w1 ⟨rfl,hb1⟩;have hb1' :Below wr.heap.size wr w1:=bel;obtain⟨hc1,hf1⟩:=qbc hb1';have d0:=(hc1 mb 0 bl').trans b0';have d1:=(hc1 g _ hgw).trans r0;have hz1:=hb1'.size;have m1:mb<w1.heap.size:=oQ;have m2:g<w1.heap.size:=oQ;clear hc1 hf1)|skip)<;>(refine hK.out _ _ bel ?_;clear hK K))))
    (all_goals try simp only [Act.put,lsi,lsz,lss]);all_goals(refine qae ?_)
    go_wp2_with (at_builtin;refine wpList_append_own _ rfl _ _ 52 rfl (w.heap.size+1) 3 i0 (.int .i64 0) 1 8 Tryz.underlying52 hi iz0 iz1 iz2 rfl dE _ _ _ rfl (qal HRO.out (qaf bel) sI) _ _ _ _ rfl rfl qr6 ?c2 ?c3 ?c4 ?c5 ?_)
    case c2=>simp [Value.oneCell']
    case c3=>unfold maxLen;omega
    case c4=>omega
    case c5=>simp;omega
    intro v7 w7 hown hgrow _;have hb7:Below w.heap.size w w7:=(HW.out.trans ((show Below wr.heap.size wr _ from bel).mono hz)).grown hgrow (by simp;omega) (fun k e=>by have:=(HRO.out.lt k e).1;omega)
    have hB7:Blk w7 w.heap.size 49 #[.int .i64 q.kind,.int .i64 x0,.int .i64 y0,.int .i64 x1,.int .i64 y1,.slice A m c]:=(show Blk _ w.heap.size 49 #[.int .i64 q.kind,.int .i64 x0,.int .i64 y0,.int .i64 x1,.int .i64 y1,.slice A m c] from HBX.out.tr bel).kept hgrow (fun e=>by have:=(HRO.out.lt _ e).1;omega)
    have hl7:(acc++ [pid]).length=acc.length+1:=sI
    rw [show idcs acc++ [Value.int .i64 pid]=idcs (acc++ [pid]) by unfold idcs;simp,<-hl7] at hown
    obtain⟨A7,c7,rfl,_,_,_⟩:=qao hown;have H7:=hdQ (And.intro hown (And.intro hB7 hb7));clear hown hgrow hb7 hB7;go_wp2_with fail
    go_roundw
    case rel=>exact ⟨i+1,acc++ [pid],A7,c7,by omega,by go_num,rfl,by rw [HST.out];simp,H7.out⟩
    case measure=>simp [Go.RowKit.intOf];omega
end
section
variable {C:Cl} {cl:Value} {w:World} {Y own imm Z:Nat->Prop} {tb mb mm:Nat} {t:Tr} {L:List (Int×Mi)} {m:List (Int×Ob)}
theorem Side.len (h:Side C cl w Y own imm Z tb mb mm t L m):L.length=t.items.length:=by
 have h1:=congrArg List.length (h.om.trans h.ot.symm);unfold obsM obsT at h1
 simpa using h1
theorem Side.srch (h:Side C cl w Y own imm Z tb mb mm t L m) (hcount:t.items.length<=100000) (q:Qu) (A:Option Addr) (k c:Nat) (hk:k<=1000000) (hr:qan w w.heap.size A k q.ring):
 C9 15 #[gP mm,quV q.kind q.box A k c,.int .i64 0] w fun e w' =>∃v,e=.returned v/\w'.ownsRow w.heap.size 3 1 v (qft q (obsT t.items)).length (idcs (qft q (obsT t.items)))/\Below w.heap.size w w' :=by
 have h1:=qr9 h.r (by rw [h.len];exact hcount) q A k c hk hr
 rw [h.om,<-h.ot] at h1;exact h1
end
section
variable {w w' :World} {Za Zb Zn Zi:Nat->Prop} {ca cb:Nat} {An Ai:Option Addr} {S:List Nr} {I:List Int} {x y x' y' :Nat}
end
end Go.Proofs.YteodamnfgcnmmaaGreatDoor
