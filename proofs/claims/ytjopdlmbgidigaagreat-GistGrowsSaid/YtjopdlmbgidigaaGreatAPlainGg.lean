/-gist-/
import Derived.Test.YtjopdlmbgidigaaGreatABldA
import Derived.Test.YtjopdlmbgidigaaGreatAGisX
import Derived.Test.YtjopdlmbgidigaaGreatAGisZ
set_option linter.unusedVariables false
set_option linter.unusedSimpArgs false
set_option maxHeartbeats 2000000
set_option maxRecDepth 20000
namespace Go.Proofs.YtjopdlmbgidigaaGreat
open Go Go.RowKit Pg
section
variable {w:World} {own imm:Nat->Prop} {tb mb:Nat} {t:Tr}
theorem qtp {C:Cl} {ct:TypeId} {cv:Value} (h:GAt C (.iface ct cv) w own imm tb mb t) (id:Int) (h0: -9223372036854775808<=id) (h1:id<=9223372036854775807) (hg:getK id t.items=none):
 C9 14 #[gP tb,.int .i64 id] w (Ret w (.tuple #[.agg #[.int .i64 0,.slice none 0 0],.bool false])):=by
 have HM:=hdQ h.lay.mp;obtain⟨t0,t1,t2,t3,tl⟩:=h.lay.c0;have HG:=hdQ (fun W (hW:Below w.heap.size w W)=>qdm (h.lay.tr hW))
 have HN:=hdQ (qg1 hg)
 have HLk:=hdQ (fun W (hW:Below w.heap.size w W)=>show (Instr.lookup 75 (.map (some mb)) (.int .i64 id) false).run Tryz.prog W=.ok (.pointer none) W from by
  have:=MapO.look (show MapO _ _ _ (some mb) _ from qbj.tr HM.out hW) Tryz.underlying3 Tryz.underlying75 (Tryz.zeroItG _) h0 h1
  rw [HN.out] at this
  exact this)
 clear h hg
 simp only [gP] at*
 go_enter Tryz.func14,Tryz.ntmps14
 go_wp2_with (first
  | (go_at_call 22;(refine(HG.out _ bel).monoR ?_);rintro w1 hb1 hc1 hf1 hz1;(try simp at hz1);have hlk:=HLk.out w1 bel))
 refine qai (R:=fun w2=>Blk w2 (w.heap.size) 53 #[.int .i64 0,.slice none 0 0]/\Below w.heap.size w w2) ⟨?_,bel⟩ ?_
 · repeat(first|with_reducible exact qc7 (x:=.int .i64 0) (y:=.slice none 0 0) blkA|(with_reducible refine Blk.new ?_ rfl;focus(simp;done))|with_reducible refine Blk.alloc ?_ _|with_reducible refine Blk.drew ?_)
 rintro w2 ⟨HR,hb2⟩;obtain⟨r0,r1⟩:=ce2 HR;exact bodyPost_ret (v:=.tuple #[.agg #[.int .i64 0,.slice none 0 0],.bool false]) (by simp [results,Tryz.results14,go_sem,r0,r1]) rfl ⟨rfl,hb2⟩
theorem qto {C:Cl} {ct:TypeId} {cv:Value} (h:GAt C (.iface ct cv) w own imm tb mb t) (id:Int) (x:It) (hg:getK id t.items=some x):
 C9 14 #[gP tb,.int .i64 id] w fun e w' =>∃k A n c,e=.returned (.tuple #[.agg #[.int .i64 k,.slice A n c],.bool true])/\Below w.heap.size w w' :=by
 have HM:=hdQ h.lay.mp;obtain⟨t0,t1,t2,t3,tl⟩:=h.lay.c0;have HG:=hdQ (fun W (hW:Below w.heap.size w W)=>qdm (h.lay.tr hW))
 obtain⟨hid,hck,_⟩:=h.its id x hg;have HN:=hdQ (qdn hg);obtain⟨z,hBi,_⟩:=h.lay.it id x hg;have ilt:=hBi.lt;obtain⟨Ap,cp,ep,_,_,hpts⟩:=(h.lay.ikey id x hg).2.pts;have hpl:0<x.ob.pts.length:=q4d (k:=x.ob.kind) (l:=x.ob.pts) hck;have hpm:x.ob.pts.length<=1000000:=by have:=(h.lay.ikey id x hg).2.1;exact this
 have HOw:=hdQ (fun W (hW:Below w.heap.size w W)=>qs4 w.heap.size x.ob.pts.length cp x.ob.kind Ap x.ob.pts W (hpts.below hW) hW.size hpl hpm)
 have i0' :=hBi.cell 0;have i1' :=hBi.cell 1
 simp only [lAq] at i0' i1'
 rw [ep] at i1'
 have h0: -9223372036854775808<=id:=oQ
 have h1:id<=9223372036854775807:=oQ
 have HLk:=hdQ (fun W (hW:Below w.heap.size w W)=>show (Instr.lookup 75 (.map (some mb)) (.int .i64 id) false).run Tryz.prog W=.ok (.pointer (some ⟨x.blk,0,none⟩)) W from by
  have:=MapO.look (show MapO _ _ _ (some mb) _ from qbj.tr HM.out hW) Tryz.underlying3 Tryz.underlying75 (Tryz.zeroItG _) h0 h1
  rw [HN.out] at this
  exact this)
 clear h hg hck hBi ep hpts hpl hid
 simp only [gP,obV] at*
 go_enter Tryz.func14,Tryz.ntmps14
 go_wp2_with (first
  | (go_at_call 22;(refine(HG.out _ bel).monoR ?_);rintro w1 hb1 hc1 hf1 hz1;(try simp at hz1);have hy0:=ol1 w w1;have hlk:=HLk.out w1 bel)
  | (go_at_call 36;(refine(HOw.out _ bel).mono ?_);rintro e w4 ⟨g4,c4,rfl,_,hb4⟩;have hB4:Blk w4 w.heap.size 53 #[.int .i64 0,.slice none 0 0]:=blkA;have k0:=hB4.cell 0;have k1:=hB4.cell 1;have kf:=hB4.frozen;have kl:=hB4.lt;(simp only [lAq] at k0 k1);have HB4:=hdQ (And.intro hB4 (show Below w.heap.size w w4 from bel));clear hB4 hb4))
 refine qai (R:=fun w2=>Blk w2 w.heap.size 53 #[.int .i64 x.ob.kind,.slice (some ⟨g4,0,none⟩) x.ob.pts.length c4]/\Below w.heap.size w w2) ⟨qc7 HB4.out.1,(HB4.out.2.setCell (zhy _) _).setCell (zhy _) _⟩ ?_
 rintro w2 ⟨HR,hb2⟩;obtain⟨r0,r1⟩:=ce2 HR;exact bodyPost_ret (v:=.tuple #[.agg #[.int .i64 x.ob.kind,.slice (some ⟨g4,0,none⟩) x.ob.pts.length c4],.bool true]) (by simp [results,Tryz.results14,go_sem,r0,r1]) rfl ⟨_,_,_,_,rfl,hb2⟩
theorem q54 {C:Cl} {ct:TypeId} {cv:Value} (h:GAt C (.iface ct cv) w own imm tb mb t) (id:Int) (h0: -9223372036854775808<=id) (h1:id<=9223372036854775807):
 C9 14 #[gP tb,.int .i64 id] w fun e w' =>∃k A n c,e=.returned (.tuple #[.agg #[.int .i64 k,.slice A n c],.bool (getK id t.items).isSome])/\Below w.heap.size w w' :=by
 cases hg:getK id t.items with
 | none=>exact (qtp h id h0 h1 hg).mono fun e w' ⟨he,hb⟩=>⟨_,_,_,_,he,hb⟩
 | some x=>exact qto h id x hg
end
theorem qyn {q:Qu} (hq:ckQu q≠0) (I:List (Int×Ob)):qdu q I= []:=by
 unfold qdu
 rw [List.map_eq_nil_iff,List.filter_eq_nil_iff]
 intro p _;unfold qa2
 rw [if_neg (fun h=>hq h.2)]
 simp
def qio (p:Pt) (k:Int) (I:List (Int×Ob)):List Nr:=if okPt p=true then(qgx (fun o=>qbu o p) I).take k.toNat else []
section
variable {w:World} {own imm:Nat->Prop} {tb mb:Nat} {t:Tr}
theorem qo5 {C:Cl} {ct:TypeId} {cv:Value} (h:GAt C (.iface ct cv) w own imm tb mb t) (q:Qu) (hq:ckQu q≠0) (A:Option Addr) (m c:Nat) (hm:m<=1000000) (hr:qao w w.heap.size A m q.ring):
 C9 12 #[gP tb,quV q.kind q.box A m c] w (Ret w (.slice none 0 0)):=by
 obtain⟨k,hk⟩:∃k,ckQu q=k:=⟨_,rfl⟩;have HG:=hdQ (fun W (hW:Below w.heap.size w W)=>qdm (h.lay.tr hW))
 have HCQ:=hdQ (fun W (hW:Below w.heap.size w W)=>show C9 30 #[quV q.kind q.box A m c] W (RetW W k ⟨#[113,117,101,114,121]⟩ q.kind) from by
  have:=qid w.heap.size m c q.kind q.box A q.ring W (hr.below hW) hW.size hm;rw [show (⟨q.kind,q.box,q.ring⟩:Qu)=q from rfl,hk] at this
  exact this)
 rw [hk] at hq;have HK:=hdQ hq;clear hr hk hq h;obtain⟨qk,⟨⟨x0,y0⟩,x1,y1⟩,ring⟩:=q
 simp only [gP,quV] at*
 go_enter Tryz.func12,Tryz.ntmps12
 go_wp2_with (first|(go_at_call 22;(refine(HG.out _ bel).monoR ?_);rintro wp hbp hcp hfp hzp;(try simp at hzp);have hyp0:=ol1 w wp)|(go_at_call 30;((refine(HCQ.out _ bel).mono ?_);rintro e w2 ⟨v2,rfl,hv2,hb2⟩;obtain⟨te,ue,rfl⟩:=ErrX.succ (ErrW.x hv2) HK.out;clear hv2;obtain⟨hc2,hf2,hz2⟩:=bc3 hb2;(try simp at hz2))))
 go_ret;exact⟨rfl,bel⟩
theorem qni {C:Cl} {ct:TypeId} {cv:Value} (h:GAt C (.iface ct cv) w own imm tb mb t) (x y:Int) (hp:okPt ⟨x,y⟩=false) (k:Int):
 C9 10 #[gP tb,ptV x y,.int .i64 k] w (Ret w (.slice none 0 0)):=by
 have HG:=hdQ (fun W (hW:Below w.heap.size w W)=>qdm (h.lay.tr hW))
 have HCP:Hid (∀W,C9 24 #[ptV x y] W (Ret W (.iface 70 (.int .i64 2)))):=fun W=>by
  have:=qa0 x y W;rw [hp] at this;exact this
 clear hp h
 simp only [gP,ptV] at*
 go_enter Tryz.func10,Tryz.ntmps10
 go_wp2_with (first|(go_at_call 22;(refine(HG.out _ bel).monoR ?_);rintro wg hbg hcg hfg hzg;(try simp at hzg);have hyg0:=ol1 w wg)|(go_at_call 24;(refine(HCP.out _).monoR ?_);rintro wp hbp hcp hfp hzp;(try simp at hzp);have hyp0:=ol1 w wp))
 go_ret;exact⟨rfl,bel⟩
end
structure AnsT (w:World) (tb:Nat) (I:List (Int×Ob)):Prop where
 srch:∀W,Below w.heap.size w W->∀(q:Qu) (A:Option Addr) (m c:Nat),m<=1000000->qao W W.heap.size A m q.ring->C9 12 #[gP tb,quV q.kind q.box A m c] W fun e w' =>∃v,e=.returned v/\w'.ownsRow W.heap.size 3 1 v (qdu q I).length (idcs (qdu q I))/\Below W.heap.size W w'
 near:∀W,Below w.heap.size w W->∀(x y k:Int),C9 10 #[gP tb,ptV x y,.int .i64 k] W fun e w' =>∃v,e=.returned v/\w'.ownsRow W.heap.size 50 4 v (qio ⟨x,y⟩ k I).length (nrVs (qio ⟨x,y⟩ k I))/\Below W.heap.size W w'
 rise:qb3 I
 ok:∀p∈I,(0<=p.1/\p.1<=1099511627776)/\ckOb p.2=0
theorem ansT {C:Cl} {ct:TypeId} {cv:Value} {w:World} {own imm:Nat->Prop} {tb mb:Nat} {t:Tr} {fM fC fD fU fS:Nat} {cov:List Nat->Ob->Prop} {good:List Nat->Prop} (hC:ClAt ct cv C fM fC fD fU fS) (hLw:Lawful C cov good) (h:GAt C (.iface ct cv) w own imm tb mb t) (hcount:t.items.length<=40000):AnsT w tb (obsT t.items) where
 srch W hW q A m c hm hr:=by
  by_cases hq:ckQu q=0
  · exact qot hC hLw W (h.tr hW) oQ q hq A m c hm hr
  · rw [qyn hq]
    exact(qo5 (h.tr hW) q hq A m c hm hr).mono fun e w' ⟨he,hb⟩=>⟨_,he,World.ownsRow_nil _ _ _ _,hb⟩
 near W hW x y k:=by
  unfold qio
  cases hp:okPt ⟨x,y⟩ with
  | true=>exact qve hC hLw (h.tr hW) hcount x y hp k
  | false=>exact (qni (h.tr hW) x y hp k).mono fun e w' ⟨he,hb⟩=>⟨_,he,World.ownsRow_nil _ _ _ _,hb⟩
 rise:=by unfold obsT qb3;rw [List.pairwise_map];exact h.shape.rise
 ok p hp:=by
  obtain⟨⟨i,it⟩,hm,rfl⟩:=zty.1 hp;have:=h.its i it (qeo h.shape.rise hm);exact⟨this.1,this.2.1⟩
section
variable {id:Int} {o:Ob} {I:List (Int×Ob)}
theorem qvz {α:Type} {id:Int} {v:α} {m:List (Int×α)} (hr:qb3 m) (h:getK id m=none):delK id (putK id v m)=m:=by
 refine q5l ((hr.put id v).del id) hr fun i=> ?_
 rw [qkd (hr.put id v),get_put hr]
 by_cases e:i=id
 · rw [if_pos e,e,h]
 · rw [if_neg e,if_neg e]
theorem qnm (p:Int×Ob->Bool) (m:List (Int×Ob)):((m.filter p).map (·.1)).filter (fun z=> !decide (z=id))=((delK id m).filter p).map (·.1):=by
 unfold delK
 rw [List.filter_map,List.filter_filter,List.filter_filter]
 congr 1;refine List.filter_congr fun x _=> ?_
 simp only [Function.comp_def]
 rw [Bool.and_comm]
theorem qym (q:Qu) (hr:qb3 I) (hg:getK id I=none):(qdu q (putK id o I)).filter (fun z=> !decide (z=id))=qdu q I:=by
 unfold qdu
 rw [qnm,qvz hr hg]
theorem q1v (q:Qu) (hr:qb3 I) (hg:getK id I=none):decide (id∈qdu q (putK id o I))=qa2 o q:=by
 have h:id∈qdu q (putK id o I)↔qa2 o q=true:=by
  unfold qdu
  rw [zty]
  constructor
  · rintro⟨p,hp,e⟩
    obtain⟨h1,h2⟩:=List.mem_filter.1 hp
    rcases qgy.1 h1 with rfl|⟨h3,h4⟩
    · exact h2
    · exact absurd e h4
  · intro h
    exact⟨(id,o),List.mem_filter.2 ⟨qgy.2 (.inl rfl),h⟩,rfl⟩
 cases hm:qa2 o q with
 | true=>rw [hm] at h;exact decide_eq_true (h.2 rfl)
 | false=>rw [hm] at h;exact decide_eq_false fun q=>by have:=h.1 q;cases this
theorem qnz (hr:qb3 I):(I.map (·.1)).Nodup:=by
 rw [List.Nodup,List.pairwise_map]
 exact hr.imp fun h e=>by omega
theorem qpc {α:Type} {id:Int} {v:α} {m:List (Int×α)} (h:getK id m=none):(putK id v m).length=m.length+1:=by
 unfold putK
 rw [qlb]
 congr 1;unfold delK
 rw [List.filter_eq_self.2]
 intro p hp;have:=qd6.1 h p hp
 simp [this]
theorem qzt (d:Ob->Fr) (hr:qb3 I) (hg:getK id I=none):(qgx d (putK id o I)).filter (fun a=> !decide (a.1=id))=qgx d I:=by
 refine qmj ((qi9 (qnz (hr.put id o))).sublist List.filter_sublist) (qi9 (qnz hr)) fun a=> ?_
 rw [List.mem_filter,qfk,qfk]
 constructor
 · rintro⟨⟨p,hp,rfl⟩,h2⟩
   rcases qgy.1 hp with rfl|⟨h3,h4⟩
   · simp at h2
   · exact⟨p,h3,rfl⟩
 · rintro⟨p,hp,rfl⟩
   have:=qd6.1 hg p hp;exact⟨⟨p,qgy.2 (.inr ⟨hp,this⟩),rfl⟩,by simp [this]⟩
theorem qq8 (p:Pt) {k:Nat} (hk:I.length<=k):qio p (k:Int) I=if okPt p=true then qgx (fun o=>qbu o p) I else []:=by
 unfold qio
 split
 · rw [zmy (by rw [qmk,Int.toNat_natCast];exact hk)]
 · rfl
theorem qw2 (p:Pt) {k k1:Nat} (hk:I.length<=k) (hk1:I.length+1<=k1) (hr:qb3 I) (hg:getK id I=none):(qio p (k1:Int) (putK id o I)).filter (fun a=> !decide (a.1=id))=qio p (k:Int) I:=by
 rw [qq8 p hk,qq8 p (by rw [qpc hg];exact hk1)]
 split
 · exact qzt _ hr hg
 · rfl
theorem qq7 (p:Pt) (k:Int):(qio p k I).length<=I.length:=by
 unfold qio
 split
 · rw [List.length_take,qmk]
   omega
 · simp
theorem qnx (q:Qu) (I:List (Int×Ob)):(qdu q I).length<=I.length:=by
 unfold qdu
 rw [zyy]
 exact List.length_filter_le _ _
theorem qrt {α:Type} {p:α->Bool} {l:List α} {i:Nat} {x:α} (h:l[i]? =some x):(l.take (i+1)).filter p=(l.take i).filter p++if p x=true then [x] else []:=by
 rw [zwy,h,Option.toList_some,List.filter_append]
 congr 1
 by_cases q:p x=true
 · simp [q]
 · simp [q]
theorem qjk {α:Type} (p:α->Bool) (l:List α) (i:Nat):((l.take i).filter p).length<=i:=zcy (List.length_filter_le _ _) (by rw [List.length_take];omega)
theorem q21 {l:List Int} {i:Nat} {x:Int} (h:l[i]? =some x):decide (id∈l.take (i+1))=(decide (id∈l.take i)||decide (x=id)):=by
 have:id∈l.take (i+1)↔id∈l.take i\/x=id:=by
  rw [zwy,h,Option.toList_some,List.mem_append,zhx]
  exact⟨fun q=>q.imp_right Eq.symm,fun q=>q.imp_right Eq.symm⟩
 by_cases q:id∈l.take i<;>by_cases r:x=id<;>simp [this,q,r]
end
end Go.Proofs.YtjopdlmbgidigaaGreat
