/-Contracts of the classes-/
import Derived.Test.YtfnhnjbkkggbeaaGreatKEncH
import Derived.Test.YtfnhnjbkkggbeaaGreatKArea
import Derived.Test.YtfnhnjbkkggbeaaGreatKRefRB
set_option linter.unusedVariables false
set_option linter.unusedSimpArgs false
set_option maxHeartbeats 4000000
set_option maxRecDepth 20000
namespace Go.Proofs.YtfnhnjbkkggbeaaGreat
open Go.RowKit Pg
def q14 (b:Bx) (q:Qu):Bool:=if ckQu q=0 then(if q.kind=3 then bhas b q.box.lo else if q.kind=4 then qde b (qar q.ring) else qde b q.box) else false
def qo5 (key:List Nat) (q:Qu):Bool:=match qbv key with|none=>false|some b=>q14 b q
def penS (k a:List Nat):Nat:=match qbv k,qbv a with|some x,some y=>qqr x y|_,_=>0
def farS (k:List Nat) (p:Pt):Fr:=match qbv k with|none=>qnf|some b=>bxF b p
theorem qug {l:List Nat} {q:Qu} (h:qbv l=none):qo5 l q=false:=by unfold qo5;rw [h]
theorem quf {l:List Nat} {q:Qu} {b:Bx} (h:qbv l=some b):qo5 l q=q14 b q:=by unfold qo5;rw [h]
theorem qej {l:List Nat} (h:qbv l=none):qdx l=.tuple #[bxV 0 0 0 0,.bool false]:=by unfold qdx;rw [h]
theorem qei {l:List Nat} {b:Bx} (h:qbv l=some b):qdx l=.tuple #[bxV b.lo.x b.lo.y b.hi.x b.hi.y,.bool true]:=by unfold qdx;rw [h]
theorem qmq {l:List Nat} {b:Bx} (h:qbv l=some b):okBx b=true:=by
 unfold qbv at h
 split at h
 · cases h
 · split at h
   · cases h
   · split at h
     · cases h
     · split at h
       · cases h
       · split at h
         · rename_i h2;injection h with h;subst h;exact h2.2
         · cases h
theorem qt5 {w:World} {v:Value} {k:Nat} {s:ByteArray} {id:Int} (h:ErrW w v k s id) (hk:k≠0):∃t u,v=.iface t u:=by
 rcases h with ⟨h0,_⟩|⟨_,g,inner,rfl,_⟩
 · exact absurd h0 hk
 · exact⟨_,_,rfl⟩
theorem qt4 {w:World} {v:Value} {s:ByteArray} {id:Int} (h:ErrW w v 0 s id):v=.nilIface:=by
 rcases h with ⟨_,h⟩|⟨h,_⟩
 · exact h
 · exact absurd rfl h
theorem qte (B n c:Nat) (x y:Int) (A:Option Addr) (l:List Nat) (w:World) (hl:qbm w B A n l) (h256:∀x∈l,x<256) (hB:B<=w.heap.size) (hn:n<=1000000) (hnc:n<=c) (hAn:A=none->c=0):
 C9 184 #[.slice A n c,ptV x y] w (Ret w (fV (farS l ⟨x,y⟩))):=by
 have HU:=hdQ (fun W (hW:Below w.heap.size w W)=>qed B n c A l W (hl.tr hW hB) h256 (zcy hB hW.size) hn hnc hAn)
 rw [qbx]
 unfold farS
 cases hk:qbv l with
 | none=>
   rw [qej hk] at HU
   simp only [qe2]
   clear hl hk
   go_enter Tryz.func184,Tryz.ntmps184
   go_wp2_with (go_at_call 191;(with_reducible refine(HU.out _ bel).monoR ?_);rintro w1 hb1 hc1 hf1 hz1;(try simp at hz1);obtain⟨hy0,hy1⟩:=ol2 w w1)
   refine qaj (R:=fun w2=>Blk w2 (w.heap.size+1) 71 #[.int .u64 0,.int .u64 0,.int .u64 0]/\Below w.heap.size w w2) ⟨?_,bel⟩ ?_
   · repeat(first|with_reducible exact qat (x:=.int .u64 0) (y:=.int .u64 0) (z:=.int .u64 0) blkA|(with_reducible refine Blk.new ?_ rfl;focus(simp;done))|with_reducible refine Blk.alloc ?_ _|with_reducible refine Blk.drew ?_)
   rintro w2 ⟨HR,hb2⟩;obtain⟨r0,r1,r2⟩:=ce3 HR;exact bodyPost_ret (v:=.agg #[.int .u64 0,.int .u64 0,.int .u64 0]) (by simp [results,Tryz.results184,go_sem,r0,r1,r2]) rfl ⟨rfl,hb2⟩
 | some b=>
   rw [qei hk] at HU;have HD:=hdQ (fun w=>qoa b.lo.x b.lo.y b.hi.x b.hi.y x y w)
   rw [show (⟨⟨b.lo.x,b.lo.y⟩,⟨b.hi.x,b.hi.y⟩⟩:Bx)=b from rfl,qbx] at HD
   simp only
   obtain⟨d1,d2,d3,ed⟩:=qeu (bxF b ⟨x,y⟩)
   rw [ed] at HD ⊢
   clear hl hk ed
   go_enter Tryz.func184,Tryz.ntmps184
   go_wp2_with (first|(go_at_call 191;(with_reducible refine(HU.out _ bel).monoR ?_);rintro w1 hb1 hc1 hf1 hz1;(try simp at hz1);obtain⟨hy0,hy1⟩:=ol2 w w1)|(go_at_call 196;(with_reducible refine(HD.out _).monoR ?_);rintro w5 hb5 hc5 hf5 hz5;(try simp at hz5);obtain⟨hy50,hy51⟩:=ol2 w w5))
   refine qaj (R:=fun w2=>Blk w2 (w.heap.size+1) 71 #[.int .u64 d1,.int .u64 d2,.int .u64 d3]/\Below w.heap.size w w2) ⟨?_,bel⟩ ?_
   · repeat(first|with_reducible exact qat (x:=.int .u64 0) (y:=.int .u64 0) (z:=.int .u64 0) blkA|(with_reducible refine Blk.new ?_ rfl;focus(simp;done))|with_reducible refine Blk.alloc ?_ _|with_reducible refine Blk.drew ?_)
   rintro w2 ⟨HR,hb2⟩;obtain⟨r0,r1,r2⟩:=ce3 HR;exact bodyPost_ret (v:=.agg #[.int .u64 d1,.int .u64 d2,.int .u64 d3]) (by simp [results,Tryz.results184,go_sem,r0,r1,r2]) rfl ⟨rfl,hb2⟩
theorem qvu (B n c m c2:Nat) (k:Int) (bq:Bx) (A A2:Option Addr) (l:List Nat) (r:List Pt) (w:World) (hl:qbm w B A n l) (h256:∀x∈l,x<256) (hr:qal w B A2 m r) (hB:B<=w.heap.size) (hn:n<=1000000) (hnc:n<=c) (hm:m<=1000000) (hAn:A=none->c=0):
 C9 183 #[.slice A n c,quV k bq A2 m c2] w (Ret w (.bool (qo5 l ⟨k,bq,r⟩))):=by
 have HU:=hdQ (fun W (hW:Below w.heap.size w W)=>qed B n c A l W (hl.tr hW hB) h256 (zcy hB hW.size) hn hnc hAn)
 have HQ:=hdQ (fun W (hW:Below w.heap.size w W)=>qtc B m c2 k bq A2 r W (hr.tr hW hB) (zcy hB hW.size) hm)
 rw [<-q18] at HQ
 cases hk:qbv l with
 | none=>
   rw [qug hk]
   rw [qej hk] at HU;clear hl hr HQ hk
   go_enter Tryz.func183,Tryz.ntmps183
   go_wp2_with (go_at_call 191;(with_reducible refine(HU.out _ bel).monoR ?_);rintro w1 hb1 hc1 hf1 hz1;(try simp at hz1);have hy0:=ol1 w w1)
   go_ret;exact⟨rfl,bel⟩
 | some b=>
   rw [quf hk]
   rw [qei hk] at HU;unfold q14
   by_cases hq:ckQu ⟨k,bq,r⟩=0
   case neg=>
    rw [if_neg hq]
    obtain⟨m',hm'⟩:∃m' :Nat,ckQu ⟨k,bq,r⟩=m' :=⟨_,rfl⟩;rw [hm'] at HQ hq;have hq2:((m' :Int) !=0)=true:=by rw [bne_iff_ne];omega
    clear hl hr hk hq hm'
    go_enter Tryz.func183,Tryz.ntmps183
    go_wp2_with (first|(go_at_call 191;(with_reducible refine(HU.out _ bel).monoR ?_);rintro w1 hb1 hc1 hf1 hz1;(try simp at hz1);have hy0:=ol1 w w1)|(go_at_call 192;(with_reducible refine(HQ.out _ bel).monoR ?_);rintro w3 hb3 hc3 hf3 hz3;(try simp at hz3);have hy30:=ol1 w w3))
    go_ret;exact⟨rfl,bel⟩
   rw [if_pos hq]
   rw [hq] at HQ
   simp only
   by_cases k3:k=3
   · subst k3
     rw [if_pos rfl]
     have HH:=hdQ (fun w=>qp6 b.lo.x b.lo.y b.hi.x b.hi.y bq.lo.x bq.lo.y w)
     rw [show (⟨⟨b.lo.x,b.lo.y⟩,⟨b.hi.x,b.hi.y⟩⟩:Bx)=b from rfl,show (⟨bq.lo.x,bq.lo.y⟩:Pt)=bq.lo from rfl] at HH
     generalize bhas b bq.lo=t at*;clear hl hr hk hq
     go_enter Tryz.func183,Tryz.ntmps183
     go_wp2_with (first|(go_at_call 191;(with_reducible refine(HU.out _ bel).monoR ?_);rintro w1 hb1 hc1 hf1 hz1;(try simp at hz1);have hy0:=ol1 w w1)|(go_at_call 192;(with_reducible refine(HQ.out _ bel).monoR ?_);rintro w3 hb3 hc3 hf3 hz3;(try simp at hz3);have hy30:w.heap.size<w3.heap.size:=oQ;have hy32:w1.heap.size<w3.heap.size:=oQ)|(go_at_call 193;(with_reducible refine(HH.out _).monoR ?_);rintro w5 hb5 hc5 hf5 hz5;(try simp at hz5);have hy50:=ol1 w w5))
     go_ret;exact⟨rfl,bel⟩
   rw [if_neg k3]
   have k3' :(k==3)=false:=by rw [beq_eq_false_iff_ne];exact k3
   by_cases k4:k=4
   · subst k4
     rw [if_pos rfl]
     have hck:qbn r=0:=by simpa [ckQu] using hq
     have HX:=hdQ (fun W (hW:Below w.heap.size w W)=>qkb B m c2 A2 r W (hr.tr hW hB) (zcy hB hW.size) hck)
     generalize qar r=x at*;have HH:=hdQ (fun w=>qhn b.lo.x b.lo.y b.hi.x b.hi.y x.lo.x x.lo.y x.hi.x x.hi.y w)
     rw [show (⟨⟨b.lo.x,b.lo.y⟩,⟨b.hi.x,b.hi.y⟩⟩:Bx)=b from rfl,show (⟨⟨x.lo.x,x.lo.y⟩,⟨x.hi.x,x.hi.y⟩⟩:Bx)=x from rfl] at HH
     generalize qde b x=t at*;clear hl hr hk hq hck k3 k3'
     go_enter Tryz.func183,Tryz.ntmps183
     go_wp2_with (first|(go_at_call 191;(with_reducible refine(HU.out _ bel).monoR ?_);rintro w1 hb1 hc1 hf1 hz1;(try simp at hz1);have hy0:=ol1 w w1)|(go_at_call 192;(with_reducible refine(HQ.out _ bel).monoR ?_);rintro w3 hb3 hc3 hf3 hz3;(try simp at hz3);have hy30:w.heap.size<w3.heap.size:=oQ;have hy32:w1.heap.size<w3.heap.size:=oQ)|(go_at_call 194;(with_reducible refine(HX.out _ bel).monoR ?_);rintro w5 hb5 hc5 hf5 hz5;(try simp at hz5);have hy50:w.heap.size<w5.heap.size:=oQ;have hy52:w1.heap.size<w5.heap.size:=oQ)|(go_at_call 195;(with_reducible refine(HH.out _).monoR ?_);rintro w6 hb6 hc6 hf6 hz6;(try simp at hz6);have hy60:=ol1 w w6))
     go_ret;exact⟨rfl,bel⟩
   rw [if_neg k4]
   have k4' :(k==4)=false:=by rw [beq_eq_false_iff_ne];exact k4
   have HH:=hdQ (fun w=>qhn b.lo.x b.lo.y b.hi.x b.hi.y bq.lo.x bq.lo.y bq.hi.x bq.hi.y w)
   rw [show (⟨⟨b.lo.x,b.lo.y⟩,⟨b.hi.x,b.hi.y⟩⟩:Bx)=b from rfl,show (⟨⟨bq.lo.x,bq.lo.y⟩,⟨bq.hi.x,bq.hi.y⟩⟩:Bx)=bq from rfl] at HH
   generalize qde b bq=t at*;clear hl hr hk hq k3 k4
   go_enter Tryz.func183,Tryz.ntmps183
   go_wp2_with (first|(go_at_call 191;(with_reducible refine(HU.out _ bel).monoR ?_);rintro w1 hb1 hc1 hf1 hz1;(try simp at hz1);have hy0:=ol1 w w1)|(go_at_call 192;(with_reducible refine(HQ.out _ bel).monoR ?_);rintro w3 hb3 hc3 hf3 hz3;(try simp at hz3);have hy30:w.heap.size<w3.heap.size:=oQ;have hy32:w1.heap.size<w3.heap.size:=oQ)|(go_at_call 195;(with_reducible refine(HH.out _).monoR ?_);rintro w6 hb6 hc6 hf6 hz6;(try simp at hz6);have hy60:=ol1 w w6))
   go_ret;exact⟨rfl,bel⟩
theorem qys (B n c n2 c2:Nat) (A A2:Option Addr) (l l2:List Nat) (w:World) (hl:qbm w B A n l) (h256:∀x∈l,x<256) (hl2:qbm w B A2 n2 l2) (h2562:∀x∈l2,x<256) (hB:B<=w.heap.size) (hn:n<=1000000) (hnc:n<=c) (hn2:n2<=1000000) (hnc2:n2<=c2) (hAn:A=none->c=0) (hAn2:A2=none->c2=0):
 C9 188 #[.slice A n c,.slice A2 n2 c2] w (Ret w (.int .i64 (penS l l2:Nat))):=by
 have HU:=hdQ (fun W (hW:Below w.heap.size w W)=>qed B n c A l W (hl.tr hW hB) h256 (zcy hB hW.size) hn hnc hAn)
 have HU2:=hdQ (fun W (hW:Below w.heap.size w W)=>qed B n2 c2 A2 l2 W (hl2.tr hW hB) h2562 (zcy hB hW.size) hn2 hnc2 hAn2)
 have HP:Hid (∀x y,qbv l=some x->qbv l2=some y->penS l l2=qqr x y):=fun x y e1 e2=>by unfold penS;rw [e1,e2]
 cases hk:qbv l with
 | none=>
   have HP2:Hid (penS l l2=0):=by unfold Hid penS;rw [hk]
   rw [HP2.out]
   rw [qej hk] at HU;obtain⟨q,hq⟩:∃q,qdx l2=q:=⟨_,rfl⟩;rw [hq] at HU2
   obtain⟨a,b,c',d,t,rfl⟩:∃a b c d t,q=.tuple #[bxV a b c d,.bool t]:=by
    rw [<-hq]
    unfold qdx
    split
    · exact⟨_,_,_,_,_,rfl⟩
    · exact⟨_,_,_,_,_,rfl⟩
   clear hl hl2 hk hq HP HP2
   go_enter Tryz.func188,Tryz.ntmps188
   go_wp2_with (first|(go_at_call 191;have _hz:=hz5;(with_reducible refine(HU2.out _ bel).monoR ?_);rintro w6 hb6 hc6 hf6 hz6;(try simp at hz6);have hy62:=ol1 w5 w6)|(go_at_call 191;(with_reducible refine(HU.out _ bel).monoR ?_);rintro w5 hb5 hc5 hf5 hz5;(try simp at hz5)))
   go_ret;exact⟨rfl,bel⟩
 | some x=>
   rw [qei hk] at HU;have hx:=qmq hk
   cases hk2:qbv l2 with
   | none=>
     have HP2:Hid (penS l l2=0):=by unfold Hid penS;rw [hk,hk2]
     rw [HP2.out]
     rw [qej hk2] at HU2;clear hl hl2 hk hk2 HP HP2
     go_enter Tryz.func188,Tryz.ntmps188
     go_wp2_with (first|(go_at_call 191;have _hz:=hz5;(with_reducible refine(HU2.out _ bel).monoR ?_);rintro w6 hb6 hc6 hf6 hz6;(try simp at hz6);have hy62:=ol1 w5 w6)|(go_at_call 191;(with_reducible refine(HU.out _ bel).monoR ?_);rintro w5 hb5 hc5 hf5 hz5;(try simp at hz5)))
     go_ret;exact⟨rfl,bel⟩
   | some y=>
     rw [qei hk2] at HU2;have hy:=qmq hk2
     rw [HP.out x y hk hk2]
     have HG:=hdQ (fun w=>qyq x.lo.x x.lo.y x.hi.x x.hi.y y.lo.x y.lo.y y.hi.x y.hi.y w hx hy)
     rw [show (⟨⟨x.lo.x,x.lo.y⟩,⟨x.hi.x,x.hi.y⟩⟩:Bx)=x from rfl,show (⟨⟨y.lo.x,y.lo.y⟩,⟨y.hi.x,y.hi.y⟩⟩:Bx)=y from rfl] at HG
     have hlt:qqr x y<=4611686009837453316:=by unfold qqr;exact zcy (Nat.sub_le _ _) (qnl _)
     generalize qqr x y=m at*;have e1:decide ((4611686018427387904:Int)<(m:Int))=false:=decide_eq_false oQ
     have e2:IntKind.i64.wrap (m:Int)=m:=by rw [IntKind.wrap_i64];omega
     clear hl hl2 hk hk2 HP hx hy hlt
     go_enter Tryz.func188,Tryz.ntmps188
     go_wp2_with (first|(go_at_call 191;have _hz:=hz5;(with_reducible refine(HU2.out _ bel).monoR ?_);rintro w6 hb6 hc6 hf6 hz6;(try simp at hz6);have hy62:=ol1 w5 w6)|(go_at_call 191;(with_reducible refine(HU.out _ bel).monoR ?_);rintro w5 hb5 hc5 hf5 hz5;(try simp at hz5))|(go_at_call 201;(with_reducible refine(HG.out _).monoR ?_);rintro w7 hb7 hc7 hf7 hz7;(try simp at hz7)))
     go_ret;exact⟨rfl,bel⟩
def qcz (L:List (List Nat)):List Bx:=L.filterMap qbv
def qf5 (L:List (List Nat)):List Nat:=if (qb8 (qcz L)).2=0 then keyL (qb8 (qcz L)).1 else []
theorem qns {l:List Bx} (hl:l≠ []) (h:∀b∈l,okBx b=true):(qb8 l).2=0/\okBx (qb8 l).1=true/\∀b∈l,inB (qb8 l).1 b:=by
 cases l with
 | nil=>exact absurd rfl hl
 | cons a r=>
   obtain⟨h1,h2,h3,h4⟩:=qf6 (a::r) a (fun b hb=>qhc.1 (h b hb))
   have e:(qb8 (a::r)).1=(qb1 a (a::r)).1:=rfl;have hA:=(Pg.qca a).1 (h a sI)
   have hl:inB ⟨⟨-1073741823,-1073741823⟩,⟨1073741823,1073741823⟩⟩ (qb1 a (a::r)).1:=h4 _ (by rw [Pg.qbi,Pg.qbi] at hA;unfold inB;simp only;omega) (by
    intro c hc;have hc:=(Pg.qca c).1 (h c hc);rw [Pg.qbi,Pg.qbi] at hc
    unfold inB;simp only;omega)
   refine⟨h1,?_,h3⟩;have h3a:=h3 a sI
   rw [Pg.qca,Pg.qbi,Pg.qbi,e]
   unfold inB at hl h3a
   simp only at hl
   omega
theorem qpi {L:List (List Nat)} {b:Bx} (h:b∈qcz L):okBx b=true:=by
 unfold qcz at h;obtain⟨l,_,h⟩:=List.mem_filterMap.1 h;exact qmq h
theorem qmi (L:List (List Nat)):(qcz L).length<=L.length:=List.length_filterMap_le _ _
theorem qre {L:List (List Nat)} {k:Nat} (hk:k<L.length) (h:qbv (L.getD k [])=none):qcz (L.take (k+1))=qcz (L.take k):=by
 have e:L[k]? =some (L.getD k []):=by rw [zpy,zby hk];rfl
 unfold qcz
 rw [zwy,e,List.filterMap_append,Option.toList_some,List.filterMap_cons_none h,List.filterMap_nil,List.append_nil]
theorem qrd {L:List (List Nat)} {k:Nat} {b:Bx} (hk:k<L.length) (h:qbv (L.getD k [])=some b):qcz (L.take (k+1))=qcz (L.take k)++ [b]:=by
 have e:L[k]? =some (L.getD k []):=by rw [zpy,zby hk];rfl
 unfold qcz
 rw [zwy,e,List.filterMap_append,Option.toList_some,List.filterMap_cons_some h,List.filterMap_nil]
theorem qk4 (L:List (List Nat)) (k:Nat):(qcz (L.take k)).length<=k:=zcy (qmi _) (by simp;omega)
theorem qtf (B n c:Nat) (A:Option Addr) (L:List (List Nat)) (w:World) (hl:qex w B A n L) (hB:B<=w.heap.size) (hn2:n<=1000000) (h256:∀l∈L,∀x∈l,x<256) (hlen:∀l∈L,l.length<=1000000):
 C9 190 #[.slice A n c] w (RetB w (qf5 L)):=by
 have hLn:=hl.1;obtain⟨i0,hi,iz0,iz1,iz2⟩:=info_parts Tryz.infoBox
 go_enter Tryz.func190,Tryz.ntmps190
 go_wp2_with fail
 go_loopw [3,4] (fun vl vi wr=>∃(k:Nat),k<=n/\vi=.int .i64 k/\wr.ownsRow w.heap.size 48 4 vl (qcz (L.take k)).length (qct (qcz (L.take k)))/\Below w.heap.size w wr) (fun _ vi _=>n-(intOf vi).toNat)
 case atStart=>exact ⟨0,by omega,rfl,World.ownsRow_nil _ _ _ _,bel⟩
 case round=>
  obtain⟨k,hk,rfl,hown,hb⟩:=hrel
  by_cases hlt:k<n
  · obtain⟨b,off,A',n',c',rfl,hab,hcell,hby,he,hz,hnc⟩:=(hl.below (hb.mono hB)).at_ hlt
    have hmem:L.getD k []∈L:=zjy he;have hn' :n' <=1000000:=by rw [<-hby.1];exact hlen _ hmem
    have hBw:B<=wr.heap.size:=zcy hB hb.size;have HU:=hdQ (fun w' (h:Below wr.heap.size wr w')=>qed B n' c' A' (L.getD k []) w' (hby.tr h hBw) (h256 _ hmem) (zcy hBw h.size) hn' hnc hz)
    have hbw:b<wr.heap.size:=oQ
    have hk0:(k:Int)<(n:Int):=oQ
    have hkl:k<L.length:=oQ
    have hbk:=qk4 L k
    cases hu:qbv (L.getD k []) with
    | none=>
      rw [qej hu] at HU;have hst:=qre hkl hu
      go_wp2_with (go_at_call 191;(with_reducible refine(HU.out _ bel).monoR ?_);rintro w1 hb1 hc1 hf1 hz1;(try simp at hz1))
      have hbz:Below wr.heap.size wr w1:=bel
      go_roundw
      case rel=>exact ⟨k+1,by omega,by go_num,by rw [hst];exact qcw hown bel,bel⟩
      case measure=>simp [intOf];omega
    | some p=>
      rw [qei hu] at HU;have hst:=qrd hkl hu
      go_wp2_with (first|(go_at_call 191;(with_reducible refine(HU.out _ bel).monoR ?_);rintro w1 hb1 hc1 hf1 hz1;(try simp at hz1))|(at_builtin;go_must (refine wpList_append_own _ rfl _ _ 202 rfl w.heap.size 48 i0 (.agg #[.int .i64 0,.int .i64 0,.int .i64 0,.int .i64 0]) 4 32 Tryz.underlying202 hi iz0 iz1 iz2 rfl dE _ _ _ rfl (qcw hown bel) ⟨w1.heap.size+1,0,none⟩ 1 1 [.int .i64 p.lo.x,.int .i64 p.lo.y,.int .i64 p.hi.x,.int .i64 p.hi.y] rfl rfl ?c1 ?c2 ?c3 ?c4 ?c5 ?_)))
      case c1=>
       intro j u hj
       match j,hj with
       | 0,hj=>simp at hj;subst hj;simp [Addr.add]
       | 1,hj=>simp at hj;subst hj;simp [Addr.add]
       | 2,hj=>simp at hj;subst hj;simp [Addr.add]
       | 3,hj=>simp at hj;subst hj;simp [Addr.add]
      case c2=>intro u hu;simp only [List.mem_cons,List.not_mem_nil,or_false] at hu;rcases hu with rfl|rfl|rfl|rfl<;>rfl
      case c3=>unfold maxLen;omega
      case c4=>omega
      case c5=>have:=hb.size;simp;omega
      intro v' w2 hown' hgrow _;have hlt' :=hown.lt;have hb2:Below w.heap.size w w2:=Below.grown (w:=_) bel hgrow (by have:=hb.size;simp;omega) (fun j e=>by have:=(hlt' j e).1;omega)
      have hown2:w2.ownsRow w.heap.size 48 4 v' (qcz (L.take (k+1))).length (qct (qcz (L.take (k+1)))):=by
       rw [hst,qfz,zny]
       exact hown'
      clear hown' hgrow hown hlt';go_wp2
      go_roundw
      case rel=>exact ⟨k+1,by omega,by go_num,hown2,hb2⟩
      case measure=>simp [intOf];omega
  · obtain rfl:n=k:=oQ
    rw [zmy oQ] at hown
    have hbl:=qmi L;obtain⟨A2,c2,rfl,hbx⟩:=qgw hown rfl;have HUn:=hdQ (qif wr.heap.size _ c2 A2 (qcz L) wr hbx (zhy _) oQ)
    by_cases hne:qcz L= []
    · have hu0:qf5 L= []:=by unfold qf5;rw [hne];rfl
      have HU0:=hdQ hu0;rw [hne] at HUn
      rw [hne]
      simp only [show (qb8 []).1=qcg from rfl,show (qb8 []).2=1 from rfl,qcg,List.length_nil] at HUn ⊢
      clear hown hbx hl hu0
      go_wp2_with (go_at_call 202;(with_reducible refine HUn.out.monoR ?_);rintro w1 hb1 hc1 hf1 hz1;(try simp at hz1))
      go_ret;refine⟨_,rfl,?_,bel⟩
      rw [HU0.out]
      exact World.ownsRow_nil _ _ _ _
    · obtain⟨hu0,hu1,_⟩:=qns hne (fun b hb=>qpi hb)
      have hu2:qf5 L=keyL (qb8 (qcz L)).1:=by unfold qf5;rw [if_pos hu0]
      have HU2:=hdQ hu2;rw [hu0] at HUn;obtain⟨x,hx⟩:∃x,(qb8 (qcz L)).1=x:=⟨_,rfl⟩;obtain⟨N,hN⟩:∃x,(qcz L).length=x:=⟨_,rfl⟩;rw [hx] at HUn hu1 HU2
      rw [hN] at HUn ⊢
      have HK:=hdQ (fun w=>qmw x.lo.x x.lo.y x.hi.x x.hi.y (qio hu1) w)
      rw [show (⟨⟨x.lo.x,x.lo.y⟩,⟨x.hi.x,x.hi.y⟩⟩:Bx)=x from rfl] at HK
      clear hown hbx hl hu0 hu1 hu2 hx hN hbl
      go_wp2_with (first|(go_at_call 202;(with_reducible refine HUn.out.monoR ?_);rintro w1 hb1 hc1 hf1 hz1;(try simp at hz1))|(go_at_call 186;(with_reducible refine(HK.out _).mono ?_);rintro e w6 ⟨s6,rfl,ho6,hb6⟩))
      go_ret;refine⟨_,rfl,?_,bel⟩
      rw [HU2.out]
      exact qc7 (base' :=w.heap.size) ho6 (by have:=hb.size;have:=hb1.size;(try simp);omega)
def qlj (kind:Int) (o:Ob):Nat:=if o.kind=kind then ckOb o else 5
def qi9 (kind:Int) (o:Ob):List Nat:=if qlj kind o=0 then keyL (qa2 o) else []
abbrev q0t:ByteArray:={data:= #[99,108,97,115,115]}
theorem qxs {k:Int} {l:List Pt} (h:ckOb ⟨k,l⟩=0):inBx (qa2 ⟨k,l⟩):=qio (qfy h)
theorem q0g (B n c:Nat) (kind k:Int) (A:Option Addr) (l:List Pt) (w:World) (hl:qal w B A n l) (hB:B<=w.heap.size) (hn:n<=1000000):
 C9 234 #[.agg #[.int .i64 kind],obV k A n c] w fun e w' =>∃s v,e=.returned (.tuple #[s,v])/\w'.ownsRow w.heap.size 5 1 s (qi9 kind ⟨k,l⟩).length (qap (qi9 kind ⟨k,l⟩))/\ErrX w' v (qlj kind ⟨k,l⟩) q0t k/\Below w.heap.size w w' :=by
 by_cases hk:k=kind
 case neg=>
  have h5:qlj kind ⟨k,l⟩=5:=by unfold qlj;rw [if_neg hk]
  have hm:qi9 kind ⟨k,l⟩= []:=by unfold qi9;rw [h5];rfl
  rw [h5,hm]
  have hk2:(k !=kind)=true:=by rw [bne_iff_ne];exact hk
  have HN:=hdQ (fun w=>qet q0t k (.iface 75 (.int .i64 5)) 5 w (qxd (k:=5)))
  clear hl hm h5 hk
  go_enter Tryz.func234,Tryz.ntmps234
  go_wp2_with (go_at_call 24;(with_reducible refine(HN.out _).mono ?_);rintro e w1 ⟨v1,rfl,hE1,hb1⟩)
  go_ret2
  exact⟨_,_,rfl,World.ownsRow_nil _ _ _ _,hE1,bel⟩
 case pos=>
  subst hk
  by_cases ho:ckOb ⟨k,l⟩=0
  · have h0:qlj k ⟨k,l⟩=0:=by unfold qlj;rw [if_pos rfl,ho]
    have hm:qi9 k ⟨k,l⟩=keyL (qa2 ⟨k,l⟩):=by unfold qi9;rw [if_pos h0]
    rw [hm,h0]
    refine(q2g B n c k A l w hl hB hn ho (qxs ho)).mono ?_;rintro e w' ⟨s,rfl,hs,hb⟩;exact⟨s,_,rfl,hs,.inl ⟨rfl,rfl⟩,hb⟩
  · obtain⟨m,hm⟩:∃m,ckOb ⟨k,l⟩=m:=⟨_,rfl⟩
    have h5:qlj k ⟨k,l⟩=m:=by unfold qlj;rw [if_pos rfl,hm]
    rw [hm] at ho;have hmk:qi9 k ⟨k,l⟩= []:=by unfold qi9;rw [h5,if_neg ho]
    rw [hmk,h5]
    have HB:=hdQ (fun W (hW:Below w.heap.size w W)=>quz B n c k A l W (hl.tr hW hB) (zcy hB hW.size) hn (by rw [hm];exact ho))
    rw [hm] at HB;have HO:=hdQ ho;clear hl hm h5 hmk ho
    go_enter Tryz.func234,Tryz.ntmps234
    go_wp2_with (first|(go_at_call 105;(with_reducible refine(HB.out _ bel).mono ?_);rintro e w1 ⟨v1,rfl,hE1,hb1⟩;obtain⟨t1,u1,rfl⟩:=hE1.x.succ HO.out;obtain⟨hc1,hf1,hz1⟩:=bc3 hb1;(try simp at hz1);obtain⟨hy0,hy1⟩:=ol2 w w1)|(go_at_call 24;(with_reducible refine(qet _ _ _ _ _ (hE1.x.y.keep (fun hB=>hB.alloc _))).mono ?_);rintro e w2 ⟨v2,rfl,hE2,hb2⟩))
    go_ret2
    exact⟨_,_,rfl,World.ownsRow_nil _ _ _ _,hE2,bel⟩
end Go.Proofs.YtfnhnjbkkggbeaaGreat
