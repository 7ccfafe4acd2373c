/-Cursors-/
import Derived.Test.YteodamnfgcnmmaaGreatDoorTGisF
set_option linter.unusedVariables false
set_option linter.unusedSimpArgs false
set_option maxHeartbeats 2000000
set_option maxRecDepth 20000
namespace Go.Proofs.YteodamnfgcnmmaaGreatDoor
open Go Go.RowKit Pg
theorem q25 (A:Option Addr) (n c:Nat) (l:List Nr) (w:World) (hl:l.length=n) (hc:∀a,A=some a->∀(j:Nat) (u:Value),(nrVs l)[j]? =some u->w.cell? (a.add j)=some u) (h0:A=none->n=0/\c=0) (hn:n<=1000000):
 C9 58 #[.slice A n c] w fun e w' =>∃v,e=.returned v/\w'.ownsRow w.heap.size 58 4 v l.length (nrVs l)/\Below w.heap.size w w' :=by
 obtain⟨i0,hi,iz0,iz1,iz2⟩:=info_parts Tryz.infoNrF;have q22:∀(w:World) (a:Option Addr) (n c n' c' :Nat),(binOp .eql 40 (.slice a n c) (.slice none n' c')).run Tryz.prog w=.ok (.bool a.isNone) w:=fun w a n c n' c' =>Lib.run_eql_slice_nil w _ _ a n c n' c' Tryz.underlying40
 have HLN:=hdQ hl
 cases A with
 | none=>
   obtain⟨hn0,hc0⟩:=h0 rfl;subst hn0 hc0;have hl0:l= []:=zbx hl;subst hl0;clear hc hl
   go_enter Tryz.func58,Tryz.ntmps58
   go_wp2;go_ret;exact⟨_,rfl,World.ownsRow_nil _ _ _ _,bel⟩
 | some ad=>
 have HN:=hdQ (hc ad rfl);clear hc hl h0
 go_enter Tryz.func58,Tryz.ntmps58
 go_wp2_with (at_builtin;refine wpList_append_own _ rfl _ _ 40 rfl w.heap.size 58 i0 (.agg #[.int .i64 0,.int .u64 0,.int .u64 0,.int .u64 0]) 4 32 Tryz.underlying40 hi iz0 iz1 iz2 rfl dE _ _ _ rfl (World.ownsRow_made w #[] 0 (zhy _) (zly _) rfl) ad n c (nrVs l) rfl ?qc1 ?qc2 ?qc3 ?qc4 ?qc5 ?qc6 ?_)
 case qc1=>rw [qdw,HLN.out]
 case qc2=>
  intro j u hj;exact Lib.cell?_alloc_some _ (HN.out j u hj)
 case qc3=>exact q14 l
 case qc4=>unfold maxLen;omega
 case qc5=>omega
 case qc6=>simp
 intro v' w1 hown hgrow hnil
 try rw [Nat.zero_add] at hown
 go_wp2;go_ret;exact⟨_,rfl,by rw [HLN.out];exact hown,((Below.refl _ w).alloc (zhy _) _).grown hgrow sI (by intro k hk;simp [Value.ownBlock] at hk;omega)⟩
structure CurAt (w:World) (Z:Nat->Prop) (cb:Nat) (S:List Nr) (k:Nat) (o:Bool):Prop where
 hd:∃A c,Blk w cb 80 #[.slice A S.length c,.int .i64 k,.bool o]/\S.length<=c/\(A=none->c=0)/\qb4 w Z A (nrVs S)
 le:k<=S.length
 no:¬ Z cb
 lim:∀b,Z b->b<w.heap.size
theorem CurAt.tr {w w' :World} {Z:Nat->Prop} {cb k:Nat} {S:List Nr} {o:Bool} (h:CurAt w Z cb S k o) (hb:Below w.heap.size w w'):CurAt w' Z cb S k o:=by
 obtain⟨A,c,h1,h2,h3,h4⟩:=h.hd;exact⟨⟨A,c,h1.tr hb,h2,h3,h4.kept (qaf hb) sI⟩,h.le,h.no,fun b q=>zky (h.lim b q) hb.size⟩
theorem qmj (b off x:Nat):(⟨b,off,none⟩:Addr).add x=⟨b,off+x,none⟩:=by unfold Addr.add;split<;>simp_all
theorem qb4.turn {w w' :World} {Z F:Nat->Prop} {A:Option Addr} {cs:List Value} (h:qb4 w Z A cs) (ht:TurnF F w w') (hF:∀b,Z b->¬ F b):qb4 w' Z A cs:=fun hn=>by
 obtain⟨b,off,ea,hz,hb,hc⟩:=h hn;exact⟨b,off,ea,hz,zky hb ht.size,fun k u hk=>(ht.cell (p:=⟨b,off+k,none⟩) hb (hF b hz)).trans (hc k u hk)⟩
theorem q04 {w:World} {Z:Nat->Prop} {A:Option Addr} {c k j:Nat} {S:List Nr} (hCs:qb4 w Z A (nrVs S)) (hSc:S.length<=c) (hAc:A=none->c=0) (hle:k<=S.length) (hjd:j<=S.length-k):
 (∀a,(if c=k then A else Option.map (fun x=>x.add (k*4)) A)=some a->∀(i:Nat) (u:Value),(nrVs ((S.drop k).take j))[i]? =some u->w.cell? (a.add i)=some u)/\((if c=k then A else Option.map (fun x=>x.add (k*4)) A)=none->j=0/\c-k=0):=by
 constructor
 · intro a ha i u hu
   have hlen:i<j*4:=by
    have:=(zsy.1 hu).1;rw [qdw,List.length_take,List.length_drop] at this
    omega
   have hck:¬ c=k:=oQ
   rw [if_neg hck] at ha;obtain⟨b,off,rfl,_,_,hcell⟩:=hCs (by rw [qdw];omega)
   simp only [Option.map_some,Option.some.injEq] at ha;subst ha
   have e:(nrVs S)[k*4+i]? =some u:=by
    rw [<-qp6,List.getElem?_take_of_lt hlen,<-qll,List.getElem?_drop] at hu;exact hu
   have:=hcell _ _ e
   rw [qmj,qmj,show off+k*4+i=off+(k*4+i) by omega]
   exact this
 · intro ha
   by_cases hck:c=k
   · omega
   · rw [if_neg hck] at ha
     have:=hAc (by simpa using ha)
     omega
theorem CurAt.turn {w w' :World} {Z F:Nat->Prop} {cb k:Nat} {S:List Nr} {o:Bool} (h:CurAt w Z cb S k o) (ht:TurnF F w w') (hF:∀b,Z b\/b=cb->¬ F b):CurAt w' Z cb S k o:=by
 obtain⟨A,c,h1,h2,h3,h4⟩:=h.hd;exact⟨⟨A,c,ht.blk h1 (hF cb (.inr rfl)),h2,h3,h4.turn ht fun b hb=>hF b (.inl hb)⟩,h.le,h.no,fun b q=>zky (h.lim b q) ht.size⟩
theorem qda {w:World} {Z:Nat->Prop} {cb k:Nat} {S:List Nr} {o:Bool} (h:CurAt w Z cb S k o):C9 32 #[gP cb] w (Ret w (.int .i64 k)):=by
 obtain⟨A,c,h1,_⟩:=h.hd;have c1:=h1.cell 1;have cl:=h1.lt;simp only [lAq] at c1;clear h h1
 simp only [gP]
 go_enter Tryz.func32,Tryz.ntmps32
 go_wp2;go_ret;exact⟨rfl,bel⟩
theorem qoz (p:Option Addr) (k:Nat) (w:World) (e:Value) (r:Nat) (hT:∀W,Below w.heap.size w W->C9 32 #[.pointer p] W (Ret W (.int .i64 k))) (he:ErrY w e r):
 C9 42 #[.pointer p,e] w fun x w' =>∃v,x=.returned v/\ErrX w' v r ⟨#[99,117,114,115,111,114]⟩ k/\Below w.heap.size w w' :=by
 have HT:=hdQ hT;have HF:=hdQ (fun W (hW:Below w.heap.size w W)=>qi5 ⟨#[99,117,114,115,111,114]⟩ k e r W (he.tr hW))
 clear hT he
 go_enter Tryz.func42,Tryz.ntmps42
 go_wp2_with (first|(go_at_call 32;(refine(HT.out _ bel).monoR ?_);rintro w1 hb1 hc1 hf1 hz1;(try simp at hz1))|(go_at_call 23;(refine(HF.out _ bel).mono ?_);rintro x w2 ⟨v,rfl,hx,hb2⟩;have HX:=hdQ hx;clear hx))
 go_ret;exact⟨_,rfl,HX.out,bel⟩
theorem qoq (w:World) (r:Nat) (h:r≠0):ErrY w (.iface 105 (.int .i64 (r:Int))) r:=.inr ⟨h,0,rfl⟩
def tkN (n:Int) (len k:Nat):Nat:=(min (max n 0) ((len:Int)-k)).toNat
theorem ql6 {w:World} {Z:Nat->Prop} {cb k:Nat} {S:List Nr} (h:CurAt w Z cb S k true) (hS:S.length<=1000000) (n:Int) (hn: -9223372036854775808<=n/\n<=9223372036854775807):
 C9 28 #[gP cb,.int .i64 n] w fun x w' =>∃v,x=.returned (.tuple #[v,.nilIface])/\w'.ownsRow w.heap.size 58 4 v ((S.drop k).take (tkN n S.length k)).length (nrVs ((S.drop k).take (tkN n S.length k)))/\CurAt w' Z cb S (k+tkN n S.length k) true/\TurnF (fun b=>b=cb) w w' :=by
 obtain⟨A,c,h1,hSc,hAc,hCs⟩:=h.hd;have hle:=h.le;obtain⟨j,hj⟩:∃j,tkN n S.length k=j:=⟨_,rfl⟩
 rw [hj]
 unfold tkN at hj;obtain⟨d,hd⟩:∃d,S.length-k=d:=⟨_,rfl⟩;have hsub:((S.length:Nat):Int)-(k:Int)=(d:Int):=oQ
 have hjd:j<=d:=oQ
 obtain⟨c0,c1,c2⟩:=ce3 h1;have cl:=h1.lt;have fC:=h1.frozen;have HH:=hdQ h;have HC:=hdQ hCs;have HB1:=hdQ h1;have hwd:IntKind.i64.wrap (d:Int)=(d:Int):=IntWalk.i64_in _ ⟨by omega,by omega⟩
 have hmin:min (max n 0) (d:Int)=(j:Int):=oQ
 have HJ:=hdQ hj;clear h h1 hCs;obtain⟨m,hm⟩:∃m,S.length=m:=⟨_,rfl⟩;rw [hm] at hsub c0 hSc hS hle hd;have HM:=hdQ hm;obtain⟨q,hq⟩:∃q,k+j=q:=⟨_,rfl⟩;have HQ:=hdQ hq;have hkj:(k:Int)+(j:Int)=(q:Int):=oQ
 have hqj:(q:Int)-(j:Int)=(k:Int):=oQ
 have hwq:IntKind.i64.wrap (q:Int)=(q:Int):=IntWalk.i64_in _ ⟨by omega,by omega⟩
 have hwk:IntKind.i64.wrap (k:Int)=(k:Int):=IntWalk.i64_in _ ⟨by omega,by omega⟩
 have hkq:(k:Int)<=(q:Int):=oQ
 have hqc:(q:Int)<=(c:Int):=oQ
 have hqk:q-k=j:=oQ
 have HN:Hid (m<=c/\k<=m/\j<=m-k):=⟨hSc,hle,by omega⟩
 clear hm hd hj hSc hle hjd hn hq
 simp only [gP]
 go_enter Tryz.func28,Tryz.ntmps28
 go_wp2;refine qac kr kr pq ?_
 simp only [zdy,zey,ldz,lds,bare,qak,lcz,lcs,zay]
 repeat' ((try simp only [Act.put,lsi,lsz,lss]);first|(refine lqx ?_)|(refine qab qaa rfl (fun K hK=> ?_);go_simp;((first|fail|skip)<;>(refine hK.out _ _ bel ?_;clear hK K))))
 (all_goals try simp only [Act.put,lsi,lsz,lss]);all_goals(refine qae ?_)
 clear hwd hmin hsub;go_wp2;have h1' :Blk w cb 80 #[.slice A m c,.int .i64 k,.bool true]:=by rw [<-HM.out];exact HB1.out
 refine qck (fun w2=>Blk w2 cb 80 #[.slice A m c,.int .i64 q,.bool true]/\TurnF (fun b=>b=cb) w w2) ⟨((h1'.set_ 1 (.int .i64 q)).drew).eq_ sI,((TurnF.refl (fun b=>b=cb) w).set_ (F:=fun b=>b=cb) (p:=⟨cb,1,none⟩) (.inl rfl) _).drew⟩ ?_
 clear c0 c1 c2 cl fC h1';rintro w2 ⟨h2,ht2⟩;obtain⟨c0,c1⟩:=ce2 h2;have cl:=h2.lt;have H2:=hdQ (And.intro h2 ht2);clear h2 ht2
 have HCl:=hdQ (fun W (hW:Below w2.heap.size w2 W)=>by
  have hsl:=q04 (c:=c) (k:=k) (j:=j) ((HC.out.turn H2.out.2 (fun b hb q=>HH.out.no (q ▸ hb))).kept (qaf hW) sI) (by rw [HM.out];exact HN.out.1) hAc (by rw [HM.out];exact HN.out.2.1) (by rw [HM.out];exact HN.out.2.2)
  exact q25 (if c=k then A else Option.map (fun x=>x.add (k*4)) A) j (c-k) ((S.drop k).take j) W (by rw [List.length_take,List.length_drop,HM.out];have:=HN.out.2.2;omega) hsl.1 hsl.2 (by have:=HN.out.2.2;omega))
 refine qac kr kr pq ?_
 simp only [zdy,zey,ldz,lds,bare,qak,lcz,lcs,zay]
 repeat' ((try simp only [Act.put,lsi,lsz,lss]);first|(refine lqx ?_)|(refine qab qaa rfl (fun K hK=> ?_);go_simp;((first|(go_at_call 58;(refine(HCl.out _ bel).mono ?_);rintro x w4 ⟨v4,rfl,ho4,hb4⟩;have HO4:=hdQ ho4;clear ho4)|skip)<;>(refine hK.out _ _ bel ?_;clear hK K))))
 (all_goals try simp only [Act.put,lsi,lsz,lss]);all_goals(refine qae ?_)
 clear HCl;generalize (if c=k then A else Option.map (fun x=>x.add (k*4)) A)=A3
 obtain⟨P3,hP3⟩:∃P:List Nr,(S.drop k).take j=P:=⟨_,rfl⟩;rw [hP3] at HO4;go_wp2
 go_ret2
 have hz2:=H2.out.2.size;have ht4:TurnF (fun b=>b=cb) w w4:=H2.out.2.below bel
 refine⟨_,rfl,?_,?_,ht4⟩
 · rw [<-hP3] at HO4
   exact qa7 HO4.out (by simpa using hz2)
 · refine⟨⟨A,c,?_,by rw [HM.out];exact HN.out.1,hAc,HC.out.turn ht4 (fun b hb q=>HH.out.no (q ▸ hb))⟩,by rw [HM.out];have:=HN.out;omega,HH.out.no,fun b hb=>zky (HH.out.lim b hb) ht4.size⟩
   rw [HM.out,HQ.out]
   exact H2.out.1.tr bel
theorem qkn {w:World} {v:Value} {k:Nat} {s:ByteArray} {id:Int} (h:ErrX w v k s id) {b i:Nat} {cs:Array Value} {u:Value} (hB:Blk w b 58 cs):ErrX (w.setCell ⟨b,i,none⟩ u) v k s id:=h.keep fun hF=>hF.far (Blk.ne hF hB dE) u
theorem qqu {w:World} {v:Value} {k:Nat} {s:ByteArray} {id:Int} (h:ErrX w v k s id) {b:Nat} {x y z u a c d e:Value} (hB:Blk w b 58 #[x,y,z,u]):ErrX ((((w.setCell ⟨b,0,none⟩ a).setCell ⟨b,1,none⟩ c).setCell ⟨b,2,none⟩ d).setCell ⟨b,3,none⟩ e) v k s id:=
 qkn (qkn (qkn (qkn h hB) (hB.set_ 0 a)) ((hB.set_ 0 a).set_ 1 c)) (((hB.set_ 0 a).set_ 1 c).set_ 2 d)
def nr0:Value:=.agg #[.int .i64 0,.int .u64 0,.int .u64 0,.int .u64 0]
theorem q38 {w:World} {base:Nat} {v:Value} {x:Nr} (h:w.ownsRow base 58 4 v 1 (nrVs [x])):∃g c,v=.slice (some ⟨g,0,none⟩) 1 c/\g<w.heap.size/\w.cell? ⟨g,0,none⟩=some (.int .i64 x.1)/\w.cell? ⟨g,1,none⟩=some (.int .u64 ((x.2.num/18446744073709551616:Nat):Int))/\w.cell? ⟨g,2,none⟩=some (.int .u64 ((x.2.num%18446744073709551616:Nat):Int))/\w.cell? ⟨g,3,none⟩=some (.int .u64 (x.2.den:Int)):=by
 rcases h.2 with ⟨_,h0⟩|⟨g,cap,cur,rfl,_,hg,_⟩
 · cases h0
 · refine⟨g,cap,rfl,(zqy.1 hg).1,?_,?_,?_,?_⟩
   · rw [h.cellAt 0 dE];rfl
   · rw [h.cellAt 1 dE];rfl
   · rw [h.cellAt 2 dE];rfl
   · rw [h.cellAt 3 dE];rfl
theorem qpb {F:Nat->Prop} {a w:World} {b:Nat} (h:TurnF F a w) (hb:a.heap.size<=b) (x y z u:Value):TurnF F a ((((w.setCell ⟨b,0,none⟩ x).setCell ⟨b,1,none⟩ y).setCell ⟨b,2,none⟩ z).setCell ⟨b,3,none⟩ u):=
 (((h.set_ (p:=⟨b,0,none⟩) (.inr hb) x).set_ (p:=⟨b,1,none⟩) (.inr hb) y).set_ (p:=⟨b,2,none⟩) (.inr hb) z).set_ (p:=⟨b,3,none⟩) (.inr hb) u
theorem qpa (w:World) (b:Nat) (x y z u:Value):TurnF (fun k=>k=b) w ((((w.setCell ⟨b,0,none⟩ x).setCell ⟨b,1,none⟩ y).setCell ⟨b,2,none⟩ z).setCell ⟨b,3,none⟩ u):=
 ((((TurnF.refl (fun k=>k=b) w).set_ (F:=fun k=>k=b) (p:=⟨b,0,none⟩) (.inl rfl) x).set_ (F:=fun k=>k=b) (p:=⟨b,1,none⟩) (.inl rfl) y).set_ (F:=fun k=>k=b) (p:=⟨b,2,none⟩) (.inl rfl) z).set_ (F:=fun k=>k=b) (p:=⟨b,3,none⟩) (.inl rfl) u
theorem q15 {w:World} {Z:Nat->Prop} {cb:Nat} {S:List Nr} (h:CurAt w Z cb S S.length true) (hS:S.length<=1000000):C9 18 #[gP cb] w fun x w' =>∃v,x=.returned (.tuple #[nr0,v])/\ErrX w' v 15 ⟨#[99,117,114,115,111,114]⟩ S.length/\CurAt w' Z cb S S.length true/\TurnF (fun b=>b=cb) w w' :=by
 have htk:tkN 1 S.length S.length=0:=by unfold tkN;omega
 have hcl:cb<w.heap.size:=by obtain⟨A,c,h1,_⟩:=h.hd;exact h1.lt
 have HZ:=hdQ h
 have HT:=hdQ (fun W (hW:Below w.heap.size w W)=>by
  have:=ql6 (h.tr hW) hS 1 dE
  rw [htk] at this
  exact this)
 clear h htk
 simp only [gP] at*
 go_enter Tryz.func18,Tryz.ntmps18
 go_wp2_with (go_at_call 28;(refine(HT.out _ bel).mono ?_);rintro x w1 ⟨v1,rfl,ho1,hC1,ht1⟩;obtain⟨A1,c1,rfl,_,_,_⟩:=qao ho1;clear ho1;have HC1:=hdQ hC1;have HT1:=hdQ ht1;clear hC1 ht1)
 have hB0:Blk w1 w.heap.size 58 #[.int .i64 0,.int .u64 0,.int .u64 0,.int .u64 0]:=HT1.out.blk (Blk.new rfl rfl) (fun e=>by omega)
 have HBl:=hdQ (fun W (hW:Below w1.heap.size w1 W)=>qoz (some ⟨cb,0,none⟩) S.length W (.iface 105 (.int .i64 15)) 15 (fun W' hW' =>qda ((HC1.out.tr hW).tr hW')) (qoq W 15 dE))
 refine(HBl.out _ (Below.refl _ _)).mono ?_;rintro x w2 ⟨v2,rfl,hx2,hb2⟩;have hB2:=hB0.tr hb2;have q0:=hB2.cell;have ql:=hB2.lt;have fq:=hB2.frozen;have HB2:=hdQ hB2;have HX2:=hdQ hx2;obtain⟨te,ue,rfl⟩:=ErrX.succ hx2 dE
 have hC2:=(HC1.out.tr hb2)
 have ht2:TurnF (fun b=>b=cb) w w2:=by
  have h0:TurnF (fun b=>b=cb) w (w.alloc (.cells #[.int .i64 0,.int .u64 0,.int .u64 0,.int .u64 0] 58)):=(TurnF.refl _ w).alloc _
  exact(h0.trans HT1.out (fun x q=> .inl q)).below hb2
 have HC2:=hdQ (And.intro hC2 ht2);clear hC2 ht2 hB2 hx2 hB0 hb2;go_wp2;refine qit (fun w3=>Blk w3 w.heap.size 58 #[.int .i64 0,.int .u64 0,.int .u64 0,.int .u64 0]/\ErrX w3 (.iface te ue) 15 ⟨#[99,117,114,115,111,114]⟩ S.length/\CurAt w3 Z cb S S.length true/\TurnF (fun b=>b=cb) w w3) ⟨qer (x:=.int .i64 0) (y:=.int .u64 0) (z:=.int .u64 0) (u:=.int .u64 0) HB2.out,qqu HX2.out HB2.out,HC2.out.1.turn (qpa w2 w.heap.size _ _ _ _) (fun b hb q=>by rcases hb with hb|hb;have:=HZ.out.lim b hb;omega;omega),qpb HC2.out.2 (zhy _) _ _ _ _⟩ ?_
 rintro w3 ⟨HR,hx3,hC3,ht3⟩;obtain⟨r0,r1,r2,r3⟩:=ce4 HR;exact bodyPost_ret (v:=.tuple #[nr0,.iface te ue]) (by simp [nr0,results,Tryz.results18,go_sem,r0,r1,r2,r3]) rfl ⟨_,rfl,hx3,hC3,ht3⟩
def nrA (x:Nr):Value:=.agg #[.int .i64 x.1,.int .u64 ((x.2.num/18446744073709551616:Nat):Int),.int .u64 ((x.2.num%18446744073709551616:Nat):Int),.int .u64 (x.2.den:Int)]
theorem qp8 {w:World} {Z:Nat->Prop} {cb k:Nat} {S:List Nr} {x:Nr} (h:CurAt w Z cb S k true) (hS:S.length<=1000000) (hx:S[k]? =some x):C9 18 #[gP cb] w fun e w' =>e=.returned (.tuple #[nrA x,.nilIface])/\CurAt w' Z cb S (k+1) true/\TurnF (fun b=>b=cb) w w' :=by
 have hk:k<S.length:=(zsy.1 hx).1;have htk:tkN 1 S.length k=1:=by unfold tkN;omega
 have htd:(S.drop k).take 1= [x]:=by
  rw [zgx hk]
  have:S[k]=x:=by rw [zby hk] at hx;exact zjx hx
  rw [this]
  rfl
 have hcl:cb<w.heap.size:=by obtain⟨A,c,h1,_⟩:=h.hd;exact h1.lt
 have HZ:=hdQ h
 have HT:=hdQ (fun W (hW:Below w.heap.size w W)=>by
  have:=ql6 (h.tr hW) hS 1 dE
  rw [htk,htd] at this
  exact this)
 clear h htk htd hx hk;unfold nrA;obtain⟨d1,hd1⟩:∃d,x.2.num/18446744073709551616=d:=⟨_,rfl⟩;obtain⟨d0,hd0⟩:∃d,x.2.num%18446744073709551616=d:=⟨_,rfl⟩;obtain⟨dd,hdd⟩:∃d,x.2.den=d:=⟨_,rfl⟩;obtain⟨xi,hxi⟩:∃d,x.1=d:=⟨_,rfl⟩
 rw [hd1,hd0,hdd,hxi]
 have HD:Hid (x.2.num/18446744073709551616=d1/\x.2.num%18446744073709551616=d0/\x.2.den=dd/\x.1=xi):=⟨hd1,hd0,hdd,hxi⟩;clear hd1 hd0 hdd hxi
 simp only [gP] at*
 go_enter Tryz.func18,Tryz.ntmps18
 go_wp2_with (go_at_call 28;(refine(HT.out _ bel).mono ?_);rintro e w1 ⟨v1,rfl,ho1,hC1,ht1⟩;obtain⟨g,c1,rfl,hgl,c0,c1',c2,c3⟩:=q38 ho1;rw [HD.out.2.2.2] at c0;rw [HD.out.1] at c1';rw [HD.out.2.1] at c2;rw [HD.out.2.2.1] at c3;clear ho1;have HC1:=hdQ (And.intro hC1 ht1);have hB0:Blk w1 w.heap.size 58 #[.int .i64 0,.int .u64 0,.int .u64 0,.int .u64 0]:=ht1.blk (Blk.new rfl rfl) (fun e=>by omega);have q0:=hB0.cell;have ql:=hB0.lt;have fq:=hB0.frozen;have HB0:=hdQ hB0;clear hC1 ht1 hB0)
 have ht1:TurnF (fun b=>b=cb) w w1:=by
  have h0:TurnF (fun b=>b=cb) w (w.alloc (.cells #[.int .i64 0,.int .u64 0,.int .u64 0,.int .u64 0] 58)):=(TurnF.refl _ w).alloc _
  exact h0.trans HC1.out.2 (fun x q=> .inl q)
 refine qit (fun w3=>Blk w3 w.heap.size 58 #[.int .i64 xi,.int .u64 (d1:Int),.int .u64 (d0:Int),.int .u64 (dd:Int)]/\CurAt w3 Z cb S (k+1) true/\TurnF (fun b=>b=cb) w w3) ⟨qer (x:=.int .i64 0) (y:=.int .u64 0) (z:=.int .u64 0) (u:=.int .u64 0) HB0.out,HC1.out.1.turn (qpa w1 w.heap.size _ _ _ _) (fun b hb q=>by rcases hb with hb|hb;have:=HZ.out.lim b hb;omega;omega),qpb ht1 (zhy _) _ _ _ _⟩ ?_
 rintro w3 ⟨HR,hC3,ht3⟩;obtain⟨r0,r1,r2,r3⟩:=ce4 HR;exact bodyPost_ret (v:=.tuple #[.agg #[.int .i64 xi,.int .u64 (d1:Int),.int .u64 (d0:Int),.int .u64 (dd:Int)],.nilIface]) (by simp [results,Tryz.results18,go_sem,r0,r1,r2,r3]) rfl ⟨rfl,hC3,ht3⟩
theorem qgm {w:World} {base size n:Nat} {e:TypeId} {v:Value} {xs:List Value} (h:w.ownsRow base e size v n xs) {A:Option Addr} {c:Nat} (hv:v=.slice A n c):qb4 w (fun b=>v.ownBlock=some b) A xs:=fun hn=>by
 have hx:=h.1
 rcases h.2 with ⟨h0,h1⟩|⟨g,cap,cur,rfl,_,hg,_⟩
 · subst h1
   rw [hx] at hn
   simp at hn
 · injection hv with hv _ _
   refine⟨g,0,hv.symm,rfl,(zqy.1 hg).1,fun k u hk=> ?_⟩
   rw [Nat.zero_add,h.cellAt k (by have:=(zsy.1 hk).1;omega)]
   exact hk
theorem q17 (B0:Nat) (p:Option Addr) (x y:Int) (hp:okPt ⟨x,y⟩=true) (n:Nat) (S:List Nr) (w:World) (hL:∀W,Below w.heap.size w W->C9 25 #[.pointer p] W (Ret W (.int .i64 n)))
 (hN:∀W,Below w.heap.size w W->C9 24 #[.pointer p,ptV x y,.int .i64 n] W fun e w' =>∃v,e=.returned v/\w'.ownsRow B0 58 4 v S.length (nrVs S)/\Below W.heap.size W w'):
 C9 8 #[.pointer p,ptV x y] w fun e w' =>∃(cb:Nat) (v:Value),e=.returned (.tuple #[gP cb,.nilIface])/\CurAt w' (fun b=>v.ownBlock=some b) cb S 0 true/\w.heap.size<cb/\Below w.heap.size w w' /\∀g,v.ownBlock=some g->B0<=g:=by
 have HL:=hdQ hL;have HN:=hdQ hN
 have HCP:Hid (∀W,C9 22 #[ptV x y] W (Ret W .nilIface)):=fun W=>by
  have:=qa3 x y W;rw [hp] at this;exact this
 clear hL hN hp
 go_enter Tryz.func8,Tryz.ntmps8
 go_wp2_with (go_at_call 22;(refine(HCP.out _).monoR ?_);rintro wp hbp hcp hfp hzp;(try simp at hzp);have hyp0:=ol1 w wp)
 refine qac kr kr pq ?_
 simp only [zdy,zey,ldz,lds,bare,qak,lcz,lcs,zay]
 repeat' ((try simp only [Act.put,lsi,lsz,lss]);first|(refine lqx ?_)|(refine qab qaa rfl (fun K hK=> ?_);go_simp;((first|(go_at_call 25;(refine(HL.out _ bel).monoR ?_);rintro wq hbq hcq hfq hzq;(try simp at hzq);have hyq0:=ol1 w wq)|(go_at_call 24;(refine(HN.out _ bel).mono ?_);rintro e w2 ⟨v2,rfl,ho2,hb2⟩;obtain⟨A2,c2,rfl,hnc2,hAn2,_⟩:=qao ho2;have HO2:=hdQ (And.intro ho2 (And.intro hnc2 hAn2));clear ho2 hnc2 hAn2;obtain⟨hc2,hf2,hz2⟩:=bc3 hb2;(try simp at hz2))|skip)<;>(refine hK.out _ _ bel ?_;clear hK K))))
 (all_goals try simp only [Act.put,lsi,lsz,lss]);all_goals(refine qae ?_)
 go_wp2
 go_ret2
 refine⟨_,.slice A2 S.length c2,rfl,⟨⟨A2,c2,Blk.new rfl rfl,HO2.out.2.1,HO2.out.2.2,(qgm HO2.out.1 rfl).kept (w' :=w2.alloc (.cells #[.slice A2 S.length c2,.int .i64 0,.bool true] 80)) (World.grownBy_alloc w2 _ none) sI⟩,zly _,?_,?_⟩,by omega,bel,fun g q=>(HO2.out.1.lt g q).1⟩
 · intro q
   have:=(HO2.out.1.lt _ q).2
   omega
 · intro b q
   have:=(HO2.out.1.lt _ q).2
   simp
   omega
theorem q4q (p:Option Addr) (x y:Int) (hp:okPt ⟨x,y⟩=true) (n:Nat) (S:List Nr) (w:World) (hL:∀W,Below w.heap.size w W->C9 25 #[.pointer p] W (Ret W (.int .i64 n)))
 (hN:∀W,Below w.heap.size w W->C9 24 #[.pointer p,ptV x y,.int .i64 n] W fun e w' =>∃v,e=.returned v/\w'.ownsRow 0 58 4 v S.length (nrVs S)/\Below W.heap.size W w'):
 C9 8 #[.pointer p,ptV x y] w fun e w' =>∃(cb:Nat) (v:Value),e=.returned (.tuple #[gP cb,.nilIface])/\CurAt w' (fun b=>v.ownBlock=some b) cb S 0 true/\w.heap.size<cb/\Below w.heap.size w w' :=
 (q17 0 p x y hp n S w hL hN).mono fun e w' ⟨cb,v,h1,h2,h3,h4,_⟩=>⟨cb,v,h1,h2,h3,h4⟩
end Go.Proofs.YteodamnfgcnmmaaGreatDoor
