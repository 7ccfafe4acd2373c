/-Contracts-/
import Derived.Test.YteodamnfgcnmmaaGreatRRef6
import Derived.Test.YteodamnfgcnmmaaGreatRUAll
import Derived.Test.YteodamnfgcnmmaaGreatRDist2
import Derived.Shelf.Spec.BitsCarry
set_option linter.unusedVariables false
set_option linter.unusedSimpArgs false
set_option maxHeartbeats 2000000
set_option maxRecDepth 20000
namespace Go.Proofs.YteodamnfgcnmmaaGreat
open Go.RowKit Pg
def qhs (b:Bx):Nat:=if okBx b then(b.hi.x-b.lo.x).toNat*(b.hi.y-b.lo.y).toNat else 0
theorem qh2 {b:Bx} (h:okBx b=true):0<=b.hi.x-b.lo.x/\b.hi.x-b.lo.x<=2147483646/\0<=b.hi.y-b.lo.y/\b.hi.y-b.lo.y<=2147483646:=by
 obtain⟨⟨h1,h2⟩,h3,h4⟩:=(Pg.qbh _).1 h;rw [Pg.qay] at h1 h2
 omega
theorem qlj (b:Bx):qhs b<=4611686009837453316:=by
 unfold qhs
 split
 · rename_i h
   obtain⟨h1,h2,h3,h4⟩:=qh2 h;exact zcy (Nat.mul_le_mul (show (b.hi.x-b.lo.x).toNat<=2147483646 by omega) (show (b.hi.y-b.lo.y).toNat<=2147483646 by omega)) dE
 · omega
def qny (a b:Bx):Nat:=qhs (qb4 [a,b]).1-qhs a
theorem qv5 {a u:Bx} (hu:okBx u=true) (ha:okBx a=true) (h:inB u a):qhs a<=qhs u:=by
 unfold qhs
 rw [if_pos ha,if_pos hu]
 unfold inB at h;obtain⟨a1,a2,a3,a4⟩:=qh2 ha;exact Nat.mul_le_mul oQ oQ
theorem qpp (a b:Nat) (ha:a<18446744073709551616) (hb:b<=a) (w:World):
 C9 177 #[.agg #[.int .u64 0,.int .u64 (a:Int)],.agg #[.int .u64 0,.int .u64 (b:Int)]] w (Ret w (.tuple #[.agg #[.int .u64 0,.int .u64 ((a-b:Nat):Int)],.bool false])):=by
 have HC:=hdQ (fun w=>qrh a b oQ oQ w)
 rw [show uV a=.agg #[.int .u64 0,.int .u64 (a:Int)] by unfold uV;rw [Nat.div_eq_of_lt oQ,zzy oQ];rfl,show uV b=.agg #[.int .u64 0,.int .u64 (b:Int)] by unfold uV;rw [Nat.div_eq_of_lt oQ,zzy oQ];rfl] at HC
 have hs:¬ sgn ((a:Int)-b)<0:=by rw [qwh];omega
 have e1:IntKind.u64.wrap ((a:Int)-b)=((a-b:Nat):Int):=by rw [IntKind.wrap_u64];omega
 have e2:IntKind.u64.wrap ((0:Int)-0)=0:=by decide
 have e3:decide ((a:Int)<(b:Int))=false:=decide_eq_false oQ
 have e5:¬ a<b:=oQ
 have e6:decide (a<b)=false:=decide_eq_false oQ
 obtain⟨d,hd⟩:∃d,a-b=d:=⟨_,rfl⟩
 rw [hd] at e1 ⊢
 obtain⟨s,hs'⟩:∃s,sgn ((a:Int)-b)=s:=⟨_,rfl⟩;rw [hs'] at HC hs;have e4:decide (s<0)=false:=decide_eq_false hs;clear hs hs' hd ha hb
 go_enter Tryz.func177,Tryz.ntmps177
 go_wp2_with fail;refine qu5 (fun w2=>Below w.heap.size w w2/\Blk w2 w.heap.size 218 #[.int .u64 0,.int .u64 a]/\Blk w2 (w.heap.size+1) 218 #[.int .u64 0,.int .u64 b]/\Blk w2 (w.heap.size+1+1) 218 #[.int .u64 0,.int .u64 0]/\Blk w2 (w.heap.size+1+1+1) 218 #[.int .u64 0,.int .u64 d]) ⟨bel,(((Blk.new rfl rfl).alloc _).alloc _).alloc _,((Blk.new sI rfl).alloc _).alloc _,(Blk.new sI rfl).alloc _,Blk.new sI rfl⟩ ?_
 rintro w2 ⟨hb,hA,hB,hR,hS⟩;have cA:=hA.cell;have cB:=hB.cell;have cR:=hR.cell;have cS:=hS.cell;have fR:=hR.frozen;have lA:=hA.lt;have lB:=hB.lt;have lR:=hR.lt;have lS:=hS.lt;have hn1:w.heap.size≠w.heap.size+1+1:=oQ
 have hn3:w.heap.size+1≠w.heap.size+1+1:=oQ
 have hn2:w.heap.size+1+1+1≠w.heap.size+1+1:=oQ
 refine qjt (w.heap.size+1+1) [0,1,2,3,4,5,6] kr kr pq ?_
 simp only [zdy,zey,ldz,lds,bare,qam,lcz,lcs,zay]
 repeat' ((try simp only [Act.put,lsi,lsz,lss]);first|(refine qbu (v:= ?_) qaa rfl ?_ ?_;rotate_left;focus(intro wq hq;obtain⟨hcq,hfq⟩:=qxy hq;go_simp;try with_reducible rfl))|(refine qac qaa rfl (fun K hK=> ?_);go_simp;((first|(go_at_call 180;(with_reducible refine(HC.out _).monoR ?_);rintro w5 hb5 hc5 hf5 hz5;(try simp at hz5);have lR5:w.heap.size+1+1<w5.heap.size:=oQ;have hR5:Blk w5 (w.heap.size+1+1) 218 #[.int .u64 0,.int .u64 0]:=blkA;have c5:=hR5.cell;have f5:=hR5.frozen)|skip)<;>(refine hK.out _ _ (by repeat(first|with_reducible exact Away.refl _ _|with_reducible assumption|with_reducible refine Away.drew ?_|with_reducible refine Away.put ?_ _ _|with_reducible refine Away.alloc ?_ _|with_reducible refine Away.below ?_ (by with_reducible assumption))) ?_;clear hK K))))
 (all_goals try simp only [Act.put,lsi,lsz,lss]);all_goals(refine qaf ?_)
 go_wp2;refine qcz (R:=fun w2=>Blk w2 (w.heap.size+1+1) 218 #[.int .u64 0,.int .u64 d]/\Below w.heap.size w w2) ⟨?_,bel⟩ ?_
 · repeat(first|with_reducible exact qiy (x:=.int .u64 0) (y:=.int .u64 0) blkA|(with_reducible refine Blk.new ?_ rfl;focus(simp;done))|with_reducible refine Blk.alloc ?_ _|with_reducible refine Blk.drew ?_)
 rintro w2 ⟨HR,hb2⟩;obtain⟨r0,r1⟩:=ce2 HR;exact bodyPost_ret (v:=.tuple #[.agg #[.int .u64 0,.int .u64 d],.bool false]) (by simp [results,Tryz.results177,go_sem,r0,r1]) rfl ⟨rfl,hb2⟩
theorem ql1 (a b c d:Int) (w:World):C9 178 #[bxV a b c d] w (Ret w (.agg #[.int .u64 0,.int .u64 (qhs ⟨⟨a,b⟩,⟨c,d⟩⟩:Int)])):=by
 have HCk:=hdQ (fun w=>qa3 a b c d w)
 cases ok:okBx ⟨⟨a,b⟩,⟨c,d⟩⟩
 case false=>
  have HF:Hid (qhs ⟨⟨a,b⟩,⟨c,d⟩⟩=0):=by unfold Hid qhs;rw [ok];rfl
  have hne:qaz ⟨⟨a,b⟩,⟨c,d⟩⟩≠0:=fun e=>by rw [qcd.2 e] at ok;cases ok
  obtain⟨ck,eck⟩:∃ck,qaz ⟨⟨a,b⟩,⟨c,d⟩⟩=ck:=⟨_,rfl⟩;rw [eck] at HCk hne;have hc1:((ck:Int) !=0)=true:=by rw [bne_iff_ne];omega
  rw [HF.out]
  clear ok eck
  go_enter Tryz.func178,Tryz.ntmps178
  go_wp2_with (go_at_call 88;refine(HCk.out _).monoR ?_;rintro w1 hb1 hc1 hf1 hz1;(try simp at hz1);obtain⟨hy0,hy1⟩:=ol2 w w1)
  refine qcz (R:=fun w2=>Blk w2 (w.heap.size+1) 218 #[.int .u64 0,.int .u64 0]/\Below w.heap.size w w2) ⟨?_,bel⟩ ?_
  · repeat(first|with_reducible exact qiy (x:=.int .u64 0) (y:=.int .u64 0) blkA|(with_reducible refine Blk.new ?_ rfl;focus(simp;done))|with_reducible refine Blk.alloc ?_ _|with_reducible refine Blk.drew ?_)
  rintro w2 ⟨HR,hb2⟩;obtain⟨r0,r1⟩:=ce2 HR;exact bodyPost_ret (v:=.agg #[.int .u64 0,.int .u64 0]) (by simp [results,Tryz.results178,go_sem,r0,r1]) rfl ⟨rfl,hb2⟩
 case true=>
  rw [qcd.1 ok] at HCk;obtain⟨h1,h2,h3,h4⟩:=qh2 ok
  simp only at h1 h2 h3 h4
  have e1:IntKind.i64.wrap (c-a)=c-a:=by rw [IntKind.wrap_i64];omega
  have e2:IntKind.i64.wrap (d-b)=d-b:=by rw [IntKind.wrap_i64];omega
  have e3:IntKind.u64.wrap (c-a)=((c-a).toNat:Int):=by rw [IntKind.wrap_u64];omega
  have e4:IntKind.u64.wrap (d-b)=((d-b).toNat:Int):=by rw [IntKind.wrap_u64];omega
  have hlt:=qlj ⟨⟨a,b⟩,⟨c,d⟩⟩;have HF:Hid (qhs ⟨⟨a,b⟩,⟨c,d⟩⟩=(c-a).toNat*(d-b).toNat):=by unfold Hid qhs;rw [ok];rfl
  rw [HF.out] at hlt ⊢
  obtain⟨x,hx⟩:∃x,(c-a).toNat=x:=⟨_,rfl⟩;obtain⟨y,hy⟩:∃x,(d-b).toNat=x:=⟨_,rfl⟩
  rw [hx] at e3 hlt ⊢
  rw [hy] at e4 hlt ⊢
  have HM:=hdQ (fun w=>qtl x y oQ oQ w)
  obtain⟨m,hm⟩:∃m,x*y=m:=⟨_,rfl⟩
  rw [hm] at HM hlt ⊢
  rw [show uV m=.agg #[.int .u64 0,.int .u64 (m:Int)] by unfold uV;rw [Nat.div_eq_of_lt oQ,zzy oQ];rfl] at HM
  clear hm hx hy h1 h2 h3 h4 hlt ok
  go_enter Tryz.func178,Tryz.ntmps178
  go_wp2_with (first|(go_at_call 88;refine(HCk.out _).monoR ?_;rintro w1 hb1 hc1 hf1 hz1;(try simp at hz1);obtain⟨hy0,hy1⟩:=ol2 w w1)|(go_at_call 181;refine(HM.out _).monoR ?_;rintro w5 hb5 hc5 hf5 hz5;(try simp at hz5);have hy50:=ol1 w w5))
  refine qcz (R:=fun w2=>Blk w2 (w.heap.size+1) 218 #[.int .u64 0,.int .u64 (m:Int)]/\Below w.heap.size w w2) ⟨?_,bel⟩ ?_
  · repeat(first|with_reducible exact qiy (x:=.int .u64 0) (y:=.int .u64 0) blkA|(with_reducible refine Blk.new ?_ rfl;focus(simp;done))|with_reducible refine Blk.alloc ?_ _|with_reducible refine Blk.drew ?_)
  rintro w2 ⟨HR,hb2⟩;obtain⟨r0,r1⟩:=ce2 HR;exact bodyPost_ret (v:=.agg #[.int .u64 0,.int .u64 (m:Int)]) (by simp [results,Tryz.results178,go_sem,r0,r1]) rfl ⟨rfl,hb2⟩
theorem qvf (a b:Bx) (g:Nat) (w:World) (ha:qaz a=0) (hb:qaz b=0) (hg:Blk w g 77 #[.int .i64 a.lo.x,.int .i64 a.lo.y,.int .i64 a.hi.x,.int .i64 a.hi.y,.int .i64 b.lo.x,.int .i64 b.lo.y,.int .i64 b.hi.x,.int .i64 b.hi.y]):
 C9 103 #[.slice (some ⟨g,0,none⟩) 2 2] w (Ret w (.tuple #[bxW (qb4 [a,b]).1,.int .i64 0])):=by
 have h:=qhx w.heap.size 2 2 _ [a,b] w (qg1 [a,b] hg (lt_of_block hg) rfl (by intro k hk;match k,hk with|0,_=>exact ⟨rfl,rfl,rfl,rfl⟩|1,_=>exact ⟨rfl,rfl,rfl,rfl⟩)) (zhy _) dE
 rw [(quy ha hb).1] at h;exact h
theorem qti (a b c d e f i j:Int) (w:World) (ha:okBx ⟨⟨a,b⟩,⟨c,d⟩⟩=true) (hb:okBx ⟨⟨e,f⟩,⟨i,j⟩⟩=true):
 C9 174 #[bxV a b c d,bxV e f i j] w (Ret w (.agg #[.int .u64 0,.int .u64 (qny ⟨⟨a,b⟩,⟨c,d⟩⟩ ⟨⟨e,f⟩,⟨i,j⟩⟩:Int)])):=by
 have ca:=of_decide_eq_true ha;have cb:=of_decide_eq_true hb;obtain⟨_,hu2,hu3,_⟩:=quy ca cb;have hle:=qv5 hu2 ha hu3;have hlt:=qlj (qb4 [⟨⟨a,b⟩,⟨c,d⟩⟩,⟨⟨e,f⟩,⟨i,j⟩⟩]).1;unfold qny;have HU:=hdQ (fun w g hg=>qvf ⟨⟨a,b⟩,⟨c,d⟩⟩ ⟨⟨e,f⟩,⟨i,j⟩⟩ g w ca cb hg)
 obtain⟨u,hu⟩:∃u,(qb4 [⟨⟨a,b⟩,⟨c,d⟩⟩,⟨⟨e,f⟩,⟨i,j⟩⟩]).1=u:=⟨_,rfl⟩
 rw [hu] at HU hle hlt ⊢
 have HA1:=hdQ (fun w=>ql1 u.lo.x u.lo.y u.hi.x u.hi.y w)
 have HA2:=hdQ (fun w=>ql1 a b c d w)
 rw [show (⟨⟨u.lo.x,u.lo.y⟩,⟨u.hi.x,u.hi.y⟩⟩:Bx)=u from rfl] at HA1
 obtain⟨m,hm⟩:∃m,qhs u=m:=⟨_,rfl⟩;obtain⟨n,hn⟩:∃m,qhs ⟨⟨a,b⟩,⟨c,d⟩⟩=m:=⟨_,rfl⟩
 rw [hm] at HA1 hle hlt ⊢
 rw [hn] at HA2 hle ⊢
 have HS:=hdQ (fun w=>qpp m n oQ hle w)
 generalize m-n=r at*;clear hm hn hle hlt hu hu2 hu3 ha hb ca cb
 simp only at HU
 go_enter Tryz.func174,Tryz.ntmps174
 go_wp2_with (go_at_call 103;(with_reducible refine(HU.out _ _ blkA).monoR ?_);rintro w1 hb1 hc1 hf1 hz1;(try simp at hz1);obtain⟨hy0,hy1,hy2⟩:=ol3 w w1)
 refine qcw (R:=fun w9=>Blk w9 w.heap.size 77 #[.int .i64 a,.int .i64 b,.int .i64 c,.int .i64 d]/\Blk w9 (w.heap.size+1+1) 218 #[.int .u64 0,.int .u64 0]/\Blk w9 w1.heap.size 77 #[.int .i64 u.lo.x,.int .i64 u.lo.y,.int .i64 u.hi.x,.int .i64 u.hi.y]/\Below w.heap.size w w9) ⟨blkA,blkA,(by repeat(first|with_reducible exact qfd (x:=.int .i64 0) (y:=.int .i64 0) (z:=.int .i64 0) (u:=.int .i64 0) blkA|(with_reducible refine Blk.new ?_ rfl;focus(simp;done))|with_reducible refine Blk.alloc ?_ _|with_reducible refine Blk.drew ?_)),bel⟩ ?_
 obtain⟨G,hG⟩:∃G,w1.heap.size=G:=⟨_,rfl⟩
 rw [hG]
 clear hc1 hf1 hb1 hz1 hy0 hy1 hy2 hG;rintro w9 ⟨hB0,hR0,hU0,hb9⟩;have cB:=hB0.cell;have fB:=hB0.frozen;have lB:=hB0.lt;have cU:=hU0.cell;have fU:=hU0.frozen;have lU:=hU0.lt;have lR:=hR0.lt;refine qbt [0,1,2,3,4,5,6,7] [8] [9,10] (fun _=> #[.int .u64 0,.int .u64 0]) kr kr pq (by intro i hi w;simp only [List.mem_cons,List.not_mem_nil,or_false] at hi;rcases hi with rfl<;>simp only [ldz,lds,tyOf]<;>kernel_rfl) (fun KN hKN=> ?_)
 simp only [zdy,zey,ldz,lds,bare,qam,lcz,lcs,zay]
 repeat((try simp only [Act.put,lsi,lsz,lss]);first|(refine qd3 (v:= ?_) rfl ?_ ?_;rotate_left;focus(intro wq hq;obtain⟨hcq,hfq⟩:=qbn hq;go_simp;try with_reducible rfl))|(refine qer (v:= ?_) rfl ?_ ?_;rotate_left;focus(intro wq hq K hK;obtain⟨hcq,hfq⟩:=qbn hq;go_simp;(first|(go_at_call 178;(with_reducible refine(HA1.out _).monoR ?_);rintro w5 hb5 hc5 hf5 hz5;(try simp at hz5))|(go_at_call 178;(with_reducible refine(HA2.out _).monoR ?_);rintro w6 hb6 hc6 hf6 hz6;(try simp at hz6))|(go_at_call 177;(with_reducible refine(HS.out _).monoR ?_);rintro w7 hb7 hc7 hf7 hz7;(try simp at hz7)));refine hK.out _ _ ?_ bel;simp only [Act.put,lsi,lsz,lss];try with_reducible rfl)))
 (try simp only [Act.put,lsi,lsz,lss])
 refine qf2 (hKN.out _ ?_);clear hKN KN;intro gs wf hwf hgs hds
 simp only [zdy,zey,ldz,lds,bare,qam,lcz,lcs,zay,List.foldl_cons,List.foldl_nil,ptrV]
 obtain⟨hg8,HB8⟩:=hgs 8 dE
 simp only [ldz,lds,tyOf] at HB8;clear hgs hds;generalize gs 8=g8 at*;have cg8:=HB8.cell;have fg8:=HB8.frozen
 repeat((try simp only [Act.put,lsi,lsz,lss]);first|(refine qac qaa rfl (fun K hK=> ?_);go_simp;refine hK.out _ _ bel ?_;clear hK K)|(refine qbu (v:= ?_) qaa rfl ?_ ?_;rotate_left;focus(intro wq hq;go_simp;try with_reducible rfl)))
 refine qaf ?_;refine qcw (R:=fun w2=>Below w.heap.size w w2/\Blk w2 g8 218 #[.int .u64 0,.int .u64 r]/\Blk w2 (w.heap.size+1+1) 218 #[.int .u64 0,.int .u64 0]/\Below w.heap.size w w2) ⟨bel,((HB8.set_ 0 _).set_ 1 _).eq_ sI,blkA,bel⟩ ?_
 rintro w2 ⟨hb2,h8,hE0,hE1⟩;clear cg8 fg8 HB8;have cg8:=h8.cell;have fg8:=h8.frozen;have lg8:=h8.lt;obtain⟨hc2,hf2⟩:=qbn hb2;have cR:=hE0.cell;have fR:=hE0.frozen;have lR2:=hE0.lt;go_wp2_with fail;refine qcz (R:=fun w2=>Blk w2 (w.heap.size+1+1) 218 #[.int .u64 0,.int .u64 (r:Int)]/\Below w.heap.size w w2) ⟨?_,bel⟩ ?_
 · repeat(first|with_reducible exact qiy (x:=.int .u64 0) (y:=.int .u64 0) blkA|(with_reducible refine Blk.new ?_ rfl;focus(simp;done))|with_reducible refine Blk.alloc ?_ _|with_reducible refine Blk.drew ?_)
 rintro w2 ⟨HR,hb2⟩;obtain⟨r0,r1⟩:=ce2 HR;exact bodyPost_ret (v:=.agg #[.int .u64 0,.int .u64 (r:Int)]) (by simp [results,Tryz.results174,go_sem,r0,r1]) rfl ⟨rfl,hb2⟩
def bxF (b:Bx) (p:Pt):Fr:=if okBx b&&okPt p then⟨boxN b p,1⟩ else qw3
end Go.Proofs.YteodamnfgcnmmaaGreat
