/-Contracts-/
import Derived.Test.YtfnhnjbkkggbeaaGreatKRef6
import Derived.Test.YtfnhnjbkkggbeaaGreatKUAll
import Derived.Test.YtfnhnjbkkggbeaaGreatKDist2
import Derived.Shelf.Spec.BitsCarry
set_option linter.unusedVariables false
set_option linter.unusedSimpArgs false
set_option maxHeartbeats 2000000
set_option maxRecDepth 20000
namespace Go.Proofs.YtfnhnjbkkggbeaaGreat
open Go.RowKit Pg
def qh6 (b:Bx):Nat:=if okBx b then(b.hi.x-b.lo.x).toNat*(b.hi.y-b.lo.y).toNat else 0
theorem qin {b:Bx} (h:okBx b=true):0<=b.hi.x-b.lo.x/\b.hi.x-b.lo.x<=2147483646/\0<=b.hi.y-b.lo.y/\b.hi.y-b.lo.y<=2147483646:=by
 obtain⟨⟨h1,h2⟩,h3,h4⟩:=(Pg.qca _).1 h;rw [Pg.qbi] at h1 h2
 omega
theorem qnl (b:Bx):qh6 b<=4611686009837453316:=by
 unfold qh6
 split
 · rename_i h
   obtain⟨h1,h2,h3,h4⟩:=qin h;exact zcy (Nat.mul_le_mul (show (b.hi.x-b.lo.x).toNat<=2147483646 by omega) (show (b.hi.y-b.lo.y).toNat<=2147483646 by omega)) dE
 · omega
def qqr (a b:Bx):Nat:=qh6 (qb8 [a,b]).1-qh6 a
theorem q2e {a u:Bx} (hu:okBx u=true) (ha:okBx a=true) (h:inB u a):qh6 a<=qh6 u:=by
 unfold qh6
 rw [if_pos ha,if_pos hu]
 unfold inB at h;obtain⟨a1,a2,a3,a4⟩:=qin ha;exact Nat.mul_le_mul oQ oQ
theorem qtg (a b:Nat) (ha:a<18446744073709551616) (hb:b<=a) (w:World):
 C9 210 #[.agg #[.int .u64 0,.int .u64 (a:Int)],.agg #[.int .u64 0,.int .u64 (b:Int)]] w (Ret w (.tuple #[.agg #[.int .u64 0,.int .u64 ((a-b:Nat):Int)],.bool false])):=by
 have HC:=hdQ (fun w=>qoc a b oQ oQ w)
 rw [show uV a=.agg #[.int .u64 0,.int .u64 (a:Int)] by unfold uV;rw [Nat.div_eq_of_lt oQ,zzy oQ];rfl,show uV b=.agg #[.int .u64 0,.int .u64 (b:Int)] by unfold uV;rw [Nat.div_eq_of_lt oQ,zzy oQ];rfl] at HC
 have hs:¬ sgn ((a:Int)-b)<0:=by rw [q2p];omega
 have e1:IntKind.u64.wrap ((a:Int)-b)=((a-b:Nat):Int):=by rw [IntKind.wrap_u64];omega
 have e2:IntKind.u64.wrap ((0:Int)-0)=0:=by decide
 have e3:decide ((a:Int)<(b:Int))=false:=decide_eq_false oQ
 have e5:¬ a<b:=oQ
 have e6:decide (a<b)=false:=decide_eq_false oQ
 obtain⟨d,hd⟩:∃d,a-b=d:=⟨_,rfl⟩
 rw [hd] at e1 ⊢
 obtain⟨s,hs'⟩:∃s,sgn ((a:Int)-b)=s:=⟨_,rfl⟩;rw [hs'] at HC hs;have e4:decide (s<0)=false:=decide_eq_false hs;clear hs hs' hd ha hb
 go_enter Tryz.func210,Tryz.ntmps210
 go_wp2_with fail;refine qe6 (fun w2=>Below w.heap.size w w2/\Blk w2 w.heap.size 265 #[.int .u64 0,.int .u64 a]/\Blk w2 (w.heap.size+1) 265 #[.int .u64 0,.int .u64 b]/\Blk w2 (w.heap.size+1+1) 265 #[.int .u64 0,.int .u64 0]/\Blk w2 (w.heap.size+1+1+1) 265 #[.int .u64 0,.int .u64 d]) ⟨bel,(((Blk.new rfl rfl).alloc _).alloc _).alloc _,((Blk.new sI rfl).alloc _).alloc _,(Blk.new sI rfl).alloc _,Blk.new sI rfl⟩ ?_
 rintro w2 ⟨hb,hA,hB,hR,hS⟩;have cA:=hA.cell;have cB:=hB.cell;have cR:=hR.cell;have cS:=hS.cell;have fR:=hR.frozen;have lA:=hA.lt;have lB:=hB.lt;have lR:=hR.lt;have lS:=hS.lt;have hn1:w.heap.size≠w.heap.size+1+1:=oQ
 have hn3:w.heap.size+1≠w.heap.size+1+1:=oQ
 have hn2:w.heap.size+1+1+1≠w.heap.size+1+1:=oQ
 refine qdw (w.heap.size+1+1) [0,1,2,3,4,5,6] kr kr pq ?_
 simp only [zdy,zey,ldz,lds,bare,qak,lcz,lcs,zay]
 repeat' ((try simp only [Act.put,lsi,lsz,lss]);first|(refine qa8 (v:= ?_) qaa rfl ?_ ?_;rotate_left;focus(intro wq hq;obtain⟨hcq,hfq⟩:=q0f hq;go_simp;try with_reducible rfl))|(refine qab qaa rfl (fun K hK=> ?_);go_simp;((first|(go_at_call 218;(with_reducible refine(HC.out _).monoR ?_);rintro w5 hb5 hc5 hf5 hz5;(try simp at hz5);have lR5:w.heap.size+1+1<w5.heap.size:=oQ;have hR5:Blk w5 (w.heap.size+1+1) 265 #[.int .u64 0,.int .u64 0]:=blkA;have c5:=hR5.cell;have f5:=hR5.frozen)|skip)<;>(refine hK.out _ _ (by repeat(first|with_reducible exact Away.refl _ _|with_reducible assumption|with_reducible refine Away.drew ?_|with_reducible refine Away.put ?_ _ _|with_reducible refine Away.alloc ?_ _|with_reducible refine Away.below ?_ (by with_reducible assumption))) ?_;clear hK K))))
 (all_goals try simp only [Act.put,lsi,lsz,lss]);all_goals(refine qad ?_)
 go_wp2;refine qaj (R:=fun w2=>Blk w2 (w.heap.size+1+1) 265 #[.int .u64 0,.int .u64 d]/\Below w.heap.size w w2) ⟨?_,bel⟩ ?_
 · repeat(first|with_reducible exact qda (x:=.int .u64 0) (y:=.int .u64 0) blkA|(with_reducible refine Blk.new ?_ rfl;focus(simp;done))|with_reducible refine Blk.alloc ?_ _|with_reducible refine Blk.drew ?_)
 rintro w2 ⟨HR,hb2⟩;obtain⟨r0,r1⟩:=ce2 HR;exact bodyPost_ret (v:=.tuple #[.agg #[.int .u64 0,.int .u64 d],.bool false]) (by simp [results,Tryz.results210,go_sem,r0,r1]) rfl ⟨rfl,hb2⟩
theorem qob (a b c d:Int) (w:World):C9 211 #[bxV a b c d] w (Ret w (.agg #[.int .u64 0,.int .u64 (qh6 ⟨⟨a,b⟩,⟨c,d⟩⟩:Int)])):=by
 have HCk:=hdQ (fun w=>qbg a b c d w)
 cases ok:okBx ⟨⟨a,b⟩,⟨c,d⟩⟩
 case false=>
  have HF:Hid (qh6 ⟨⟨a,b⟩,⟨c,d⟩⟩=0):=by unfold Hid qh6;rw [ok];rfl
  have hne:qa4 ⟨⟨a,b⟩,⟨c,d⟩⟩≠0:=fun e=>by rw [qhc.2 e] at ok;cases ok
  obtain⟨ck,eck⟩:∃ck,qa4 ⟨⟨a,b⟩,⟨c,d⟩⟩=ck:=⟨_,rfl⟩;rw [eck] at HCk hne;have hc1:((ck:Int) !=0)=true:=by rw [bne_iff_ne];omega
  rw [HF.out]
  clear ok eck
  go_enter Tryz.func211,Tryz.ntmps211
  go_wp2_with (go_at_call 204;refine(HCk.out _).monoR ?_;rintro w1 hb1 hc1 hf1 hz1;(try simp at hz1);obtain⟨hy0,hy1⟩:=ol2 w w1)
  refine qaj (R:=fun w2=>Blk w2 (w.heap.size+1) 265 #[.int .u64 0,.int .u64 0]/\Below w.heap.size w w2) ⟨?_,bel⟩ ?_
  · repeat(first|with_reducible exact qda (x:=.int .u64 0) (y:=.int .u64 0) blkA|(with_reducible refine Blk.new ?_ rfl;focus(simp;done))|with_reducible refine Blk.alloc ?_ _|with_reducible refine Blk.drew ?_)
  rintro w2 ⟨HR,hb2⟩;obtain⟨r0,r1⟩:=ce2 HR;exact bodyPost_ret (v:=.agg #[.int .u64 0,.int .u64 0]) (by simp [results,Tryz.results211,go_sem,r0,r1]) rfl ⟨rfl,hb2⟩
 case true=>
  rw [qhc.1 ok] at HCk;obtain⟨h1,h2,h3,h4⟩:=qin ok
  simp only at h1 h2 h3 h4
  have e1:IntKind.i64.wrap (c-a)=c-a:=by rw [IntKind.wrap_i64];omega
  have e2:IntKind.i64.wrap (d-b)=d-b:=by rw [IntKind.wrap_i64];omega
  have e3:IntKind.u64.wrap (c-a)=((c-a).toNat:Int):=by rw [IntKind.wrap_u64];omega
  have e4:IntKind.u64.wrap (d-b)=((d-b).toNat:Int):=by rw [IntKind.wrap_u64];omega
  have hlt:=qnl ⟨⟨a,b⟩,⟨c,d⟩⟩;have HF:Hid (qh6 ⟨⟨a,b⟩,⟨c,d⟩⟩=(c-a).toNat*(d-b).toNat):=by unfold Hid qh6;rw [ok];rfl
  rw [HF.out] at hlt ⊢
  obtain⟨x,hx⟩:∃x,(c-a).toNat=x:=⟨_,rfl⟩;obtain⟨y,hy⟩:∃x,(d-b).toNat=x:=⟨_,rfl⟩
  rw [hx] at e3 hlt ⊢
  rw [hy] at e4 hlt ⊢
  have HM:=hdQ (fun w=>qrw x y oQ oQ w)
  obtain⟨m,hm⟩:∃m,x*y=m:=⟨_,rfl⟩
  rw [hm] at HM hlt ⊢
  rw [show uV m=.agg #[.int .u64 0,.int .u64 (m:Int)] by unfold uV;rw [Nat.div_eq_of_lt oQ,zzy oQ];rfl] at HM
  clear hm hx hy h1 h2 h3 h4 hlt ok
  go_enter Tryz.func211,Tryz.ntmps211
  go_wp2_with (first|(go_at_call 204;refine(HCk.out _).monoR ?_;rintro w1 hb1 hc1 hf1 hz1;(try simp at hz1);obtain⟨hy0,hy1⟩:=ol2 w w1)|(go_at_call 219;refine(HM.out _).monoR ?_;rintro w5 hb5 hc5 hf5 hz5;(try simp at hz5);have hy50:=ol1 w w5))
  refine qaj (R:=fun w2=>Blk w2 (w.heap.size+1) 265 #[.int .u64 0,.int .u64 (m:Int)]/\Below w.heap.size w w2) ⟨?_,bel⟩ ?_
  · repeat(first|with_reducible exact qda (x:=.int .u64 0) (y:=.int .u64 0) blkA|(with_reducible refine Blk.new ?_ rfl;focus(simp;done))|with_reducible refine Blk.alloc ?_ _|with_reducible refine Blk.drew ?_)
  rintro w2 ⟨HR,hb2⟩;obtain⟨r0,r1⟩:=ce2 HR;exact bodyPost_ret (v:=.agg #[.int .u64 0,.int .u64 (m:Int)]) (by simp [results,Tryz.results211,go_sem,r0,r1]) rfl ⟨rfl,hb2⟩
theorem q08 (a b:Bx) (g:Nat) (w:World) (ha:qa4 a=0) (hb:qa4 b=0) (hg:Blk w g 48 #[.int .i64 a.lo.x,.int .i64 a.lo.y,.int .i64 a.hi.x,.int .i64 a.hi.y,.int .i64 b.lo.x,.int .i64 b.lo.y,.int .i64 b.hi.x,.int .i64 b.hi.y]):
 C9 202 #[.slice (some ⟨g,0,none⟩) 2 2] w (Ret w (.tuple #[bxW (qb8 [a,b]).1,.int .i64 0])):=by
 have h:=qif w.heap.size 2 2 _ [a,b] w (qhf [a,b] hg (lt_of_block hg) rfl (by intro k hk;match k,hk with|0,_=>exact ⟨rfl,rfl,rfl,rfl⟩|1,_=>exact ⟨rfl,rfl,rfl,rfl⟩)) (zhy _) dE
 rw [(q0m ha hb).1] at h;exact h
theorem qyq (a b c d e f i j:Int) (w:World) (ha:okBx ⟨⟨a,b⟩,⟨c,d⟩⟩=true) (hb:okBx ⟨⟨e,f⟩,⟨i,j⟩⟩=true):
 C9 201 #[bxV a b c d,bxV e f i j] w (Ret w (.agg #[.int .u64 0,.int .u64 (qqr ⟨⟨a,b⟩,⟨c,d⟩⟩ ⟨⟨e,f⟩,⟨i,j⟩⟩:Int)])):=by
 have ca:=of_decide_eq_true ha;have cb:=of_decide_eq_true hb;obtain⟨_,hu2,hu3,_⟩:=q0m ca cb;have hle:=q2e hu2 ha hu3;have hlt:=qnl (qb8 [⟨⟨a,b⟩,⟨c,d⟩⟩,⟨⟨e,f⟩,⟨i,j⟩⟩]).1;unfold qqr;have HU:=hdQ (fun w g hg=>q08 ⟨⟨a,b⟩,⟨c,d⟩⟩ ⟨⟨e,f⟩,⟨i,j⟩⟩ g w ca cb hg)
 obtain⟨u,hu⟩:∃u,(qb8 [⟨⟨a,b⟩,⟨c,d⟩⟩,⟨⟨e,f⟩,⟨i,j⟩⟩]).1=u:=⟨_,rfl⟩
 rw [hu] at HU hle hlt ⊢
 have HA1:=hdQ (fun w=>qob u.lo.x u.lo.y u.hi.x u.hi.y w)
 have HA2:=hdQ (fun w=>qob a b c d w)
 rw [show (⟨⟨u.lo.x,u.lo.y⟩,⟨u.hi.x,u.hi.y⟩⟩:Bx)=u from rfl] at HA1
 obtain⟨m,hm⟩:∃m,qh6 u=m:=⟨_,rfl⟩;obtain⟨n,hn⟩:∃m,qh6 ⟨⟨a,b⟩,⟨c,d⟩⟩=m:=⟨_,rfl⟩
 rw [hm] at HA1 hle hlt ⊢
 rw [hn] at HA2 hle ⊢
 have HS:=hdQ (fun w=>qtg m n oQ hle w)
 generalize m-n=r at*;clear hm hn hle hlt hu hu2 hu3 ha hb ca cb
 simp only at HU
 go_enter Tryz.func201,Tryz.ntmps201
 go_wp2_with (go_at_call 202;(with_reducible refine(HU.out _ _ blkA).monoR ?_);rintro w1 hb1 hc1 hf1 hz1;(try simp at hz1);obtain⟨hy0,hy1,hy2⟩:=ol3 w w1)
 refine qbt (R:=fun w9=>Blk w9 w.heap.size 48 #[.int .i64 a,.int .i64 b,.int .i64 c,.int .i64 d]/\Blk w9 (w.heap.size+1+1) 265 #[.int .u64 0,.int .u64 0]/\Blk w9 w1.heap.size 48 #[.int .i64 u.lo.x,.int .i64 u.lo.y,.int .i64 u.hi.x,.int .i64 u.hi.y]/\Below w.heap.size w w9) ⟨blkA,blkA,(by repeat(first|with_reducible exact qew (x:=.int .i64 0) (y:=.int .i64 0) (z:=.int .i64 0) (u:=.int .i64 0) blkA|(with_reducible refine Blk.new ?_ rfl;focus(simp;done))|with_reducible refine Blk.alloc ?_ _|with_reducible refine Blk.drew ?_)),bel⟩ ?_
 obtain⟨G,hG⟩:∃G,w1.heap.size=G:=⟨_,rfl⟩
 rw [hG]
 clear hc1 hf1 hb1 hz1 hy0 hy1 hy2 hG;rintro w9 ⟨hB0,hR0,hU0,hb9⟩;have cB:=hB0.cell;have fB:=hB0.frozen;have lB:=hB0.lt;have cU:=hU0.cell;have fU:=hU0.frozen;have lU:=hU0.lt;have lR:=hR0.lt;refine qbe [0,1,2,3,4,5,6,7] [8] [9,10] (fun _=> #[.int .u64 0,.int .u64 0]) kr kr pq (by intro i hi w;simp only [List.mem_cons,List.not_mem_nil,or_false] at hi;rcases hi with rfl<;>simp only [ldz,lds,tyOf]<;>kernel_rfl) (fun KN hKN=> ?_)
 simp only [zdy,zey,ldz,lds,bare,qak,lcz,lcs,zay]
 repeat((try simp only [Act.put,lsi,lsz,lss]);first|(refine qcx (v:= ?_) rfl ?_ ?_;rotate_left;focus(intro wq hq;obtain⟨hcq,hfq⟩:=qa1 hq;go_simp;try with_reducible rfl))|(refine qdi (v:= ?_) rfl ?_ ?_;rotate_left;focus(intro wq hq K hK;obtain⟨hcq,hfq⟩:=qa1 hq;go_simp;(first|(go_at_call 211;(with_reducible refine(HA1.out _).monoR ?_);rintro w5 hb5 hc5 hf5 hz5;(try simp at hz5))|(go_at_call 211;(with_reducible refine(HA2.out _).monoR ?_);rintro w6 hb6 hc6 hf6 hz6;(try simp at hz6))|(go_at_call 210;(with_reducible refine(HS.out _).monoR ?_);rintro w7 hb7 hc7 hf7 hz7;(try simp at hz7)));refine hK.out _ _ ?_ bel;simp only [Act.put,lsi,lsz,lss];try with_reducible rfl)))
 (try simp only [Act.put,lsi,lsz,lss])
 refine qeb (hKN.out _ ?_);clear hKN KN;intro gs wf hwf hgs hds
 simp only [zdy,zey,ldz,lds,bare,qak,lcz,lcs,zay,List.foldl_cons,List.foldl_nil,ptrV]
 obtain⟨hg8,HB8⟩:=hgs 8 dE
 simp only [ldz,lds,tyOf] at HB8;clear hgs hds;generalize gs 8=g8 at*;have cg8:=HB8.cell;have fg8:=HB8.frozen
 repeat((try simp only [Act.put,lsi,lsz,lss]);first|(refine qab qaa rfl (fun K hK=> ?_);go_simp;refine hK.out _ _ bel ?_;clear hK K)|(refine qa8 (v:= ?_) qaa rfl ?_ ?_;rotate_left;focus(intro wq hq;go_simp;try with_reducible rfl)))
 refine qad ?_;refine qbt (R:=fun w2=>Below w.heap.size w w2/\Blk w2 g8 265 #[.int .u64 0,.int .u64 r]/\Blk w2 (w.heap.size+1+1) 265 #[.int .u64 0,.int .u64 0]/\Below w.heap.size w w2) ⟨bel,((HB8.set_ 0 _).set_ 1 _).eq_ sI,blkA,bel⟩ ?_
 rintro w2 ⟨hb2,h8,hE0,hE1⟩;clear cg8 fg8 HB8;have cg8:=h8.cell;have fg8:=h8.frozen;have lg8:=h8.lt;obtain⟨hc2,hf2⟩:=qa1 hb2;have cR:=hE0.cell;have fR:=hE0.frozen;have lR2:=hE0.lt;go_wp2_with fail;refine qaj (R:=fun w2=>Blk w2 (w.heap.size+1+1) 265 #[.int .u64 0,.int .u64 (r:Int)]/\Below w.heap.size w w2) ⟨?_,bel⟩ ?_
 · repeat(first|with_reducible exact qda (x:=.int .u64 0) (y:=.int .u64 0) blkA|(with_reducible refine Blk.new ?_ rfl;focus(simp;done))|with_reducible refine Blk.alloc ?_ _|with_reducible refine Blk.drew ?_)
 rintro w2 ⟨HR,hb2⟩;obtain⟨r0,r1⟩:=ce2 HR;exact bodyPost_ret (v:=.agg #[.int .u64 0,.int .u64 (r:Int)]) (by simp [results,Tryz.results201,go_sem,r0,r1]) rfl ⟨rfl,hb2⟩
theorem qyu (a b:Nat) (h:a+b<340282366920938463463374607431768211456) (w:World):
 C9 216 #[uV a,uV b] w (Ret w (.tuple #[uV (a+b),.bool false])):=by
 have HC:=hdQ (fun w=>qoc (a+b) a h oQ w)
 have hs:¬ sgn (((a+b:Nat):Int)-(a:Int))<0:=by unfold sgn;split<;>(try split)<;>omega
 have ea:a=a/18446744073709551616*18446744073709551616+a%18446744073709551616:=oQ
 have eb:b=b/18446744073709551616*18446744073709551616+b%18446744073709551616:=oQ
 have ec:a+b=(a+b)/18446744073709551616*18446744073709551616+(a+b)%18446744073709551616:=oQ
 have h0:a%18446744073709551616<18446744073709551616:=oQ
 have h1:b%18446744073709551616<18446744073709551616:=oQ
 have h2:(a+b)%18446744073709551616<18446744073709551616:=oQ
 have h3:(a+b)/18446744073709551616<18446744073709551616:=oQ
 obtain⟨F,eF⟩:∃z,sgn (((a+b:Nat):Int)-(a:Int))=z:=⟨_,rfl⟩;rw [eF] at HC hs
 simp only [uV] at HC ⊢
 obtain⟨a1,e1⟩:∃z,a/18446744073709551616=z:=⟨_,rfl⟩;obtain⟨a0,e0⟩:∃z,a%18446744073709551616=z:=⟨_,rfl⟩;obtain⟨b1,e3⟩:∃z,b/18446744073709551616=z:=⟨_,rfl⟩;obtain⟨b0,e2⟩:∃z,b%18446744073709551616=z:=⟨_,rfl⟩;obtain⟨s1,e5⟩:∃z,(a+b)/18446744073709551616=z:=⟨_,rfl⟩;obtain⟨s0,e4⟩:∃z,(a+b)%18446744073709551616=z:=⟨_,rfl⟩;rw [e5,e4,e1,e0] at HC;rw [e1,e0] at ea;rw [e3,e2] at eb;rw [e5,e4] at ec;rw [e0] at h0;rw [e2] at h1;rw [e4] at h2;rw [e5] at h3
 rw [e1,e0,e3,e2,e5,e4]
 have w0:IntKind.u64.wrap ((a0:Int)+(b0:Int))=(s0:Int):=by rw [IntKind.wrap_u64];omega
 obtain⟨t1,et1⟩:∃z,a1+b1=z:=⟨_,rfl⟩;have w1:IntKind.u64.wrap ((a1:Int)+(b1:Int))=(t1:Int):=by rw [IntKind.wrap_u64];omega
 by_cases hc:s0<a0
 · have hc2:(s0:Int)<(a0:Int):=oQ
   have w2:IntKind.u64.wrap ((t1:Int)+1)=(s1:Int):=by rw [IntKind.wrap_u64];omega
   clear e0 e1 e2 e3 e4 e5 ea eb ec h0 h1 h2 h3 et1 hc h eF
   go_enter Tryz.func216,Tryz.ntmps216
   go_wp2_with fail;refine qe6 (fun w2=>Below w.heap.size w w2/\Blk w2 w.heap.size 265 #[.int .u64 a1,.int .u64 a0]/\Blk w2 (w.heap.size+1+1) 265 #[.int .u64 0,.int .u64 0]/\Blk w2 (w.heap.size+1+1+1) 265 #[.int .u64 s1,.int .u64 s0]) ⟨bel,(((Blk.new rfl rfl).alloc _).alloc _).alloc _,(Blk.new sI rfl).alloc _,Blk.new sI rfl⟩ ?_
   rintro w2 ⟨hb,hA,hR,hS⟩;have cA:=hA.cell;have cR:=hR.cell;have cS:=hS.cell;have fR:=hR.frozen;have lA:=hA.lt;have lR:=hR.lt;have lS:=hS.lt;have hn1:w.heap.size≠w.heap.size+1+1:=oQ
   have hn2:w.heap.size+1+1+1≠w.heap.size+1+1:=oQ
   refine qdw (w.heap.size+1+1) [0,1,2,3,4,5,6] kr kr pq ?_
   simp only [zdy,zey,ldz,lds,bare,qak,lcz,lcs,zay]
   repeat' ((try simp only [Act.put,lsi,lsz,lss]);first|(refine qa8 (v:= ?_) qaa rfl ?_ ?_;rotate_left;focus(intro wq hq;obtain⟨hcq,hfq⟩:=q0f hq;go_simp;try with_reducible rfl))|(refine qab qaa rfl (fun K hK=> ?_);go_simp;((first|(go_at_call 218;(with_reducible refine(HC.out _).monoR ?_);rintro w5 hb5 hc5 hf5 hz5;(try simp at hz5);have lR5:w.heap.size+1+1<w5.heap.size:=oQ;have hR5:Blk w5 (w.heap.size+1+1) 265 #[.int .u64 0,.int .u64 0]:=blkA;have c5:=hR5.cell;have f5:=hR5.frozen)|skip)<;>(refine hK.out _ _ (by repeat(first|with_reducible exact Away.refl _ _|with_reducible assumption|with_reducible refine Away.drew ?_|with_reducible refine Away.put ?_ _ _|with_reducible refine Away.alloc ?_ _|with_reducible refine Away.below ?_ (by with_reducible assumption))) ?_;clear hK K))))
   (all_goals try simp only [Act.put,lsi,lsz,lss]);all_goals(refine qad ?_)
   go_wp2;refine qaj (R:=fun w2=>Blk w2 (w.heap.size+1+1) 265 #[.int .u64 s1,.int .u64 s0]/\Below w.heap.size w w2) ⟨?_,bel⟩ ?_
   · repeat(first|with_reducible exact qda (x:=.int .u64 0) (y:=.int .u64 0) blkA|(with_reducible refine Blk.new ?_ rfl;focus(simp;done))|with_reducible refine Blk.alloc ?_ _|with_reducible refine Blk.drew ?_)
   rintro w2 ⟨HR,hb2⟩;obtain⟨r0,r1⟩:=ce2 HR;have hdec:decide (F<0)=false:=(by rw [decide_eq_false_iff_not];omega);simp only [hdec]
   exact bodyPost_ret (v:=.tuple #[.agg #[.int .u64 s1,.int .u64 s0],.bool false]) (by simp [results,Tryz.results216,go_sem,r0,r1]) rfl ⟨rfl,hb2⟩
 · have hc2:¬ (s0:Int)<(a0:Int):=oQ
   have w2:t1=s1:=oQ
   clear e0 e1 e2 e3 e4 e5 ea eb ec h0 h1 h2 h3 et1 hc h eF;subst w2
   go_enter Tryz.func216,Tryz.ntmps216
   go_wp2_with fail;refine qe6 (fun w2=>Below w.heap.size w w2/\Blk w2 w.heap.size 265 #[.int .u64 a1,.int .u64 a0]/\Blk w2 (w.heap.size+1+1) 265 #[.int .u64 0,.int .u64 0]/\Blk w2 (w.heap.size+1+1+1) 265 #[.int .u64 t1,.int .u64 s0]) ⟨bel,(((Blk.new rfl rfl).alloc _).alloc _).alloc _,(Blk.new sI rfl).alloc _,Blk.new sI rfl⟩ ?_
   rintro w2 ⟨hb,hA,hR,hS⟩;have cA:=hA.cell;have cR:=hR.cell;have cS:=hS.cell;have fR:=hR.frozen;have lA:=hA.lt;have lR:=hR.lt;have lS:=hS.lt;have hn1:w.heap.size≠w.heap.size+1+1:=oQ
   have hn2:w.heap.size+1+1+1≠w.heap.size+1+1:=oQ
   refine qdw (w.heap.size+1+1) [0,1,2,3,4,5,6] kr kr pq ?_
   simp only [zdy,zey,ldz,lds,bare,qak,lcz,lcs,zay]
   repeat' ((try simp only [Act.put,lsi,lsz,lss]);first|(refine qa8 (v:= ?_) qaa rfl ?_ ?_;rotate_left;focus(intro wq hq;obtain⟨hcq,hfq⟩:=q0f hq;go_simp;try with_reducible rfl))|(refine qab qaa rfl (fun K hK=> ?_);go_simp;((first|(go_at_call 218;(with_reducible refine(HC.out _).monoR ?_);rintro w5 hb5 hc5 hf5 hz5;(try simp at hz5);have lR5:w.heap.size+1+1<w5.heap.size:=oQ;have hR5:Blk w5 (w.heap.size+1+1) 265 #[.int .u64 0,.int .u64 0]:=blkA;have c5:=hR5.cell;have f5:=hR5.frozen)|skip)<;>(refine hK.out _ _ (by repeat(first|with_reducible exact Away.refl _ _|with_reducible assumption|with_reducible refine Away.drew ?_|with_reducible refine Away.put ?_ _ _|with_reducible refine Away.alloc ?_ _|with_reducible refine Away.below ?_ (by with_reducible assumption))) ?_;clear hK K))))
   (all_goals try simp only [Act.put,lsi,lsz,lss]);all_goals(refine qad ?_)
   go_wp2;refine qaj (R:=fun w2=>Blk w2 (w.heap.size+1+1) 265 #[.int .u64 t1,.int .u64 s0]/\Below w.heap.size w w2) ⟨?_,bel⟩ ?_
   · repeat(first|with_reducible exact qda (x:=.int .u64 0) (y:=.int .u64 0) blkA|(with_reducible refine Blk.new ?_ rfl;focus(simp;done))|with_reducible refine Blk.alloc ?_ _|with_reducible refine Blk.drew ?_)
   rintro w2 ⟨HR,hb2⟩;obtain⟨r0,r1⟩:=ce2 HR;have hdec:decide (F<0)=false:=(by rw [decide_eq_false_iff_not];omega);simp only [hdec]
   exact bodyPost_ret (v:=.tuple #[.agg #[.int .u64 t1,.int .u64 s0],.bool false]) (by simp [results,Tryz.results216,go_sem,r0,r1]) rfl ⟨rfl,hb2⟩
theorem qyn (x y:Int) (h1: -4294967296<=x) (h2:x<=4294967296) (h3: -4294967296<=y) (h4:y<=4294967296) (w:World):
 C9 208 #[.int .i64 x,.int .i64 y] w (Ret w (uV (sqs x y))):=by
 have b1:=qgl h1 h2;have b2:=qgl h3 h4;have H1:=hdQ (fun w=>qi0 x oQ oQ w)
 have H2:=hdQ (fun w=>qi0 y oQ oQ w)
 unfold sqs;obtain⟨N,hN⟩:∃N,x.natAbs*x.natAbs=N:=⟨_,rfl⟩;obtain⟨M,hM⟩:∃N,y.natAbs*y.natAbs=N:=⟨_,rfl⟩
 rw [hN] at b1 H1 ⊢
 rw [hM] at b2 H2 ⊢
 have H3:=hdQ (fun w=>qyu N M oQ w)
 simp only [uV] at H1 H2 H3 ⊢
 obtain⟨hi,hhi⟩:∃s,(N+M)/18446744073709551616=s:=⟨_,rfl⟩;obtain⟨lo,hlo⟩:∃s,(N+M)%18446744073709551616=s:=⟨_,rfl⟩;obtain⟨n1,e1⟩:∃s,N/18446744073709551616=s:=⟨_,rfl⟩;obtain⟨n0,e0⟩:∃s,N%18446744073709551616=s:=⟨_,rfl⟩;obtain⟨m1,e3⟩:∃s,M/18446744073709551616=s:=⟨_,rfl⟩;obtain⟨m0,e2⟩:∃s,M%18446744073709551616=s:=⟨_,rfl⟩;rw [hhi,hlo,e1,e0,e3,e2] at H3;rw [e1,e0] at H1;rw [e3,e2] at H2
 rw [hhi,hlo]
 clear hN hM b1 b2 hhi hlo h1 h2 h3 h4 e0 e1 e2 e3
 go_enter Tryz.func208,Tryz.ntmps208
 go_wp2_with (first|(go_at_call 217;have _h:=hza;(with_reducible refine(H2.out _).monoR ?_);rintro w1 hb1 hc1 hf1 hz1;(try simp at hz1);have hy0:=ol1 w w1)|(go_at_call 217;(with_reducible refine(H1.out _).monoR ?_);rintro wa hba hca hfa hza;(try simp at hza);have hya:=ol1 w wa)|(go_at_call 216;(with_reducible refine(H3.out _).monoR ?_);rintro w1 hb1 hc1 hf1 hz1;(try simp at hz1);have hy0:=ol1 w w1))
 refine qaj (R:=fun w2=>Blk w2 (w.heap.size) 265 #[.int .u64 hi,.int .u64 lo]/\Below w.heap.size w w2) ⟨?_,bel⟩ ?_
 · repeat(first|with_reducible exact qda (x:=.int .u64 0) (y:=.int .u64 0) blkA|(with_reducible refine Blk.new ?_ rfl;focus(simp;done))|with_reducible refine Blk.alloc ?_ _|with_reducible refine Blk.drew ?_)
 rintro w2 ⟨HR,hb2⟩;obtain⟨r0,r1⟩:=ce2 HR;exact bodyPost_ret (v:=.agg #[.int .u64 hi,.int .u64 lo]) (by simp [results,Tryz.results208,go_sem,r0,r1]) rfl ⟨rfl,hb2⟩
theorem qvt (n:Nat) (hn:n<340282366920938463463374607431768211456) (w:World):C9 207 #[uV n,.int .u64 1] w (Ret w (fV ⟨n,1⟩)):=by
 have h:=qp3 n 1 hn dE dE w
 rw [qzn] at h;exact h
theorem qvf {x y:Int} (h1: -4294967296<=x) (h2:x<=4294967296) (h3: -4294967296<=y) (h4:y<=4294967296):sqs x y<340282366920938463463374607431768211456:=by
 have:=qgl h1 h2;have:=qgl h3 h4;unfold sqs
 omega
def bxF (b:Bx) (p:Pt):Fr:=if okBx b&&okPt p then⟨boxN b p,1⟩ else qnf
theorem qoa (a b c d x y:Int) (w:World):
 C9 196 #[bxV a b c d,ptV x y] w (Ret w (fV (bxF ⟨⟨a,b⟩,⟨c,d⟩⟩ ⟨x,y⟩))):=by
 have HCk:=hdQ (fun w=>qbg a b c d w)
 cases ob:okBx ⟨⟨a,b⟩,⟨c,d⟩⟩
 case false=>
  have HF:Hid (fV (bxF ⟨⟨a,b⟩,⟨c,d⟩⟩ ⟨x,y⟩)=.agg #[.int .u64 0,.int .u64 0,.int .u64 0]):=by unfold Hid bxF;rw [ob,qbx];rw [if_neg sI,qe2]
  have hne:qa4 ⟨⟨a,b⟩,⟨c,d⟩⟩≠0:=fun e=>by rw [qhc.2 e] at ob;cases ob
  obtain⟨ck,eck⟩:∃ck,qa4 ⟨⟨a,b⟩,⟨c,d⟩⟩=ck:=⟨_,rfl⟩;rw [eck] at HCk hne;have hc1:((ck:Int) !=0)=true:=by rw [bne_iff_ne];omega
  clear ob eck
  go_enter Tryz.func196,Tryz.ntmps196
  go_wp2_with (go_at_call 204;refine(HCk.out _).monoR ?_;rintro w1 hb1 hc1 hf1 hz1;(try simp at hz1);obtain⟨hy0,hy1,hy2⟩:=ol3 w w1)
  refine qaj (R:=fun w2=>Blk w2 (w.heap.size+1+1) 71 #[.int .u64 0,.int .u64 0,.int .u64 0]/\Below w.heap.size w w2) ⟨?_,bel⟩ ?_
  · repeat(first|with_reducible exact qat (x:=.int .u64 0) (y:=.int .u64 0) (z:=.int .u64 0) blkA|(with_reducible refine Blk.new ?_ rfl;focus(simp;done))|with_reducible refine Blk.alloc ?_ _|with_reducible refine Blk.drew ?_)
  rintro w2 ⟨HR,hb2⟩;obtain⟨r0,r1,r2⟩:=ce3 HR
  rw [HF.out]
  exact bodyPost_ret (v:=.agg #[.int .u64 0,.int .u64 0,.int .u64 0]) (by simp [results,Tryz.results196,go_sem,r0,r1,r2]) rfl ⟨rfl,hb2⟩
 rw [qhc.1 ob] at HCk
 cases op:okPt ⟨x,y⟩
 case false=>
  have HF:Hid (fV (bxF ⟨⟨a,b⟩,⟨c,d⟩⟩ ⟨x,y⟩)=.agg #[.int .u64 0,.int .u64 0,.int .u64 0]):=by unfold Hid bxF;rw [ob,op,qbx];rw [if_neg sI,qe2]
  clear ob
  go_enter Tryz.func196,Tryz.ntmps196
  go_wp2_with (first|(go_at_call 204;refine(HCk.out _).monoR ?_;rintro w1 hb1 hc1 hf1 hz1;(try simp at hz1);obtain⟨hy0,hy1,hy2⟩:=ol3 w w1)|(go_at_call 205;refine(qav _ _ _).monoR ?_;rintro w1 hb1 hc1 hf1 hz1;(try simp at hz1);obtain⟨hy0,hy1,hy2⟩:=ol3 w w1))
  refine qaj (R:=fun w2=>Blk w2 (w.heap.size+1+1) 71 #[.int .u64 0,.int .u64 0,.int .u64 0]/\Below w.heap.size w w2) ⟨?_,bel⟩ ?_
  · repeat(first|with_reducible exact qat (x:=.int .u64 0) (y:=.int .u64 0) (z:=.int .u64 0) blkA|(with_reducible refine Blk.new ?_ rfl;focus(simp;done))|with_reducible refine Blk.alloc ?_ _|with_reducible refine Blk.drew ?_)
  rintro w2 ⟨HR,hb2⟩;obtain⟨r0,r1,r2⟩:=ce3 HR
  rw [HF.out]
  exact bodyPost_ret (v:=.agg #[.int .u64 0,.int .u64 0,.int .u64 0]) (by simp [results,Tryz.results196,go_sem,r0,r1,r2]) rfl ⟨rfl,hb2⟩
 have HF0:fV (bxF ⟨⟨a,b⟩,⟨c,d⟩⟩ ⟨x,y⟩)=fV ⟨sqs (gap x a c) (gap y b d),1⟩:=by unfold bxF;rw [ob,op];rfl
 obtain⟨p1,p2,p3,p4⟩:=qa5 op;obtain⟨⟨o1,o2⟩,o3,o4⟩:=(Pg.qca _).1 ob;obtain⟨q1,q2,q3,q4⟩:=qa5 o1;obtain⟨r1,r2,r3,r4⟩:=qa5 o2
 simp only at p1 p2 p3 p4 q1 q2 q3 q4 r1 r2 r3 r4
 have e1:IntKind.i64.wrap (a-x)=a-x:=by rw [IntKind.wrap_i64];omega
 have e2:IntKind.i64.wrap (x-c)=x-c:=by rw [IntKind.wrap_i64];omega
 have e3:IntKind.i64.wrap (b-y)=b-y:=by rw [IntKind.wrap_i64];omega
 have e4:IntKind.i64.wrap (y-d)=y-d:=by rw [IntKind.wrap_i64];omega
 have g1:0<=gap x a c/\gap x a c<=2147483646:=by unfold gap;omega
 have g2:0<=gap y b d/\gap y b d<=2147483646:=by unfold gap;omega
 have HS:=hdQ (fun w=>qyn (gap x a c) (gap y b d) oQ oQ oQ oQ w)
 have hn:=qvf (x:=gap x a c) (y:=gap y b d) oQ oQ oQ oQ
 obtain⟨n,en⟩:∃n,sqs (gap x a c) (gap y b d)=n:=⟨_,rfl⟩;rw [en] at HS HF0 hn;have HL:=hdQ (fun w=>qvt n hn w)
 rw [qbx] at HL
 rw [HF0,qbx]
 obtain⟨x',y',z',ed⟩:=qeu ⟨n,1⟩
 rw [ed] at HL ⊢
 simp only [uV] at HS HL;obtain⟨n1,en1⟩:∃c,n/18446744073709551616=c:=⟨_,rfl⟩;obtain⟨n0,en0⟩:∃c,n%18446744073709551616=c:=⟨_,rfl⟩;rw [en1,en0] at HS HL;have HGX:∀z,z=gap x a c->∀u,u=gap y b d->∀w,C9 208 #[.int .i64 z,.int .i64 u] w (Ret w (.agg #[.int .u64 n1,.int .u64 n0])):=fun z hz u hu w=>by subst hz hu;exact HS.out w
 have HGH:=hdQ HGX;clear p1 p2 p3 p4 q1 q2 q3 q4 r1 r2 r3 r4 en hn ed en1 en0 HF0 ob HGX HS g1 g2 o1 o2
 go_enter Tryz.func196,Tryz.ntmps196
 go_wp2_with (first|(go_at_call 204;refine(HCk.out _).monoR ?_;rintro w1 hb1 hc1 hf1 hz1;(try simp at hz1);obtain⟨hy0,hy1,hy2⟩:=ol3 w w1)|(go_at_call 205;refine(qav _ _ _).monoR ?_;rintro w1 hb1 hc1 hf1 hz1;(try simp at hz1);obtain⟨hy0,hy1,hy2⟩:=ol3 w w1)|(go_at_call 208;refine(HGH.out _ ?_ _ ?_ _).mono ?_;(focus(unfold gap;omega));(focus(unfold gap;omega));rintro e w1 ⟨rfl,hb1⟩;obtain⟨hc1,hf1,hz1⟩:=bc3 hb1;(try simp at hz1);obtain⟨hy0,hy1,hy2⟩:=ol3 w w1)|(go_at_call 207;(with_reducible refine(HL.out _).monoR ?_);rintro w1 hb1 hc1 hf1 hz1;(try simp at hz1);obtain⟨hy0,hy1,hy2⟩:=ol3 w w1))
 all_goals
  refine qaj (R:=fun w2=>Blk w2 (w.heap.size+1+1) 71 #[.int .u64 x',.int .u64 y',.int .u64 z']/\Below w.heap.size w w2) ⟨?_,bel⟩ ?_
  · repeat(first|with_reducible exact qat (x:=.int .u64 0) (y:=.int .u64 0) (z:=.int .u64 0) blkA|(with_reducible refine Blk.new ?_ rfl;focus(simp;done))|with_reducible refine Blk.alloc ?_ _|with_reducible refine Blk.drew ?_)
  rintro w2 ⟨HR,hb2⟩;obtain⟨r0,r1,r2⟩:=ce3 HR;exact bodyPost_ret (v:=.agg #[.int .u64 x',.int .u64 y',.int .u64 z']) (by simp [results,Tryz.results196,go_sem,r0,r1,r2]) rfl ⟨rfl,hb2⟩
end Go.Proofs.YtfnhnjbkkggbeaaGreat
