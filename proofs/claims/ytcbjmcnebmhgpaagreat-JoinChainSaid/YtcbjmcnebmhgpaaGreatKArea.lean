/-
  Contracts: wide.Sub;a box's area,in the program and in the reference;how much it grows.
  Contracts of the references: Add, sum, Square.
  Contract of the reference's BoxDist.
-/
import Derived.Test.YtcbjmcnebmhgpaaGreatKWide
import Derived.Test.YtcbjmcnebmhgpaaGreatKMBox
import Derived.Test.YtcbjmcnebmhgpaaGreatKRef6
import Derived.Test.YtcbjmcnebmhgpaaGreatKUAll
import Derived.Test.YtcbjmcnebmhgpaaGreatKRel1
import Derived.Test.YtcbjmcnebmhgpaaGreatKLex
import Derived.Shelf.Spec.BitsCarry
import Derived.Test.YtcbjmcnebmhgpaaGreatKRef3
import Derived.Test.YtcbjmcnebmhgpaaGreatKPlainSplit
import Derived.Test.YtcbjmcnebmhgpaaGreatKDist2
set_option linter.unusedVariables false
set_option linter.unusedSimpArgs false
set_option maxHeartbeats 2000000
set_option maxRecDepth 20000
namespace Go.Proofs.YtcbjmcnebmhgpaaGreat
open Go.RowKit Pg
def areaN (b : Bx) : Nat := if okBx b then (b.hi.x - b.lo.x).toNat * (b.hi.y - b.lo.y).toNat else 0
theorem okBx_sides {b : Bx} (h : okBx b = true) : 0 ≤ b.hi.x - b.lo.x ∧ b.hi.x - b.lo.x ≤ 2147483646 ∧ 0 ≤ b.hi.y - b.lo.y ∧ b.hi.y - b.lo.y ≤ 2147483646 := by
 obtain ⟨⟨h1,h2⟩,h3,h4⟩ := (Pg.okBx_iff _).1 h;rw [Pg.okPt_iff] at h1 h2
 omega
theorem areaN_lt (b : Bx) : areaN b ≤ 4611686009837453316 := by
 unfold areaN
 split
 · rename_i h
   obtain ⟨h1,h2,h3,h4⟩ := okBx_sides h;exact Nat.le_trans (Nat.mul_le_mul (show (b.hi.x - b.lo.x).toNat ≤ 2147483646 by omega) (show (b.hi.y - b.lo.y).toNat ≤ 2147483646 by omega)) (by decide)
 · omega
def growN (a b : Bx) : Nat := areaN (union [a,b]).1 - areaN a
theorem area_le {a u : Bx} (hu : okBx u = true) (ha : okBx a = true) (h : inB u a) : areaN a ≤ areaN u := by
 unfold areaN
 rw [if_pos ha,if_pos hu]
 unfold inB at h;obtain ⟨a1,a2,a3,a4⟩ := okBx_sides ha;exact Nat.mul_le_mul (by omega) (by omega)
theorem rSub_small (a b : Nat) (ha : a < 18446744073709551616) (hb : b ≤ a) (w : World) :
 Calls Tryz.prog 174 #[.agg #[.int .u64 0,.int .u64 (a : Int)],.agg #[.int .u64 0,.int .u64 (b : Int)]] w (Ret w (.tuple #[.agg #[.int .u64 0,.int .u64 ((a - b : Nat) : Int)],.bool false])) := by
 have HC := Lib.hid (fun w => rCmpU_any a b (by omega) (by omega) w)
 rw [show uV a = .agg #[.int .u64 0,.int .u64 (a : Int)] by unfold uV;rw [Nat.div_eq_of_lt (by omega),Nat.mod_eq_of_lt (by omega)];rfl,show uV b = .agg #[.int .u64 0,.int .u64 (b : Int)] by unfold uV;rw [Nat.div_eq_of_lt (by omega),Nat.mod_eq_of_lt (by omega)];rfl] at HC
 have hs : ¬ sgn ((a : Int) - b) < 0 := by rw [sgn_lt];omega
 have e1 : IntKind.u64.wrap ((a : Int) - b) = ((a - b : Nat) : Int) := by rw [IntKind.wrap_u64];omega
 have e2 : IntKind.u64.wrap ((0 : Int) - 0) = 0 := by decide
 have e3 : decide ((a : Int) < (b : Int)) = false := decide_eq_false (by omega)
 have e5 : ¬ a < b := by omega
 have e6 : decide (a < b) = false := decide_eq_false (by omega)
 obtain ⟨d,hd⟩ : ∃ d,a - b = d := ⟨_,rfl⟩
 rw [hd] at e1 ⊢
 obtain ⟨s,hs'⟩ : ∃ s,sgn ((a : Int) - b) = s := ⟨_,rfl⟩;rw [hs'] at HC hs;have e4 : decide (s < 0) = false := decide_eq_false hs;clear hs hs' hd ha hb
 go_enter Tryz.func174,Tryz.ntmps174
 go_wp2_with fail;refine wp_gen2 (fun w2 => Below w.heap.size w w2 ∧ Blk w2 w.heap.size 213 #[.int .u64 0,.int .u64 a] ∧ Blk w2 (w.heap.size + 1) 213 #[.int .u64 0,.int .u64 b] ∧ Blk w2 (w.heap.size + 1 + 1) 213 #[.int .u64 0,.int .u64 0] ∧ Blk w2 (w.heap.size + 1 + 1 + 1) 213 #[.int .u64 0,.int .u64 d]) ⟨bel,(((Blk.new rfl rfl).alloc _).alloc _).alloc _,((Blk.new (by simp) rfl).alloc _).alloc _,(Blk.new (by simp) rfl).alloc _,Blk.new (by simp) rfl⟩ ?_
 rintro w2 ⟨hb,hA,hB,hR,hS⟩;have cA := hA.cell;have cB := hB.cell;have cR := hR.cell;have cS := hS.cell;have fR := hR.frozen;have lA := hA.lt;have lB := hB.lt;have lR := hR.lt;have lS := hS.lt;have hn1 : w.heap.size ≠ w.heap.size + 1 + 1 := by omega
 have hn3 : w.heap.size + 1 ≠ w.heap.size + 1 + 1 := by omega
 have hn2 : w.heap.size + 1 + 1 + 1 ≠ w.heap.size + 1 + 1 := by omega
 refine wp_region_away (w.heap.size + 1 + 1) [0,1,2,3,4,5,6] (by kernel_rfl) (by kernel_rfl) (fun _ _ d _ _ h => by cases d <;> exact h) ?_
 simp only [List.map_cons,List.map_nil,ldz,lds,bare,gslot,lcz,lcs,Option.bind_some]
 repeat' ((try simp only [Act.put,lsi,lsz,lss]);first | (refine lexL_quiet (v := ?_) wantB_none rfl ?_ ?_;rotate_left;focus (intro wq hq;obtain ⟨hcq,hfq⟩ := acell hq;go_simp;try with_reducible rfl)) | (refine lexL_loud wantB_none rfl (fun K hK => ?_);go_simp;((first | (go_at_call 177;(with_reducible refine (HC.out _).mono ?_);rintro e w5 ⟨rfl,hb5⟩;obtain ⟨hc5,hf5⟩ := bcell hb5;have hz5 := hb5.size;(try simp at hz5);have lR5 : w.heap.size + 1 + 1 < w5.heap.size := (by omega);have hR5 : Blk w5 (w.heap.size + 1 + 1) 213 #[.int .u64 0,.int .u64 0] := blkA;have c5 := hR5.cell;have f5 := hR5.frozen) | skip) <;> (refine hK.out _ _ (by repeat (first | with_reducible exact Away.refl _ _ | with_reducible assumption | with_reducible refine Away.drew ?_ | with_reducible refine Away.put ?_ _ _ | with_reducible refine Away.alloc ?_ _ | with_reducible refine Away.below ?_ (by with_reducible assumption))) ?_;clear hK K))))
 (all_goals try simp only [Act.put,lsi,lsz,lss]);all_goals (refine lexL_nil ?_)
 go_wp2;refine post_gen2 (R := fun w2 => Blk w2 (w.heap.size + 1 + 1) 213 #[.int .u64 0,.int .u64 d] ∧ Below w.heap.size w w2) ⟨?_,bel⟩ ?_
 · repeat (first | with_reducible exact two_put (x := .int .u64 0) (y := .int .u64 0) blkA | (with_reducible refine Blk.new ?_ rfl;focus (simp;done)) | with_reducible refine Blk.alloc ?_ _ | with_reducible refine Blk.drew ?_)
 rintro w2 ⟨HR,hb2⟩;have r0 := HR.cell 0;have r1 := HR.cell 1;simp only [lta,lcz,lcs] at r0 r1;exact bodyPost_ret (v := .tuple #[.agg #[.int .u64 0,.int .u64 d],.bool false]) (by simp [results,Tryz.results174,go_sem,r0,r1]) rfl ⟨rfl,hb2⟩
theorem rarea_any (a b c d : Int) (w : World) : Calls Tryz.prog 175 #[bxV a b c d] w (Ret w (.agg #[.int .u64 0,.int .u64 (areaN ⟨⟨a,b⟩,⟨c,d⟩⟩ : Int)])) := by
 have HCk := Lib.hid (fun w => rcheckBox_any a b c d w)
 cases ok : okBx ⟨⟨a,b⟩,⟨c,d⟩⟩
 case false =>
  have HF : Hid (areaN ⟨⟨a,b⟩,⟨c,d⟩⟩ = 0) := by unfold Hid areaN;rw [ok];rfl
  have hne : ckBox ⟨⟨a,b⟩,⟨c,d⟩⟩ ≠ 0 := fun e => by rw [okBx_ck.2 e] at ok;cases ok
  obtain ⟨ck,eck⟩ : ∃ ck,ckBox ⟨⟨a,b⟩,⟨c,d⟩⟩ = ck := ⟨_,rfl⟩;rw [eck] at HCk hne;have hc1 : ((ck : Int) != 0) = true := by rw [bne_iff_ne];omega
  rw [HF.out]
  clear ok eck
  go_enter Tryz.func175, Tryz.ntmps175
  go_wp2_with (go_at_call 85;refine (HCk.out _).mono ?_;rintro e w1 ⟨rfl,hb1⟩;obtain ⟨hc1,hf1⟩ := bcell hb1;have hz1 := hb1.size;(try simp at hz1);have hy0 : w.heap.size < w1.heap.size := (by omega);have hy1 : w.heap.size + 1 < w1.heap.size := (by omega))
  refine post_gen2 (R := fun w2 => Blk w2 (w.heap.size + 1) 213 #[.int .u64 0,.int .u64 0] ∧ Below w.heap.size w w2) ⟨?_,bel⟩ ?_
  · repeat (first | with_reducible exact two_put (x := .int .u64 0) (y := .int .u64 0) blkA | (with_reducible refine Blk.new ?_ rfl;focus (simp;done)) | with_reducible refine Blk.alloc ?_ _ | with_reducible refine Blk.drew ?_)
  rintro w2 ⟨HR,hb2⟩;have r0 := HR.cell 0;have r1 := HR.cell 1;simp only [lta,lcz,lcs] at r0 r1;exact bodyPost_ret (v := .agg #[.int .u64 0,.int .u64 0]) (by simp [results,Tryz.results175,go_sem,r0,r1]) rfl ⟨rfl,hb2⟩
 case true =>
  rw [okBx_ck.1 ok] at HCk;obtain ⟨h1,h2,h3,h4⟩ := okBx_sides ok
  simp only at h1 h2 h3 h4
  have e1 : IntKind.i64.wrap (c - a) = c - a := by rw [IntKind.wrap_i64];omega
  have e2 : IntKind.i64.wrap (d - b) = d - b := by rw [IntKind.wrap_i64];omega
  have e3 : IntKind.u64.wrap (c - a) = ((c - a).toNat : Int) := by rw [IntKind.wrap_u64];omega
  have e4 : IntKind.u64.wrap (d - b) = ((d - b).toNat : Int) := by rw [IntKind.wrap_u64];omega
  have hlt := areaN_lt ⟨⟨a,b⟩,⟨c,d⟩⟩;have HF : Hid (areaN ⟨⟨a,b⟩,⟨c,d⟩⟩ = (c - a).toNat * (d - b).toNat) := by unfold Hid areaN;rw [ok];rfl
  rw [HF.out] at hlt ⊢
  obtain ⟨x,hx⟩ : ∃ x,(c - a).toNat = x := ⟨_,rfl⟩;obtain ⟨y,hy⟩ : ∃ x,(d - b).toNat = x := ⟨_,rfl⟩
  rw [hx] at e3 hlt ⊢
  rw [hy] at e4 hlt ⊢
  have HM := Lib.hid (fun w => rMul_any x y (by omega) (by omega) w)
  obtain ⟨m,hm⟩ : ∃ m,x * y = m := ⟨_,rfl⟩
  rw [hm] at HM hlt ⊢
  rw [show uV m = .agg #[.int .u64 0,.int .u64 (m : Int)] by unfold uV;rw [Nat.div_eq_of_lt (by omega),Nat.mod_eq_of_lt (by omega)];rfl] at HM
  clear hm hx hy h1 h2 h3 h4 hlt ok
  go_enter Tryz.func175, Tryz.ntmps175
  go_wp2_with (first | (go_at_call 85;refine (HCk.out _).mono ?_;rintro e w1 ⟨rfl,hb1⟩;obtain ⟨hc1,hf1⟩ := bcell hb1;have hz1 := hb1.size;(try simp at hz1);have hy0 : w.heap.size < w1.heap.size := (by omega);have hy1 : w.heap.size + 1 < w1.heap.size := (by omega)) | (go_at_call 178;refine (HM.out _).mono ?_;rintro e w5 ⟨rfl,hb5⟩;obtain ⟨hc5,hf5⟩ := bcell hb5;have hz5 := hb5.size;(try simp at hz5);have hy50 : w.heap.size < w5.heap.size := (by omega)))
  refine post_gen2 (R := fun w2 => Blk w2 (w.heap.size + 1) 213 #[.int .u64 0,.int .u64 (m : Int)] ∧ Below w.heap.size w w2) ⟨?_,bel⟩ ?_
  · repeat (first | with_reducible exact two_put (x := .int .u64 0) (y := .int .u64 0) blkA | (with_reducible refine Blk.new ?_ rfl;focus (simp;done)) | with_reducible refine Blk.alloc ?_ _ | with_reducible refine Blk.drew ?_)
  rintro w2 ⟨HR,hb2⟩;have r0 := HR.cell 0;have r1 := HR.cell 1;simp only [lta,lcz,lcs] at r0 r1;exact bodyPost_ret (v := .agg #[.int .u64 0,.int .u64 (m : Int)]) (by simp [results,Tryz.results175,go_sem,r0,r1]) rfl ⟨rfl,hb2⟩
theorem runionG (a b : Bx) (g : Nat) (w : World) (ha : ckBox a = 0) (hb : ckBox b = 0) (hg : Blk w g 73 #[.int .i64 a.lo.x,.int .i64 a.lo.y,.int .i64 a.hi.x,.int .i64 a.hi.y,.int .i64 b.lo.x,.int .i64 b.lo.y,.int .i64 b.hi.x,.int .i64 b.hi.y]) :
 Calls Tryz.prog 100 #[.slice (some ⟨g,0,none⟩) 2 2] w (Ret w (.tuple #[bxW (union [a,b]).1,.int .i64 0])) := by
 have h := runion_any w.heap.size 2 2 _ [a,b] w (bxsAt_block [a,b] hg (lt_of_block hg) rfl (by intro k hk;match k,hk with | 0,_ => exact ⟨rfl,rfl,rfl,rfl⟩ | 1,_ => exact ⟨rfl,rfl,rfl,rfl⟩)) (Nat.le_refl _) (by decide)
 rw [(union2 ha hb).1] at h;exact h
theorem rgrow_ok (a b c d e f i j : Int) (w : World) (ha : okBx ⟨⟨a,b⟩,⟨c,d⟩⟩ = true) (hb : okBx ⟨⟨e,f⟩,⟨i,j⟩⟩ = true) :
 Calls Tryz.prog 171 #[bxV a b c d,bxV e f i j] w (Ret w (.agg #[.int .u64 0,.int .u64 (growN ⟨⟨a,b⟩,⟨c,d⟩⟩ ⟨⟨e,f⟩,⟨i,j⟩⟩ : Int)])) := by
 have ca := of_decide_eq_true ha;have cb := of_decide_eq_true hb;obtain ⟨_,hu2,hu3,_⟩ := union2 ca cb;have hle := area_le hu2 ha hu3;have hlt := areaN_lt (union [⟨⟨a,b⟩,⟨c,d⟩⟩,⟨⟨e,f⟩,⟨i,j⟩⟩]).1;unfold growN;have HU := Lib.hid (fun w g hg => runionG ⟨⟨a,b⟩,⟨c,d⟩⟩ ⟨⟨e,f⟩,⟨i,j⟩⟩ g w ca cb hg)
 obtain ⟨u,hu⟩ : ∃ u,(union [⟨⟨a,b⟩,⟨c,d⟩⟩,⟨⟨e,f⟩,⟨i,j⟩⟩]).1 = u := ⟨_,rfl⟩
 rw [hu] at HU hle hlt ⊢
 have HA1 := Lib.hid (fun w => rarea_any u.lo.x u.lo.y u.hi.x u.hi.y w)
 have HA2 := Lib.hid (fun w => rarea_any a b c d w)
 rw [show (⟨⟨u.lo.x,u.lo.y⟩,⟨u.hi.x,u.hi.y⟩⟩ : Bx) = u from rfl] at HA1
 obtain ⟨m,hm⟩ : ∃ m,areaN u = m := ⟨_,rfl⟩;obtain ⟨n,hn⟩ : ∃ m,areaN ⟨⟨a,b⟩,⟨c,d⟩⟩ = m := ⟨_,rfl⟩
 rw [hm] at HA1 hle hlt ⊢
 rw [hn] at HA2 hle ⊢
 have HS := Lib.hid (fun w => rSub_small m n (by omega) hle w)
 generalize m - n = r at *;clear hm hn hle hlt hu hu2 hu3 ha hb ca cb
 simp only at HU
 go_enter Tryz.func171,Tryz.ntmps171
 go_wp2_with (go_at_call 100;(with_reducible refine (HU.out _ _ blkA).mono ?_);rintro e w1 ⟨rfl,hb1⟩;obtain ⟨hc1,hf1⟩ := bcell hb1;have hz1 := hb1.size;(try simp at hz1);have hy0 : w.heap.size < w1.heap.size := (by omega);have hy1 : w.heap.size + 1 < w1.heap.size := (by omega);have hy2 : w.heap.size + 1 + 1 < w1.heap.size := (by omega))
 refine keep_world (R := fun w9 => Blk w9 w.heap.size 73 #[.int .i64 a,.int .i64 b,.int .i64 c,.int .i64 d] ∧ Blk w9 (w.heap.size + 1 + 1) 213 #[.int .u64 0,.int .u64 0] ∧ Blk w9 w1.heap.size 73 #[.int .i64 u.lo.x,.int .i64 u.lo.y,.int .i64 u.hi.x,.int .i64 u.hi.y] ∧ Below w.heap.size w w9) ⟨blkA,blkA,(by repeat (first | with_reducible exact box_put (x := .int .i64 0) (y := .int .i64 0) (z := .int .i64 0) (u := .int .i64 0) blkA | (with_reducible refine Blk.new ?_ rfl;focus (simp;done)) | with_reducible refine Blk.alloc ?_ _ | with_reducible refine Blk.drew ?_)),bel⟩ ?_
 obtain ⟨G,hG⟩ : ∃ G,w1.heap.size = G := ⟨_,rfl⟩
 rw [hG]
 clear hc1 hf1 hb1 hz1 hy0 hy1 hy2 hG;rintro w9 ⟨hB0,hR0,hU0,hb9⟩;have cB := hB0.cell;have fB := hB0.frozen;have lB := hB0.lt;have cU := hU0.cell;have fU := hU0.frozen;have lU := hU0.lt;have lR := hR0.lt;refine wp_region_alloc' [0,1,2,3,4,5,6,7] [8] [9,10] (fun _ => #[.int .u64 0,.int .u64 0]) (by kernel_rfl) (by kernel_rfl) (fun _ _ d _ _ h => by cases d <;> exact h) (by intro i hi w;simp only [List.mem_cons,List.not_mem_nil,or_false] at hi;rcases hi with rfl <;> simp only [ldz,lds,tyOf] <;> kernel_rfl) (fun KN hKN => ?_)
 simp only [List.map_cons,List.map_nil,ldz,lds,bare,gslot,lcz,lcs,Option.bind_some]
 repeat ((try simp only [Act.put,lsi,lsz,lss]);first | (refine lexN_quiet (v := ?_) rfl ?_ ?_;rotate_left;focus (intro wq hq;obtain ⟨hcq,hfq⟩ := bcell hq;go_simp;try with_reducible rfl)) | (refine lexN_loud (v := ?_) rfl ?_ ?_;rotate_left;focus (intro wq hq K hK;obtain ⟨hcq,hfq⟩ := bcell hq;go_simp;(first | (go_at_call 175;(with_reducible refine (HA1.out _).mono ?_);rintro e w5 ⟨rfl,hb5⟩;obtain ⟨hc5,hf5⟩ := bcell hb5;have hz5 := hb5.size;(try simp at hz5)) | (go_at_call 175;(with_reducible refine (HA2.out _).mono ?_);rintro e w6 ⟨rfl,hb6⟩;obtain ⟨hc6,hf6⟩ := bcell hb6;have hz6 := hb6.size;(try simp at hz6)) | (go_at_call 174;(with_reducible refine (HS.out _).mono ?_);rintro e w7 ⟨rfl,hb7⟩;obtain ⟨hc7,hf7⟩ := bcell hb7;have hz7 := hb7.size;(try simp at hz7)));refine hK.out _ _ ?_ bel;simp only [Act.put,lsi,lsz,lss];try with_reducible rfl)))
 (try simp only [Act.put,lsi,lsz,lss])
 refine lexN_nil (hKN.out _ ?_);clear hKN KN;intro gs wf hwf hgs hds
 simp only [List.map_cons,List.map_nil,ldz,lds,bare,gslot,lcz,lcs,Option.bind_some,List.foldl_cons,List.foldl_nil,ptrV]
 obtain ⟨hg8,HB8⟩ := hgs 8 (by decide)
 simp only [ldz,lds,tyOf] at HB8;clear hgs hds;generalize gs 8 = g8 at *;have cg8 := HB8.cell;have fg8 := HB8.frozen
 repeat ((try simp only [Act.put,lsi,lsz,lss]);first | (refine lexL_loud wantB_none rfl (fun K hK => ?_);go_simp;refine hK.out _ _ bel ?_;clear hK K) | (refine lexL_quiet (v := ?_) wantB_none rfl ?_ ?_;rotate_left;focus (intro wq hq;go_simp;try with_reducible rfl)))
 refine lexL_nil ?_;refine keep_world (R := fun w2 => Below w.heap.size w w2 ∧ Blk w2 g8 213 #[.int .u64 0,.int .u64 r] ∧ Blk w2 (w.heap.size + 1 + 1) 213 #[.int .u64 0,.int .u64 0] ∧ Below w.heap.size w w2) ⟨bel,((HB8.set_ 0 _).set_ 1 _).eq_ (by simp),blkA,bel⟩ ?_
 rintro w2 ⟨hb2,h8,hE0,hE1⟩;clear cg8 fg8 HB8;have cg8 := h8.cell;have fg8 := h8.frozen;have lg8 := h8.lt;obtain ⟨hc2,hf2⟩ := bcell hb2;have cR := hE0.cell;have fR := hE0.frozen;have lR2 := hE0.lt;go_wp2_with fail;refine post_gen2 (R := fun w2 => Blk w2 (w.heap.size + 1 + 1) 213 #[.int .u64 0,.int .u64 (r : Int)] ∧ Below w.heap.size w w2) ⟨?_,bel⟩ ?_
 · repeat (first | with_reducible exact two_put (x := .int .u64 0) (y := .int .u64 0) blkA | (with_reducible refine Blk.new ?_ rfl;focus (simp;done)) | with_reducible refine Blk.alloc ?_ _ | with_reducible refine Blk.drew ?_)
 rintro w2 ⟨HR,hb2⟩;have r0 := HR.cell 0;have r1 := HR.cell 1;simp only [lta,lcz,lcs] at r0 r1;exact bodyPost_ret (v := .agg #[.int .u64 0,.int .u64 (r : Int)]) (by simp [results,Tryz.results171,go_sem,r0,r1]) rfl ⟨rfl,hb2⟩
def bxF (b : Bx) (p : Pt) : Fr := if okBx b && okPt p then ⟨boxN b p,1⟩ else fNone
end Go.Proofs.YtcbjmcnebmhgpaaGreat
