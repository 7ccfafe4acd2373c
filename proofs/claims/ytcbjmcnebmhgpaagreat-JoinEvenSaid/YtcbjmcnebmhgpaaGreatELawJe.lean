/-
  The reference's pairs;two rows of pairs are the same.
  pergolalaw22: the walk of JoinEven.
-/
import Derived.Test.YtcbjmcnebmhgpaaGreatEJoiB
import Derived.Test.YtcbjmcnebmhgpaaGreatERefRB
import Derived.Test.YtcbjmcnebmhgpaaGreatEMadJ
import Derived.Test.YtcbjmcnebmhgpaaGreatEAwk22
import Derived.Test.YtcbjmcnebmhgpaaGreatEJoiG
import Derived.Test.YtcbjmcnebmhgpaaGreatEPlainEven
import Derived.Test.YtcbjmcnebmhgpaaGreatEItmO
set_option linter.unusedVariables false
set_option linter.unusedSimpArgs false
set_option maxHeartbeats 8000000
set_option maxRecDepth 20000
namespace V22
section
open Go Go.RowKit Pg
variable {P : Program} {Q : Exit → Act → World → Prop} {S : World → Prop}
theorem lexL_void {r : List (Oper × Option (Option Tmp × Bool))} {o : Oper} {d : Nat} {want : Bool} {a : Act} {w : World} (hv : a.tmps[d]? = some undef) (hS : S w) (h : lexL P Q S r (a.put o.dst undef) w) :
 lexL P Q S ((o,some (some d,want)) :: r) a w := lexL_skip (by simp [wantB,hv,undef]) hS h
end
end V22
namespace Pg
end Pg
namespace Go.Proofs.YtcbjmcnebmhgpaaGreat
open Go Go.RowKit Pg
theorem prow_cells {w : World} {Z : Nat → Prop} {A : Option Addr} {P : List (Int × Int)} (h : CellsIn w Z A (prcells P)) {k : Nat} {p : Int × Int} (hp : P[k]? = some p) : ∃ b off,A = some ⟨b,off,none⟩ ∧ b < w.heap.size ∧ w.cell? ⟨b,off + k * 2,none⟩ = some (.int .i64 p.1) ∧ w.cell? ⟨b,off + k * 2 + 1,none⟩ = some (.int .i64 p.2) := by
 have hk : k < P.length := (List.getElem?_eq_some_iff.1 hp).1;obtain ⟨b,off,e,_,hb,hc⟩ := h (by rw [prcells_len];omega)
 have e2 : ∀ (l : List (Int × Int)) (k : Nat) (p : Int × Int),l[k]? = some p → (prcells l)[k * 2]? = some (.int .i64 p.1) ∧ (prcells l)[k * 2 + 1]? = some (.int .i64 p.2) := fun l => by
  induction l with
  | nil => intro k p h;simp at h
  | cons a r ih =>
    intro k p h;have e0 : prcells (a :: r) = [.int .i64 a.1,.int .i64 a.2] ++ prcells r := rfl
    rw [e0]
    cases k with
    | zero => simp at h;subst h;exact ⟨rfl,rfl⟩
    | succ k =>
      have := ih k p (by simpa using h)
      rw [show (k + 1) * 2 = k * 2 + 2 by omega]
      exact this
 exact ⟨b,off,e,hb,hc _ _ (e2 P k p hp).1,by rw [Nat.add_assoc];exact hc _ _ (e2 P k p hp).2⟩
open V22
theorem sides22e {k k2 : Int} {W0 W1 w2 w3 : World} {ta ma tb mb : Nat} {a b : List (Int × Ob)} (h : MadeJ k W0 w2 ta ma a) (h2 : MadeJ k2 W1 w3 tb mb b) (hb : Below w2.heap.size w2 w3) (ha : a.length ≤ 50) (hbn : b.length ≤ 50) :
 ∃ (n : Nat) (P Q : List (Int × Int)),n ≤ 1000000 ∧ P.length = n ∧ Q.length = n ∧ (∀ p ∈ P,(p.2,p.1) ∈ Q) ∧ P.Pairwise lexP ∧ ∀ W,Below w3.heap.size w3 W →
  (Calls Tryz.prog 10 #[gP ta, gP tb] W fun e w' => ∃ v, e = .returned (.tuple #[v, .nilIface]) ∧ w'.ownsRow W.heap.size 38 2 v n (prcells P) ∧ Below W.heap.size W w') ∧
  (Calls Tryz.prog 10 #[gP tb, gP ta] W fun e w' => ∃ v, e = .returned (.tuple #[v, .nilIface]) ∧ w'.ownsRow W.heap.size 38 2 v n (prcells Q) ∧ Below W.heap.size W w') ∧
  (Calls Tryz.prog 10 #[.pointer none, gP tb] W fun e w' => ∃ A c, e = .returned (.tuple #[.slice A 0 c, .nilIface]) ∧ Below W.heap.size W w') ∧
  (Calls Tryz.prog 11 #[.pointer none] W fun e w' => e = .returned (.tuple #[.slice none 0 0, .nilIface]) ∧ Below W.heap.size W w') := by
 obtain ⟨mA,ownA,immA,ZA,tA,LA,hA,_,_⟩ := h;obtain ⟨mB,ownB,immB,ZB,tB,LB,hB,_,_⟩ := h2;have e1 : tA.items.length = a.length := by rw [← hA.ot];unfold obsT;rw [List.length_map]
 have e2 : tB.items.length = b.length := by rw [← hB.ot];unfold obsT;rw [List.length_map]
 have rA : Rising a := by rw [← hA.ot];unfold obsT Rising;rw [List.pairwise_map];exact hA.g.shape.rise
 have rB : Rising b := by rw [← hB.ot];unfold obsT Rising;rw [List.pairwise_map];exact hB.g.shape.rise
 have l1 := pairsP_len a b;have l3 : a.length * b.length ≤ 50 * 50 := Nat.mul_le_mul ha hbn;have hev := pairs_even rA rB;refine ⟨(pairsP a b).length,pairsP a b,pairsP b a,by omega,rfl,hev.symm,fun p hp => pairs_turned hp,pairs_rise rA rB,fun W hW => ?_⟩
 have hx : Below w2.heap.size w2 W := hb.trans (hW.mono hb.size);refine ⟨?_,?_,?_,groups_nilJ W⟩
 · have := JPairs_any (hA.g.tr hx) (hB.g.tr hW) (by omega) (by omega)
   rw [hA.ot,hB.ot] at this;exact this
 · have := JPairs_any (hB.g.tr hW) (hA.g.tr hx) (by omega) (by omega)
   rw [hA.ot,hB.ot,← hev] at this;exact this
 · refine (JPairsT_any (toldNil W) (told_tree (hB.g.tr hW) (by omega)) (by decide) (by unfold obsT;rw [List.length_map];omega)).mono ?_
   rintro e w' ⟨v,rfl,ho,hbb⟩
   rw [show (pairsP [] (obsT tB.items)).length = 0 from rfl] at ho
   obtain ⟨A,c,rfl,_,_,_⟩ := row_form ho;exact ⟨A,c,rfl,hbb⟩
theorem metE {Q : List (Int × Int)} {p : Int × Int} (h : (p.2,p.1) ∈ Q) : Q.any (fun q => q.1 == p.2 && q.2 == p.1) = true := List.any_eq_true.2 ⟨_,h,by simp⟩
theorem metE_step {Q : List (Int × Int)} {p q : Int × Int} {j : Nat} (h : Q[j]? = some q) : (Q.take (j + 1)).any (fun q => q.1 == p.2 && q.2 == p.1) = ((Q.take j).any (fun q => q.1 == p.2 && q.2 == p.1) || (q.1 == p.2 && q.2 == p.1)) := by
 rw [List.take_add_one,h,List.any_append]
 simp
theorem joinEven_walk (n c n2 c2 : Nat) (A A2 : Option Addr) (l r : List (Int × Ob)) (w : World) (hl : ItmsAt w w.heap.size A n l) (hn : n ≤ 9223372036854775807) (hr : ItmsAt w w.heap.size A2 n2 r) (hn2 : n2 ≤ 9223372036854775807) :
 Calls Tryz.prog 3 #[.slice A n c,.slice A2 n2 c2] w (Ret w (.bool true)) := by
 have HSa := Lib.hid (fun W (hW : Below w.heap.size w W) => small22_any w.heap.size n c A l W (hl.below hW) hW.size hn)
 have HSb := Lib.hid (fun W (hW : Below w.heap.size w W) => small22_any w.heap.size n2 c2 A2 r W (hr.below hW) hW.size hn2)
 have HA := Lib.hid awake22_any;have HL := Lib.hid hl;have HR := Lib.hid hr;clear hl hr
 go_enter Tryz.func3,Tryz.ntmps3
 go_wp2_with (first
  | (go_at_call 7;(have _q := HS1);(refine (HSb.out _ bel).mono ?_);rintro e wb ⟨sb,rfl,hsb,hbb⟩;obtain ⟨hcb,hfb⟩ := bcell hbb;have hzb := hbb.size;(try simp at hzb);have HS2 := Lib.hid hsb;clear hsb;cases sb)
  | (go_at_call 7;(refine (HSa.out _ bel).mono ?_);rintro e w1 ⟨s,rfl,hs,hb1⟩;obtain ⟨hc1,hf1⟩ := bcell hb1;have hz1 := hb1.size;(try simp at hz1);have HS1 := Lib.hid hs;clear hs;cases s)
  | (go_at_call 8;(with_reducible refine (HA.out _).mono ?_);rintro e wa ⟨rfl,hba⟩;obtain ⟨hca,hfa⟩ := bcell hba;have hza := hba.size;(try simp at hza)))
 · go_ret
   exact ⟨rfl,bel⟩
 · go_ret
   exact ⟨rfl,bel⟩
 obtain ⟨h50,hpts⟩ := HS1.out (by trivial)
 obtain ⟨h502,hpts2⟩ := HS2.out (by trivial)
 have HMa := Lib.hid (fun W (hW : Below w.heap.size w W) => made22_any A n c l 3 W ((HL.out.below hW).moreJ hW.size) (by omega) (fun p hp => Nat.le_trans (hpts p hp) (by decide)))
 have HMb := Lib.hid (fun W (hW : Below w.heap.size w W) => made22_any A2 n2 c2 r 1 W ((HR.out.below hW).moreJ hW.size) (by omega) (fun p hp => Nat.le_trans (hpts2 p hp) (by decide)))
 have H50 := Lib.hid (show (madeP l).length ≤ 50 ∧ (madeP r).length ≤ 50 from ⟨by have := madeP_len l;have := HL.out.1;omega,by have := madeP_len r;have := HR.out.1;omega⟩)
 have hbw : Below w.heap.size w wb := bel;have HBW := Lib.hid hbw;clear h50 hpts h502 hpts2 HS1 HS2 HSa HSb hbw
 go_wp2_with (first
  | (go_at_call 9;(have _q := HM2);(refine (HMb.out _ bel).mono ?_);rintro e w3 ⟨tb,mb,rfl,hm3,hb3⟩;have HM3 := Lib.hid hm3;clear hm3;obtain ⟨hc3,hf3⟩ := bcell hb3;have hz3 := hb3.size;(try simp at hz3))
  | (go_at_call 9;(refine (HMa.out _ bel).mono ?_);rintro e w2 ⟨ta,ma,rfl,hm2,hb2⟩;have HM2 := Lib.hid hm2;clear hm2;obtain ⟨hc2,hf2⟩ := bcell hb2;have hz2 := hb2.size;(try simp at hz2)))
 have hb23 : Below w2.heap.size w2 w3 := bel;have hb03 : Below w.heap.size w w3 := bel;have HB03 := Lib.hid hb03;obtain ⟨m,P,Q,hm,hPl,hQl,hsw,hlx,hPQ⟩ := sides22e HM2.out HM3.out hb23 H50.out.1 H50.out.2;have HPQ := Lib.hid hPQ;have HLP := Lib.hid (And.intro hPl (And.intro hQl (And.intro hsw hlx)));clear hPQ hb23 hb03 HM2 HM3 hb2 hc2 hf2 hz2 hb3 hc3 hf3 hz3 hPl hQl hsw hlx;clear hb1 hc1 hf1 hz1 hbb hcb hfb hzb
 go_wp2_with (first
  | (go_at_call 10;(have _q := HO5);(refine ((HPQ.out _ bel).2.2.1).mono ?_);rintro e w6 ⟨A6,c6,rfl,hb6⟩;obtain ⟨hc6,hf6⟩ := bcell hb6;have hz6 := hb6.size;(try simp at hz6))
  | (go_at_call 10;(have _q := HO4);(refine ((HPQ.out _ bel).2.1).mono ?_);rintro e w5 ⟨v5,rfl,ho5,hb5⟩;obtain ⟨A5,c5,rfl,_,_,_⟩ := row_form ho5;have HO5 := Lib.hid (own_cellsIn ho5 rfl);clear ho5;obtain ⟨hc5,hf5⟩ := bcell hb5;have hz5 := hb5.size;(try simp at hz5))
  | (go_at_call 10;(refine ((HPQ.out _ bel).1).mono ?_);rintro e w4 ⟨v4,rfl,ho4,hb4⟩;obtain ⟨A4,c4,rfl,_,_,_⟩ := row_form ho4;have HO4 := Lib.hid (own_cellsIn ho4 rfl);clear ho4;obtain ⟨hc4,hf4⟩ := bcell hb4;have hz4 := hb4.size;(try simp at hz4))
  | (go_at_call 11;(refine ((HPQ.out _ bel).2.2.2).mono ?_);rintro e w7 ⟨rfl,hb7⟩;obtain ⟨hc7,hf7⟩ := bcell hb7;have hz7 := hb7.size;(try simp at hz7)))
 have HB7 := Lib.hid (show Below w.heap.size w w7 from HB03.out.trans ((show Below w3.heap.size w3 w7 from bel).mono HB03.out.size))
 have HOP := Lib.hid (show CellsIn w7 _ A4 (prcells P) from (HO4.out.kept (grown_below (show Below w4.heap.size w4 w7 from bel)) (by simp)))
 have HOQ := Lib.hid (show CellsIn w7 _ A5 (prcells Q) from (HO5.out.kept (grown_below (show Below w5.heap.size w5 w7 from bel)) (by simp)))
 clear HO4 HO5 hb4 hc4 hf4 hz4 hb5 hc5 hf5 hz5 hb6 hc6 hf6 hz6 hb7 hc7 hf7 hz7
 go_loopw [19] (fun vi wr => ∃ k : Nat,k ≤ m ∧ vi = .int .i64 k ∧ Below w7.heap.size w7 wr) (fun vi _ => m - (Go.RowKit.intOf vi).toNat)
 case atStart => exact ⟨0,by omega,rfl,Below.refl _ _⟩
 case round =>
  obtain ⟨k,hk,rfl,hb⟩ := hrel
  by_cases hlt : k < m
  case neg =>
   obtain rfl : m = k := by omega
   have HBk := Lib.hid hb;clear hb
   go_wp2_with (go_at_call 8;(with_reducible refine (HA.out _).mono ?_);rintro e wa ⟨rfl,hba⟩;obtain ⟨hca,hfa⟩ := bcell hba;have hza := hba.size;(try simp at hza))
   go_ret;exact ⟨rfl,HB7.out.trans ((HBk.out.trans ((show Below wr.heap.size wr _ from bel).mono HBk.out.size)).mono HB7.out.size)⟩
  have hk0 : (k : Int) < (m : Int) := by omega
  obtain ⟨p,hp⟩ : ∃ p,P[k]? = some p := ⟨P[k]'(by rw [HLP.out.1];exact hlt),List.getElem?_eq_getElem _⟩
  have HP := Lib.hid hp;have HBk := Lib.hid hb;have HMet := Lib.hid (metE (HLP.out.2.2.1 p (List.mem_of_getElem? hp)))
  have HPr : Hid (∀ k1 p1,k1 + 1 = k → P[k1]? = some p1 → lexP p1 p) := fun k1 p1 e h1 => by
   obtain ⟨i1,e1⟩ := List.getElem?_eq_some_iff.1 h1;obtain ⟨i2,e2⟩ := List.getElem?_eq_some_iff.1 hp;have := List.pairwise_iff_getElem.1 HLP.out.2.2.2 k1 k i1 i2 (by omega)
   rwa [e1, e2] at this
  obtain ⟨pa,pb⟩ := p;clear hp hb;go_wp2_with fail
  go_loopw [20, 21] (fun vm vj wr => ∃ j : Nat, j ≤ m ∧ vj = .int .i64 j ∧ vm = .bool ((Q.take j).any fun q => q.1 == pb && q.2 == pa) ∧ Below w7.heap.size w7 wr) (fun _ vj _ => m - (Go.RowKit.intOf vj).toNat)
  case atStart => exact ⟨0, by omega, rfl, rfl, HBk.out⟩
  case round =>
   clear HBk;obtain ⟨j,hj,rfl,rfl,hb⟩ := hrel;obtain ⟨b,off,rfl,hbl,r0,r1⟩ := prow_cells (HOP.out.kept (grown_below hb) (by simp)) HP.out
   have HBj := Lib.hid hb
   by_cases hltj : j < m
   case pos =>
    have hj0 : (j : Int) < (m : Int) := by omega
    obtain ⟨q,hq⟩ : ∃ q,Q[j]? = some q := ⟨Q[j]'(by rw [HLP.out.2.1];exact hltj),List.getElem?_eq_getElem _⟩
    obtain ⟨b',off',rfl,hbl',s0,s1⟩ := prow_cells (HOQ.out.kept (grown_below hb) (by simp)) hq
    have hst := metE_step (p := (pa,pb)) hq;obtain ⟨qa,qb⟩ := q
    simp only at s0 s1 r0 r1 hst
    obtain ⟨mt,hmt⟩ : ∃ b,((Q.take j).any fun q => q.1 == pb && q.2 == pa) = b := ⟨_,rfl⟩
    obtain ⟨b1,hb1⟩ : ∃ b,(qa == pb) = b := ⟨_,rfl⟩;obtain ⟨b2,hb2⟩ : ∃ b,(qb == pa) = b := ⟨_,rfl⟩;rw [hmt,hb1,hb2] at hst;have HSt := Lib.hid hst
    rw [hmt]
    clear hq hst hmt hb
    cases mt with
    | true =>
      clear hb1 hb2;go_wp2_with fail;refine wp_region_belowI (by kernel_rfl) (by kernel_rfl) (fun _ _ d _ _ h => by cases d <;> exact h) ?_
      simp only [List.map_cons, List.map_nil, ldz, lds, bare, gslot, lcz, lcs, Option.bind_some]
      repeat' ((try simp only [Act.put,lsi,lsz,lss]);first | (refine lexL_on ?_ ?_;focus (simp only [lta,lcs,lcz,Bool.not_true,Bool.not_false];done)) | (refine lexL_off ?_ ?_ ?_;(focus (simp only [lta,lcs,lcz,Bool.not_true,Bool.not_false];done));(focus (exact bel))) | (refine lexL_void ?_ ?_ ?_;(focus (simp only [lta,lcs,lcz,Bool.not_true,Bool.not_false];done));(focus (exact bel))) | (refine lexL_splitS (X := ?_) ?_ ?_ (fun hg => ?_) (fun hg => ?_);rotate_left;(focus (simp only [lta,lcs,lcz];with_reducible rfl));(focus (exact bel));all_goals (try simp only [Bool.not_true,Bool.not_false] at hg)) | (refine lexL_quiet (v := ?_) wantB_none rfl ?_ ?_;rotate_left;focus (intro wq hq;obtain ⟨hcq,hfq⟩ := bcell hq;go_simp;try with_reducible rfl)) | (refine lexL_loud wantB_none rfl (fun K hK => ?_);go_simp;((first |  fail | skip) <;> (refine hK.out _ _ bel ?_;clear hK K))))
      (all_goals try simp only [Act.put,lsi,lsz,lss]);all_goals (refine lexL_nil ?_)
      go_wp2_with fail
      go_roundw
      case rel => exact ⟨j + 1,by omega,by go_num,by rw [HSt.out];rfl,HBj.out.trans ((show Below wr.heap.size wr _ from bel).mono HBj.out.size)⟩
      case measure => simp [Go.RowKit.intOf];omega
    | false =>
      cases b1 with
      | false =>
        clear hb2;go_wp2_with fail;refine wp_region_belowI (by kernel_rfl) (by kernel_rfl) (fun _ _ d _ _ h => by cases d <;> exact h) ?_
        simp only [List.map_cons, List.map_nil, ldz, lds, bare, gslot, lcz, lcs, Option.bind_some]
        repeat' ((try simp only [Act.put,lsi,lsz,lss]);first | (refine lexL_on ?_ ?_;focus (simp only [lta,lcs,lcz,Bool.not_true,Bool.not_false];done)) | (refine lexL_off ?_ ?_ ?_;(focus (simp only [lta,lcs,lcz,Bool.not_true,Bool.not_false];done));(focus (exact bel))) | (refine lexL_void ?_ ?_ ?_;(focus (simp only [lta,lcs,lcz,Bool.not_true,Bool.not_false];done));(focus (exact bel))) | (refine lexL_splitS (X := ?_) ?_ ?_ (fun hg => ?_) (fun hg => ?_);rotate_left;(focus (simp only [lta,lcs,lcz];with_reducible rfl));(focus (exact bel));all_goals (try simp only [Bool.not_true,Bool.not_false] at hg)) | (refine lexL_quiet (v := ?_) wantB_none rfl ?_ ?_;rotate_left;focus (intro wq hq;obtain ⟨hcq,hfq⟩ := bcell hq;go_simp;try with_reducible rfl)) | (refine lexL_loud wantB_none rfl (fun K hK => ?_);go_simp;((first |  fail | skip) <;> (refine hK.out _ _ bel ?_;clear hK K))))
        (all_goals try simp only [Act.put,lsi,lsz,lss]);all_goals (refine lexL_nil ?_)
        go_wp2_with fail
        go_roundw
        case rel => exact ⟨j + 1,by omega,by go_num,by rw [HSt.out];rfl,HBj.out.trans ((show Below wr.heap.size wr _ from bel).mono HBj.out.size)⟩
        case measure => simp [Go.RowKit.intOf];omega
      | true =>
        cases b2 with
        | false =>
          go_wp2_with fail;refine wp_region_belowI (by kernel_rfl) (by kernel_rfl) (fun _ _ d _ _ h => by cases d <;> exact h) ?_
          simp only [List.map_cons, List.map_nil, ldz, lds, bare, gslot, lcz, lcs, Option.bind_some]
          repeat' ((try simp only [Act.put,lsi,lsz,lss]);first | (refine lexL_on ?_ ?_;focus (simp only [lta,lcs,lcz,Bool.not_true,Bool.not_false];done)) | (refine lexL_off ?_ ?_ ?_;(focus (simp only [lta,lcs,lcz,Bool.not_true,Bool.not_false];done));(focus (exact bel))) | (refine lexL_void ?_ ?_ ?_;(focus (simp only [lta,lcs,lcz,Bool.not_true,Bool.not_false];done));(focus (exact bel))) | (refine lexL_splitS (X := ?_) ?_ ?_ (fun hg => ?_) (fun hg => ?_);rotate_left;(focus (simp only [lta,lcs,lcz];with_reducible rfl));(focus (exact bel));all_goals (try simp only [Bool.not_true,Bool.not_false] at hg)) | (refine lexL_quiet (v := ?_) wantB_none rfl ?_ ?_;rotate_left;focus (intro wq hq;obtain ⟨hcq,hfq⟩ := bcell hq;go_simp;try with_reducible rfl)) | (refine lexL_loud wantB_none rfl (fun K hK => ?_);go_simp;((first |  fail | skip) <;> (refine hK.out _ _ bel ?_;clear hK K))))
          (all_goals try simp only [Act.put,lsi,lsz,lss]);all_goals (refine lexL_nil ?_)
          go_wp2_with fail
          go_roundw
          case rel => exact ⟨j + 1,by omega,by go_num,by rw [HSt.out];rfl,HBj.out.trans ((show Below wr.heap.size wr _ from bel).mono HBj.out.size)⟩
          case measure => simp [Go.RowKit.intOf];omega
        | true =>
          go_wp2_with fail;refine wp_region_belowI (by kernel_rfl) (by kernel_rfl) (fun _ _ d _ _ h => by cases d <;> exact h) ?_
          simp only [List.map_cons, List.map_nil, ldz, lds, bare, gslot, lcz, lcs, Option.bind_some]
          repeat' ((try simp only [Act.put,lsi,lsz,lss]);first | (refine lexL_on ?_ ?_;focus (simp only [lta,lcs,lcz,Bool.not_true,Bool.not_false];done)) | (refine lexL_off ?_ ?_ ?_;(focus (simp only [lta,lcs,lcz,Bool.not_true,Bool.not_false];done));(focus (exact bel))) | (refine lexL_void ?_ ?_ ?_;(focus (simp only [lta,lcs,lcz,Bool.not_true,Bool.not_false];done));(focus (exact bel))) | (refine lexL_splitS (X := ?_) ?_ ?_ (fun hg => ?_) (fun hg => ?_);rotate_left;(focus (simp only [lta,lcs,lcz];with_reducible rfl));(focus (exact bel));all_goals (try simp only [Bool.not_true,Bool.not_false] at hg)) | (refine lexL_quiet (v := ?_) wantB_none rfl ?_ ?_;rotate_left;focus (intro wq hq;obtain ⟨hcq,hfq⟩ := bcell hq;go_simp;try with_reducible rfl)) | (refine lexL_loud wantB_none rfl (fun K hK => ?_);go_simp;((first |  fail | skip) <;> (refine hK.out _ _ bel ?_;clear hK K))))
          (all_goals try simp only [Act.put,lsi,lsz,lss]);all_goals (refine lexL_nil ?_)
          go_wp2_with fail
          go_roundw
          case rel => exact ⟨j + 1,by omega,by go_num,by rw [HSt.out];rfl,HBj.out.trans ((show Below wr.heap.size wr _ from bel).mono HBj.out.size)⟩
          case measure => simp [Go.RowKit.intOf];omega
   case neg =>
    obtain rfl : m = j := by omega
    have hall : ((Q.take m).any fun q => q.1 == pb && q.2 == pa) = true := by
     rw [List.take_of_length_le (by rw [HLP.out.2.1];exact Nat.le_refl _)]
     exact HMet.out
    rw [hall]
    clear hall
    simp only at r0 r1
    by_cases hk1 : k = 0
    case pos =>
     subst hk1;clear hb;go_wp2_with fail;refine wp_region_belowI (by kernel_rfl) (by kernel_rfl) (fun _ _ d _ _ h => by cases d <;> exact h) ?_
     simp only [List.map_cons, List.map_nil, ldz, lds, bare, gslot, lcz, lcs, Option.bind_some]
     repeat' ((try simp only [Act.put,lsi,lsz,lss]);first | (refine lexL_on ?_ ?_;focus (simp only [lta,lcs,lcz,Bool.not_true,Bool.not_false];done)) | (refine lexL_off ?_ ?_ ?_;(focus (simp only [lta,lcs,lcz,Bool.not_true,Bool.not_false];done));(focus (exact bel))) | (refine lexL_void ?_ ?_ ?_;(focus (simp only [lta,lcs,lcz,Bool.not_true,Bool.not_false];done));(focus (exact bel))) | (refine lexL_splitS (X := ?_) ?_ ?_ (fun hg => ?_) (fun hg => ?_);rotate_left;(focus (simp only [lta,lcs,lcz];with_reducible rfl));(focus (exact bel));all_goals (try simp only [Bool.not_true,Bool.not_false] at hg)) | (refine lexL_quiet (v := ?_) wantB_none rfl ?_ ?_;rotate_left;focus (intro wq hq;obtain ⟨hcq,hfq⟩ := bcell hq;go_simp;try with_reducible rfl)) | (refine lexL_loud wantB_none rfl (fun K hK => ?_);go_simp;((first |  fail | skip) <;> (refine hK.out _ _ bel ?_;clear hK K))))
     (all_goals try simp only [Act.put,lsi,lsz,lss]);all_goals (refine lexL_nil ?_)
     go_wp2_with fail
     go_roundw
     case rel => exact ⟨0 + 1, by omega, by go_num, HBj.out.trans ((show Below wr.heap.size wr _ from bel).mono HBj.out.size)⟩
     case measure => simp [Go.RowKit.intOf];omega
    case neg =>
     obtain ⟨k1,hk1'⟩ : ∃ k1,k1 + 1 = k := ⟨k - 1,by omega⟩
     obtain ⟨p1,hp1⟩ : ∃ p1,P[k1]? = some p1 := ⟨P[k1]'(by rw [HLP.out.1];omega),List.getElem?_eq_getElem _⟩
     obtain ⟨b',off',hv,hbl',s0,s1⟩ := prow_cells (HOP.out.kept (grown_below hb) (by simp)) hp1
     injection hv with hv
     injection hv with hv1 hv2
     subst hv1 hv2;have hlex := HPr.out k1 p1 hk1' hp1;obtain ⟨pa1,pb1⟩ := p1
     simp only at s0 s1
     have hk2 : (0 : Int) < (k : Int) := by omega
     have hk7 : 0 < k := by omega
     have hk3 : (k : Int) - 1 = (k1 : Int) := by omega
     have hk4 : (k1 : Int) < (m : Int) := by omega
     have hk5 : (0 : Int) ≤ (k1 : Int) := by omega
     have hk6 : IntKind.i64.wrap (k1 : Int) = (k1 : Int) := IntWalk.i64_in _ ⟨by omega,by omega⟩
     clear hb hp1 hk1 hk1'
     rcases hlex with hx | ⟨hx, hy⟩
     · have x1 : decide (pa < pa1) = false := by simp only at hx;rw [decide_eq_false_iff_not];omega
       have x2 : (pa == pa1) = false := by rw [beq_eq_false_iff_ne];simp only at hx;omega
       clear hx;go_wp2_with fail;refine wp_region_belowI (by kernel_rfl) (by kernel_rfl) (fun _ _ d _ _ h => by cases d <;> exact h) ?_
       simp only [List.map_cons, List.map_nil, ldz, lds, bare, gslot, lcz, lcs, Option.bind_some]
       repeat' ((try simp only [Act.put,lsi,lsz,lss]);first | (refine lexL_on ?_ ?_;focus (simp only [lta,lcs,lcz,Bool.not_true,Bool.not_false];done)) | (refine lexL_off ?_ ?_ ?_;(focus (simp only [lta,lcs,lcz,Bool.not_true,Bool.not_false];done));(focus (exact bel))) | (refine lexL_void ?_ ?_ ?_;(focus (simp only [lta,lcs,lcz,Bool.not_true,Bool.not_false];done));(focus (exact bel))) | (refine lexL_splitS (X := ?_) ?_ ?_ (fun hg => ?_) (fun hg => ?_);rotate_left;(focus (simp only [lta,lcs,lcz];with_reducible rfl));(focus (exact bel));all_goals (try simp only [Bool.not_true,Bool.not_false] at hg)) | (refine lexL_quiet (v := ?_) wantB_none rfl ?_ ?_;rotate_left;focus (intro wq hq;obtain ⟨hcq,hfq⟩ := bcell hq;go_simp;try with_reducible rfl)) | (refine lexL_loud wantB_none rfl (fun K hK => ?_);go_simp;((first |  fail | skip) <;> (refine hK.out _ _ bel ?_;clear hK K))))
       (all_goals try simp only [Act.put,lsi,lsz,lss]);all_goals (refine lexL_nil ?_)
       go_wp2_with fail
       go_roundw
       case rel => exact ⟨k + 1, by omega, by go_num, HBj.out.trans ((show Below wr.heap.size wr _ from bel).mono HBj.out.size)⟩
       case measure => simp [Go.RowKit.intOf];omega
     · have x1 : decide (pa < pa1) = false := by simp only at hx;rw [decide_eq_false_iff_not];omega
       have x2 : (pa == pa1) = true := by rw [beq_iff_eq];exact hx.symm
       have x3 : decide (pb ≤ pb1) = false := by simp only at hy;rw [decide_eq_false_iff_not];omega
       clear hx hy;go_wp2_with fail;refine wp_region_belowI (by kernel_rfl) (by kernel_rfl) (fun _ _ d _ _ h => by cases d <;> exact h) ?_
       simp only [List.map_cons, List.map_nil, ldz, lds, bare, gslot, lcz, lcs, Option.bind_some]
       repeat' ((try simp only [Act.put,lsi,lsz,lss]);first | (refine lexL_on ?_ ?_;focus (simp only [lta,lcs,lcz,Bool.not_true,Bool.not_false];done)) | (refine lexL_off ?_ ?_ ?_;(focus (simp only [lta,lcs,lcz,Bool.not_true,Bool.not_false];done));(focus (exact bel))) | (refine lexL_void ?_ ?_ ?_;(focus (simp only [lta,lcs,lcz,Bool.not_true,Bool.not_false];done));(focus (exact bel))) | (refine lexL_splitS (X := ?_) ?_ ?_ (fun hg => ?_) (fun hg => ?_);rotate_left;(focus (simp only [lta,lcs,lcz];with_reducible rfl));(focus (exact bel));all_goals (try simp only [Bool.not_true,Bool.not_false] at hg)) | (refine lexL_quiet (v := ?_) wantB_none rfl ?_ ?_;rotate_left;focus (intro wq hq;obtain ⟨hcq,hfq⟩ := bcell hq;go_simp;try with_reducible rfl)) | (refine lexL_loud wantB_none rfl (fun K hK => ?_);go_simp;((first |  fail | skip) <;> (refine hK.out _ _ bel ?_;clear hK K))))
       (all_goals try simp only [Act.put,lsi,lsz,lss]);all_goals (refine lexL_nil ?_)
       go_wp2_with fail
       go_roundw
       case rel => exact ⟨k + 1, by omega, by go_num, HBj.out.trans ((show Below wr.heap.size wr _ from bel).mono HBj.out.size)⟩
       case measure => simp [Go.RowKit.intOf];omega
end Go.Proofs.YtcbjmcnebmhgpaaGreat
