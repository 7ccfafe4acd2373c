/-
  pergolalaw22: the walk of JoinGrid. (Printed by genGr.py.)
-/
import Derived.Test.YtcbjmcnebmhgpaaGreatILawJr
import Derived.Test.YtcbjmcnebmhgpaaGreatIPlainGrid
set_option linter.unusedVariables false
set_option linter.unusedSimpArgs false
set_option maxHeartbeats 8000000
set_option maxRecDepth 20000
namespace Go.Proofs.YtcbjmcnebmhgpaaGreat
open Go Go.RowKit Pg
theorem wr64 (k : Nat) (h : k ≤ 1000000) : IntKind.i64.wrap (k : Int) = (k : Int) := IntWalk.i64_in _ ⟨by omega,by omega⟩
theorem three_atL {w : World} {a b c : Value} {t : TypeId} {g : Nat} (hg : w.heap.size = g) : ∀ (j : Nat) (v : Value),[a,b,c][j]? = some v → (w.alloc (.cells #[a,b,c] t)).cell? ((⟨g,0,none⟩ : Addr).add j) = some v := by
 subst hg;exact three_atM
theorem grid_step {s m i k : Nat} (hk : k < m) : gridL s m (i * m + (k + 1)) = gridL s m (i * m + k) ++ [(((i * m + k : Nat) : Int),obG s i k)] := by
 rw [← Nat.add_assoc,gridL_succ]
 have h1 : (i * m + k) / m = i := by rw [Nat.mul_comm,Nat.mul_add_div (by omega),Nat.div_eq_of_lt hk,Nat.add_zero]
 have h2 : (i * m + k) % m = k := by rw [Nat.mul_comm,Nat.mul_add_mod,Nat.mod_eq_of_lt hk]
 rw [h1,h2]
theorem sides22d {k : Int} {W0 w2 : World} {ta ma : Nat} {a : List (Int × Ob)} (h : MadeJ k W0 w2 ta ma a) (ha : a.length ≤ 100) (np ng na : Nat) (h1 : (upJ (pairsP a a)).length = np) (h2 : (grpS (tchC a) (idsO a)).length = ng) (h3 : (aloneS (grpS (tchC a) (idsO a))).length = na) :
 ∀ W,Below w2.heap.size w2 W →
  (Calls Tryz.prog 15 #[gP ta] W fun e w' => ∃ A c, e = .returned (.tuple #[.slice A np c, .nilIface]) ∧ Below W.heap.size W w') ∧
  (Calls Tryz.prog 11 #[gP ta] W fun e w' => ∃ A c, e = .returned (.tuple #[.slice A ng c, .nilIface]) ∧ RowsJ w' W.heap.size (.slice A ng c) (grpS (tchC a) (idsO a)) ∧ Below W.heap.size W w') ∧
  (Calls Tryz.prog 12 #[gP ta] W fun e w' => ∃ A c, e = .returned (.tuple #[.slice A na c, .nilIface]) ∧ Below W.heap.size W w') := by
 subst h1 h2 h3;obtain ⟨hr,hid,_,ht⟩ := side_told h ha;intro W hW;refine ⟨?_,?_,?_⟩
 · refine (JSelfT_any (w := W) (p := some ⟨ta,0,none⟩) (xa := a) (fun W' hW' => ht W' (hW.trans (hW'.mono hW.size))) ha).mono ?_
   rintro e w' ⟨v,rfl,h1,h2⟩;obtain ⟨A,c,rfl,_,_,_⟩ := row_form h1;exact ⟨A,c,rfl,h2⟩
 · refine (Groups_any (fun W' hW' => ht W' (hW.trans (hW'.mono hW.size))) hr hid ha).mono ?_
   rintro e w' ⟨v,rfl,h1,h2⟩;obtain ⟨A,c,rfl⟩ := h1.form;exact ⟨A,c,rfl,h1,h2⟩
 · refine (Alone_any (fun W' hW' => ht W' (hW.trans (hW'.mono hW.size))) hr hid ha).mono ?_
   rintro e w' ⟨v,rfl,h1,h2⟩;obtain ⟨A,c,rfl,_,_,_⟩ := row_form h1;exact ⟨A,c,rfl,h2⟩
theorem joinGrid_gap (n m : Nat) (hn1 : 1 ≤ n) (hn8 : n ≤ 8) (hm1 : 1 ≤ m) (hm8 : m ≤ 8) (w : World) : Calls Tryz.prog 5 #[.int .i64 n,.int .i64 m,.bool true] w (Ret w (.bool true)) := by
 have HA := Lib.hid awake22_any;have d1 : decide ((n : Int) < 1) = false := by rw [decide_eq_false_iff_not];omega
 have d2 : decide ((8 : Int) < (n : Int)) = false := by rw [decide_eq_false_iff_not];omega
 have d3 : decide ((m : Int) < 1) = false := by rw [decide_eq_false_iff_not];omega
 have d4 : decide ((8 : Int) < (m : Int)) = false := by rw [decide_eq_false_iff_not];omega
 obtain ⟨i0,hi,iz0,iz1,iz2⟩ := info_parts Tryz.infoMiM;have hNm : n * m ≤ 8 * 8 := Nat.mul_le_mul hn8 hm8
 go_enter Tryz.func5,Tryz.ntmps5
 go_wp2_with fail;clear d1 d2 d3 d4
 go_loopw [8,9] (fun v8 vi wr => ∃ i : Nat,i ≤ n ∧ vi = .int .i64 i ∧ RowL w.heap.size wr v8 (gridL 3 m (i * m)) ∧ Below w.heap.size w wr) (fun _ vi _ => n - (Go.RowKit.intOf vi).toNat)
 case atStart => exact ⟨0,Nat.zero_le _,rfl,by rw [Nat.zero_mul];exact RowL.nil _ _,bel⟩
 case round =>
  obtain ⟨i,hin,rfl,hrow,hb⟩ := hrel;obtain ⟨A8,c8,hv8⟩ := hrow.form;rw [gridL_len] at hv8;subst hv8
  by_cases hlt : i < n
  case pos =>
   have hltI : (i : Int) < (n : Int) := by omega
   have HR := Lib.hid (And.intro hrow hb);have him : i * m ≤ 8 * 8 := Nat.mul_le_mul (by omega) hm8
   have him2 : (i + 1) * m = i * m + m := Nat.succ_mul _ _;clear hrow hb;go_wp2_with fail
   go_loopw [8, 10] (fun v8 vk wr => ∃ k : Nat, k ≤ m ∧ vk = .int .i64 k ∧ RowL w.heap.size wr v8 (gridL 3 m (i * m + k)) ∧ Below w.heap.size w wr) (fun _ vk _ => m - (Go.RowKit.intOf vk).toNat)
   case atStart => exact ⟨0, Nat.zero_le _, rfl, HR.out.1, HR.out.2⟩
   case round =>
    clear HR;obtain ⟨k,hkm,rfl,hrow,hb⟩ := hrel;obtain ⟨A9,c9,hv9⟩ := hrow.form;rw [gridL_len] at hv9;subst hv9;have HR := Lib.hid (And.intro hrow hb)
    by_cases hlk : k < m
    case pos =>
     have hlkI : (k : Int) < (m : Int) := by omega
     obtain ⟨Li,q0,q1,q2⟩ := hrow;rw [gridL_len] at q1;have HQ := Lib.hid (And.intro q0 (And.intro q1 q2));have hst := grid_step (s := 3) (i := i) hlk;obtain ⟨j,hj⟩ : ∃ j,i * m + k = j := ⟨_,rfl⟩;have hj100 : j ≤ 100 := by omega
     obtain ⟨q,hq⟩ : ∃ q,i * m = q := ⟨_,rfl⟩;obtain ⟨a,ha⟩ : ∃ a,3 * i = a := ⟨_,rfl⟩;obtain ⟨b,hbb⟩ : ∃ b,3 * k = b := ⟨_,rfl⟩;obtain ⟨a2,ha2⟩ : ∃ x,a + 2 = x := ⟨_,rfl⟩;obtain ⟨b2,hb2⟩ : ∃ x,b + 2 = x := ⟨_,rfl⟩;have e1 : (3 : Int) * (i : Int) = (a : Int) := by rw [← ha];push_cast;rfl
     have e2 : (3 : Int) * (k : Int) = (b : Int) := by rw [← hbb];push_cast;rfl
     have e3 : (i : Int) * (m : Int) = (q : Int) := by rw [← hq];push_cast;rfl
     have e4 : (q : Int) + (k : Int) = (j : Int) := by rw [← hj,← hq];push_cast;rfl
     have e5 : (a : Int) + 2 = (a2 : Int) := by omega
     have e6 : (b : Int) + 2 = (b2 : Int) := by omega
     have w1 := wr64 a (by omega)
     have w2 := wr64 b (by omega)
     have w3 := wr64 q (by omega)
     have w4 := wr64 j (by omega)
     have w5 := wr64 a2 (by omega)
     have w6 := wr64 b2 (by omega)
     have HOb : Hid (obG 3 i k = ⟨3,[⟨(a : Int),(b : Int)⟩,⟨(a2 : Int),(b2 : Int)⟩]⟩) := Lib.hid (by unfold obG;rw [ha,hbb,ha2,hb2])
     rw [hj] at hst HQ HR ⊢
     have HSt := Lib.hid hst;have hmx : j + 1 ≤ maxLen := by unfold maxLen;omega
     have hmb : (j + 1) * 40 ≤ 140737488355328 := by omega
     have hone : ∀ u ∈ [Value.int .i64 (j : Int),.int .i64 3,.slice (some ⟨wr.heap.size + 1,0,none⟩) 2 2],u.oneCell' = true := by simp [Value.oneCell']
     have hws := hb.size;clear q0 q1 q2 hst hb ha hbb ha2 hb2
     go_wp2_with (at_builtin;go_must (refine wpList_append_own _ rfl _ _ 22 rfl w.heap.size 52 i0 (.agg #[.int .i64 0,.int .i64 0,.slice none 0 0]) 3 40 Tryz.underlying22 hi iz0 iz1 iz2 rfl (by decide) _ _ _ rfl (own_kept HQ.out.2.1 (grown_below bel) (by simp)) _ _ _ [.int .i64 (j : Int),.int .i64 3,.slice (some ⟨wr.heap.size + 1,0,none⟩) 2 2] rfl rfl ?c1 hone hmx hmb ?c5 ?_))
     case c1 => exact three_atL (by simp)
     case c5 => first | omega | (simp;omega)
     intro v9 w9 hown hg _
     have H9 := Lib.hid (show RowL w.heap.size w9 v9 (gridL 3 m j ++ [((j : Int),obG 3 i k)]) ∧ Below w.heap.size w w9 from
      ⟨rowL_snoc (ob := obG 3 i k) (ov := .slice (some ⟨wr.heap.size + 1,0,none⟩) 2 2) HQ.out.1 (by rw [gridL_len];exact HQ.out.2.1) HQ.out.2.2 (show Below wr.heap.size wr _ from bel) (show 2 ≤ 1000000 by decide) (by rw [HOb.out];exact own_newP (xs := [.int .i64 (a : Int),.int .i64 (b : Int),.int .i64 (a2 : Int),.int .i64 (b2 : Int)]) blkA (by omega) rfl (by decide)) (by rw [gridL_len];exact hown) hg,
       (HR.out.2.trans ((show Below wr.heap.size wr _ from bel).mono hws)).grown hg (by simp;omega) fun k e => (HQ.out.2.1.lt k e).1⟩)
     clear hown hg;go_wp2_with fail
     go_roundw
     case rel => exact ⟨k + 1,by omega,by go_num,by rw [HSt.out];exact H9.out.1,H9.out.2⟩
     case measure => simp [Go.RowKit.intOf];omega
    case neg =>
     obtain rfl : m = k := by omega
     clear hrow hb;go_wp2_with fail
     go_roundw
     case rel => exact ⟨i + 1,by omega,by go_num,by rw [him2];exact HR.out.1,HR.out.2⟩
     case measure => simp [Go.RowKit.intOf];omega
  case neg =>
   obtain rfl : n = i := by omega
   obtain ⟨N,hN⟩ : ∃ N,n * m = N := ⟨_,rfl⟩;have hNp : 0 < N := by rw [← hN];exact Nat.mul_pos (by omega) (by omega)
   rw [hN] at hrow hNm ⊢
   have hit := RowL.itms (base := w.heap.size) (l := gridL 3 m N) (A := A8) (c := c8) (w := wr) (by rw [gridL_len];exact hrow)
   rw [gridL_len] at hit
   have HMa := Lib.hid (fun W (hW : Below wr.heap.size wr W) => made22_any A8 N c8 (gridL 3 m N) 3 W ((hit.below hW).moreJ hW.size) (by omega) (fun p hp => by
    obtain ⟨j,_,rfl⟩ := gridL_mem hp
    exact (show 2 ≤ 1000000 by decide)))
   have HGp := Lib.hid (show madeP (gridL 3 m N) = gridL 3 m N from grid_put (by decide) (by omega) (by omega))
   have HB := Lib.hid hb;have e7 : (n : Int) * (m : Int) = (N : Int) := by rw [← hN];push_cast;rfl
   have w7 := wr64 N (by omega)
   have HNn := Lib.hid hN;clear hrow hit hb hN
   go_wp2_with (go_at_call 9;(refine (HMa.out _ bel).mono ?_);rintro e w2 ⟨ta,ma,rfl,hm2,hb2⟩;rw [HGp.out] at hm2;have HM2 := Lib.hid hm2;clear hm2;have HB2 := Lib.hid (HB.out.trans ((show Below wr.heap.size wr w2 from bel).mono HB.out.size));clear hb2)
   have hg := grid_gap (n := n) (m := m) (by omega) (by omega) (by omega) (by omega)
   rw [HNn.out] at hg;have HPQ := Lib.hid (sides22d HM2.out (by rw [gridL_len];omega) 0 N N hg.1 hg.2.1 hg.2.2)
   clear hg HM2
   go_wp2_with (first
    | (go_at_call 15;(refine ((HPQ.out _ bel).1).mono ?_);rintro e w4 ⟨A4,c4,rfl,hb4⟩;obtain ⟨hc4,hf4⟩ := bcell hb4;have hz4 := hb4.size;(try simp at hz4))
    | (go_at_call 11;(refine ((HPQ.out _ bel).2.1).mono ?_);rintro e w5 ⟨A5,c5,rfl,_,hb5⟩;obtain ⟨hc5,hf5⟩ := bcell hb5;have hz5 := hb5.size;(try simp at hz5))
    | (go_at_call 12;(refine ((HPQ.out _ bel).2.2).mono ?_);rintro e w6 ⟨A6,c6,rfl,hb6⟩;obtain ⟨hc6,hf6⟩ := bcell hb6;have hz6 := hb6.size;(try simp at hz6))
    | (go_at_call 8;(with_reducible refine (HA.out _).mono ?_);rintro e wa ⟨rfl,hba⟩;obtain ⟨hca,hfa⟩ := bcell hba;have hza := hba.size;(try simp at hza)))
   go_ret;exact ⟨rfl,HB2.out.trans ((show Below w2.heap.size w2 _ from bel).mono HB2.out.size)⟩
theorem joinGrid_one (n m : Nat) (hn1 : 1 ≤ n) (hn8 : n ≤ 8) (hm1 : 1 ≤ m) (hm8 : m ≤ 8) (w : World) : Calls Tryz.prog 5 #[.int .i64 n,.int .i64 m,.bool false] w (Ret w (.bool true)) := by
 have HA := Lib.hid awake22_any;have d1 : decide ((n : Int) < 1) = false := by rw [decide_eq_false_iff_not];omega
 have d2 : decide ((8 : Int) < (n : Int)) = false := by rw [decide_eq_false_iff_not];omega
 have d3 : decide ((m : Int) < 1) = false := by rw [decide_eq_false_iff_not];omega
 have d4 : decide ((8 : Int) < (m : Int)) = false := by rw [decide_eq_false_iff_not];omega
 obtain ⟨i0,hi,iz0,iz1,iz2⟩ := info_parts Tryz.infoMiM;have hNm : n * m ≤ 8 * 8 := Nat.mul_le_mul hn8 hm8
 go_enter Tryz.func5,Tryz.ntmps5
 go_wp2_with fail;clear d1 d2 d3 d4
 go_loopw [8,9] (fun v8 vi wr => ∃ i : Nat,i ≤ n ∧ vi = .int .i64 i ∧ RowL w.heap.size wr v8 (gridL 2 m (i * m)) ∧ Below w.heap.size w wr) (fun _ vi _ => n - (Go.RowKit.intOf vi).toNat)
 case atStart => exact ⟨0,Nat.zero_le _,rfl,by rw [Nat.zero_mul];exact RowL.nil _ _,bel⟩
 case round =>
  obtain ⟨i,hin,rfl,hrow,hb⟩ := hrel;obtain ⟨A8,c8,hv8⟩ := hrow.form;rw [gridL_len] at hv8;subst hv8
  by_cases hlt : i < n
  case pos =>
   have hltI : (i : Int) < (n : Int) := by omega
   have HR := Lib.hid (And.intro hrow hb);have him : i * m ≤ 8 * 8 := Nat.mul_le_mul (by omega) hm8
   have him2 : (i + 1) * m = i * m + m := Nat.succ_mul _ _;clear hrow hb;go_wp2_with fail
   go_loopw [8, 10] (fun v8 vk wr => ∃ k : Nat, k ≤ m ∧ vk = .int .i64 k ∧ RowL w.heap.size wr v8 (gridL 2 m (i * m + k)) ∧ Below w.heap.size w wr) (fun _ vk _ => m - (Go.RowKit.intOf vk).toNat)
   case atStart => exact ⟨0, Nat.zero_le _, rfl, HR.out.1, HR.out.2⟩
   case round =>
    clear HR;obtain ⟨k,hkm,rfl,hrow,hb⟩ := hrel;obtain ⟨A9,c9,hv9⟩ := hrow.form;rw [gridL_len] at hv9;subst hv9;have HR := Lib.hid (And.intro hrow hb)
    by_cases hlk : k < m
    case pos =>
     have hlkI : (k : Int) < (m : Int) := by omega
     obtain ⟨Li,q0,q1,q2⟩ := hrow;rw [gridL_len] at q1;have HQ := Lib.hid (And.intro q0 (And.intro q1 q2));have hst := grid_step (s := 2) (i := i) hlk;obtain ⟨j,hj⟩ : ∃ j,i * m + k = j := ⟨_,rfl⟩;have hj100 : j ≤ 100 := by omega
     obtain ⟨q,hq⟩ : ∃ q,i * m = q := ⟨_,rfl⟩;obtain ⟨a,ha⟩ : ∃ a,2 * i = a := ⟨_,rfl⟩;obtain ⟨b,hbb⟩ : ∃ b,2 * k = b := ⟨_,rfl⟩;obtain ⟨a2,ha2⟩ : ∃ x,a + 2 = x := ⟨_,rfl⟩;obtain ⟨b2,hb2⟩ : ∃ x,b + 2 = x := ⟨_,rfl⟩;have e1 : (2 : Int) * (i : Int) = (a : Int) := by rw [← ha];push_cast;rfl
     have e2 : (2 : Int) * (k : Int) = (b : Int) := by rw [← hbb];push_cast;rfl
     have e3 : (i : Int) * (m : Int) = (q : Int) := by rw [← hq];push_cast;rfl
     have e4 : (q : Int) + (k : Int) = (j : Int) := by rw [← hj,← hq];push_cast;rfl
     have e5 : (a : Int) + 2 = (a2 : Int) := by omega
     have e6 : (b : Int) + 2 = (b2 : Int) := by omega
     have w1 := wr64 a (by omega)
     have w2 := wr64 b (by omega)
     have w3 := wr64 q (by omega)
     have w4 := wr64 j (by omega)
     have w5 := wr64 a2 (by omega)
     have w6 := wr64 b2 (by omega)
     have HOb : Hid (obG 2 i k = ⟨3,[⟨(a : Int),(b : Int)⟩,⟨(a2 : Int),(b2 : Int)⟩]⟩) := Lib.hid (by unfold obG;rw [ha,hbb,ha2,hb2])
     rw [hj] at hst HQ HR ⊢
     have HSt := Lib.hid hst;have hmx : j + 1 ≤ maxLen := by unfold maxLen;omega
     have hmb : (j + 1) * 40 ≤ 140737488355328 := by omega
     have hone : ∀ u ∈ [Value.int .i64 (j : Int),.int .i64 3,.slice (some ⟨wr.heap.size + 1,0,none⟩) 2 2],u.oneCell' = true := by simp [Value.oneCell']
     have hws := hb.size;clear q0 q1 q2 hst hb ha hbb ha2 hb2
     go_wp2_with (at_builtin;go_must (refine wpList_append_own _ rfl _ _ 22 rfl w.heap.size 52 i0 (.agg #[.int .i64 0,.int .i64 0,.slice none 0 0]) 3 40 Tryz.underlying22 hi iz0 iz1 iz2 rfl (by decide) _ _ _ rfl (own_kept HQ.out.2.1 (grown_below bel) (by simp)) _ _ _ [.int .i64 (j : Int),.int .i64 3,.slice (some ⟨wr.heap.size + 1,0,none⟩) 2 2] rfl rfl ?c1 hone hmx hmb ?c5 ?_))
     case c1 => exact three_atL (by simp)
     case c5 => first | omega | (simp;omega)
     intro v9 w9 hown hg _
     have H9 := Lib.hid (show RowL w.heap.size w9 v9 (gridL 2 m j ++ [((j : Int),obG 2 i k)]) ∧ Below w.heap.size w w9 from
      ⟨rowL_snoc (ob := obG 2 i k) (ov := .slice (some ⟨wr.heap.size + 1,0,none⟩) 2 2) HQ.out.1 (by rw [gridL_len];exact HQ.out.2.1) HQ.out.2.2 (show Below wr.heap.size wr _ from bel) (show 2 ≤ 1000000 by decide) (by rw [HOb.out];exact own_newP (xs := [.int .i64 (a : Int),.int .i64 (b : Int),.int .i64 (a2 : Int),.int .i64 (b2 : Int)]) blkA (by omega) rfl (by decide)) (by rw [gridL_len];exact hown) hg,
       (HR.out.2.trans ((show Below wr.heap.size wr _ from bel).mono hws)).grown hg (by simp;omega) fun k e => (HQ.out.2.1.lt k e).1⟩)
     clear hown hg;go_wp2_with fail
     go_roundw
     case rel => exact ⟨k + 1,by omega,by go_num,by rw [HSt.out];exact H9.out.1,H9.out.2⟩
     case measure => simp [Go.RowKit.intOf];omega
    case neg =>
     obtain rfl : m = k := by omega
     clear hrow hb;go_wp2_with fail
     go_roundw
     case rel => exact ⟨i + 1,by omega,by go_num,by rw [him2];exact HR.out.1,HR.out.2⟩
     case measure => simp [Go.RowKit.intOf];omega
  case neg =>
   obtain rfl : n = i := by omega
   obtain ⟨N,hN⟩ : ∃ N,n * m = N := ⟨_,rfl⟩;have hNp : 0 < N := by rw [← hN];exact Nat.mul_pos (by omega) (by omega)
   rw [hN] at hrow hNm ⊢
   have hit := RowL.itms (base := w.heap.size) (l := gridL 2 m N) (A := A8) (c := c8) (w := wr) (by rw [gridL_len];exact hrow)
   rw [gridL_len] at hit
   have HMa := Lib.hid (fun W (hW : Below wr.heap.size wr W) => made22_any A8 N c8 (gridL 2 m N) 3 W ((hit.below hW).moreJ hW.size) (by omega) (fun p hp => by
    obtain ⟨j,_,rfl⟩ := gridL_mem hp
    exact (show 2 ≤ 1000000 by decide)))
   have HGp := Lib.hid (show madeP (gridL 2 m N) = gridL 2 m N from grid_put (by decide) (by omega) (by omega))
   have HB := Lib.hid hb;have e7 : (n : Int) * (m : Int) = (N : Int) := by rw [← hN];push_cast;rfl
   have w7 := wr64 N (by omega)
   have HNn := Lib.hid hN;clear hrow hit hb hN
   go_wp2_with (go_at_call 9;(refine (HMa.out _ bel).mono ?_);rintro e w2 ⟨ta,ma,rfl,hm2,hb2⟩;rw [HGp.out] at hm2;have HM2 := Lib.hid hm2;clear hm2;have HB2 := Lib.hid (HB.out.trans ((show Below wr.heap.size wr w2 from bel).mono HB.out.size));clear hb2)
   have hg := grid_one (n := n) (m := m) (by omega) (by omega) (by omega) (by omega)
   rw [HNn.out] at hg;obtain ⟨ids,hids⟩ : ∃ l,idsO (gridL 2 m N) = l := ⟨_,rfl⟩;obtain ⟨n1,hn'⟩ : ∃ x,n - 1 = x := ⟨_,rfl⟩;obtain ⟨m1,hm'⟩ : ∃ x,m - 1 = x := ⟨_,rfl⟩;obtain ⟨q1,hq1⟩ : ∃ x,n1 * m = x := ⟨_,rfl⟩;obtain ⟨q2,hq2⟩ : ∃ x,n * m1 = x := ⟨_,rfl⟩;obtain ⟨q4,hq4⟩ : ∃ x,2 * n1 = x := ⟨_,rfl⟩;obtain ⟨q5,hq5⟩ : ∃ x,q4 * m1 = x := ⟨_,rfl⟩;obtain ⟨q3,hq3⟩ : ∃ x,q1 + q2 = x := ⟨_,rfl⟩;obtain ⟨np,hnp⟩ : ∃ x,q3 + q5 = x := ⟨_,rfl⟩;have b1 : q1 ≤ 8 * 8 := by rw [← hq1];exact Nat.mul_le_mul (by omega) hm8
   have b2 : q2 ≤ 8 * 8 := by rw [← hq2];exact Nat.mul_le_mul hn8 (by omega)
   have b5 : q5 ≤ 16 * 8 := by rw [← hq5];exact Nat.mul_le_mul (by omega) (by omega)
   have e10 : (n : Int) - 1 = (n1 : Int) := by omega
   have e11 : (m : Int) - 1 = (m1 : Int) := by omega
   have e12 : (n1 : Int) * (m : Int) = (q1 : Int) := by rw [← hq1];push_cast;rfl
   have e13 : (n : Int) * (m1 : Int) = (q2 : Int) := by rw [← hq2];push_cast;rfl
   have e14 : (q1 : Int) + (q2 : Int) = (q3 : Int) := by omega
   have e15 : (2 : Int) * (n1 : Int) = (q4 : Int) := by omega
   have e16 : (q4 : Int) * (m1 : Int) = (q5 : Int) := by rw [← hq5];push_cast;rfl
   have e17 : (q3 : Int) + (q5 : Int) = (np : Int) := by omega
   have x1 := wr64 n1 (by omega)
   have x2 := wr64 m1 (by omega)
   have x3 := wr64 q1 (by omega)
   have x4 := wr64 q2 (by omega)
   have x5 := wr64 q3 (by omega)
   have x6 := wr64 q4 (by omega)
   have x7 := wr64 q5 (by omega)
   have x8 := wr64 np (by omega)
   have h1 : (upJ (pairsP (gridL 2 m N) (gridL 2 m N))).length = np := by rw [hg.1,hn',hm',hq1,hq2,hq4,hq5,hq3,hnp]
   have h2 : grpS (tchC (gridL 2 m N)) (idsO (gridL 2 m N)) = [ids] := by rw [hg.2.1,hids]
   have h3 : ids.length = N := by rw [← hids];exact hg.2.2
   by_cases hN1 : N = 1
   case pos =>
    have hal : (aloneS (grpS (tchC (gridL 2 m N)) (idsO (gridL 2 m N)))).length = 1 := by
     rw [h2]
     show ((if ids.length = 1 then ids.take 1 else []) ++ []).length = 1
     rw [if_pos (by omega), List.append_nil, List.length_take]
     omega
    have hPQ := sides22d HM2.out (by rw [gridL_len];omega) np 1 1 h1 (by rw [h2];rfl) hal
    rw [h2] at hPQ;have HPQ := Lib.hid hPQ;have H3 := Lib.hid h3;have t1 : ((N : Int) == 1) = true := by rw [beq_iff_eq];omega
    clear hg HM2 hids hn' hm' hq1 hq2 hq3 hq4 hq5 hnp h1 h2 h3 hal hPQ hN1 hNp hNm
    go_wp2_with (first
     | (go_at_call 15;(refine ((HPQ.out _ bel).1).mono ?_);rintro e w4 ⟨A4,c4,rfl,hb4⟩;obtain ⟨hc4,hf4⟩ := bcell hb4;have hz4 := hb4.size;(try simp at hz4))
     | (go_at_call 11;(refine ((HPQ.out _ bel).2.1).mono ?_);rintro e w5 ⟨A5,c5,rfl,hr5,hb5⟩;obtain ⟨b5,d5,A5',c5',hv5,hbl5,r5,_⟩ := hr5.at_ (k := 0) rfl;injection hv5 with hv5 hv6 hv7;subst hv5 hv7;clear hv6;rw [H3.out] at r5;clear hr5;obtain ⟨hc5,hf5⟩ := bcell hb5;have hz5 := hb5.size;(try simp at hz5))
     | (go_at_call 12;(refine ((HPQ.out _ bel).2.2).mono ?_);rintro e w6 ⟨A6,c6,rfl,hb6⟩;obtain ⟨hc6,hf6⟩ := bcell hb6;have hz6 := hb6.size;(try simp at hz6))
     | (go_at_call 8;(with_reducible refine (HA.out _).mono ?_);rintro e wa ⟨rfl,hba⟩;obtain ⟨hca,hfa⟩ := bcell hba;have hza := hba.size;(try simp at hza)))
    go_ret;exact ⟨rfl,HB2.out.trans ((show Below w2.heap.size w2 _ from bel).mono HB2.out.size)⟩
   case neg =>
    have hal : (aloneS (grpS (tchC (gridL 2 m N)) (idsO (gridL 2 m N)))).length = 0 := by
     rw [h2]
     show ((if ids.length = 1 then ids.take 1 else []) ++ []).length = 0
     rw [if_neg (by omega)]
     rfl
    have hPQ := sides22d HM2.out (by rw [gridL_len];omega) np 1 0 h1 (by rw [h2];rfl) hal
    rw [h2] at hPQ;have HPQ := Lib.hid hPQ;have H3 := Lib.hid h3;have t1 : ((N : Int) == 1) = false := by rw [beq_eq_false_iff_ne];omega
    clear hg HM2 hids hn' hm' hq1 hq2 hq3 hq4 hq5 hnp h1 h2 h3 hal hPQ hN1 hNp hNm
    go_wp2_with (first
     | (go_at_call 15;(refine ((HPQ.out _ bel).1).mono ?_);rintro e w4 ⟨A4,c4,rfl,hb4⟩;obtain ⟨hc4,hf4⟩ := bcell hb4;have hz4 := hb4.size;(try simp at hz4))
     | (go_at_call 11;(refine ((HPQ.out _ bel).2.1).mono ?_);rintro e w5 ⟨A5,c5,rfl,hr5,hb5⟩;obtain ⟨b5,d5,A5',c5',hv5,hbl5,r5,_⟩ := hr5.at_ (k := 0) rfl;injection hv5 with hv5 hv6 hv7;subst hv5 hv7;clear hv6;rw [H3.out] at r5;clear hr5;obtain ⟨hc5,hf5⟩ := bcell hb5;have hz5 := hb5.size;(try simp at hz5))
     | (go_at_call 12;(refine ((HPQ.out _ bel).2.2).mono ?_);rintro e w6 ⟨A6,c6,rfl,hb6⟩;obtain ⟨hc6,hf6⟩ := bcell hb6;have hz6 := hb6.size;(try simp at hz6))
     | (go_at_call 8;(with_reducible refine (HA.out _).mono ?_);rintro e wa ⟨rfl,hba⟩;obtain ⟨hca,hfa⟩ := bcell hba;have hza := hba.size;(try simp at hza)))
    go_ret;exact ⟨rfl,HB2.out.trans ((show Below w2.heap.size w2 _ from bel).mono HB2.out.size)⟩
theorem joinGrid_walk (x y : Int) (gap : Bool) (w : World) : Calls Tryz.prog 5 #[.int .i64 x,.int .i64 y,.bool gap] w (Ret w (.bool true)) := by
 by_cases h : (1 ≤ x ∧ x ≤ 8) ∧ (1 ≤ y ∧ y ≤ 8)
 case pos =>
  obtain ⟨n,rfl⟩ : ∃ n : Nat,x = n := ⟨x.toNat,by omega⟩
  obtain ⟨m,rfl⟩ : ∃ n : Nat,y = n := ⟨y.toNat,by omega⟩
  cases gap with
  | true => exact joinGrid_gap n m (by omega) (by omega) (by omega) (by omega) w
  | false => exact joinGrid_one n m (by omega) (by omega) (by omega) (by omega) w
 case neg =>
  have HA := Lib.hid awake22_any;obtain ⟨b1,h1⟩ : ∃ b,decide (x < 1) = b := ⟨_,rfl⟩;obtain ⟨b2,h2⟩ : ∃ b,decide (8 < x) = b := ⟨_,rfl⟩;obtain ⟨b3,h3⟩ : ∃ b,decide (y < 1) = b := ⟨_,rfl⟩;obtain ⟨b4,h4⟩ : ∃ b,decide (8 < y) = b := ⟨_,rfl⟩
  have hor : (b1 || b2 || b3 || b4) = true := by
   rw [← h1, ← h2, ← h3, ← h4]
   simp only [Bool.or_eq_true, decide_eq_true_eq]
   omega
  clear h
  cases b1 with
  | true =>
    clear h2 h3 h4 hor
    go_enter Tryz.func5, Tryz.ntmps5
    go_wp2_with (go_at_call 8;(with_reducible refine (HA.out _).mono ?_);rintro e wa ⟨rfl,hba⟩;obtain ⟨hca,hfa⟩ := bcell hba;have hza := hba.size;(try simp at hza))
    go_ret;exact ⟨rfl,bel⟩
  | false =>
    cases b2 with
    | true =>
      clear h3 h4 hor
      go_enter Tryz.func5, Tryz.ntmps5
      go_wp2_with (go_at_call 8;(with_reducible refine (HA.out _).mono ?_);rintro e wa ⟨rfl,hba⟩;obtain ⟨hca,hfa⟩ := bcell hba;have hza := hba.size;(try simp at hza))
      go_ret;exact ⟨rfl,bel⟩
    | false =>
      cases b3 with
      | true =>
        clear h4 hor
        go_enter Tryz.func5, Tryz.ntmps5
        go_wp2_with (go_at_call 8;(with_reducible refine (HA.out _).mono ?_);rintro e wa ⟨rfl,hba⟩;obtain ⟨hca,hfa⟩ := bcell hba;have hza := hba.size;(try simp at hza))
        go_ret;exact ⟨rfl,bel⟩
      | false =>
        cases b4 with
        | true =>
          clear hor
          go_enter Tryz.func5, Tryz.ntmps5
          go_wp2_with (go_at_call 8;(with_reducible refine (HA.out _).mono ?_);rintro e wa ⟨rfl,hba⟩;obtain ⟨hca,hfa⟩ := bcell hba;have hza := hba.size;(try simp at hza))
          go_ret;exact ⟨rfl,bel⟩
        | false => exact absurd hor (by decide)
end Go.Proofs.YtcbjmcnebmhgpaaGreat
