/-
  pergolalaw22: the walk of JoinGrid. (Printed by genGr.py.)
  pergolalaw22: the walk of JoinChain.
-/
import Derived.Test.YtcbjmcnebmhgpaaGreatKLawJr
import Derived.Test.YtcbjmcnebmhgpaaGreatKPlainGrid
import Derived.Test.YtcbjmcnebmhgpaaGreatKDelE
set_option linter.unusedVariables false
set_option linter.unusedSimpArgs false
set_option maxHeartbeats 8000000
set_option maxRecDepth 20000
namespace Go.Proofs.YtcbjmcnebmhgpaaGreat
open Go Go.RowKit Pg
theorem wr64 (k : Nat) (h : k ≤ 1000000) : IntKind.i64.wrap (k : Int) = (k : Int) := IntWalk.i64_in _ ⟨by omega,by omega⟩
theorem three_atL {w : World} {a b c : Value} {t : TypeId} {g : Nat} (hg : w.heap.size = g) : ∀ (j : Nat) (v : Value),[a,b,c][j]? = some v → (w.alloc (.cells #[a,b,c] t)).cell? ((⟨g,0,none⟩ : Addr).add j) = some v := by
 subst hg;exact three_atM
theorem obsT_del (id : Int) (m : List (Int × It)) : obsT (delK id m) = delK id (obsT m) := by
 unfold obsT delK
 rw [List.filter_map]
 rfl
theorem del22 {k : Int} {W0 w2 : World} {tb mm : Nat} {m : List (Int × Ob)} (h : MadeJ k W0 w2 tb mm m) (hm : m.length ≤ 100) (hsz : W0.heap.size ≤ w2.heap.size) {id : Int} (hid : id ∈ idsO m) (h0 : 0 ≤ id) (h1 : id ≤ 1000000) :
 ∀ W,Below w2.heap.size w2 W → Calls Tryz.prog 17 #[gP tb,.int .i64 id] W fun e w' => e = .returned .nilIface ∧ (∀ W',Below w'.heap.size w' W' → Told W' (some ⟨tb,0,none⟩) (delK id m)) ∧ Below W0.heap.size W w' := by
 obtain ⟨mA,own,imm,Z,t,L,hA,_,hown⟩ := h;have e1 : t.items.length = m.length := by rw [← hA.ot];unfold obsT;rw [List.length_map]
 obtain ⟨x,hx⟩ : ∃ x,getK id t.items = some x := by
  rw [← hA.ot] at hid;obtain ⟨p,hp,e⟩ := List.mem_map.1 hid;obtain ⟨⟨i,it⟩,hq,e2⟩ := List.mem_map.1 hp;subst e2
  simp only at e
  subst e;exact ⟨it,getK_mem hA.g.shape.rise hq⟩
 intro W hW;refine (delSome_any (clAt_cls k 3 false 0 (by decide)) (penAt_cls k 3 false 0) (hA.g.tr hW) (by omega) id ⟨by omega,by omega⟩ x hx).mono ?_
 rintro e w' ⟨rfl,t',own',imm',hG,hgr,_,hit⟩;refine ⟨rfl,fun W' hW' => ?_,turn_belowM hgr.turn (fun k hk => hown k (.inl hk)) (Nat.le_trans hsz hW.size)⟩
 have hl : t'.items.length ≤ 100000 := by
  rw [hit]
  have := delK_len id t.items
  omega
 have := told_tree (hG.tr hW') hl
 rwa [hit,obsT_del,hA.ot] at this
theorem joinChain_in (n : Nat) (h3 : 3 ≤ n) (h40 : n ≤ 40) (y : Int) (w : World) : Calls Tryz.prog 6 #[.int .i64 n,.int .i64 y] w (Ret w (.bool true)) := by
 have HA := Lib.hid awake22_any;have d1 : decide ((n : Int) < 3) = false := by rw [decide_eq_false_iff_not];omega
 have d2 : decide ((40 : Int) < (n : Int)) = false := by rw [decide_eq_false_iff_not];omega
 obtain ⟨i0,hi,iz0,iz1,iz2⟩ := info_parts Tryz.infoMiM;obtain ⟨n2,hn2⟩ : ∃ x,n - 2 = x := ⟨_,rfl⟩;have e1 : (n : Int) - 2 = (n2 : Int) := by omega
 have w1' := wr64 n2 (by omega)
 have HRo := Lib.hid (fun W => round_any y n2 (by omega) (by omega) W)
 have hrl : roundS y n2 < n2 := roundS_lt (by omega)
 obtain ⟨r,hr⟩ : ∃ x,roundS y n2 = x := ⟨_,rfl⟩;rw [hr] at HRo hrl;obtain ⟨o,ho⟩ : ∃ x,1 + r = x := ⟨_,rfl⟩;have e2 : (1 : Int) + (r : Int) = (o : Int) := by omega
 have w2' := wr64 o (by omega)
 have hbd : 0 < o ∧ o + 1 < n := ⟨by omega,by omega⟩
 have HBd := Lib.hid hbd;clear hr
 go_enter Tryz.func6,Tryz.ntmps6
 go_wp2_with (go_at_call 16;(with_reducible refine (HRo.out _).mono ?_);rintro e wz ⟨rfl,hbz⟩;obtain ⟨hcz,hfz⟩ := bcell hbz;have hzz := hbz.size;(try simp at hzz))
 have HBz := Lib.hid (show Below w.heap.size w wz from bel)
 clear d1 d2 e1 e2 hcz hfz hbz hzz
 go_loopw [5,6] (fun v5 vi wr => ∃ i : Nat,i ≤ n ∧ vi = .int .i64 i ∧ RowL w.heap.size wr v5 (chainL i) ∧ Below w.heap.size w wr) (fun _ vi _ => n - (Go.RowKit.intOf vi).toNat)
 case atStart => exact ⟨0,Nat.zero_le _,rfl,RowL.nil _ _,HBz.out⟩
 case round =>
  clear HBz;obtain ⟨i,hin,rfl,hrow,hb⟩ := hrel;obtain ⟨A8,c8,hv8⟩ := hrow.form;rw [chainL_len] at hv8;subst hv8
  by_cases hlt : i < n
  case pos =>
   have hltI : (i : Int) < (n : Int) := by omega
   have HR := Lib.hid (And.intro hrow hb);obtain ⟨Li,q0,q1,q2⟩ := hrow;rw [chainL_len] at q1;have HQ := Lib.hid (And.intro q0 (And.intro q1 q2));have hst := chainL_succ i;obtain ⟨a,ha⟩ : ∃ a,10 * i = a := ⟨_,rfl⟩;obtain ⟨a2,ha2⟩ : ∃ x,a + 10 = x := ⟨_,rfl⟩;have e1 : (10 : Int) * (i : Int) = (a : Int) := by rw [← ha];push_cast;rfl
   have e5 : (a : Int) + 10 = (a2 : Int) := by omega
   have w1 := wr64 a (by omega)
   have w5 := wr64 a2 (by omega)
   have HOb : Hid (obC i = ⟨2,[⟨(a : Int),(a2 : Int)⟩]⟩) := Lib.hid (by unfold obC;rw [ha,ha2])
   have HSt := Lib.hid hst;have hmx : i + 1 ≤ maxLen := by unfold maxLen;omega
   have hmb : (i + 1) * 40 ≤ 140737488355328 := by omega
   have hone : ∀ u ∈ [Value.int .i64 (i : Int),.int .i64 2,.slice (some ⟨wr.heap.size,0,none⟩) 1 1],u.oneCell' = true := by simp [Value.oneCell']
   have hws := hb.size;clear q0 q1 q2 hst hb ha ha2
   go_wp2_with (at_builtin;go_must (refine wpList_append_own _ rfl _ _ 22 rfl w.heap.size 52 i0 (.agg #[.int .i64 0,.int .i64 0,.slice none 0 0]) 3 40 Tryz.underlying22 hi iz0 iz1 iz2 rfl (by decide) _ _ _ rfl (own_kept HQ.out.2.1 (grown_below bel) (by simp)) _ _ _ [.int .i64 (i : Int),.int .i64 2,.slice (some ⟨wr.heap.size,0,none⟩) 1 1] rfl rfl ?c1 hone hmx hmb ?c5 ?_))
   case c1 => exact three_atL (by simp)
   case c5 => first | omega | (simp;omega)
   intro v9 w9 hown hg _
   have H9 := Lib.hid (show RowL w.heap.size w9 v9 (chainL i ++ [((i : Int),obC i)]) ∧ Below w.heap.size w w9 from
    ⟨rowL_snoc (ob := obC i) (ov := .slice (some ⟨wr.heap.size,0,none⟩) 1 1) HQ.out.1 (by rw [chainL_len];exact HQ.out.2.1) HQ.out.2.2 (show Below wr.heap.size wr _ from bel) (show 1 ≤ 1000000 by decide) (by rw [HOb.out];exact own_newP (xs := [.int .i64 (a : Int),.int .i64 (a2 : Int)]) blkA (by omega) rfl (by decide)) (by rw [chainL_len];exact hown) hg,
     (HR.out.2.trans ((show Below wr.heap.size wr _ from bel).mono hws)).grown hg (by simp;omega) fun k e => (HQ.out.2.1.lt k e).1⟩)
   clear hown hg;go_wp2_with fail
   go_roundw
   case rel => exact ⟨i + 1,by omega,by go_num,by rw [HSt.out];exact H9.out.1,H9.out.2⟩
   case measure => simp [Go.RowKit.intOf];omega
  case neg =>
   obtain rfl : n = i := by omega
   have hit := RowL.itms (base := w.heap.size) (l := chainL n) (A := A8) (c := c8) (w := wr) (by rw [chainL_len];exact hrow)
   rw [chainL_len] at hit
   have HMa := Lib.hid (fun W (hW : Below wr.heap.size wr W) => made22_any A8 n c8 (chainL n) 3 W ((hit.below hW).moreJ hW.size) (by omega) (fun p hp => by
    obtain ⟨j,_,rfl⟩ := chainL_mem hp
    exact (show 1 ≤ 1000000 by decide)))
   have HGp := Lib.hid (show madeP (chainL n) = chainL n from chain_put (by omega))
   have HB := Lib.hid hb;clear hrow hit hb
   go_wp2_with (go_at_call 9;(refine (HMa.out _ bel).mono ?_);rintro e w2 ⟨ta,ma,rfl,hm2,hb2⟩;rw [HGp.out] at hm2;have HM2 := Lib.hid hm2;clear hm2;have HB2 := Lib.hid hb2;clear hb2)
   have HB02 := Lib.hid (HB.out.trans (HB2.out.mono HB.out.size));have hc1 := chain_one (n := n) (by omega) (by omega)
   have hc2 := chain_two (n := n) HBd.out.1 HBd.out.2 (by omega)
   obtain ⟨hr,hidb,_,ht⟩ := side_told HM2.out (by rw [chainL_len];omega)
   have hdel := del22 HM2.out (by rw [chainL_len];omega) HB2.out.size (id := (o : Int)) (by rw [idsC];exact List.mem_map.2 ⟨o,List.mem_range.2 (by have := HBd.out.2;omega),rfl⟩) (by omega) (by have := HBd.out.2;omega)
   have hg1 := fun W (hW : Below w2.heap.size w2 W) => Groups_any (w := W) (p := some ⟨ta,0,none⟩) (xa := chainL n) (fun W' hW' => ht W' (hW.trans (hW'.mono hW.size))) hr hidb (by rw [chainL_len];omega)
   have hg2 := fun (w6 : World) (h6 : ∀ W',Below w6.heap.size w6 W' → Told W' (some ⟨ta,0,none⟩) (delK (o : Int) (chainL n))) W (hW : Below w6.heap.size w6 W) => Groups_any (w := W) (p := some ⟨ta,0,none⟩) (xa := delK (o : Int) (chainL n)) (fun W' hW' => h6 W' (hW.trans (hW'.mono hW.size))) (hr.del _) (fun x hx => hidb x (mem_delK.1 hx).1) (by have := delK_len (o : Int) (chainL n);rw [chainL_len] at this;omega)
   rw [hc1.1] at hg1;rw [hc2] at hg2;obtain ⟨ids,hids⟩ : ∃ l,idsO (chainL n) = l := ⟨_,rfl⟩;rw [hids] at hg1 hc1;have HG1 := Lib.hid hg1;have HG2 := Lib.hid hg2;have HIl := Lib.hid hc1.2;have HDl := Lib.hid hdel;obtain ⟨n1,hn1⟩ : ∃ x,n - 1 = x := ⟨_,rfl⟩;obtain ⟨p,hp⟩ : ∃ x,n1 - o = x := ⟨_,rfl⟩;obtain ⟨o1,ho1⟩ : ∃ x,o + 1 = x := ⟨_,rfl⟩;have hbo := HBd.out;have e3 : (n : Int) - 1 = (n1 : Int) := by omega
   have e4 : (n1 : Int) - (o : Int) = (p : Int) := by omega
   have e5 : (o : Int) + 1 = (o1 : Int) := by omega
   have w3 := wr64 n1 (by omega)
   have w4 := wr64 p (by omega)
   have w5 := wr64 o1 (by omega)
   have HLa : Hid (((List.range o).map fun (j : Nat) => (j : Int)).length = o) := Lib.hid (by simp)
   have HLb : Hid (((List.range (n - 1 - o)).map fun (j : Nat) => ((o + 1 + j : Nat) : Int)).length = p) := Lib.hid (by simp;omega)
   have HXa : Hid (((List.range o).map fun (j : Nat) => (j : Int))[0]? = some 0) := Lib.hid (by rw [List.getElem?_map,List.getElem?_range hbo.1];rfl)
   have HXb : Hid (((List.range (n - 1 - o)).map fun (j : Nat) => ((o + 1 + j : Nat) : Int))[0]? = some (o1 : Int)) := Lib.hid (by rw [List.getElem?_map,List.getElem?_range (by omega),← ho1];rfl)
   generalize ((List.range o).map fun (j : Nat) => (j : Int)) = la at *
   generalize ((List.range (n - 1 - o)).map fun (j : Nat) => ((o + 1 + j : Nat) : Int)) = lb at *
   clear hc1 hc2 hr hidb ht hdel hg1 hg2 hids hn1 hp ho1 hbo HM2
   go_wp2_with (first
    | (go_at_call 11;(have _q := HT6);(refine ((HG2.out _ HT6.out _ bel)).mono ?_);rintro e w7 ⟨v7,rfl,hr7,hb7⟩;obtain ⟨A7,c7,hv7⟩ := hr7.form;subst hv7;obtain ⟨b7,d7,A1,c1,hv7,hbl7,s0,hra⟩ := hr7.at_ (k := 0) rfl;injection hv7 with hv7 hv8 hv9;subst hv7 hv9;clear hv8;obtain ⟨b8,d8,A2,c2,hv7,hbl8,s1,hrb⟩ := hr7.at_ (k := 1) rfl;injection hv7 with hv7 hv8 hv9;injection hv7 with hv7;injection hv7 with hv7;subst hv7;clear hv8 hv9;rw [HLa.out] at s0 hra;rw [HLb.out] at s1 hrb;obtain ⟨x1,rfl,hxl1,x10⟩ := irow_at hra HXa.out;obtain ⟨x2,rfl,hxl2,x20⟩ := irow_at hrb HXb.out;have HBf := Lib.hid (show Below w6.heap.size w6 w7 from bel);clear hr7 hra hrb)
    | (go_at_call 11;(refine ((HG1.out _ bel)).mono ?_);rintro e w5 ⟨v5,rfl,hr5,hb5⟩;obtain ⟨A5,c5,hv5⟩ := hr5.form;subst hv5;obtain ⟨b5,d5,A5',c5',hv5,hbl5,r5,_⟩ := hr5.at_ (k := 0) rfl;injection hv5 with hv5 hv6 hv7;subst hv5 hv7;clear hv6;rw [HIl.out] at r5;clear hr5;have HB5 := Lib.hid (show Below w2.heap.size w2 w5 from bel);clear hb5)
    | (go_at_call 17;(refine ((HDl.out _ HB5.out)).mono ?_);rintro e w6 ⟨rfl,ht6,hb6⟩;have HT6 := Lib.hid ht6;clear ht6;have HB6 := Lib.hid (HB02.out.trans ((HB5.out.mono HB02.out.size).trans (hb6.mono HB.out.size)));clear hb6 r5 hbl5)
    | (go_at_call 8;(with_reducible refine (HA.out _).mono ?_);rintro e wa ⟨rfl,hba⟩;obtain ⟨hca,hfa⟩ := bcell hba;have hza := hba.size;(try simp at hza)))
   go_ret;exact ⟨rfl,HB6.out.trans ((HBf.out.trans ((show Below w7.heap.size w7 _ from bel).mono HBf.out.size)).mono HB6.out.size)⟩
theorem joinChain_walk (x y : Int) (w : World) : Calls Tryz.prog 6 #[.int .i64 x,.int .i64 y] w (Ret w (.bool true)) := by
 by_cases h : 3 ≤ x ∧ x ≤ 40
 case pos =>
  obtain ⟨n,rfl⟩ : ∃ n : Nat,x = n := ⟨x.toNat,by omega⟩
  exact joinChain_in n (by omega) (by omega) y w
 case neg =>
  have HA := Lib.hid awake22_any;obtain ⟨b1,h1⟩ : ∃ b,decide (x < 3) = b := ⟨_,rfl⟩;obtain ⟨b2,h2⟩ : ∃ b,decide (40 < x) = b := ⟨_,rfl⟩
  have hor : (b1 || b2) = true := by
   rw [← h1, ← h2]
   simp only [Bool.or_eq_true, decide_eq_true_eq]
   omega
  clear h
  cases b1 with
  | true =>
    clear h2 hor
    go_enter Tryz.func6, Tryz.ntmps6
    go_wp2_with (go_at_call 8;(with_reducible refine (HA.out _).mono ?_);rintro e wa ⟨rfl,hba⟩;obtain ⟨hca,hfa⟩ := bcell hba;have hza := hba.size;(try simp at hza))
    go_ret;exact ⟨rfl,bel⟩
  | false =>
    cases b2 with
    | true =>
      clear hor
      go_enter Tryz.func6, Tryz.ntmps6
      go_wp2_with (go_at_call 8;(with_reducible refine (HA.out _).mono ?_);rintro e wa ⟨rfl,hba⟩;obtain ⟨hca,hfa⟩ := bcell hba;have hza := hba.size;(try simp at hza))
      go_ret;exact ⟨rfl,bel⟩
    | false => exact absurd hor (by decide)
end Go.Proofs.YtcbjmcnebmhgpaaGreat
