/-
  pergolalaw22: the walk of JoinGroups.
-/
import Derived.Test.YtcbjmcnebmhgpaaGreatHAwk22
import Derived.Test.YtcbjmcnebmhgpaaGreatHGrpD
import Derived.Test.YtcbjmcnebmhgpaaGreatHItmO
set_option linter.unusedVariables false
set_option linter.unusedSimpArgs false
set_option maxHeartbeats 8000000
set_option maxRecDepth 20000
namespace Go.Proofs.YtcbjmcnebmhgpaaGreat
open Go Go.RowKit Pg
theorem side_told {k : Int} {W0 w2 : World} {ta ma : Nat} {a : List (Int × Ob)} (h : MadeJ k W0 w2 ta ma a) (ha : a.length ≤ 100) : Rising a ∧ (∀ x ∈ a,0 ≤ x.1 ∧ x.1 ≤ 1099511627776) ∧ (∀ x ∈ a,ckOb x.2 = 0) ∧ ∀ W,Below w2.heap.size w2 W → Told W (some ⟨ta,0,none⟩) a := by
 obtain ⟨mA,ownA,immA,ZA,tA,LA,hA,_,_⟩ := h;have e1 : tA.items.length = a.length := by rw [← hA.ot];unfold obsT;rw [List.length_map]
 have key : ∀ x ∈ a,(0 ≤ x.1 ∧ x.1 ≤ 1099511627776) ∧ ckOb x.2 = 0 := fun x hx => by
  rw [← hA.ot] at hx;obtain ⟨⟨i,it⟩,hm,e⟩ := List.mem_map.1 hx;obtain ⟨h1,h3,_⟩ := hA.g.its i it (getK_mem hA.g.shape.rise hm)
  rw [← e]
  exact ⟨h1,h3⟩
 refine ⟨by rw [← hA.ot];unfold obsT Rising;rw [List.pairwise_map];exact hA.g.shape.rise,fun x hx => (key x hx).1,fun x hx => (key x hx).2,fun W hW => ?_⟩
 have := told_tree (hA.g.tr hW) (by omega)
 rwa [hA.ot] at this
theorem sides22g {k : Int} {W0 w2 : World} {ta ma : Nat} {a : List (Int × Ob)} (h : MadeJ k W0 w2 ta ma a) (ha : a.length ≤ 50) :
 ∃ (m : Nat) (gs : List (List Int)),m ≤ 100 ∧ gs.length = m ∧ (aloneS gs).length ≤ 100 ∧ (∀ g ∈ gs,g.length ≤ 100) ∧ ∀ W,Below w2.heap.size w2 W →
  (Calls Tryz.prog 11 #[gP ta] W fun e w' => ∃ A c, e = .returned (.tuple #[.slice A m c, .nilIface]) ∧ RowsJ w' W.heap.size (.slice A m c) gs ∧ Below W.heap.size W w') ∧
  (Calls Tryz.prog 12 #[gP ta] W fun e w' => ∃ v, e = .returned (.tuple #[v, .nilIface]) ∧ w'.ownsRow W.heap.size 3 1 v (aloneS gs).length (idcs (aloneS gs)) ∧ Below W.heap.size W w') ∧
  (Calls Tryz.prog 13 #[gP ma] W fun e w' => ∃ A c, e = .returned (.slice A m c) ∧ RowsJ w' W.heap.size (.slice A m c) gs ∧ Below W.heap.size W w') := by
 obtain ⟨hr,hid,_,ht⟩ := side_told h (by omega)
 obtain ⟨mA,ownA,immA,ZA,tA,LA,hA,_,_⟩ := h;have e3 : LA.length = a.length := by rw [← hA.om];unfold obsM;rw [List.length_map]
 have hgl : (grpS (tchC a) (idsO a)).length ≤ 100 := by
  unfold grpS
  rw [List.length_map]
  refine Nat.le_trans (List.length_filter_le _ _) ?_;unfold idsO
  rw [List.length_map]
  omega
 have hgg : ∀ g ∈ grpS (tchC a) (idsO a),g.length ≤ 100 := fun g hg => by
  obtain ⟨r,_,rfl⟩ := List.mem_map.1 hg;refine Nat.le_trans (List.length_filter_le _ _) ?_;unfold idsO
  rw [List.length_map]
  omega
 refine ⟨_,grpS (tchC a) (idsO a),hgl,rfl,Nat.le_trans (aloneS_len _) hgl,hgg,fun W hW => ⟨?_,?_,?_⟩⟩
 · refine (Groups_any (fun W' hW' => ht W' (hW.trans (hW'.mono hW.size))) hr hid (by omega)).mono ?_
   rintro e w' ⟨v,rfl,h1,h2⟩;obtain ⟨A,c,rfl⟩ := h1.form;exact ⟨A,c,rfl,h1,h2⟩
 · exact Alone_any (fun W' hW' => ht W' (hW.trans (hW'.mono hW.size))) hr hid (by omega)
 · have := rGroups_any (hA.r.tr hW) (by omega)
   rw [hA.om] at this;refine this.mono ?_;rintro e w' ⟨v,rfl,h1,h2⟩;obtain ⟨A,c,rfl⟩ := h1.form;exact ⟨A,c,rfl,h1,h2⟩
theorem joinGroups_walk (n c : Nat) (A : Option Addr) (l : List (Int × Ob)) (z : Int) (w : World) (hl : ItmsAt w w.heap.size A n l) (hn : n ≤ 9223372036854775807) :
 Calls Tryz.prog 4 #[.slice A n c,.int .i64 z] w (Ret w (.bool true)) := by
 have HSa := Lib.hid (fun W (hW : Below w.heap.size w W) => small22_any w.heap.size n c A l W (hl.below hW) hW.size hn)
 have HA := Lib.hid awake22_any;have HL := Lib.hid hl;clear hl
 go_enter Tryz.func4,Tryz.ntmps4
 go_wp2_with (first
  | (go_at_call 7;(refine (HSa.out _ bel).mono ?_);rintro e w1 ⟨s,rfl,hs,hb1⟩;obtain ⟨hc1,hf1⟩ := bcell hb1;have hz1 := hb1.size;(try simp at hz1);have HS1 := Lib.hid hs;clear hs;cases s)
  | (go_at_call 8;(with_reducible refine (HA.out _).mono ?_);rintro e wa ⟨rfl,hba⟩;obtain ⟨hca,hfa⟩ := bcell hba;have hza := hba.size;(try simp at hza)))
 · go_ret
   exact ⟨rfl,bel⟩
 obtain ⟨h50,hpts⟩ := HS1.out (by trivial)
 have HMa := Lib.hid (fun W (hW : Below w.heap.size w W) => made22_any A n c l z W ((HL.out.below hW).moreJ hW.size) (by omega) (fun p hp => Nat.le_trans (hpts p hp) (by decide)))
 have H50 := Lib.hid (show (madeP l).length ≤ 50 from by have := madeP_len l;have := HL.out.1;omega)
 clear h50 hpts HS1 HSa
 go_wp2_with (go_at_call 9;(refine (HMa.out _ bel).mono ?_);rintro e w2 ⟨ta,ma,rfl,hm2,hb2⟩;have HM2 := Lib.hid hm2;clear hm2;obtain ⟨hc2,hf2⟩ := bcell hb2;have hz2 := hb2.size;(try simp at hz2))
 have HB2 := Lib.hid (show Below w.heap.size w w2 from bel)
 obtain ⟨m,gs,hm,hgl,hal,hgg,hPQ⟩ := sides22g HM2.out H50.out;have HPQ := Lib.hid hPQ;have HGl := Lib.hid hgl;have HGg := Lib.hid hgg;obtain ⟨al0,hal0⟩ : ∃ x,(aloneS gs).length = x := ⟨_,rfl⟩;have HAl := Lib.hid hal0;rw [hal0] at hal;clear hPQ hgl hgg HM2 hb2 hc2 hf2 hz2 hb1 hc1 hf1 hz1 hal0
 go_wp2_with (first
  | (go_at_call 11;(refine ((HPQ.out _ bel).1).mono ?_);rintro e w4 ⟨A4,c4,rfl,ho4,hb4⟩;have HO4 := Lib.hid ho4;clear ho4;obtain ⟨hc4,hf4⟩ := bcell hb4;have hz4 := hb4.size;(try simp at hz4))
  | (go_at_call 12;(refine ((HPQ.out _ bel).2.1).mono ?_);rintro e w5 ⟨v5,rfl,ho5,hb5⟩;obtain ⟨A5,c5,rfl,_,_,_⟩ := row_form ho5;have HO5 := Lib.hid ho5;clear ho5;obtain ⟨hc5,hf5⟩ := bcell hb5;have hz5 := hb5.size;(try simp at hz5))
  | (go_at_call 13;(refine ((HPQ.out _ bel).2.2).mono ?_);rintro e w6 ⟨A6,c6,rfl,ho6,hb6⟩;have HO6 := Lib.hid ho6;clear ho6;obtain ⟨hc6,hf6⟩ := bcell hb6;have hz6 := hb6.size;(try simp at hz6)))
 have HR4 := Lib.hid (HO4.out.tr (show Below w4.heap.size w4 w6 from bel))
 have HR5 := Lib.hid (own_kept HO5.out (grown_below (show Below w5.heap.size w5 w6 from bel)) (by simp))
 have HB6 := Lib.hid (HB2.out.trans ((show Below w2.heap.size w2 w6 from bel).mono HB2.out.size))
 obtain ⟨i0,hi,iz0,iz1,iz2⟩ := info_parts Tryz.infoNJ;clear HO4 HO5 HPQ hb4 hc4 hf4 hz4 hb5 hc5 hf5 hz5 hb6 hc6 hf6 hz6
 go_loopw [13,14] (fun v13 vi wr => ∃ (i c2 : Nat) (A2 : Option Addr),v13 = .slice A2 (aloneS (gs.take i)).length c2 ∧ vi = .int .i64 i ∧ i ≤ m ∧ wr.ownsRow w6.heap.size 3 1 (.slice A2 (aloneS (gs.take i)).length c2) (aloneS (gs.take i)).length (idcs (aloneS (gs.take i))) ∧ Below w6.heap.size w6 wr) (fun _ vi _ => m - (Go.RowKit.intOf vi).toNat)
 case atStart => exact ⟨0,0,none,rfl,rfl,Nat.zero_le _,World.ownsRow_nil _ _ _ _,Below.refl _ _⟩
 case round =>
  obtain ⟨i,c2,A2,rfl,rfl,him,hro,hb⟩ := hrel
  by_cases hlt : i < m
  case neg =>
   obtain rfl : m = i := by omega
   have e : gs.take m = gs := List.take_of_length_le (by rw [HGl.out];exact Nat.le_refl _)
   rw [e] at hro
   rw [e, HAl.out]
   rw [HAl.out] at hro;have HE := Lib.hid hb;have h5 := own_kept HR5.out (grown_below hb) (by simp)
   rw [HAl.out] at h5;have HIn := Lib.hid (fun W (hW : Below wr.heap.size wr W) => ints_eq (aloneS gs) W (own_kept h5 (grown_below hW) (by simp)) (own_kept hro (grown_below hW) (by simp)) (by omega))
   clear hro hb e h5
   go_wp2_with (first
    | (go_at_call 14;(refine (HIn.out _ bel).mono ?_);rintro e wq ⟨rfl,hbq⟩;obtain ⟨hcq,hfq⟩ := bcell hbq;have hzq := hbq.size;(try simp at hzq))
    | (go_at_call 8;(with_reducible refine (HA.out _).mono ?_);rintro e wa ⟨rfl,hba⟩;obtain ⟨hca,hfa⟩ := bcell hba;have hza := hba.size;(try simp at hza)))
   go_ret;exact ⟨rfl,HB6.out.trans ((HE.out.trans ((show Below wr.heap.size wr _ from bel).mono HE.out.size)).mono HB6.out.size)⟩
  have hlt0 : (i : Int) < (m : Int) := by omega
  obtain ⟨g,hg⟩ : ∃ g,gs[i]? = some g := ⟨gs[i]'(by rw [HGl.out];exact hlt),List.getElem?_eq_getElem _⟩
  obtain ⟨b,cc,A',c',hv,hbl,r0,hrw⟩ := (HR4.out.tr hb).at_ hg;rw [HGl.out] at hv;injection hv with hv1 hv2 hv3
  subst hv1 hv3;obtain ⟨b',cc',A'',c'',hv,hbl',s0,hsw⟩ := (HO6.out.tr hb).at_ hg;rw [HGl.out] at hv;injection hv with hv1 hv4 hv3
  subst hv1 hv3;have hst := aloneS_step hg;have hal2 := Nat.le_trans (aloneS_len (gs.take i)) (by rw [List.length_take];exact Nat.min_le_left _ _)
  obtain ⟨aq,haq⟩ : ∃ l,aloneS (gs.take i) = l := ⟨_,rfl⟩
  rw [haq] at hst hro hal2 ⊢
  have HS := Lib.hid (And.intro hro hb);have hws := hb.size;have hgln : g.length ≤ 1000000 := Nat.le_trans (HGg.out g (List.mem_of_getElem? hg)) (by decide)
  have HIn := Lib.hid (fun W (hW : Below wr.heap.size wr W) => ints_eq g W (own_kept hrw (grown_below hW) (by simp)) (own_kept hsw (grown_below hW) (by simp)) hgln)
  by_cases h1 : g.length = 1
  case pos =>
   rw [if_pos h1] at hst;obtain ⟨x,rfl⟩ : ∃ x,g = [x] := List.length_eq_one_iff.1 h1;obtain ⟨b2,rfl,hbl2,x0⟩ := irow_at hrw (k := 0) (x := x) rfl;have HSt := Lib.hid hst;have hmx : aq.length + 1 ≤ maxLen := by unfold maxLen;omega
   have hmb : (aq.length + 1) * 8 ≤ 140737488355328 := by omega
   simp only [List.length_singleton] at r0 s0 HIn;clear hv2 hv4 hg hst hrw hsw h1 hro hb haq;go_wp2_with fail;refine wp_region_belowI (by kernel_rfl) (by kernel_rfl) (fun _ _ d _ _ h => by cases d <;> exact h) ?_
   simp only [List.map_cons, List.map_nil, ldz, lds, bare, gslot, lcz, lcs, Option.bind_some]
   repeat' ((try simp only [Act.put,lsi,lsz,lss]);first | (refine lexL_quiet (v := ?_) wantB_none rfl ?_ ?_;rotate_left;focus (intro wq hq;obtain ⟨hcq,hfq⟩ := bcell hq;go_simp;try with_reducible rfl)) | (refine lexL_loud wantB_none rfl (fun K hK => ?_);go_simp;((first |  (go_at_call 14;(refine (HIn.out _ bel).mono ?_);rintro e wq ⟨rfl,hbq⟩;obtain ⟨hcq,hfq⟩ := bcell hbq;have hzq := hbq.size;(try simp at hzq)) | skip) <;> (refine hK.out _ _ bel ?_;clear hK K))))
   (all_goals try simp only [Act.put,lsi,lsz,lss]);all_goals (refine lexL_nil ?_)
   refine gen_w (Φ := fun W => Exit.then _ _ Exit.normal _ W) (fun W => Below wr.heap.size wr W) bel ?_
   clear hcq hfq hbq hzq;rintro w10 hb10;obtain ⟨hc10,_⟩ := bcell hb10;have r0' := (hc10 _ _ hbl).trans r0;have x0' := (hc10 _ _ hbl2).trans x0;have hbl3 := Nat.lt_of_lt_of_le hbl hb10.size;have hbl2' := Nat.lt_of_lt_of_le hbl2 hb10.size;have HT := Lib.hid (show w10.ownsRow w6.heap.size 3 1 (.slice A2 aq.length c2) aq.length (idcs aq) ∧ Below w6.heap.size w6 w10 from ⟨own_kept HS.out.1 (grown_below hb10) (by simp),HS.out.2.trans (hb10.mono hws)⟩)
   have hw10 : w6.heap.size ≤ w10.heap.size := HT.out.2.size;clear r0 x0 s0 hbl hbl2 hbl' hb10 hc10 hws
   go_wp2_with (at_builtin;go_must (refine wpList_append_own _ rfl _ _ 40 rfl w6.heap.size 3 i0 (.int .i64 0) 1 8 Tryz.underlying40 hi iz0 iz1 iz2 rfl Nat.one_pos _ _ _ rfl (own_kept HT.out.1 (grown_below bel) (by simp)) _ _ _ _ rfl rfl ?c1 (idcs_one [x]) hmx hmb ?c5 ?_))
   case c1 => exact one_atG (by simp)
   case c5 => first | omega | (simp;omega)
   intro v8 w8 hown8 hg8 _;obtain ⟨A8,c8,rfl,_,_,_⟩ := row_form hown8;have H8 := Lib.hid (show w8.ownsRow w6.heap.size 3 1 (.slice A8 (aq.length + 1) c8) (aq.length + 1) (idcs (aq ++ [x])) ∧ Below w6.heap.size w6 w8 from ⟨by unfold idcs at hown8 ⊢;rw [List.map_append];exact hown8,(HT.out.2.trans ((show Below w10.heap.size w10 _ from bel).mono hw10)).grown hg8 (by simp;omega) fun k e => ((HT.out.1).lt k e).1⟩)
   clear hown8 hg8;go_wp2_with fail
   go_roundw
   case rel => exact ⟨i + 1,c8,A8,by rw [HSt.out,List.length_append];rfl,by go_num,by omega,by rw [HSt.out,List.length_append];exact H8.out.1,H8.out.2⟩
   case measure => simp [Go.RowKit.intOf];omega
  case neg =>
   rw [if_neg h1,List.append_nil] at hst;have HSt := Lib.hid hst;obtain ⟨gl,hgl'⟩ : ∃ n,g.length = n := ⟨_,rfl⟩;rw [hgl'] at r0 s0 h1 HIn;have h2 : ((gl : Int) == 1) = false := by rw [beq_eq_false_iff_ne];omega
   clear hv2 hv4 hg hst hrw hsw h1 hro hb hgl' haq;go_wp2_with fail;refine wp_region_belowI (by kernel_rfl) (by kernel_rfl) (fun _ _ d _ _ h => by cases d <;> exact h) ?_
   simp only [List.map_cons, List.map_nil, ldz, lds, bare, gslot, lcz, lcs, Option.bind_some]
   repeat' ((try simp only [Act.put,lsi,lsz,lss]);first | (refine lexL_quiet (v := ?_) wantB_none rfl ?_ ?_;rotate_left;focus (intro wq hq;obtain ⟨hcq,hfq⟩ := bcell hq;go_simp;try with_reducible rfl)) | (refine lexL_loud wantB_none rfl (fun K hK => ?_);go_simp;((first |  (go_at_call 14;(refine (HIn.out _ bel).mono ?_);rintro e wq ⟨rfl,hbq⟩;obtain ⟨hcq,hfq⟩ := bcell hbq;have hzq := hbq.size;(try simp at hzq)) | skip) <;> (refine hK.out _ _ bel ?_;clear hK K))))
   (all_goals try simp only [Act.put,lsi,lsz,lss]);all_goals (refine lexL_nil ?_)
   refine gen_w (Φ := fun W => Exit.then _ _ Exit.normal _ W) (fun W => Below wr.heap.size wr W) bel ?_
   clear hcq hfq hbq hzq;rintro w10 hb10;obtain ⟨hc10,_⟩ := bcell hb10;have r0' := (hc10 _ _ hbl).trans r0;have hbl3 := Nat.lt_of_lt_of_le hbl hb10.size;have HT := Lib.hid (show w10.ownsRow w6.heap.size 3 1 (.slice A2 aq.length c2) aq.length (idcs aq) ∧ Below w6.heap.size w6 w10 from ⟨own_kept HS.out.1 (grown_below hb10) (by simp),HS.out.2.trans (hb10.mono hws)⟩)
   clear r0 s0 hbl hb10 hc10;go_wp2_with fail
   go_roundw
   case rel => exact ⟨i + 1,c2,A2,by rw [HSt.out],by go_num,by omega,by rw [HSt.out];exact HT.out.1,HT.out.2⟩
   case measure => simp [Go.RowKit.intOf];omega
end Go.Proofs.YtcbjmcnebmhgpaaGreat
