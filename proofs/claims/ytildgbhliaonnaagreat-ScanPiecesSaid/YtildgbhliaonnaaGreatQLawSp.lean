/-
  pergolaalike.Items and Round, pergolaref14.SameNears at equal rows, pergolalaw18.small.
  Cursors of what is near in a tree of the verifier's class;two cursors and a row of what was got.
  pergolalaw18: the walk of ScanPieces.
-/
import Derived.Test.YtildgbhliaonnaaGreatQMadS
import Derived.Test.YtildgbhliaonnaaGreatQSums
import Derived.Test.YtildgbhliaonnaaGreatQScaB
import Derived.Test.YtildgbhliaonnaaGreatQAwk18
import Derived.Test.YtildgbhliaonnaaGreatQGisY
import Derived.Test.YtildgbhliaonnaaGreatQLawCw
import Derived.Test.YtildgbhliaonnaaGreatQItmO
set_option linter.unusedVariables false
set_option linter.unusedSimpArgs false
set_option maxHeartbeats 4000000
set_option maxRecDepth 20000
namespace Go.Proofs.YtildgbhliaonnaaGreat
open Go Go.RowKit Pg
theorem items_any (B n c top : Nat) (A : Option Addr) (L : List (Int × Ob)) (w : World) (hl : ItmsAt w B A n L) (hB : B ≤ w.heap.size) (hn : n ≤ 1000000) (ht : top < 1099511627776) :
 Calls Tryz.prog 20 #[.slice A n c,.int .i64 top] w fun e w' => ∃ t : Nat,e = .returned (.int .i64 t) ∧ (t ≤ top → ∀ p ∈ L,p.2.pts.length ≤ top) ∧ Below w.heap.size w w' := by
 have hLn := hl.1;have HL := Lib.hid hl;clear hl
 go_enter Tryz.func20,Tryz.ntmps20
 go_wp2_with (go_at_call 36;(with_reducible refine (sum_one0 _ n 3 _ ?_).mono ?_);(focus exact blkA);rintro e w1 ⟨rfl,rfl⟩)
 go_loopw [5,6] (fun vn vi wr => ∃ k m : Nat,k ≤ n ∧ vi = .int .i64 k ∧ vn = .int .i64 m ∧ m ≤ 1099511627776 ∧ (m ≤ top → ∀ l ∈ L.take k,l.2.pts.length ≤ top) ∧ Below w.heap.size w wr) (fun _ vi _ => n - (Go.RowKit.intOf vi).toNat)
 case atStart => exact ⟨0,_,by omega,rfl,rfl,(sumS_le _ _ (by decide)).2,fun _ l hl => by simp at hl,bel⟩
 case round =>
  obtain ⟨k,m,hk,rfl,rfl,hm,hs,hb⟩ := hrel
  by_cases hlt : k < n
  · have hk1 : (k : Int) < (n : Int) := by omega
    by_cases hmt : m ≤ top
    · have hmt1 : (m : Int) ≤ (top : Int) := by omega
      obtain ⟨b,off,p,A',n',c',rfl,hab,hx,q0,q1,q2,hpt⟩ := (HL.out.below (hb.mono hB)).at_ hlt;have hbw : b < wr.heap.size := by have := hb.size;omega
      have hS := Lib.hid (And.intro (hs hmt) (And.intro hx hpt.1));have hM := Lib.hid hm;obtain ⟨m',hm'⟩ : ∃ m',sumS m [n'] = m' := ⟨_,rfl⟩;have HM' := Lib.hid hm';have HSS := Lib.hid (fun g t w hg => sum_one g m n' t w hg hm)
      rw [hm'] at HSS;clear hs hm hm' hpt hx
      go_wp2_with (go_at_call 36;(with_reducible refine (HSS.out _ 3 _ ?_).mono ?_);(focus exact blkA);rintro e w1 ⟨rfl,rfl⟩)
      go_roundw
      case rel =>
       refine ⟨k + 1,m',by omega,by go_num,rfl,by rw [← HM'.out];exact (sumS_le _ _ hM.out).2,fun h l hl => ?_,bel⟩
       obtain ⟨h1,h2,h3⟩ := hS.out;rw [List.take_add_one,h2] at hl
       rcases List.mem_append.1 hl with hl | hl
       · exact h1 l hl
       · simp at hl
         subst hl;have := sumS_small [n'] m hM.out (by rw [HM'.out];omega)
         rw [HM'.out] at this
         simp at this
         omega
      case measure => simp [Go.RowKit.intOf];omega
    · have hmt1 : ¬ (m : Int) ≤ (top : Int) := by omega
      clear hs;go_wp2_with fail;go_ret;exact ⟨m,rfl,fun h => absurd h hmt,hb⟩
  · obtain rfl : n = k := by omega
    rw [List.take_of_length_le (by omega)] at hs
    have HS := Lib.hid hs;clear hs;go_wp2_with fail;go_ret;exact ⟨m,rfl,HS.out,hb⟩
theorem small18_any' (B n c : Nat) (A : Option Addr) (L : List (Int × Ob)) (w : World) (hl : ItmsAt w B A n L) (hB : B ≤ w.heap.size) (hn : n ≤ 9223372036854775807) :
 Calls Tryz.prog 5 #[.slice A n c] w fun e w' => ∃ s : Bool,e = .returned (.bool s) ∧ (s = true → n ≤ 80 ∧ ∀ p ∈ L,p.2.pts.length ≤ 1000) ∧ Below w.heap.size w w' := by
 have HL := Lib.hid hl;clear hl
 by_cases h80 : n ≤ 80
 · have h1 : (n : Int) ≤ 80 := by omega
   have HI := Lib.hid (fun W (hW : Below w.heap.size w W) => items_any B n c 1000 A L W (HL.out.below (hW.mono hB)) (Nat.le_trans hB hW.size) (by omega) (by decide))
   go_enter Tryz.func5, Tryz.ntmps5
   go_wp2_with (go_at_call 20;(refine (HI.out _ bel).mono ?_);rintro e w1 ⟨t,rfl,hs,hb1⟩;have HS := Lib.hid hs;clear hs;obtain ⟨hc1,hf1⟩ := bcell hb1;have hz1 := hb1.size;(try simp at hz1))
   go_ret;refine ⟨_,rfl,fun h => ⟨h80,?_⟩,bel⟩
   have : t ≤ 1000 := by simp at h;omega
   exact HS.out this
 · have h1 : ¬ (n : Int) ≤ 80 := by omega
   go_enter Tryz.func5, Tryz.ntmps5
   go_wp2;go_ret;refine ⟨rfl,?_⟩;exact bel
theorem round7_any (k : Int) (w : World) : Calls Tryz.prog 11 #[.int .i64 k,.int .i64 7] w (Ret w (.int .i64 (roundS k 7 : Nat))) := round_any k 7 (by decide) (by decide) w
theorem nr_at {w : World} {Z : Nat → Prop} {A : Option Addr} {S : List Nr} (h : CellsIn w Z A (nrVs S)) {k : Nat} {x : Nr} (hx : S[k]? = some x) : ∃ b off,A = some ⟨b,off,none⟩ ∧ b < w.heap.size ∧ w.cell? ⟨b,off + k * 4,none⟩ = some (.int .i64 x.1) ∧ w.cell? ⟨b,off + k * 4 + 1,none⟩ = some (.int .u64 ((x.2.num / 18446744073709551616 : Nat) : Int)) ∧ w.cell? ⟨b,off + k * 4 + 2,none⟩ = some (.int .u64 ((x.2.num % 18446744073709551616 : Nat) : Int)) ∧ w.cell? ⟨b,off + k * 4 + 3,none⟩ = some (.int .u64 (x.2.den : Int)) := by
 have hk : k < S.length := (List.getElem?_eq_some_iff.1 hx).1;obtain ⟨b,off,e,_,hb,hc⟩ := h (by rw [nrVs_len];omega)
 have hd : (nrVs S).drop (k * 4) = nrV x ++ nrVs (S.drop (k + 1)) := by
  rw [nrVs_drop, List.drop_eq_getElem_cons hk]
  have : S[k] = x := by rw [List.getElem?_eq_getElem hk] at hx;exact Option.some.inj hx
  rw [this]
  rfl
 have hg : ∀ j u,(nrV x)[j]? = some u → w.cell? ⟨b,off + k * 4 + j,none⟩ = some u := fun j u hu => by
  have : (nrVs S)[k * 4 + j]? = some u := by
   rw [← List.getElem?_drop, hd, List.getElem?_append_left ((List.getElem?_eq_some_iff.1 hu).1)]
   exact hu
  rw [show off + k * 4 + j = off + (k * 4 + j) by omega]
  exact hc _ _ this
 exact ⟨b,off,e,hb,hg 0 _ rfl,hg 1 _ rfl,hg 2 _ rfl,hg 3 _ rfl⟩
theorem sameNears_eq (A A2 : Option Addr) (c c2 : Nat) (S : List Nr) (Z Z2 : Nat → Prop) (w : World) (h : CellsIn w Z A (nrVs S)) (h2 : CellsIn w Z2 A2 (nrVs S)) (hS : S.length ≤ 1000000) :
 Calls Tryz.prog 13 #[.slice A S.length c,.slice A2 S.length c2] w (Ret w (.bool true)) := by
 have H1 := Lib.hid h;have H2 := Lib.hid h2;obtain ⟨n,hn⟩ : ∃ n,S.length = n := ⟨_,rfl⟩;have HN := Lib.hid hn
 rw [hn] at hS ⊢
 clear h h2 hn
 go_enter Tryz.func13,Tryz.ntmps13
 go_wp2_with fail
 go_loopw [5] (fun vi wr => ∃ k : Nat,k ≤ n ∧ vi = .int .i64 k ∧ Below w.heap.size w wr) (fun vi _ => n - (Go.RowKit.intOf vi).toNat)
 case atStart => exact ⟨0,by omega,rfl,bel⟩
 case round =>
  obtain ⟨k,hk,rfl,hb⟩ := hrel
  by_cases hlt : k < n
  · have hk1 : (k : Int) < (n : Int) := by omega
    obtain ⟨x,hx⟩ : ∃ x,S[k]? = some x := ⟨_,List.getElem?_eq_getElem (by rw [HN.out];exact hlt)⟩
    obtain ⟨b,off,rfl,hbl,a0,a1,a2,a3⟩ := nr_at (H1.out.kept (grown_below hb) (by simp)) hx
    obtain ⟨b',off',rfl,hbl',d0,d1,d2,d3⟩ := nr_at (H2.out.kept (grown_below hb) (by simp)) hx
    generalize x.2.num / 18446744073709551616 = e1 at *;generalize x.2.num % 18446744073709551616 = e0 at *;generalize x.2.den = ed at *;generalize x.1 = ei at *;clear hx;go_wp2_with fail;refine wp_region_belowI (by kernel_rfl) (by kernel_rfl) (fun _ _ d _ _ h => by cases d <;> exact h) ?_
    simp only [List.map_cons, List.map_nil, ldz, lds, bare, gslot, lcz, lcs, Option.bind_some]
    repeat' ((try simp only [Act.put,lsi,lsz,lss]);first | (refine lexL_quiet (v := ?_) wantB_none rfl ?_ ?_;rotate_left;focus (intro wq hq;obtain ⟨hcq,hfq⟩ := bcell hq;go_simp;try with_reducible rfl)) | (refine lexL_loud wantB_none rfl (fun K hK => ?_);go_simp;((first | fail | skip) <;> (refine hK.out _ _ bel ?_;clear hK K))))
    (all_goals try simp only [Act.put,lsi,lsz,lss]);all_goals (refine lexL_nil ?_)
    go_wp2_with fail
    go_roundw
    case rel => exact ⟨k + 1, by omega, by go_num, bel⟩
    case measure => simp [Go.RowKit.intOf];omega
  · obtain rfl : n = k := by omega
    go_wp2_with fail;go_ret;exact ⟨rfl,bel⟩
abbrev nearT (t : Tr) (x y : Int) : List Nr := nearS (fun o => distF o ⟨x,y⟩) (obsT t.items)
theorem nearT_len (t : Tr) (x y : Int) : (nearT t x y).length = t.items.length := by rw [nearT,nearS_len,obsT,List.length_map]
theorem nearC_any {w : World} {own imm : Nat → Prop} {tb mb : Nat} {t : Tr} (h : GAt (clsC 3 0 false 0) cl3 w own imm tb mb t) (hcount : t.items.length ≤ 40000) (x y : Int) (hp : okPt ⟨x,y⟩ = true) :
 Calls Tryz.prog 9 #[gP tb,ptV x y] w fun e w' => ∃ (cb : Nat) (v : Value),e = .returned (.tuple #[gP cb,.nilIface]) ∧ CurAt w' (fun b => v.ownBlock = some b) cb (nearT t x y) 0 true ∧ w.heap.size < cb ∧ Below w.heap.size w w' ∧ ∀ g,v.ownBlock = some g → w.heap.size ≤ g :=
 near_ofB w.heap.size (some ⟨tb,0,none⟩) x y hp t.items.length (nearT t x y) w (fun W hW => len_any (h.tr hW).lay) fun W hW => by
  have h1 := near_any (clAt_cls 3 0 false 0 (by decide)) (lawful_cls 3 0 false) (h.tr hW) hcount x y hp (t.items.length : Nat)
  have e : (nearS (fun o => distF o ⟨x,y⟩) (t.items.map fun q => (q.1,q.2.ob))).take ((t.items.length : Nat) : Int).toNat = nearT t x y := List.take_of_length_le (by have := nearT_len t x y;unfold nearT obsT at this;omega)
  rw [e] at h1;exact h1.mono fun e w' ⟨v,h2,h3,h4⟩ => ⟨v,h2,own_lower h3 hW.size,h4⟩
theorem CurAt.kept {w w' : World} {Z : Nat → Prop} {cb k : Nat} {S : List Nr} {o : Bool} {row : Option Nat} (h : CurAt w Z cb S k o) (hg : w.grownBy w' row) (hne : ∀ g,row = some g → ¬ Z g ∧ g ≠ cb) : CurAt w' Z cb S k o :=
 h.turn (F := fun g => row = some g) ⟨hg.os,hg.tape,hg.output,hg.size,fun k hk hF => hg.block k hk fun e => hF e.symm⟩ fun b hb q => by
  rcases hb with hb | hb
  · exact (hne b q).1 hb
  · exact (hne b q).2 hb
structure PcM (w : World) (B : Nat) (Za Zb Zl : Nat → Prop) (ca cb : Nat) (Al : Option Addr) (S : List Nr) (k j : Nat) (vg : Value) : Prop where
 a : CurAt w Za ca S S.length true
 b : CurAt w Zb cb S k true
 l : CellsIn w Zl Al (nrVs S)
 g : w.ownsRow B 60 4 vg j (nrVs (S.take j))
 lim : ∀ x,Za x ∨ Zb x ∨ Zl x ∨ x = ca ∨ x = cb → x < B
 ab : ca ≠ cb ∧ ¬ Za cb ∧ ¬ Zl cb
 size : B ≤ w.heap.size
section
variable {w w' : World} {B : Nat} {Za Zb Zl : Nat → Prop} {ca cb : Nat} {Al : Option Addr} {S : List Nr} {k j k' j' : Nat} {vg vg' : Value}
theorem PcM.tr (M : PcM w B Za Zb Zl ca cb Al S k j vg) (hb : Below w.heap.size w w') : PcM w' B Za Zb Zl ca cb Al S k j vg :=
 ⟨M.a.tr hb,M.b.tr hb,M.l.kept (grown_below hb) (by simp),own_kept M.g (grown_below hb) (by simp),M.lim,M.ab,Nat.le_trans M.size hb.size⟩
theorem PcM.took (M : PcM w B Za Zb Zl ca cb Al S k j vg) (hc : CurAt w' Zb cb S k' true) (ht : TurnF (fun b => b = cb) w w') : PcM w' B Za Zb Zl ca cb Al S k' j vg :=
 ⟨M.a.turn ht fun b hb q => by
  subst q
  rcases hb with hb | hb
  · exact M.ab.2.1 hb
  · exact M.ab.1 hb.symm, hc, M.l.turn ht fun b hb q => M.ab.2.2 (q ▸ hb), own_turn M.g ht fun g hg q => by
  have h1 := (M.g.lt g hg).1;have h2 := M.lim cb (by simp)
  omega, M.lim, M.ab, Nat.le_trans M.size ht.size⟩
theorem PcM.got (M : PcM w B Za Zb Zl ca cb Al S k j vg) (hr : w'.ownsRow B 60 4 vg' j' (nrVs (S.take j'))) (hg : w.grownBy w' vg.ownBlock) : PcM w' B Za Zb Zl ca cb Al S k j' vg' := by
 have hne : ∀ g,vg.ownBlock = some g → ¬ (Za g ∨ Zb g ∨ Zl g ∨ g = ca ∨ g = cb) := fun g q h => by
  have h1 := (M.g.lt g q).1;have h2 := M.lim g h
  omega
 refine ⟨M.a.kept hg fun g q => ⟨fun h => hne g q (.inl h),fun h => hne g q (by simp [h])⟩,M.b.kept hg fun g q => ⟨fun h => hne g q (.inr (.inl h)),fun h => hne g q (by simp [h])⟩,M.l.kept hg fun g q h => hne g q (.inr (.inr (.inl h))),hr,M.lim,M.ab,Nat.le_trans M.size hg.size⟩
theorem PcM.below (M : PcM w B Za Zb Zl ca cb Al S k j vg) {C : Nat} (hC : C ≤ B) (hg : w.grownBy w' vg.ownBlock) : Below C w w' :=
 (Below.refl C w).grown hg (Nat.le_trans hC M.size) fun k e => Nat.le_trans hC (M.g.lt k e).1
end
theorem take_all {w : World} {Z : Nat → Prop} {cb N : Nat} {S : List Nr} (h : CurAt w Z cb S 0 true) (hS : S.length = N) (hN : N ≤ 80) :
 Calls Tryz.prog 10 #[gP cb,.int .i64 1073741824] w fun x w' => ∃ A c,x = .returned (.tuple #[.slice A N c,.nilIface]) ∧ w'.ownsRow w.heap.size 60 4 (.slice A N c) N (nrVs S) ∧ CurAt w' Z cb S N true ∧ TurnF (fun b => b = cb) w w' := by
 have htk : tkN 1073741824 S.length 0 = N := by unfold tkN;omega
 have hSd : (S.drop 0).take N = S := by rw [List.drop_zero];exact List.take_of_length_le (by omega)
 refine (ctake_any h (by omega) 1073741824 (by decide)).mono ?_
 rintro x w' ⟨v,rfl,h1,h2,h3⟩;rw [htk,hSd,hS] at h1;rw [htk,Nat.zero_add] at h2;obtain ⟨A,c,rfl,_⟩ := row_form h1;exact ⟨A,c,rfl,h1,h2,h3⟩
section
variable {w w' : World} {B : Nat} {Za Zb Zl : Nat → Prop} {ca cb : Nat} {Al : Option Addr} {S : List Nr} {k j k' j' : Nat} {vg vg' : Value}
theorem PcM.take {N : Nat} (M : PcM w B Za Zb Zl ca cb Al S k j vg) (hN : S.length = N) (hN8 : N ≤ 80) (nn : Nat) (h7 : nn ≤ 7) :
 Calls Tryz.prog 10 #[gP cb,.int .i64 (nn : Int)] w fun x w' => ∃ A c,x = .returned (.tuple #[.slice A (min nn (N - k)) c,.nilIface]) ∧ w'.ownsRow w.heap.size 60 4 (.slice A (min nn (N - k)) c) (min nn (N - k)) (nrVs ((S.drop k).take (min nn (N - k)))) ∧ PcM w' B Za Zb Zl ca cb Al S (k + min nn (N - k)) j vg ∧ TurnF (fun b => b = cb) w w' := by
 have hk := M.b.le;have htk : tkN (nn : Int) S.length k = min nn (N - k) := by unfold tkN;omega
 have hl : ((S.drop k).take (min nn (N - k))).length = min nn (N - k) := by rw [List.length_take,List.length_drop,hN];omega
 refine (ctake_any M.b (by omega) (nn : Int) ⟨by omega,by omega⟩).mono ?_
 rintro x w' ⟨v,rfl,h1,h2,h3⟩;rw [htk,hl] at h1;rw [htk] at h2;obtain ⟨A,c,rfl,_⟩ := row_form h1;exact ⟨A,c,rfl,h1,M.took h2 h3,h3⟩
end
theorem ItmsAt.more {w : World} {B B' n : Nat} {A : Option Addr} {l : List (Int × Ob)} (h : ItmsAt w B A n l) (hB : B ≤ B') : ItmsAt w B' A n l := by
 refine ⟨h.1,fun hn => ?_,fun b off k p hA hp => ?_⟩
 · obtain ⟨b,off,e,hb⟩ := h.2.1 hn
   exact ⟨b,off,e,by omega⟩
 · obtain ⟨A',n',c',h1,h2,h3,h4⟩ := h.2.2 b off k p hA hp
   exact ⟨A',n',c',h1,h2,h3,h4.more hB⟩
theorem take_drop_app (S : List Nr) (k j : Nat) : nrVs (S.take k) ++ nrVs ((S.drop k).take j) = nrVs (S.take (k + j)) := by
 rw [← nrVs_append,List.take_add]
theorem scanPieces_walk (n c m c2 : Nat) (A A2 : Option Addr) (l : List (Int × Ob)) (sz : List Int) (x y : Int) (w : World) (hl : ItmsAt w w.heap.size A n l) (hn : n ≤ 9223372036854775807) (hs : IntsAt w w.heap.size A2 m sz) (hm : m ≤ 9223372036854775807) :
 Calls Tryz.prog 3 #[.slice A n c,ptV x y,.slice A2 m c2] w (Ret w (.bool true)) := by
 have HSm := Lib.hid (fun W (hW : Below w.heap.size w W) => small18_any' w.heap.size n c A l W (hl.below hW) hW.size hn)
 have HPo := Lib.hid (fun W => rpoint_any x y W)
 have HA := Lib.hid awake18_any;have HL := Lib.hid hl;have HS := Lib.hid hs;clear hl hs
 by_cases hm30 : m ≤ 30
 case neg =>
  have hm1 : (30 : Int) < (m : Int) := by omega
  have hm2 : 30 < m := by omega
  go_enter Tryz.func3, Tryz.ntmps3
  go_wp2_with (first
   | (go_at_call 5;(refine (HSm.out _ bel).mono ?_);rintro e w1 ⟨s,rfl,_,hb1⟩;cases s)
   | (go_at_call 7;(with_reducible refine (HA.out _).mono ?_);rintro e wa ⟨rfl,hba⟩;obtain ⟨hca,hfa⟩ := bcell hba;have hza := hba.size;(try simp at hza)))
  all_goals
   go_ret;exact ⟨rfl,bel⟩
 cases hp : okPt ⟨x,y⟩ with
 | false =>
   rw [hp] at HPo;have hm1 : ¬ (30 : Int) < (m : Int) := by omega
   have hm2 : ¬ 30 < m := by omega
   go_enter Tryz.func3, Tryz.ntmps3
   go_wp2_with (first
    | (go_at_call 5;(refine (HSm.out _ bel).mono ?_);rintro e w1 ⟨s,rfl,_,hb1⟩;have g0 : Blk w1 w.heap.size 24 #[.int .i64 x,.int .i64 y] := blkA;obtain ⟨hc1,hf1⟩ := bcell hb1;have hz1 := hb1.size;(try simp at hz1);cases s)
    | (go_at_call 6;(with_reducible refine (HPo.out _).mono ?_);rintro e wp ⟨rfl,hbp⟩;obtain ⟨hcp,hfp⟩ := bcell hbp;have hzp := hbp.size;(try simp at hzp))
    | (go_at_call 7;(with_reducible refine (HA.out _).mono ?_);rintro e wa ⟨rfl,hba⟩;obtain ⟨hca,hfa⟩ := bcell hba;have hza := hba.size;(try simp at hza)))
   all_goals
    go_ret;exact ⟨rfl,bel⟩
 | true =>
   rw [hp] at HPo;have HPP := Lib.hid hp;have hm1 : ¬ (30 : Int) < (m : Int) := by omega
   have hm2 : ¬ 30 < m := by omega
   have HM30 := Lib.hid hm30;clear hp
   go_enter Tryz.func3, Tryz.ntmps3
   go_wp2_with (first
    | (go_at_call 5;(refine (HSm.out _ bel).mono ?_);rintro e w1 ⟨s,rfl,hs,hb1⟩;have g0 : Blk w1 w.heap.size 24 #[.int .i64 x,.int .i64 y] := blkA;obtain ⟨hc1,hf1⟩ := bcell hb1;have hz1 := hb1.size;(try simp at hz1);have HS1 := Lib.hid hs;clear hs;cases s)
    | (go_at_call 6;(with_reducible refine (HPo.out _).mono ?_);rintro e wp ⟨rfl,hbp⟩;obtain ⟨hcp,hfp⟩ := bcell hbp;have hzp := hbp.size;(try simp at hzp))
    | (go_at_call 7;(with_reducible refine (HA.out _).mono ?_);rintro e wa ⟨rfl,hba⟩;obtain ⟨hca,hfa⟩ := bcell hba;have hza := hba.size;(try simp at hza)))
   · go_ret
     exact ⟨rfl,bel⟩
   obtain ⟨h80,hpts⟩ := HS1.out (by trivial)
   have HMd := Lib.hid (fun W (hW : Below w.heap.size w W) => made18_any A n c l W ((HL.out.below hW).more hW.size) (by omega) (fun p hp => Nat.le_trans (hpts p hp) (by decide)))
   have hln : l.length = n := HL.out.1;have H80 := Lib.hid (And.intro h80 hln);clear h80 hpts hln HS1 HSm HPo
   go_wp2_with (go_at_call 8;(refine (HMd.out _ bel).mono ?_);rintro e w2 ⟨tb,mm,rfl,hm2,hb2⟩;have HM2 := Lib.hid hm2;clear hm2;have hB2 : Blk w2 w.heap.size 24 #[.int .i64 x,.int .i64 y] := blkA;have q0 := hB2.cell 0;have q1 := hB2.cell 1;have ql := hB2.lt;simp only [lta,lcz,lcs] at q0 q1;have hz2 := hb2.size;(try simp at hz2))
   obtain ⟨mb,own,imm,Z,t,L,hSd,hf4,_⟩ := HM2.out;have HG : Hid (GAt (clsC 3 0 false 0) cl3 w2 own imm tb mb t) := hSd.g
   have hil : t.items.length ≤ 80 := by
    have h1 := congrArg List.length hSd.ot;have h2 := madeP_len l;have h3 := H80.out;unfold obsT at h1;rw [List.length_map] at h1
    omega
   have htb : tb < w2.heap.size := by obtain ⟨_,_,_,_,q⟩ := HG.out.lay.c0;exact q
   obtain ⟨S,hS⟩ : ∃ S,nearT t x y = S := ⟨_,rfl⟩;have hSl : S.length = t.items.length := by rw [← hS];exact nearT_len t x y
   have HN : Hid (∀ W,Below w2.heap.size w2 W → Calls Tryz.prog 9 #[gP tb,ptV x y] W fun e w' => ∃ (cb : Nat) (v : Value),e = .returned (.tuple #[gP cb,.nilIface]) ∧ CurAt w' (fun b => v.ownBlock = some b) cb S 0 true ∧ W.heap.size < cb ∧ Below W.heap.size W w' ∧ ∀ g,v.ownBlock = some g → W.heap.size ≤ g) := fun W hW => by
    have := nearC_any (HG.out.tr hW) (by omega) x y HPP.out
    rw [hS] at this;exact this
   have HLn : Hid (∀ W,Below w2.heap.size w2 W → Calls Tryz.prog 12 #[gP tb] W (Ret W (.int .i64 (S.length : Nat)))) := fun W hW => by
    rw [hSl]
    exact len_any (HG.out.tr hW).lay
   have hb02 : Below w.heap.size w w2 := bel;have HB02 := Lib.hid hb02;obtain ⟨N,hN⟩ : ∃ N,S.length = N := ⟨_,rfl⟩;have HNN := Lib.hid hN;have HN80 : Hid (N ≤ 80) := by unfold Hid;omega
   rw [hN] at HLn;clear hm1 hm2 hSl hN hil hSd hS hf4 HM2 HG hb02;clear hb2 hz2;clear hb1 hc1 hf1 hz1 g0 hcp hfp hbp hzp
   go_wp2_with (first
    | (go_at_call 9;(have _q := HC3);(refine (HN.out _ bel).mono ?_);rintro e w4 ⟨cb,vb,rfl,hC4,hcb4,hb4,hv4⟩;have HC4 := Lib.hid (And.intro hC4 (And.intro hcb4 (And.intro hb4 hv4)));clear hC4 hcb4 hv4;obtain ⟨hc4,hf4⟩ := bcell hb4;have hz4 := hb4.size;(try simp at hz4);have HTk := Lib.hid (fun W (hW : Below w4.heap.size w4 W) => take_all ((HC3.out.1.tr HC4.out.2.2.1).tr hW) HNN.out HN80.out))
    | (go_at_call 9;(refine (HN.out _ bel).mono ?_);rintro e w3 ⟨ca,va,rfl,hC3,hca3,hb3,hv3⟩;have HC3 := Lib.hid (And.intro hC3 (And.intro hca3 (And.intro hb3 hv3)));clear hC3 hca3 hv3;obtain ⟨hc3,hf3⟩ := bcell hb3;have hz3 := hb3.size;(try simp at hz3))
    | (go_at_call 10;(refine (HTk.out _ bel).mono ?_);rintro e w5 ⟨A5,c5,rfl,ho5,hC5,ht5⟩;have HT5 := Lib.hid (And.intro ho5 (And.intro hC5 ht5));clear ho5 hC5 ht5))
   have hz2w := HB02.out.size;have h3lim := HC3.out.1.lim;have hca : ca < w3.heap.size := by obtain ⟨A,c,h1,_⟩ := HC3.out.1.hd;exact h1.lt
   have hcb : cb < w4.heap.size := by obtain ⟨A,c,h1,_⟩ := HC4.out.1.hd;exact h1.lt
   have hcb3 : w3.heap.size < cb := HC4.out.2.1;have hz4s := HC4.out.2.2.1.size;have hT5 := HT5.out;have hz5 := hT5.2.2.size;have hca2 : w2.heap.size < ca := HC3.out.2.1
   have hM0 : PcM w5 w5.heap.size (fun b => va.ownBlock = some b) (fun b => vb.ownBlock = some b) (fun b => (Value.slice A5 N c5).ownBlock = some b) ca cb A5 S 0 0 (.slice none 0 0) := by
    refine ⟨by rw [HNN.out];exact hT5.2.1,HC4.out.1.turn hT5.2.2 fun b hb q => ?_,own_cellsIn hT5.1 rfl,World.ownsRow_nil _ _ _ _,fun x hx => ?_,⟨by omega,fun q => ?_,fun q => ?_⟩,Nat.le_refl _⟩
    · subst q
      rcases hb with hb | hb
      · have := HC4.out.2.2.2 _ hb;omega
      · omega
    · rcases hx with hx | hx | hx | hx | hx
      · have := h3lim _ hx;omega
      · have := HC4.out.1.lim _ hx;omega
      · exact (hT5.1.lt _ hx).2
      · omega
      · omega
    · have := h3lim _ q;omega
    · have := (hT5.1.lt _ q).1;omega
   have hbe : Below w2.heap.size w2 w5 := (HC3.out.2.2.1.trans (HC4.out.2.2.1.mono HC3.out.2.2.1.size)).trans (turn_belowM hT5.2.2 (fun k q => by rw [q];omega) (by omega))
   have HM0 := Lib.hid hM0;have HBE := Lib.hid hbe;obtain ⟨i0,hi,iz0,iz1,iz2⟩ := info_parts Tryz.infoNrF;have HCb : Hid (w2.heap.size ≤ cb) := by unfold Hid;have := HC3.out.2.2.1.size;omega
   clear hM0 hbe hT5 HT5 HTk HC3 HC4 hc3 hf3 hb3 hz3 hc4 hf4 hb4 hz4 h3lim hca hcb hcb3 hz4s hca2 HN q0 q1 ql HMd;obtain ⟨B,hB⟩ : ∃ B,w5.heap.size = B := ⟨_,rfl⟩;have hB2 : w2.heap.size ≤ B := by have := HBE.out.size;omega
   rw [hB] at HM0
   go_loopw [16, 17] (fun vg vi wr => ∃ (i k : Nat) (Ag : Option Addr) (cg : Nat), vg = .slice Ag k cg ∧ vi = .int .i64 i ∧ i ≤ 200 ∧ k ≤ N ∧ (i ≤ k + 30 ∨ k = N) ∧ PcM wr B (fun b => va.ownBlock = some b) (fun b => vb.ownBlock = some b) (fun b => (Value.slice A5 N c5).ownBlock = some b) ca cb A5 S k k (.slice Ag k cg) ∧ Below w2.heap.size w2 wr) (fun _ vi _ => 200 - (Go.RowKit.intOf vi).toNat)
   case atStart => exact ⟨0, 0, none, 0, rfl, rfl, by omega, by omega, .inl (by omega), HM0.out, HBE.out⟩
   case round =>
    clear HM0 HBE hB;obtain ⟨i,k,Ag,cg,rfl,rfl,hi2,hk,hik,hM,hb⟩ := hrel;have hb0 : Below w.heap.size w wr := HB02.out.trans (hb.mono hz2w);have HM := Lib.hid hM;have HB := Lib.hid hb;have HN9 := HN80.out
    by_cases hkN : k = N
    case pos =>
     subst hkN
     have HSN := Lib.hid (fun W (hW : Below wr.heap.size wr W) => show Calls Tryz.prog 13 #[.slice Ag k cg,.slice A5 k c5] W (Ret W (.bool true)) from by
      have h1 := own_cellsIn (HM.out.tr hW).g rfl
      rw [List.take_of_length_le (by rw [HNN.out];exact Nat.le_refl _)] at h1
      have := sameNears_eq Ag A5 cg c5 S _ _ W h1 (HM.out.tr hW).l (by rw [HNN.out];omega)
      rw [HNN.out] at this
      exact this)
     have HTo := Lib.hid (fun W (hW : Below wr.heap.size wr W) => show Calls Tryz.prog 14 #[gP ca] W (Ret W (.int .i64 (k : Int))) from by
      have := told_any (HM.out.tr hW).a;rw [HNN.out] at this
      exact this)
     have HLe := Lib.hid (fun W (hW : Below wr.heap.size wr W) => HLn.out W (HB.out.trans (hW.mono HB.out.size)))
     have HB0 := Lib.hid hb0;clear hM hb hik hk hb0 HLn
     by_cases h200 : (i : Int) < 200
     all_goals
      go_wp2_with (first
       | (go_at_call 12;(refine (HLe.out _ bel).mono ?_);rintro e wp ⟨rfl,hbp⟩;obtain ⟨hcp,hfp⟩ := bcell hbp;have hzp := hbp.size;(try simp at hzp))
       | (go_at_call 13;(refine (HSN.out _ bel).mono ?_);rintro e wq ⟨rfl,hbq⟩;obtain ⟨hcq,hfq⟩ := bcell hbq;have hzq := hbq.size;(try simp at hzq))
       | (go_at_call 14;(refine (HTo.out _ bel).mono ?_);rintro e ws ⟨rfl,hbs⟩;obtain ⟨hcs,hfs⟩ := bcell hbs;have hzs := hbs.size;(try simp at hzs))
       | (go_at_call 7;(refine (HA.out _).mono ?_);rintro e wt ⟨rfl,hbt⟩;obtain ⟨hct,hft⟩ := bcell hbt;have hzt := hbt.size;(try simp at hzt)))
      go_ret;exact ⟨rfl,HB0.out.trans ((show Below wr.heap.size wr _ from bel).mono HB0.out.size)⟩
    have hkN1 : k < N := by omega
    have hi3 : (i : Int) < 200 := by omega
    have hkI : (k : Int) < (N : Int) := by omega
    have hik30 : i ≤ k + 30 := by omega
    have HS' := Lib.hid (HS.out.below hb0);have hzr := hb0.size;have HNeg : Hid (∀ nn : Nat,min nn (N - k) ≤ nn) := fun nn => Nat.min_le_left _ _
    have HTk := Lib.hid (fun W (hW : Below wr.heap.size wr W) nn (h7 : nn ≤ 7) => (HM.out.tr hW).take HNN.out HN80.out nn h7)
    have HIK := Lib.hid hik30;clear hM hb hik hb0 hik30
    by_cases him : i < m
    case neg =>
     have him1 : ¬ (i : Int) < (m : Int) := by omega
     obtain ⟨j,hj⟩ : ∃ j,min 1 (N - k) = j := ⟨_,rfl⟩;have hj1 : j = 1 := by omega
     have HT1 := Lib.hid (fun W (hW : Below wr.heap.size wr W) => show Calls Tryz.prog 10 #[gP cb,.int .i64 1] W _ from HTk.out W hW 1 (by decide))
     rw [hj] at HT1;have hjn : ¬ (1 : Int) < (j : Int) := by omega
     have hjn2 : ¬ 1 < j := by omega
     have hkj : k + j ≤ N := by omega
     have hjx : i + 1 ≤ k + j + 30 := by have := HIK.out;omega
     clear hj hj1
     go_wp2_with (first
      | (go_at_call 10;(refine (HT1.out _ bel).mono ?_);rintro e wx ⟨Ax,cx,rfl,hox,hMx,htx⟩;have HX := Lib.hid (And.intro hox (And.intro hMx htx));clear hox hMx htx)
      | (at_builtin;refine wpList_append_rows rfl _ _ 38 rfl B 60 i0 (.agg #[.int .i64 0,.int .u64 0,.int .u64 0,.int .u64 0]) 4 32 Tryz.underlying38 hi iz0 iz1 iz2 rfl (by decide) _ _ _ rfl HX.out.2.1.g _ _ _ _ rfl HX.out.1 (nrVs_one _) ?c3 ?c4 ?c5 ?_))
     case c3 => unfold maxLen;omega
     case c4 => omega
     case c5 => exact HX.out.2.1.size
     intro v7 w7 hown hgrow;rw [take_drop_app] at hown;obtain ⟨A7,c7,rfl,_,_,_⟩ := row_form hown;have hM7 := HX.out.2.1.got hown hgrow;have hb7 : Below w2.heap.size w2 w7 := (HB.out.trans (turn_belowM HX.out.2.2 (fun k q => by rw [q];exact HCb.out) HB.out.size)).trans (HX.out.2.1.below hB2 hgrow)
     have HM7 := Lib.hid (And.intro hM7 hb7);clear hM7 hb7 hown hgrow;go_wp2_with fail
     go_roundw
     case rel => exact ⟨i + 1, k + j, A7, c7, rfl, by go_num, by omega, by omega, .inl hjx, HM7.out.1, HM7.out.2⟩
     case measure => simp [Go.RowKit.intOf];omega
    case pos =>
     have him1 : (i : Int) < (m : Int) := by omega
     obtain ⟨b,off,rfl,hbl,hcell⟩ := HS'.out.2 (by omega)
     obtain ⟨z,hz⟩ : ∃ z,sz[i]? = some z := ⟨sz[i]'(by rw [HS'.out.1];exact him),List.getElem?_eq_getElem _⟩
     have q0 := hcell i z hz;have hbw : b < wr.heap.size := by omega
     have HRo := Lib.hid (fun W => round7_any z W)
     have hr7 := roundS_lt (k := z) (n := 7) (by decide)
     clear hcell hz;generalize roundS z 7 = nn at *;obtain ⟨j,hj⟩ : ∃ j,min nn (N - k) = j := ⟨_,rfl⟩;have HT1 := Lib.hid (fun W (hW : Below wr.heap.size wr W) => HTk.out W hW nn (by omega))
     rw [hj] at HT1;have hjn : ¬ (nn : Int) < (j : Int) := by omega
     have hjn2 : ¬ nn < j := by omega
     have hkj : k + j ≤ N := by omega
     have hjx : i + 1 ≤ k + j + 30 := by have := HM30.out;omega
     clear hj
     go_wp2_with (go_at_call 11;(with_reducible refine (HRo.out _).mono ?_);rintro e wu ⟨rfl,hbu⟩;obtain ⟨hcu,hfu⟩ := bcell hbu;have hzu := hbu.size;(try simp at hzu))
     go_wp2_with (first
      | (go_at_call 10;(refine (HT1.out _ bel).mono ?_);rintro e wx ⟨Ax,cx,rfl,hox,hMx,htx⟩;have HX := Lib.hid (And.intro hox (And.intro hMx htx));clear hox hMx htx)
      | (at_builtin;refine wpList_append_rows rfl _ _ 38 rfl B 60 i0 (.agg #[.int .i64 0,.int .u64 0,.int .u64 0,.int .u64 0]) 4 32 Tryz.underlying38 hi iz0 iz1 iz2 rfl (by decide) _ _ _ rfl HX.out.2.1.g _ _ _ _ rfl HX.out.1 (nrVs_one _) ?c3 ?c4 ?c5 ?_))
     case c3 => unfold maxLen;omega
     case c4 => omega
     case c5 => exact HX.out.2.1.size
     intro v7 w7 hown hgrow;rw [take_drop_app] at hown;obtain ⟨A7,c7,rfl,_,_,_⟩ := row_form hown;have hM7 := HX.out.2.1.got hown hgrow;have hBu : Below w2.heap.size w2 wu := HB.out.trans (hbu.mono HB.out.size);have hb7 : Below w2.heap.size w2 w7 := (hBu.trans (turn_belowM HX.out.2.2 (fun k q => by rw [q];exact HCb.out) hBu.size)).trans (HX.out.2.1.below hB2 hgrow)
     have HM7 := Lib.hid (And.intro hM7 hb7);clear hM7 hb7 hown hgrow;go_wp2_with fail
     go_roundw
     case rel => exact ⟨i + 1, k + j, A7, c7, rfl, by go_num, by omega, by omega, .inl hjx, HM7.out.1, HM7.out.2⟩
     case measure => simp [Go.RowKit.intOf];omega
end Go.Proofs.YtildgbhliaonnaaGreat
