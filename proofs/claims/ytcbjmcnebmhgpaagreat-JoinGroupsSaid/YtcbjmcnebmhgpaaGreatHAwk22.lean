/-
  pergolaalike.Items and Round, pergolaref14.SameNears at equal rows, pergolalaw18.small.
  pergolalaw22: small, awake.
-/
import Derived.Test.YtcbjmcnebmhgpaaGreatHMadJ
import Derived.Test.YtcbjmcnebmhgpaaGreatHLawsC
import Derived.Test.YtcbjmcnebmhgpaaGreatHGisJ
import Derived.Test.YtcbjmcnebmhgpaaGreatHHeaC
import Derived.Test.YtcbjmcnebmhgpaaGreatHDist2
import Derived.Test.YtcbjmcnebmhgpaaGreatHWide
import Derived.Test.YtcbjmcnebmhgpaaGreatHBits2
import Derived.Test.YtcbjmcnebmhgpaaGreatHPlainSplit
import Derived.StillTailTactics
import Derived.Test.YtcbjmcnebmhgpaaGreatHLex
import Derived.Test.YtcbjmcnebmhgpaaGreatHAlloc
import Derived.Test.YtcbjmcnebmhgpaaGreatHMBox
import Derived.Test.YtcbjmcnebmhgpaaGreatHRel1
import Derived.Test.YtcbjmcnebmhgpaaGreatHEncK
import Derived.Test.YtcbjmcnebmhgpaaGreatHNearP
import Derived.Test.YtcbjmcnebmhgpaaGreatHJoiB
set_option linter.unusedVariables false
set_option linter.unusedSimpArgs false
set_option maxHeartbeats 2000000
set_option maxRecDepth 20000
namespace Go.Proofs.YtcbjmcnebmhgpaaGreat
open Go Go.RowKit Pg
theorem items_any (B n c top : Nat) (A : Option Addr) (L : List (Int × Ob)) (w : World) (hl : ItmsAt w B A n L) (hB : B ≤ w.heap.size) (hn : n ≤ 1000000) (ht : top < 1099511627776) :
 Calls Tryz.prog 18 #[.slice A n c,.int .i64 top] w fun e w' => ∃ t : Nat,e = .returned (.int .i64 t) ∧ (t ≤ top → ∀ p ∈ L,p.2.pts.length ≤ top) ∧ Below w.heap.size w w' := by
 have hLn := hl.1;have HL := Lib.hid hl;clear hl
 go_enter Tryz.func18,Tryz.ntmps18
 go_wp2_with (go_at_call 41;(with_reducible refine (sum_one0 _ n 3 _ ?_).mono ?_);(focus exact blkA);rintro e w1 ⟨rfl,rfl⟩)
 go_loopw [5,6] (fun vn vi wr => ∃ k m : Nat,k ≤ n ∧ vi = .int .i64 k ∧ vn = .int .i64 m ∧ m ≤ 1099511627776 ∧ (m ≤ top → ∀ l ∈ L.take k,l.2.pts.length ≤ top) ∧ Below w.heap.size w wr) (fun _ vi _ => n - (Go.RowKit.intOf vi).toNat)
 case atStart => exact ⟨0,_,by omega,rfl,rfl,(sumS_le _ _ (by decide)).2,fun _ l hl => by simp at hl,bel⟩
 case round =>
  obtain ⟨k,m,hk,rfl,rfl,hm,hs,hb⟩ := hrel
  by_cases hlt : k < n
  · have hk1 : (k : Int) < (n : Int) := by omega
    by_cases hmt : m ≤ top
    · have hmt1 : (m : Int) ≤ (top : Int) := by omega
      obtain ⟨b,off,p,A',n',c',rfl,hab,hx,q0,q1,q2,hpt⟩ := (HL.out.below (hb.mono hB)).at_ hlt;have hbw : b < wr.heap.size := by have := hb.size;omega
      have hS := Lib.hid (And.intro (hs hmt) (And.intro hx hpt.1));have hM := Lib.hid hm;obtain ⟨m',hm'⟩ : ∃ m',sumS m [n'] = m' := ⟨_,rfl⟩;have HM' := Lib.hid hm';have HSS := Lib.hid (fun g t w hg => sum_one g m n' t w hg hm)
      rw [hm'] at HSS;clear hs hm hm' hpt hx
      go_wp2_with (go_at_call 41;(with_reducible refine (HSS.out _ 3 _ ?_).mono ?_);(focus exact blkA);rintro e w1 ⟨rfl,rfl⟩)
      go_roundw
      case rel =>
       refine ⟨k + 1,m',by omega,by go_num,rfl,by rw [← HM'.out];exact (sumS_le _ _ hM.out).2,fun h l hl => ?_,bel⟩
       obtain ⟨h1,h2,h3⟩ := hS.out;rw [List.take_add_one,h2] at hl
       rcases List.mem_append.1 hl with hl | hl
       · exact h1 l hl
       · simp at hl
         subst hl;have := sumS_small [n'] m hM.out (by rw [HM'.out];omega)
         rw [HM'.out] at this
         simp at this
         omega
      case measure => simp [Go.RowKit.intOf];omega
    · have hmt1 : ¬ (m : Int) ≤ (top : Int) := by omega
      clear hs;go_wp2_with fail;go_ret;exact ⟨m,rfl,fun h => absurd h hmt,hb⟩
  · obtain rfl : n = k := by omega
    rw [List.take_of_length_le (by omega)] at hs
    have HS := Lib.hid hs;clear hs;go_wp2_with fail;go_ret;exact ⟨m,rfl,HS.out,hb⟩
theorem ItmsAt.moreJ {w : World} {B B' n : Nat} {A : Option Addr} {l : List (Int × Ob)} (h : ItmsAt w B A n l) (hB : B ≤ B') : ItmsAt w B' A n l := by
 refine ⟨h.1,fun hn => ?_,fun b off k p hA hp => ?_⟩
 · obtain ⟨b,off,e,hb⟩ := h.2.1 hn
   exact ⟨b,off,e,by omega⟩
 · obtain ⟨A',n',c',h1,h2,h3,h4⟩ := h.2.2 b off k p hA hp
   exact ⟨A',n',c',h1,h2,h3,h4.more hB⟩
theorem small22_any (B n c : Nat) (A : Option Addr) (L : List (Int × Ob)) (w : World) (hl : ItmsAt w B A n L) (hB : B ≤ w.heap.size) (hn : n ≤ 9223372036854775807) :
 Calls Tryz.prog 7 #[.slice A n c] w fun e w' => ∃ s : Bool,e = .returned (.bool s) ∧ (s = true → n ≤ 50 ∧ ∀ p ∈ L,p.2.pts.length ≤ 600) ∧ Below w.heap.size w w' := by
 have HL := Lib.hid hl;clear hl
 by_cases h80 : n ≤ 50
 · have h1 : (n : Int) ≤ 50 := by omega
   have HI := Lib.hid (fun W (hW : Below w.heap.size w W) => items_any B n c 600 A L W (HL.out.below (hW.mono hB)) (Nat.le_trans hB hW.size) (by omega) (by decide))
   go_enter Tryz.func7, Tryz.ntmps7
   go_wp2_with (go_at_call 18;(refine (HI.out _ bel).mono ?_);rintro e w1 ⟨t,rfl,hs,hb1⟩;have HS := Lib.hid hs;clear hs;obtain ⟨hc1,hf1⟩ := bcell hb1;have hz1 := hb1.size;(try simp at hz1))
   go_ret;refine ⟨_,rfl,fun h => ⟨h80,?_⟩,bel⟩
   have : t ≤ 600 := by simp at h;omega
   exact HS.out this
 · have h1 : ¬ (n : Int) ≤ 50 := by omega
   go_enter Tryz.func7, Tryz.ntmps7
   go_wp2;go_ret;refine ⟨rfl,?_⟩;exact bel
def ob4 : Ob := ⟨3,[⟨0,0⟩,⟨2,2⟩]⟩
def ob7 : Ob := ⟨3,[⟨2,2⟩,⟨3,3⟩]⟩
theorem made22_two : madeP [(4,ob4),(7,ob7)] = [(4,ob4),(7,ob7)] := by
 have h1 : ckPut 4 ob4 = 0 := by decide +kernel
 have h2 : ckPut 7 ob7 = 0 := by decide +kernel
 simp [madeP,putP,h1,h2,getK,putK,delK,insK]
theorem pairs22_two : upJ (pairsP [(4,ob4),(7,ob7)] [(4,ob4),(7,ob7)]) = [(4,7)] := by decide +kernel
theorem itms22 {W : World} {b g g' : Nat} (hb : Blk W b 52 #[.int .i64 4,.int .i64 3,.slice (some ⟨g,0,none⟩) 2 2,.int .i64 7,.int .i64 3,.slice (some ⟨g',0,none⟩) 2 2]) (hg : Blk W g 47 #[.int .i64 0,.int .i64 0,.int .i64 2,.int .i64 2]) (hg' : Blk W g' 47 #[.int .i64 2,.int .i64 2,.int .i64 3,.int .i64 3]) : ItmsAt W W.heap.size (some ⟨b,0,none⟩) 2 [(4,ob4),(7,ob7)] := by
 refine ⟨rfl,fun _ => ⟨b,0,rfl,hb.lt⟩,fun b' off k p e hk => ?_⟩
 injection e with e
 injection e with e1 e2
 subst e1 e2
 match k,hk with
 | 0,hk =>
   simp at hk
   subst hk;refine ⟨some ⟨g,0,none⟩,2,2,?_,?_,?_,(pts2 (p := ⟨0,0⟩) (q := ⟨2,2⟩) hg)⟩
   · simpa using hb.cell 0
   · simpa [ob4] using hb.cell 1
   · simpa using hb.cell 2
 | 1,hk =>
   simp at hk
   subst hk;refine ⟨some ⟨g',0,none⟩,2,2,?_,?_,?_,(pts2 (p := ⟨2,2⟩) (q := ⟨3,3⟩) hg')⟩
   · simpa using hb.cell 3
   · simpa [ob7] using hb.cell 4
   · simpa using hb.cell 5
theorem self22 {k : Int} {W w2 : World} {tb mm : Nat} (h : MadeJ k W w2 tb mm [(4,ob4),(7,ob7)]) : ∀ W',Below w2.heap.size w2 W' → Calls Tryz.prog 15 #[gP tb] W' fun e w' => ∃ g c,e = .returned (.tuple #[.slice (some ⟨g,0,none⟩) 1 c,.nilIface]) ∧ g < w'.heap.size ∧ w'.cell? ⟨g,0,none⟩ = some (.int .i64 4) ∧ w'.cell? ⟨g,1,none⟩ = some (.int .i64 7) ∧ Below W'.heap.size W' w' := fun W' hW => by
 obtain ⟨mb,own,imm,Z,t,L,hS,_⟩ := h
 have hil : t.items.length = 2 := by
  have := congrArg List.length hS.ot
  simpa [obsT] using this
 have hsf := JSelf_any (hS.g.tr hW) (by rw [hil];decide)
 rw [hS.ot,pairs22_two] at hsf;refine hsf.mono ?_;rintro e w' ⟨v,rfl,ho,hb⟩
 rcases ho.2 with ⟨_,h0⟩ | ⟨g,cap,cur,rfl,_,hg,_⟩
 · simp at h0
 · refine ⟨g,cap,rfl,(Array.getElem?_eq_some_iff.1 hg).1,?_,?_,hb⟩
   · rw [ho.cellAt _ (by decide)];rfl
   · rw [ho.cellAt _ (by decide)];rfl
theorem awake22_any (w : World) : Calls Tryz.prog 8 #[] w (Ret w (.bool true)) := by
 have HMd : Hid (∀ W b g g',Blk W b 52 #[.int .i64 4,.int .i64 3,.slice (some ⟨g,0,none⟩) 2 2,.int .i64 7,.int .i64 3,.slice (some ⟨g',0,none⟩) 2 2] → Blk W g 47 #[.int .i64 0,.int .i64 0,.int .i64 2,.int .i64 2] → Blk W g' 47 #[.int .i64 2,.int .i64 2,.int .i64 3,.int .i64 3] → Calls Tryz.prog 9 #[.slice (some ⟨b,0,none⟩) 2 2,.int .i64 3] W fun e w' => ∃ tb mm,e = .returned (.tuple #[gP tb,gP mm,.bool true]) ∧ MadeJ (roundS 3 4 : Nat) W w' tb mm [(4,ob4),(7,ob7)] ∧ Below W.heap.size W w') := fun W b g g' hb hg hg' => by
  have := made22_any (some ⟨b,0,none⟩) 2 2 [(4,ob4),(7,ob7)] 3 W (itms22 hb hg hg') (by decide) (by intro p hp;simp at hp;rcases hp with rfl | rfl <;> simp [ob4,ob7])
  rw [made22_two] at this;exact this
 go_enter Tryz.func8,Tryz.ntmps8
 go_wp2_with (first
  | (go_at_call 9;(refine (HMd.out _ _ _ _ blkA blkA blkA).mono ?_);rintro e w2 ⟨tb,mm,rfl,hm2,hb2⟩;have HSf := Lib.hid (self22 hm2);clear hm2;obtain ⟨hc2,hf2⟩ := bcell hb2;have hz2 := hb2.size;(try simp at hz2))
  | (go_at_call 15;(refine (HSf.out _ bel).mono ?_);rintro e w3 ⟨g3,k3,rfl,gl,c0,c1,hb3⟩;obtain ⟨hc3,hf3⟩ := bcell hb3;have hz3 := hb3.size;(try simp at hz3)))
 go_ret;exact ⟨rfl,bel⟩
end Go.Proofs.YtcbjmcnebmhgpaaGreat
