/-
  pergolalaw22: small, awake.
-/
import Derived.Test.YtcbjmcnebmhgpaaGreatKMadJ
import Derived.Test.YtcbjmcnebmhgpaaGreatKJoiB
import Derived.Test.YtcbjmcnebmhgpaaGreatKRel1
import Derived.LaidEql
import Derived.Stop.Asserts
import Derived.Lib.IfaceEq
import Derived.RowKitTokens
import Derived.Test.YtcbjmcnebmhgpaaGreatKRef3
import Derived.Test.YtcbjmcnebmhgpaaGreatKEncK
import Derived.Test.YtcbjmcnebmhgpaaGreatKGisJ
import Derived.Test.YtcbjmcnebmhgpaaGreatKHeaC
import Derived.Test.YtcbjmcnebmhgpaaGreatKDist2
import Derived.Test.YtcbjmcnebmhgpaaGreatKWide
import Derived.Test.YtcbjmcnebmhgpaaGreatKBits2
import Derived.Test.YtcbjmcnebmhgpaaGreatKPlainSplit
import Derived.StillTailTactics
import Derived.Test.YtcbjmcnebmhgpaaGreatKLex
import Derived.Test.YtcbjmcnebmhgpaaGreatKAlloc
import Derived.Test.YtcbjmcnebmhgpaaGreatKMBox
import Derived.Test.YtcbjmcnebmhgpaaGreatKNearP
set_option linter.unusedVariables false
set_option linter.unusedSimpArgs false
set_option maxHeartbeats 1000000
set_option maxRecDepth 20000
namespace Go.Proofs.YtcbjmcnebmhgpaaGreat
open Go Go.RowKit Pg
theorem ItmsAt.moreJ {w : World} {B B' n : Nat} {A : Option Addr} {l : List (Int × Ob)} (h : ItmsAt w B A n l) (hB : B ≤ B') : ItmsAt w B' A n l := by
 refine ⟨h.1,fun hn => ?_,fun b off k p hA hp => ?_⟩
 · obtain ⟨b,off,e,hb⟩ := h.2.1 hn
   exact ⟨b,off,e,by omega⟩
 · obtain ⟨A',n',c',h1,h2,h3,h4⟩ := h.2.2 b off k p hA hp
   exact ⟨A',n',c',h1,h2,h3,h4.more hB⟩
def ob4 : Ob := ⟨3,[⟨0,0⟩,⟨2,2⟩]⟩
def ob7 : Ob := ⟨3,[⟨2,2⟩,⟨3,3⟩]⟩
theorem made22_two : madeP [(4,ob4),(7,ob7)] = [(4,ob4),(7,ob7)] := by
 have h1 : ckPut 4 ob4 = 0 := by decide +kernel
 have h2 : ckPut 7 ob7 = 0 := by decide +kernel
 simp [madeP,putP,h1,h2,getK,putK,delK,insK]
theorem pairs22_two : upJ (pairsP [(4,ob4),(7,ob7)] [(4,ob4),(7,ob7)]) = [(4,7)] := by decide +kernel
theorem itms22 {W : World} {b g g' : Nat} (hb : Blk W b 52 #[.int .i64 4,.int .i64 3,.slice (some ⟨g,0,none⟩) 2 2,.int .i64 7,.int .i64 3,.slice (some ⟨g',0,none⟩) 2 2]) (hg : Blk W g 47 #[.int .i64 0,.int .i64 0,.int .i64 2,.int .i64 2]) (hg' : Blk W g' 47 #[.int .i64 2,.int .i64 2,.int .i64 3,.int .i64 3]) : ItmsAt W W.heap.size (some ⟨b,0,none⟩) 2 [(4,ob4),(7,ob7)] := by
 refine ⟨rfl,fun _ => ⟨b,0,rfl,hb.lt⟩,fun b' off k p e hk => ?_⟩
 injection e with e
 injection e with e1 e2
 subst e1 e2
 match k,hk with
 | 0,hk =>
   simp at hk
   subst hk;refine ⟨some ⟨g,0,none⟩,2,2,?_,?_,?_,(pts2 (p := ⟨0,0⟩) (q := ⟨2,2⟩) hg)⟩
   · simpa using hb.cell 0
   · simpa [ob4] using hb.cell 1
   · simpa using hb.cell 2
 | 1,hk =>
   simp at hk
   subst hk;refine ⟨some ⟨g',0,none⟩,2,2,?_,?_,?_,(pts2 (p := ⟨2,2⟩) (q := ⟨3,3⟩) hg')⟩
   · simpa using hb.cell 3
   · simpa [ob7] using hb.cell 4
   · simpa using hb.cell 5
theorem self22 {k : Int} {W w2 : World} {tb mm : Nat} (h : MadeJ k W w2 tb mm [(4,ob4),(7,ob7)]) : ∀ W',Below w2.heap.size w2 W' → Calls Tryz.prog 15 #[gP tb] W' fun e w' => ∃ g c,e = .returned (.tuple #[.slice (some ⟨g,0,none⟩) 1 c,.nilIface]) ∧ g < w'.heap.size ∧ w'.cell? ⟨g,0,none⟩ = some (.int .i64 4) ∧ w'.cell? ⟨g,1,none⟩ = some (.int .i64 7) ∧ Below W'.heap.size W' w' := fun W' hW => by
 obtain ⟨mb,own,imm,Z,t,L,hS,_⟩ := h
 have hil : t.items.length = 2 := by
  have := congrArg List.length hS.ot
  simpa [obsT] using this
 have hsf := JSelf_any (hS.g.tr hW) (by rw [hil];decide)
 rw [hS.ot,pairs22_two] at hsf;refine hsf.mono ?_;rintro e w' ⟨v,rfl,ho,hb⟩
 rcases ho.2 with ⟨_,h0⟩ | ⟨g,cap,cur,rfl,_,hg,_⟩
 · simp at h0
 · refine ⟨g,cap,rfl,(Array.getElem?_eq_some_iff.1 hg).1,?_,?_,hb⟩
   · rw [ho.cellAt _ (by decide)];rfl
   · rw [ho.cellAt _ (by decide)];rfl
theorem awake22_any (w : World) : Calls Tryz.prog 8 #[] w (Ret w (.bool true)) := by
 have HMd : Hid (∀ W b g g',Blk W b 52 #[.int .i64 4,.int .i64 3,.slice (some ⟨g,0,none⟩) 2 2,.int .i64 7,.int .i64 3,.slice (some ⟨g',0,none⟩) 2 2] → Blk W g 47 #[.int .i64 0,.int .i64 0,.int .i64 2,.int .i64 2] → Blk W g' 47 #[.int .i64 2,.int .i64 2,.int .i64 3,.int .i64 3] → Calls Tryz.prog 9 #[.slice (some ⟨b,0,none⟩) 2 2,.int .i64 3] W fun e w' => ∃ tb mm,e = .returned (.tuple #[gP tb,gP mm,.bool true]) ∧ MadeJ (roundS 3 4 : Nat) W w' tb mm [(4,ob4),(7,ob7)] ∧ Below W.heap.size W w') := fun W b g g' hb hg hg' => by
  have := made22_any (some ⟨b,0,none⟩) 2 2 [(4,ob4),(7,ob7)] 3 W (itms22 hb hg hg') (by decide) (by intro p hp;simp at hp;rcases hp with rfl | rfl <;> simp [ob4,ob7])
  rw [made22_two] at this;exact this
 go_enter Tryz.func8,Tryz.ntmps8
 go_wp2_with (first
  | (go_at_call 9;(refine (HMd.out _ _ _ _ blkA blkA blkA).mono ?_);rintro e w2 ⟨tb,mm,rfl,hm2,hb2⟩;have HSf := Lib.hid (self22 hm2);clear hm2;obtain ⟨hc2,hf2⟩ := bcell hb2;have hz2 := hb2.size;(try simp at hz2))
  | (go_at_call 15;(refine (HSf.out _ bel).mono ?_);rintro e w3 ⟨g3,k3,rfl,gl,c0,c1,hb3⟩;obtain ⟨hc3,hf3⟩ := bcell hb3;have hz3 := hb3.size;(try simp at hz3)))
 go_ret;exact ⟨rfl,bel⟩
end Go.Proofs.YtcbjmcnebmhgpaaGreat
