/-
  Cursors of what is near.
-/
import Derived.Test.YtcbjmcnebmhgpaaGreatEGisJ
import Derived.Test.YtcbjmcnebmhgpaaGreatEHeaC
import Derived.Test.YtcbjmcnebmhgpaaGreatEDist2
import Derived.Test.YtcbjmcnebmhgpaaGreatEWide
import Derived.Test.YtcbjmcnebmhgpaaGreatEBits2
import Derived.Test.YtcbjmcnebmhgpaaGreatEPlainSplit
import Derived.StillTailTactics
import Derived.Test.YtcbjmcnebmhgpaaGreatELex
import Derived.Test.YtcbjmcnebmhgpaaGreatEAlloc
import Derived.Test.YtcbjmcnebmhgpaaGreatEMBox
import Derived.Test.YtcbjmcnebmhgpaaGreatERel1
import Derived.Test.YtcbjmcnebmhgpaaGreatEEncK
import Derived.Test.YtcbjmcnebmhgpaaGreatENearP
import Derived.Test.YtcbjmcnebmhgpaaGreatEGisB
set_option linter.unusedVariables false
set_option linter.unusedSimpArgs false
namespace Go.Proofs.YtcbjmcnebmhgpaaGreat
open Go Go.RowKit Pg
theorem own_cellsIn {w : World} {base size n : Nat} {e : TypeId} {v : Value} {xs : List Value} (h : w.ownsRow base e size v n xs) {A : Option Addr} {c : Nat} (hv : v = .slice A n c) : CellsIn w (fun b => v.ownBlock = some b) A xs := fun hn => by
 have hx := h.1
 rcases h.2 with ⟨h0,h1⟩ | ⟨g,cap,cur,rfl,_,hg,_⟩
 · subst h1
   rw [hx] at hn
   simp at hn
 · injection hv with hv _ _
   refine ⟨g,0,hv.symm,rfl,(Array.getElem?_eq_some_iff.1 hg).1,fun k u hk => ?_⟩
   rw [Nat.zero_add,h.cellAt k (by have := (List.getElem?_eq_some_iff.1 hk).1;omega)]
   exact hk
end Go.Proofs.YtcbjmcnebmhgpaaGreat
