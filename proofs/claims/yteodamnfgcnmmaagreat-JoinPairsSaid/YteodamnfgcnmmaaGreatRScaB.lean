/-Cursors of what is near.-/
import Derived.Test.YteodamnfgcnmmaaGreatRGisJ
set_option linter.unusedVariables false
set_option linter.unusedSimpArgs false
namespace Go.Proofs.YteodamnfgcnmmaaGreat
open Go Go.RowKit Pg
theorem qe6 {w:World} {base size n:Nat} {e:TypeId} {v:Value} {xs:List Value} (h:w.ownsRow base e size v n xs) {A:Option Addr} {c:Nat} (hv:v=.slice A n c):qci w (fun b=>v.ownBlock=some b) A xs:=fun hn=>by
 have hx:=h.1
 rcases h.2 with ⟨h0,h1⟩|⟨g,cap,cur,rfl,_,hg,_⟩
 · subst h1
   rw [hx] at hn
   simp at hn
 · injection hv with hv _ _
   refine⟨g,0,hv.symm,rfl,(zqy.1 hg).1,fun k u hk=> ?_⟩
   rw [Nat.zero_add,h.cellAt k (by have:=(zsy.1 hk).1;omega)]
   exact hk
end Go.Proofs.YteodamnfgcnmmaaGreat
