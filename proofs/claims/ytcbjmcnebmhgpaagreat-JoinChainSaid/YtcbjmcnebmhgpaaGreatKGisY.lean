/-
  gist: search: the ids below a node whose keys ask and whose objects match.
-/
import Derived.Test.YtcbjmcnebmhgpaaGreatKGisJ
import Derived.Test.YtcbjmcnebmhgpaaGreatKHeaC
import Derived.Test.YtcbjmcnebmhgpaaGreatKDist2
import Derived.Test.YtcbjmcnebmhgpaaGreatKWide
import Derived.Test.YtcbjmcnebmhgpaaGreatKBits2
import Derived.Test.YtcbjmcnebmhgpaaGreatKPlainSplit
import Derived.StillTailTactics
import Derived.Test.YtcbjmcnebmhgpaaGreatKLex
import Derived.Test.YtcbjmcnebmhgpaaGreatKAlloc
import Derived.Test.YtcbjmcnebmhgpaaGreatKMBox
import Derived.Test.YtcbjmcnebmhgpaaGreatKRel1
import Derived.Test.YtcbjmcnebmhgpaaGreatKNearP
import Derived.Test.YtcbjmcnebmhgpaaGreatKLawsC
import Derived.Laws.AppendOwnNone
set_option linter.unusedVariables false
set_option linter.unusedSimpArgs false
namespace Pg
open Go Go.RowKit
def idcs (l : List Int) : List Value := l.map fun i => .int .i64 i
theorem idcs_one (l : List Int) : ∀ u ∈ idcs l,u.oneCell' = true := by
 intro u hu;obtain ⟨x,_,rfl⟩ := List.mem_map.1 hu
 rfl
theorem flat_take_le {α β : Type} (f : α → List β) (l : List α) (i : Nat) : ((l.take i).flatMap f).length ≤ (l.flatMap f).length := by
 have : l.flatMap f = (l.take i).flatMap f ++ (l.drop i).flatMap f := by rw [← List.flatMap_append,List.take_append_drop]
 rw [this,List.length_append]
 exact Nat.le_add_right _ _
end Pg
namespace Go.Proofs.YtcbjmcnebmhgpaaGreat
open Go Go.RowKit Pg
theorem Tryz.infoIY : (Tryz.prog.info? 3).map (fun i => (i.zero,i.size,i.bytes)) = some (some (.int .i64 0),1,8) := by kernel_rfl
theorem one_atY {w : World} {a : Value} {t : TypeId} : ∀ (j : Nat) (v : Value),[a][j]? = some v → (w.alloc (.cells #[a] t)).cell? ((⟨w.heap.size,0,none⟩ : Addr).add j) = some v := by
 intro j v hj
 match j,hj with
 | 0,hj => simp at hj;subst hj;simp [Addr.add]
theorem wpList_append_rows {P : Program} {w : World} {ops : Array Oper} {rest : List Oper} {o : Oper} {a : Act} {Q : Exit → Act → World → Prop} (hgd : o.guard = none) (s x : Operand) (t : TypeId)
 (ho : o.op = .call { callee := .builtin .append,args := #[s,x],argTypes := #[t,t] })
 (base : Nat) (e : TypeId) (i : TypeInfo) (z : Value) (size bytes : Nat) (ht : P.underlying t = some (.slice e)) (hi : P.info? e = some i) (hz : i.zero = some z)
 (hsize : i.size = size) (hby : i.bytes = bytes) (hzs : z.cells.size = size) (hsz : 0 < size)
 (v : Value) (n : Nat) (xs : List Value) (hs : a.eval s = v) (hown : w.ownsRow base e size v n xs) (base2 : Nat) (v2 : Value) (m : Nat) (ys : List Value) (hx : a.eval x = v2) (hown2 : w.ownsRow base2 e size v2 m ys) (h1 : ∀ u ∈ ys,u.oneCell' = true)
 (h63 : n + m ≤ maxLen) (hbytes : (n + m) * bytes ≤ 140737488355328) (hbase : base ≤ w.heap.size)
 (h : ∀ v' w',w'.ownsRow base e size v' (n + m) (xs ++ ys) → w.grownBy w' v.ownBlock → wpList P ops Q rest (a.put o.dst v') w') : wpList P ops Q (o :: rest) a w := by
 have hl := hown2.1
 rcases hown2.2 with ⟨e1,h0⟩ | ⟨g,cap,cur,e1,hg,hh,hc⟩
 · subst e1 h0
   have hys : ys = [] := by simpa using hl
   subst hys;exact wpList_append_own_none hgd s x t ho base e i size ht hi v n xs hs hown hx (h v w (by simpa using hown) ⟨rfl,rfl,rfl,Nat.le_refl _,fun _ _ _ => rfl⟩)
 · subst e1
   exact wpList_append_own w hgd s x t ho base e i z size bytes ht hi hz hsize hby hzs hsz v n xs hs hown ⟨g,0,none⟩ m cap ys hx hl (fun j u hj => by
    have hjl := (List.getElem?_eq_some_iff.1 hj).1;have := hown2.cellAt j (by omega)
    rw [hj] at this
    simp only [Addr.add, Nat.zero_add]
    split
    · rename_i h0
      rw [h0] at this;exact this
    · exact this) h1 h63 hbytes hbase fun v' w' h2 h3 _ => h v' w' h2 h3
section
variable {own imm : Nat → Prop} {tb mb : Nat} {t : Tr}
end
end Go.Proofs.YtcbjmcnebmhgpaaGreat
