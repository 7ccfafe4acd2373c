/-
  Contracts of package wide: numbers of 128 bits;plane.gap,plane.squares,plane.Dist.
-/
import Derived.Test.YtcbjmcnebmhgpaaGreatKPlane
import Derived.Test.YtcbjmcnebmhgpaaGreatKRing
import Derived.Lib.Mul64
import Derived.Shelf.Bits.Mul64
import Derived.Laws.Externs
set_option linter.unusedVariables false
set_option linter.unusedSimpArgs false
namespace Go.Proofs.YtcbjmcnebmhgpaaGreat
open Go.RowKit Pg
theorem wp_gen2 {P : Program} {c : Code} {Q : Exit → Act → World → Prop} {a : Act} {w : World} (R : World → Prop) (h : R w) (k : ∀ w2,R w2 → c.wp P Q a w2) : c.wp P Q a w := k w h
theorem post_gen2 {P : Program} {f : Func} {Q : Ending → World → Prop} {x : Exit} {a : Act} {w : World} (R : World → Prop) (h : R w) (k : ∀ w2,R w2 → bodyPost P f Q x a w2) : bodyPost P f Q x a w := k w h
abbrev uV (n : Nat) : Value := .agg #[.int .u64 ((n / 18446744073709551616 : Nat) : Int),.int .u64 ((n % 18446744073709551616 : Nat) : Int)]
theorem two_put {W : World} {g : Nat} {t : TypeId} {x y a b : Value} (h : Blk W g t #[x,y]) :
 Blk ((W.setCell ⟨g,0,none⟩ a).setCell ⟨g,1,none⟩ b) g t #[a,b] := ((h.set_ 0 a).set_ 1 b).eq_ (by simp)
end Go.Proofs.YtcbjmcnebmhgpaaGreat
