/-
  Contract of math/bits.Div64.
-/
import Derived.Test.YtcbjmcnebmhgpaaGreatKPlane
import Derived.Test.YtcbjmcnebmhgpaaGreatChecked
import Derived.Lib.Strings
import Derived.Lib.Slices
import Derived.Lib.Small
import Derived.Lib.Walk
import Derived.Lib.BitFns
import Derived.Lib.ItoaNum
import Derived.Test.YtcbjmcnebmhgpaaGreatKLex
import Derived.Lib.EndianBits
import Derived.Shelf.Bits.Mul64
set_option linter.unusedVariables false
set_option linter.unusedSimpArgs false
namespace Pg
end Pg
namespace Go.Proofs.YtcbjmcnebmhgpaaGreat
open Go.RowKit Pg
theorem wrap_nat (n : Nat) (h : n < 18446744073709551616) : IntKind.u64.wrap (n : Int) = (n : Int) := wraps_u64 _ (by omega) (by simp;omega)
end Go.Proofs.YtcbjmcnebmhgpaaGreat
