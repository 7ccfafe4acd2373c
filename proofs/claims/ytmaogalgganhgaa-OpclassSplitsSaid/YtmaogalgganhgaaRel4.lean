/-
  Contracts of package rel: rings.
-/
import Derived.Test.YtmaogalgganhgaaRel3
set_option linter.unusedSimpArgs false
set_option linter.unusedVariables false
namespace Go.Proofs.Ytmaogalgganhgaa
open Go.RowKit Pg

theorem crossAny_t {a b : List Pt} {i k : Nat} (hi : i < a.length) (hk : k < b.length) (h : meetS (pt a i) (nx a i) (pt b k) (nx b k) = true) : crossAny a b = true :=
  any_range_true _ (fun i => (List.range b.length).any fun k => meetS (pt a i) (nx a i) (pt b k) (nx b k)) i hi (any_range_true _ (fun k => meetS (pt a i) (nx a i) (pt b k) (nx b k)) k hk h)
theorem crossAny_f {a b : List Pt} (h : ∀ i, i < a.length → ∀ k, k < b.length → meetS (pt a i) (nx a i) (pt b k) (nx b k) = false) : crossAny a b = false :=
  any_range_false _ _ fun i hi => any_range_false _ _ fun k hk => h i hi k hk

end Go.Proofs.Ytmaogalgganhgaa
