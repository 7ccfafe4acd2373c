/-
  Contracts of the references of chapter 5: clash.
  Contracts of the references of chapters 5 and 6: CheckRing, Check, CheckQuery.
  Contracts of the references of chapter 6: Check, CheckQuery.
-/
import Derived.Test.YtmliljdbpkikpaaDoorRef1
import Derived.Test.YtmliljdbpkikpaaDoorRel1
set_option linter.unusedSimpArgs false
set_option linter.unusedVariables false
namespace Go.Proofs.YtmliljdbpkikpaaDoor
open Go.RowKit Pg

theorem wrap_s {k : Nat} (hk : k ≤ 1000000) : IntKind.i64.wrap ((k : Int) + 1) = (k : Int) + 1 := IntWalk.i64_in _ (by omega)

end Go.Proofs.YtmliljdbpkikpaaDoor
set_option linter.unusedSimpArgs false
set_option linter.unusedVariables false
namespace Go.Proofs.YtmliljdbpkikpaaDoor
open Go.RowKit Pg
/-- two numbers: an error's, and a place -/
def Ret2 (w : World) (k : Nat) : Ending → World → Prop := fun e w' => ∃ id : Int, e = .returned (.tuple #[.int .i64 k, .int .i64 id]) ∧ Below w.heap.size w w'
theorem ret2_of {w w' : World} {k : Nat} {id : Int} (h : Below w.heap.size w w') : Ret2 w k (.returned (.tuple #[.int .i64 k, .int .i64 id])) w' := ⟨id, rfl, h⟩

def badC (l : List Pt) (i j : Nat) : Bool := decide (i < j) && (decide (pt l i = pt l j) || clash l i j)
theorem clashAny_t {l : List Pt} {i k : Nat} (hi : i < l.length) (hk : k < l.length) (h : badC l i k = true) : clashAny l = true :=
  any_range_true _ _ i hi (any_range_true _ _ k hk h)
theorem clashAny_f {l : List Pt} (h : ∀ i, i < l.length → ∀ k, k < l.length → badC l i k = false) : clashAny l = false :=
  any_range_false _ _ fun i hi => any_range_false _ _ fun k hk => h i hi k hk

end Go.Proofs.YtmliljdbpkikpaaDoor
set_option linter.unusedSimpArgs false
set_option linter.unusedVariables false
namespace Go.Proofs.YtmliljdbpkikpaaDoor
open Go.RowKit Pg
end Go.Proofs.YtmliljdbpkikpaaDoor
