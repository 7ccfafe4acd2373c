/-
  Contracts of package segm: may, span, On, Proper, Meet.
-/
import Derived.Test.YtmliljdbpkikpaaDoorUnion
set_option linter.unusedSimpArgs false
set_option linter.unusedVariables false
namespace Go.Proofs.YtmliljdbpkikpaaDoor
open Go.RowKit Pg

theorem errV_ok (b : Bool) : errV (if b = true then 0 else 2) = (if b = true then .nilIface else .iface 60 (.int .i64 2)) := by cases b <;> rfl

end Go.Proofs.YtmliljdbpkikpaaDoor
