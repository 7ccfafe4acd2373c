/-
  errors.Is by contracts, at an error that is nothing, a number, or one or two Faults around a number; the target is a number.
-/
import Derived.Test.YtjdgibpjlhpanaaDoorRel2
import Derived.LaidEql
import Derived.Stop.Asserts
import Derived.Lib.IfaceEq
import Derived.RowKitTokens
set_option linter.unusedSimpArgs false
set_option linter.unusedVariables false
namespace Go.Proofs.YtjdgibpjlhpanaaDoor
open Go.RowKit Pg Go.Extern.Stop Go.Stop Go.Extern

theorem isTypeOf (v : Value) (w : World) : (Extern.ReflectliteType.typeOf #[.iface 59 v]).run Tryd.prog w = .ok (.iface 119 (.agg #[.pointer (some ⟨1, 59, none⟩)])) w := by kernel_rfl
def compE : Array Value → Sem Value := Extern.ReflectliteType.method fun t => do Rtype.noPackHeld "Comparable" t; pure (.bool (← typeInfo t).comparable)
theorem isComparable (w : World) : (compE #[.agg #[.pointer (some ⟨1, 59, none⟩)]]).run Tryd.prog w = .ok (.bool true) w := by kernel_rfl
theorem isMethodComparable (v : Value) (w : World) : (Go.method 302 119 v "Comparable").run Tryd.prog w = .ok (138, v) w := by kernel_rfl
theorem noIsE (v : Value) (xT : TypeId) (w : World) : (Instr.typeAssert (.iface 59 v) xT 144 true).run Tryd.prog w = .ok (.tuple #[.nilIface, .bool false]) w := run_typeAssert_lacksB Tryd.underlying144 (by kernel_rfl) (by kernel_rfl) v xT w
theorem noIsF (v : Value) (xT : TypeId) (w : World) : (Instr.typeAssert (.iface 64 v) xT 144 true).run Tryd.prog w = .ok (.tuple #[.nilIface, .bool false]) w := run_typeAssert_lacksB Tryd.underlying144 (by kernel_rfl) (by kernel_rfl) v xT w
theorem noUnwrapE (v : Value) (xT : TypeId) (w : World) : (Instr.typeAssert (.iface 59 v) xT 126 true).run Tryd.prog w = .ok (.tuple #[.nilIface, .bool false]) w := run_typeAssert_lacksB Tryd.underlying126 (by kernel_rfl) (by kernel_rfl) v xT w
theorem hasUnwrapF (v : Value) (xT : TypeId) (w : World) : (Instr.typeAssert (.iface 64 v) xT 126 true).run Tryd.prog w = .ok (.tuple #[.iface 64 v, .bool true]) w := run_typeAssert_hasB Tryd.underlying126 (by kernel_rfl) v xT w
theorem noUnwrapsE (v : Value) (xT : TypeId) (w : World) : (Instr.typeAssert (.iface 59 v) xT 128 true).run Tryd.prog w = .ok (.tuple #[.nilIface, .bool false]) w := run_typeAssert_lacksB Tryd.underlying128 (by kernel_rfl) (by kernel_rfl) v xT w
theorem methodUnwrap (v : Value) (w : World) : (Go.method 302 64 v "Unwrap").run Tryd.prog w = .ok (117, v) w := by kernel_rfl
theorem errnoComp : (Tryd.prog.info? 59).map (·.comparable) = some true := by kernel_rfl

/-- errors.Is(nothing, a number) -/
theorem is_nil (b : Int) (w : World) :
    Calls Tryd.prog 51 #[.nilIface, .iface 59 (.int .i64 b)] w fun e w' => e = .returned (.bool false) ∧ w = w' := by
  have hn := run_eql_iface_nil_left (P := Tryd.prog) w 59 (.int .i64 b) Tryd.underlying29
  go_enter Tryd.func51, Tryd.ntmps51
  go_wp2
  go_ret
  exact ⟨rfl, rfl⟩

set_option maxHeartbeats 1000000 in
/-- errors.Is(a number, a number) -/
theorem is_bare (a b : Int) (w : World) :
    Calls Tryd.prog 51 #[.iface 59 (.int .i64 a), .iface 59 (.int .i64 b)] w fun e w' => e = .returned (.bool (decide (a = b))) ∧ w = w' := by
  have h8 := @run_callFunc_extern Tryd.prog 69 _ Extern.ReflectliteType.typeOf Tryd.func69 (by kernel_rfl) (by kernel_rfl) (by kernel_rfl) (by kernel_rfl)
  have h32 := @run_callFunc_extern Tryd.prog 138 _ compE Tryd.func138 (by kernel_rfl) (by kernel_rfl) (by kernel_rfl) (by kernel_rfl)
  have tT := isTypeOf
  have cT := isComparable
  have mR := isMethodComparable
  have nE := noIsE
  have uE := noUnwrapE
  have vE := noUnwrapsE
  have heq := fun w => Lib.run_eql_iface_int (P := Tryd.prog) w (k := .i64) a b Tryd.underlying29 errnoComp Tryd.underlying59
  by_cases hab : a = b
  · subst hab
    go_enter Tryd.func51, Tryd.ntmps51
    go_wp2
    refine wp_loop_rounds 1 ?_
    rw [rounds_succ]
    go_wp2
    go_ret
    exact ⟨by simp, rfl⟩
  · have hb : (a == b) = false := by simpa using hab
    go_enter Tryd.func51, Tryd.ntmps51
    go_wp2
    refine wp_loop_rounds 1 ?_
    rw [rounds_succ]
    go_wp2
    go_ret
    exact ⟨by simp [hab], rfl⟩

set_option maxHeartbeats 1000000 in
/-- errors.Is(a Fault around a number, a number) -/
theorem is_f1 (a b : Int) (g : Nat) (w : World) (h2 : w.cell? ⟨g, 2, none⟩ = some (.iface 59 (.int .i64 a))) :
    Calls Tryd.prog 51 #[faultV g, .iface 59 (.int .i64 b)] w fun e w' => e = .returned (.bool (decide (a = b))) ∧ w = w' := by
  have h8 := @run_callFunc_extern Tryd.prog 69 _ Extern.ReflectliteType.typeOf Tryd.func69 (by kernel_rfl) (by kernel_rfl) (by kernel_rfl) (by kernel_rfl)
  have h32 := @run_callFunc_extern Tryd.prog 138 _ compE Tryd.func138 (by kernel_rfl) (by kernel_rfl) (by kernel_rfl) (by kernel_rfl)
  have tT := isTypeOf
  have cT := isComparable
  have mR := isMethodComparable
  have nE := noIsE
  have uE := noUnwrapE
  have vE := noUnwrapsE
  have heq := fun w => Lib.run_eql_iface_int (P := Tryd.prog) w (k := .i64) a b Tryd.underlying29 errnoComp Tryd.underlying59
  have nF := noIsF
  have uF := hasUnwrapF
  have mU := methodUnwrap
  have htyg := fun w => run_eql_iface_types (P := Tryd.prog) 64 59 (.pointer (some ⟨g, 0, none⟩)) (.int .i64 b) Tryd.underlying29 (by decide) w
  unfold faultV
  by_cases hab : a = b
  · subst hab
    go_enter Tryd.func51, Tryd.ntmps51
    go_wp2
    refine wp_loop_rounds 2 ?_
    rw [rounds_succ]
    go_wp2
    rw [rounds_succ]
    go_wp2
    go_ret
    exact ⟨by simp, rfl⟩
  · have hb : (a == b) = false := by simpa using hab
    go_enter Tryd.func51, Tryd.ntmps51
    go_wp2
    refine wp_loop_rounds 2 ?_
    rw [rounds_succ]
    go_wp2
    rw [rounds_succ]
    go_wp2
    go_ret
    exact ⟨by simp [hab], rfl⟩

set_option maxHeartbeats 1000000 in
/-- errors.Is(a Fault around a Fault around a number, a number) -/
theorem is_f2 (a b : Int) (g h : Nat) (w : World) (h2 : w.cell? ⟨g, 2, none⟩ = some (faultV h)) (h3 : w.cell? ⟨h, 2, none⟩ = some (.iface 59 (.int .i64 a))) :
    Calls Tryd.prog 51 #[faultV g, .iface 59 (.int .i64 b)] w fun e w' => e = .returned (.bool (decide (a = b))) ∧ w = w' := by
  have h8 := @run_callFunc_extern Tryd.prog 69 _ Extern.ReflectliteType.typeOf Tryd.func69 (by kernel_rfl) (by kernel_rfl) (by kernel_rfl) (by kernel_rfl)
  have h32 := @run_callFunc_extern Tryd.prog 138 _ compE Tryd.func138 (by kernel_rfl) (by kernel_rfl) (by kernel_rfl) (by kernel_rfl)
  have tT := isTypeOf
  have cT := isComparable
  have mR := isMethodComparable
  have nE := noIsE
  have uE := noUnwrapE
  have vE := noUnwrapsE
  have heq := fun w => Lib.run_eql_iface_int (P := Tryd.prog) w (k := .i64) a b Tryd.underlying29 errnoComp Tryd.underlying59
  have nF := noIsF
  have uF := hasUnwrapF
  have mU := methodUnwrap
  have htyg := fun w => run_eql_iface_types (P := Tryd.prog) 64 59 (.pointer (some ⟨g, 0, none⟩)) (.int .i64 b) Tryd.underlying29 (by decide) w
  have htyh := fun w => run_eql_iface_types (P := Tryd.prog) 64 59 (.pointer (some ⟨h, 0, none⟩)) (.int .i64 b) Tryd.underlying29 (by decide) w
  unfold faultV at *
  by_cases hab : a = b
  · subst hab
    go_enter Tryd.func51, Tryd.ntmps51
    go_wp2
    refine wp_loop_rounds 3 ?_
    rw [rounds_succ]
    go_wp2
    rw [rounds_succ]
    go_wp2
    rw [rounds_succ]
    go_wp2
    go_ret
    exact ⟨by simp, rfl⟩
  · have hb : (a == b) = false := by simpa using hab
    go_enter Tryd.func51, Tryd.ntmps51
    go_wp2
    refine wp_loop_rounds 3 ?_
    rw [rounds_succ]
    go_wp2
    rw [rounds_succ]
    go_wp2
    rw [rounds_succ]
    go_wp2
    go_ret
    exact ⟨by simp [hab], rfl⟩

end Go.Proofs.YtjdgibpjlhpanaaDoor
