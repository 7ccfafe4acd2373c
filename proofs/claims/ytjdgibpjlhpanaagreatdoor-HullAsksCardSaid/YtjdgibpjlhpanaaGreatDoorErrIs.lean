/-
  errors.Is by contracts, at an error that is nothing, a number, or one or two Faults around a number; the target is a number.
-/
import Derived.Test.YtjdgibpjlhpanaaGreatDoorRel2
import Derived.LaidEql
import Derived.Stop.Asserts
import Derived.Lib.IfaceEq
import Derived.RowKitTokens
set_option linter.unusedSimpArgs false
set_option linter.unusedVariables false
namespace Go.Proofs.YtjdgibpjlhpanaaGreatDoor
open Go.RowKit Pg Go.Extern.Stop Go.Stop Go.Extern

theorem isTypeOf (v : Value) (w : World) : (Extern.ReflectliteType.typeOf #[.iface 131 v]).run Tryz.prog w = .ok (.iface 218 (.agg #[.pointer (some ⟨3, 131, none⟩)])) w := by kernel_rfl
def compE : Array Value → Sem Value := Extern.ReflectliteType.method fun t => do Rtype.noPackHeld "Comparable" t; pure (.bool (← typeInfo t).comparable)
theorem isComparable (w : World) : (compE #[.agg #[.pointer (some ⟨3, 131, none⟩)]]).run Tryz.prog w = .ok (.bool true) w := by kernel_rfl
theorem isMethodComparable (v : Value) (w : World) : (Go.method 401 218 v "Comparable").run Tryz.prog w = .ok (251, v) w := by kernel_rfl
theorem noIsE (v : Value) (xT : TypeId) (w : World) : (Instr.typeAssert (.iface 131 v) xT 250 true).run Tryz.prog w = .ok (.tuple #[.nilIface, .bool false]) w := run_typeAssert_lacksB Tryz.underlying250 (by kernel_rfl) (by kernel_rfl) v xT w
theorem noIsF (v : Value) (xT : TypeId) (w : World) : (Instr.typeAssert (.iface 121 v) xT 250 true).run Tryz.prog w = .ok (.tuple #[.nilIface, .bool false]) w := run_typeAssert_lacksB Tryz.underlying250 (by kernel_rfl) (by kernel_rfl) v xT w
theorem noUnwrapE (v : Value) (xT : TypeId) (w : World) : (Instr.typeAssert (.iface 131 v) xT 225 true).run Tryz.prog w = .ok (.tuple #[.nilIface, .bool false]) w := run_typeAssert_lacksB Tryz.underlying225 (by kernel_rfl) (by kernel_rfl) v xT w
theorem hasUnwrapF (v : Value) (xT : TypeId) (w : World) : (Instr.typeAssert (.iface 121 v) xT 225 true).run Tryz.prog w = .ok (.tuple #[.iface 121 v, .bool true]) w := run_typeAssert_hasB Tryz.underlying225 (by kernel_rfl) v xT w
theorem noUnwrapsE (v : Value) (xT : TypeId) (w : World) : (Instr.typeAssert (.iface 131 v) xT 227 true).run Tryz.prog w = .ok (.tuple #[.nilIface, .bool false]) w := run_typeAssert_lacksB Tryz.underlying227 (by kernel_rfl) (by kernel_rfl) v xT w
theorem methodUnwrap (v : Value) (w : World) : (Go.method 401 121 v "Unwrap").run Tryz.prog w = .ok (214, v) w := by kernel_rfl
theorem errnoComp : (Tryz.prog.info? 131).map (·.comparable) = some true := by kernel_rfl

/-- errors.Is(nothing, a number) -/
theorem is_nil (b : Int) (w : World) :
    Calls Tryz.prog 126 #[.nilIface, .iface 131 (.int .i64 b)] w fun e w' => e = .returned (.bool false) ∧ w = w' := by
  have hn := run_eql_iface_nil_left (P := Tryz.prog) w 131 (.int .i64 b) Tryz.underlying46
  go_enter Tryz.func126, Tryz.ntmps126
  go_wp2
  go_ret
  exact ⟨rfl, rfl⟩

set_option maxHeartbeats 1000000 in
/-- errors.Is(a number, a number) -/
theorem is_bare (a b : Int) (w : World) :
    Calls Tryz.prog 126 #[.iface 131 (.int .i64 a), .iface 131 (.int .i64 b)] w fun e w' => e = .returned (.bool (decide (a = b))) ∧ w = w' := by
  have h8 := @run_callFunc_extern Tryz.prog 167 _ Extern.ReflectliteType.typeOf Tryz.func167 (by kernel_rfl) (by kernel_rfl) (by kernel_rfl) (by kernel_rfl)
  have h32 := @run_callFunc_extern Tryz.prog 251 _ compE Tryz.func251 (by kernel_rfl) (by kernel_rfl) (by kernel_rfl) (by kernel_rfl)
  have tT := isTypeOf
  have cT := isComparable
  have mR := isMethodComparable
  have nE := noIsE
  have uE := noUnwrapE
  have vE := noUnwrapsE
  have heq := fun w => Lib.run_eql_iface_int (P := Tryz.prog) w (k := .i64) a b Tryz.underlying46 errnoComp Tryz.underlying131
  by_cases hab : a = b
  · subst hab
    go_enter Tryz.func126, Tryz.ntmps126
    go_wp2
    refine wp_loop_rounds 1 ?_
    rw [rounds_succ]
    go_wp2
    go_ret
    exact ⟨by simp, rfl⟩
  · have hb : (a == b) = false := by simpa using hab
    go_enter Tryz.func126, Tryz.ntmps126
    go_wp2
    refine wp_loop_rounds 1 ?_
    rw [rounds_succ]
    go_wp2
    go_ret
    exact ⟨by simp [hab], rfl⟩

set_option maxHeartbeats 1000000 in
/-- errors.Is(a Fault around a number, a number) -/
theorem is_f1 (a b : Int) (g : Nat) (w : World) (h2 : w.cell? ⟨g, 2, none⟩ = some (.iface 131 (.int .i64 a))) :
    Calls Tryz.prog 126 #[faultV g, .iface 131 (.int .i64 b)] w fun e w' => e = .returned (.bool (decide (a = b))) ∧ w = w' := by
  have h8 := @run_callFunc_extern Tryz.prog 167 _ Extern.ReflectliteType.typeOf Tryz.func167 (by kernel_rfl) (by kernel_rfl) (by kernel_rfl) (by kernel_rfl)
  have h32 := @run_callFunc_extern Tryz.prog 251 _ compE Tryz.func251 (by kernel_rfl) (by kernel_rfl) (by kernel_rfl) (by kernel_rfl)
  have tT := isTypeOf
  have cT := isComparable
  have mR := isMethodComparable
  have nE := noIsE
  have uE := noUnwrapE
  have vE := noUnwrapsE
  have heq := fun w => Lib.run_eql_iface_int (P := Tryz.prog) w (k := .i64) a b Tryz.underlying46 errnoComp Tryz.underlying131
  have nF := noIsF
  have uF := hasUnwrapF
  have mU := methodUnwrap
  have htyg := fun w => run_eql_iface_types (P := Tryz.prog) 121 131 (.pointer (some ⟨g, 0, none⟩)) (.int .i64 b) Tryz.underlying46 (by decide) w
  unfold faultV
  by_cases hab : a = b
  · subst hab
    go_enter Tryz.func126, Tryz.ntmps126
    go_wp2
    refine wp_loop_rounds 2 ?_
    rw [rounds_succ]
    go_wp2
    rw [rounds_succ]
    go_wp2
    go_ret
    exact ⟨by simp, rfl⟩
  · have hb : (a == b) = false := by simpa using hab
    go_enter Tryz.func126, Tryz.ntmps126
    go_wp2
    refine wp_loop_rounds 2 ?_
    rw [rounds_succ]
    go_wp2
    rw [rounds_succ]
    go_wp2
    go_ret
    exact ⟨by simp [hab], rfl⟩

set_option maxHeartbeats 1000000 in
/-- errors.Is(a Fault around a Fault around a number, a number) -/
theorem is_f2 (a b : Int) (g h : Nat) (w : World) (h2 : w.cell? ⟨g, 2, none⟩ = some (faultV h)) (h3 : w.cell? ⟨h, 2, none⟩ = some (.iface 131 (.int .i64 a))) :
    Calls Tryz.prog 126 #[faultV g, .iface 131 (.int .i64 b)] w fun e w' => e = .returned (.bool (decide (a = b))) ∧ w = w' := by
  have h8 := @run_callFunc_extern Tryz.prog 167 _ Extern.ReflectliteType.typeOf Tryz.func167 (by kernel_rfl) (by kernel_rfl) (by kernel_rfl) (by kernel_rfl)
  have h32 := @run_callFunc_extern Tryz.prog 251 _ compE Tryz.func251 (by kernel_rfl) (by kernel_rfl) (by kernel_rfl) (by kernel_rfl)
  have tT := isTypeOf
  have cT := isComparable
  have mR := isMethodComparable
  have nE := noIsE
  have uE := noUnwrapE
  have vE := noUnwrapsE
  have heq := fun w => Lib.run_eql_iface_int (P := Tryz.prog) w (k := .i64) a b Tryz.underlying46 errnoComp Tryz.underlying131
  have nF := noIsF
  have uF := hasUnwrapF
  have mU := methodUnwrap
  have htyg := fun w => run_eql_iface_types (P := Tryz.prog) 121 131 (.pointer (some ⟨g, 0, none⟩)) (.int .i64 b) Tryz.underlying46 (by decide) w
  have htyh := fun w => run_eql_iface_types (P := Tryz.prog) 121 131 (.pointer (some ⟨h, 0, none⟩)) (.int .i64 b) Tryz.underlying46 (by decide) w
  unfold faultV at *
  by_cases hab : a = b
  · subst hab
    go_enter Tryz.func126, Tryz.ntmps126
    go_wp2
    refine wp_loop_rounds 3 ?_
    rw [rounds_succ]
    go_wp2
    rw [rounds_succ]
    go_wp2
    rw [rounds_succ]
    go_wp2
    go_ret
    exact ⟨by simp, rfl⟩
  · have hb : (a == b) = false := by simpa using hab
    go_enter Tryz.func126, Tryz.ntmps126
    go_wp2
    refine wp_loop_rounds 3 ?_
    rw [rounds_succ]
    go_wp2
    rw [rounds_succ]
    go_wp2
    rw [rounds_succ]
    go_wp2
    go_ret
    exact ⟨by simp [hab], rfl⟩

end Go.Proofs.YtjdgibpjlhpanaaGreatDoor
