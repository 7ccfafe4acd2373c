/-
  errors.Is by contracts, at an error that is nothing, a number, or one or two Faults around a number; the target is a number.
  errors.As by a contract, at a Fault and a target that points to a variable for one.
  Contracts of pergolaalike: Code, Is, May.
-/
import Derived.Test.YtahiaekoaokgnaaGreatRel1
import Derived.LaidEql
import Derived.Stop.Asserts
import Derived.Lib.IfaceEq
import Derived.RowKitTokens
import Derived.Test.YtahiaekoaokgnaaGreatRef3
set_option linter.unusedSimpArgs false
set_option linter.unusedVariables false
namespace Go.Proofs.YtahiaekoaokgnaaGreat
open Go.RowKit Pg Go.Extern.Stop Go.Stop Go.Extern

def compE : Array Value → Sem Value := Extern.ReflectliteType.method fun t => do Rtype.noPackHeld "Comparable" t; pure (.bool (← typeInfo t).comparable)
theorem isComparable (w : World) : (compE #[.agg #[.pointer (some ⟨2, 69, none⟩)]]).run Tryz.prog w = .ok (.bool true) w := by kernel_rfl
theorem errnoComp : (Tryz.prog.info? 69).map (·.comparable) = some true := by kernel_rfl

end Go.Proofs.YtahiaekoaokgnaaGreat
set_option linter.unusedSimpArgs false
set_option linter.unusedVariables false
namespace Go.Proofs.YtahiaekoaokgnaaGreat
open Go.RowKit Pg Go.Extern.Stop Go.Stop Go.Extern
theorem asKindF (w : World) : ((ReflectliteType.abiMethod fun t => (fun a : Nat => Value.int IntKind.u8 (a : Int)) <$> Rtype.kind t) #[.pointer (some ⟨2, 108, none⟩)]).run Tryz.prog w = .ok (.int .u8 22) w := by kernel_rfl
theorem asRlm (z : Sem Value) (f : TypeId → Addr → Nat → Nat → Sem Value) (v : Value) :
    ReflectliteValue.method z f #[v] = (do match ← ReflectliteValue.parts v with | none => z | some (t, a, fl) => f t a fl (fl % 32)) := rfl
theorem asValueOfF (e : Addr) (w : World) : (ReflectliteValue.unpack (.iface 108 (.pointer (some e)))).run Tryz.prog w
    = .ok (.agg #[.pointer (some ⟨2, 108, none⟩), .pointer (some ⟨w.heap.size, 0, none⟩), .int .u64 150]) (w.alloc (.cells #[.pointer (some e)] 108)) := by kernel_rfl
theorem asMkF (p : Addr) (w : World) : (ReflectliteValue.mk 108 p ReflectliteValue.flagAddr).run Tryz.prog w = .ok (.agg #[.pointer (some ⟨2, 108, none⟩), .pointer (some p), .int .u64 406]) w := by kernel_rfl
theorem asRls (v x : Value) : ReflectliteValue.set #[v, x] = (do
    let (some (dst, a, fl), some (src, b, _)) := (← ReflectliteValue.parts v, ← ReflectliteValue.parts x)
      | unsupported (.noEntry "extern/(internal/reflectlite.Value).Set.zeroValue")
    if fl / ReflectliteValue.flagAddr % 2 == 0 then unsupported (.noEntry "extern/(internal/reflectlite.Value).Set.unaddressable")
    let val ← loadVar src b
    if ← Rtype.directlyAssignable dst src then storeVar dst a val
    else if ← Rtype.implements dst src then
      if (← Rtype.kind src) == 20 then
        match val with
        | .nilIface => unsupported (.noEntry "extern/reflectlite: a nil value of one interface type handed on as a value of another")
        | _ => storeVar dst a val
      else storeVar dst a (.iface src val)
    else panicString ("reflectlite.Set: value of type " ++ (← Rtype.spelt src) ++ " is not assignable to type " ++ (← Rtype.spelt dst))
    pure (.tuple #[])) := rfl
theorem asPartsFa (a : Addr) (w : World) : (ReflectliteValue.parts (.agg #[.pointer (some ⟨2, 108, none⟩), .pointer (some a), .int .u64 406])).run Tryz.prog w = .ok (some (108, a, 406)) w := by kernel_rfl
theorem asPartsF (a : Addr) (w : World) : (ReflectliteValue.parts (.agg #[.pointer (some ⟨2, 108, none⟩), .pointer (some a), .int .u64 150])).run Tryz.prog w = .ok (some (108, a, 150)) w := by kernel_rfl
theorem asDirectF (w : World) : (Rtype.directlyAssignable 108 108).run Tryz.prog w = .ok true w := by kernel_rfl
theorem asSetF (ta b e : Addr) (old : Value) (W : World) (hb : W.cell? b = some (.pointer (some e))) (ht : W.cell? ta = some old) (hf : W.frozen? ta = false) :
    (ReflectliteValue.set #[.agg #[.pointer (some ⟨2, 108, none⟩), .pointer (some ta), .int .u64 406], .agg #[.pointer (some ⟨2, 108, none⟩), .pointer (some b), .int .u64 150]]).run Tryz.prog W
      = .ok (.tuple #[]) (W.setCell ta (.pointer (some e))) := by
  rw [asRls]
  simp only [Sem.run_bind, asPartsFa, asPartsF, Result.andThen]
  simp [ReflectliteValue.flagAddr, loadVar, isAgg, underlying, Tryz.underlying108, hb, Result.andThen, asDirectF, storeVar, Value.cells, storeCells, Addr.add]
  rw [run_store Tryz.prog W ta _ _ (by rfl)]
  simp [ht, hf]

end Go.Proofs.YtahiaekoaokgnaaGreat
set_option linter.unusedSimpArgs false
set_option linter.unusedVariables false
namespace Go.Proofs.YtahiaekoaokgnaaGreat
open Go.RowKit Pg
end Go.Proofs.YtahiaekoaokgnaaGreat
