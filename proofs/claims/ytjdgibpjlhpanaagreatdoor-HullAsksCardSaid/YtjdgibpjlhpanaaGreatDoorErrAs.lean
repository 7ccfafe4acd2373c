/-
  errors.As by a contract, at a Fault and a target that points to a variable for one.
-/
import Derived.Test.YtjdgibpjlhpanaaGreatDoorErrIs
set_option linter.unusedSimpArgs false
set_option linter.unusedVariables false
namespace Go.Proofs.YtjdgibpjlhpanaaGreatDoor
open Go.RowKit Pg Go.Extern.Stop Go.Stop Go.Extern

theorem asValueOfP (t : Addr) (w : World) : (ReflectliteValue.unpack (.iface 123 (.pointer (some t)))).run Tryz.prog w
    = .ok (.agg #[.pointer (some ⟨3, 123, none⟩), .pointer (some ⟨w.heap.size, 0, none⟩), .int .u64 150]) (w.alloc (.cells #[.pointer (some t)] 123)) := by kernel_rfl
theorem asTypeP (a : Addr) (w : World) : (ReflectliteValue.methodAny (ReflectliteValue.valueError "reflectlite.Value.Type" 0) (fun t _ _ _ => ReflectliteType.toType t) #[.agg #[.pointer (some ⟨3, 123, none⟩), .pointer (some a), .int .u64 150]]).run Tryz.prog w
    = .ok (.iface 218 (.agg #[.pointer (some ⟨3, 123, none⟩)])) w := by kernel_rfl
theorem asMethodKind (h : Value) (w : World) : (Go.method 401 218 (.agg #[h]) "Kind").run Tryz.prog w = .ok (210, h) w := by kernel_rfl
theorem asKindP (w : World) : ((ReflectliteType.abiMethod fun t => (fun a : Nat => Value.int IntKind.u8 (a : Int)) <$> Rtype.kind t) #[.pointer (some ⟨3, 123, none⟩)]).run Tryz.prog w = .ok (.int .u8 22) w := by kernel_rfl
theorem asKindF (w : World) : ((ReflectliteType.abiMethod fun t => (fun a : Nat => Value.int IntKind.u8 (a : Int)) <$> Rtype.kind t) #[.pointer (some ⟨3, 121, none⟩)]).run Tryz.prog w = .ok (.int .u8 22) w := by kernel_rfl
theorem asRlm (z : Sem Value) (f : TypeId → Addr → Nat → Nat → Sem Value) (v : Value) :
    ReflectliteValue.method z f #[v] = (do match ← ReflectliteValue.parts v with | none => z | some (t, a, fl) => f t a fl (fl % 32)) := rfl
theorem asPartsP (a : Addr) (w : World) : (ReflectliteValue.parts (.agg #[.pointer (some ⟨3, 123, none⟩), .pointer (some a), .int .u64 150])).run Tryz.prog w = .ok (some (123, a, 150)) w := by kernel_rfl
theorem asIsNil (a p : Addr) (W : World) (ha : W.cell? a = some (.pointer (some p))) :
    (ReflectliteValue.method (ReflectliteValue.valueError "reflectlite.Value.IsNil" 0) ReflectliteValue.isNil #[.agg #[.pointer (some ⟨3, 123, none⟩), .pointer (some a), .int .u64 150]]).run Tryz.prog W = .ok (.bool false) W := by
  rw [asRlm]
  simp only [Sem.run_bind, asPartsP, Result.andThen]
  simp [ReflectliteValue.isNil, loadVar, isAgg, underlying, Tryz.underlying123, ha, Result.andThen]
theorem asMethodElem (h : Value) (w : World) : (Go.method 401 218 (.agg #[h]) "Elem").run Tryz.prog w = .ok (252, .agg #[h]) w := by kernel_rfl
theorem asMethodAssignableTo (h : Value) (w : World) : (Go.method 401 218 (.agg #[h]) "AssignableTo").run Tryz.prog w = .ok (250, .agg #[h]) w := by kernel_rfl
theorem asMethodImplements (h : Value) (w : World) : (Go.method 401 218 (.agg #[h]) "Implements").run Tryz.prog w = .ok (253, .agg #[h]) w := by kernel_rfl
theorem asElemP (w : World) : (ReflectliteType.method ReflectliteType.elem #[.agg #[.pointer (some ⟨3, 123, none⟩)]]).run Tryz.prog w = .ok (.iface 218 (.agg #[.pointer (some ⟨3, 121, none⟩)])) w := by kernel_rfl
theorem asImplementsF (w : World) : (ReflectliteType.relation "Implements" ReflectliteType.implements_ #[.agg #[.pointer (some ⟨3, 121, none⟩)], .iface 218 (.agg #[.pointer (some ⟨3, 46, none⟩)])]).run Tryz.prog w = .ok (.bool true) w := by kernel_rfl
theorem asTypeOfF (v : Value) (w : World) : (ReflectliteType.typeOf #[.iface 121 v]).run Tryz.prog w = .ok (.iface 218 (.agg #[.pointer (some ⟨3, 121, none⟩)])) w := by kernel_rfl
theorem asAssignableF (w : World) : (ReflectliteType.relation "AssignableTo" ReflectliteType.assignableTo #[.agg #[.pointer (some ⟨3, 121, none⟩)], .iface 218 (.agg #[.pointer (some ⟨3, 121, none⟩)])]).run Tryz.prog w = .ok (.bool true) w := by kernel_rfl
theorem asValueOfF (e : Addr) (w : World) : (ReflectliteValue.unpack (.iface 121 (.pointer (some e)))).run Tryz.prog w
    = .ok (.agg #[.pointer (some ⟨3, 121, none⟩), .pointer (some ⟨w.heap.size, 0, none⟩), .int .u64 150]) (w.alloc (.cells #[.pointer (some e)] 121)) := by kernel_rfl
theorem asElemOfP (w : World) : (Rtype.elem? 123).run Tryz.prog w = .ok (some 121) w := by kernel_rfl
theorem asMkF (p : Addr) (w : World) : (ReflectliteValue.mk 121 p ReflectliteValue.flagAddr).run Tryz.prog w = .ok (.agg #[.pointer (some ⟨3, 121, none⟩), .pointer (some p), .int .u64 406]) w := by kernel_rfl
theorem asElemVP (a p : Addr) (W : World) (ha : W.cell? a = some (.pointer (some p))) :
    (ReflectliteValue.method (ReflectliteValue.valueError "reflectlite.Value.Elem" 0) ReflectliteValue.elem #[.agg #[.pointer (some ⟨3, 123, none⟩), .pointer (some a), .int .u64 150]]).run Tryz.prog W
      = .ok (.agg #[.pointer (some ⟨3, 121, none⟩), .pointer (some p), .int .u64 406]) W := by
  rw [asRlm]
  simp only [Sem.run_bind, asPartsP, Result.andThen]
  simp [ReflectliteValue.elem, loadVar, isAgg, underlying, Tryz.underlying123, ha, Result.andThen, asElemOfP, asMkF]
theorem asRls (v x : Value) : ReflectliteValue.set #[v, x] = (do
    let (some (dst, a, fl), some (src, b, _)) := (← ReflectliteValue.parts v, ← ReflectliteValue.parts x)
      | unsupported (.noEntry "extern/(internal/reflectlite.Value).Set.zeroValue")
    if fl / ReflectliteValue.flagAddr % 2 == 0 then unsupported (.noEntry "extern/(internal/reflectlite.Value).Set.unaddressable")
    let val ← loadVar src b
    if ← Rtype.directlyAssignable dst src then storeVar dst a val
    else if ← Rtype.implements dst src then
      if (← Rtype.kind src) == 20 then
        match val with
        | .nilIface => unsupported (.noEntry "extern/reflectlite: a nil value of one interface type handed on as a value of another")
        | _ => storeVar dst a val
      else storeVar dst a (.iface src val)
    else panicString ("reflectlite.Set: value of type " ++ (← Rtype.spelt src) ++ " is not assignable to type " ++ (← Rtype.spelt dst))
    pure (.tuple #[])) := rfl
theorem asPartsFa (a : Addr) (w : World) : (ReflectliteValue.parts (.agg #[.pointer (some ⟨3, 121, none⟩), .pointer (some a), .int .u64 406])).run Tryz.prog w = .ok (some (121, a, 406)) w := by kernel_rfl
theorem asPartsF (a : Addr) (w : World) : (ReflectliteValue.parts (.agg #[.pointer (some ⟨3, 121, none⟩), .pointer (some a), .int .u64 150])).run Tryz.prog w = .ok (some (121, a, 150)) w := by kernel_rfl
theorem asDirectF (w : World) : (Rtype.directlyAssignable 121 121).run Tryz.prog w = .ok true w := by kernel_rfl
theorem asSetF (ta b e : Addr) (old : Value) (W : World) (hb : W.cell? b = some (.pointer (some e))) (ht : W.cell? ta = some old) (hf : W.frozen? ta = false) :
    (ReflectliteValue.set #[.agg #[.pointer (some ⟨3, 121, none⟩), .pointer (some ta), .int .u64 406], .agg #[.pointer (some ⟨3, 121, none⟩), .pointer (some b), .int .u64 150]]).run Tryz.prog W
      = .ok (.tuple #[]) (W.setCell ta (.pointer (some e))) := by
  rw [asRls]
  simp only [Sem.run_bind, asPartsFa, asPartsF, Result.andThen]
  simp [ReflectliteValue.flagAddr, loadVar, isAgg, underlying, Tryz.underlying121, hb, Result.andThen, asDirectF, storeVar, Value.cells, storeCells, Addr.add]
  rw [run_store Tryz.prog W ta _ _ (by rfl)]
  simp [ht, hf]

/-- what errors.errorType must hold -/
def ErrT (w : World) : Prop := w.cell? ⟨0, 0, none⟩ = some (.iface 218 (.agg #[.pointer (some ⟨3, 46, none⟩)]))

set_option maxHeartbeats 4000000 in
theorem as_hit (e t : Addr) (old : Value) (w : World) (hg0 : ErrT w) (ht0 : w.cell? t = some old) (hf0 : w.frozen? t = false) :
    Calls Tryz.prog 77 #[.iface 121 (.pointer (some e)), .iface 123 (.pointer (some t))] w fun ev w' => ev = .returned (.bool true) ∧ w' = ((((w.alloc (.cells #[.pointer (some t)] 123)).alloc (.cells #[.pointer (some ⟨3, 123, none⟩), .pointer (some ⟨w.heap.size, 0, none⟩), .int .u64 150] 172)).alloc (.cells #[.pointer (some ⟨3, 123, none⟩), .pointer (some ⟨w.heap.size, 0, none⟩), .int .u64 150] 172)).alloc (.cells #[.pointer (some e)] 121)).setCell t (.pointer (some e)) := by
  have hg : w.cell? ⟨0, 0, none⟩ = some (.iface 218 (.agg #[.pointer (some ⟨3, 46, none⟩)])) := hg0
  have h6 := @run_callFunc_extern Tryz.prog 127 _ (fun args => ReflectliteValue.unpack (args.getD 0 (.tuple #[]))) Tryz.func127 (by kernel_rfl) (by kernel_rfl) (by kernel_rfl) (by kernel_rfl)
  have h7 := @run_callFunc_extern Tryz.prog 128 _ (ReflectliteValue.methodAny (ReflectliteValue.valueError "reflectlite.Value.Type" 0) (fun t _ _ _ => ReflectliteType.toType t)) Tryz.func128 (by kernel_rfl) (by kernel_rfl) (by kernel_rfl) (by kernel_rfl)
  have h8 := @run_callFunc_extern Tryz.prog 129 _ (ReflectliteValue.method (ReflectliteValue.valueError "reflectlite.Value.IsNil" 0) ReflectliteValue.isNil) Tryz.func129 (by kernel_rfl) (by kernel_rfl) (by kernel_rfl) (by kernel_rfl)
  have h27 := @run_callFunc_extern Tryz.prog 210 _ (ReflectliteType.abiMethod fun t => do pure (.int .u8 (← Rtype.kind t))) Tryz.func210 (by kernel_rfl) (by kernel_rfl) (by kernel_rfl) (by kernel_rfl)
  have h37 := @run_callFunc_extern Tryz.prog 252 _ (ReflectliteType.method ReflectliteType.elem) Tryz.func252 (by kernel_rfl) (by kernel_rfl) (by kernel_rfl) (by kernel_rfl)
  have h38 := @run_callFunc_extern Tryz.prog 253 _ (ReflectliteType.relation "Implements" ReflectliteType.implements_) Tryz.func253 (by kernel_rfl) (by kernel_rfl) (by kernel_rfl) (by kernel_rfl)
  have h10 := @run_callFunc_extern Tryz.prog 167 _ ReflectliteType.typeOf Tryz.func167 (by kernel_rfl) (by kernel_rfl) (by kernel_rfl) (by kernel_rfl)
  have h35 := @run_callFunc_extern Tryz.prog 250 _ (ReflectliteType.relation "AssignableTo" ReflectliteType.assignableTo) Tryz.func250 (by kernel_rfl) (by kernel_rfl) (by kernel_rfl) (by kernel_rfl)
  have h11 := @run_callFunc_extern Tryz.prog 169 _ (ReflectliteValue.method (ReflectliteValue.valueError "reflectlite.Value.Elem" 0) ReflectliteValue.elem) Tryz.func169 (by kernel_rfl) (by kernel_rfl) (by kernel_rfl) (by kernel_rfl)
  have h12 := @run_callFunc_extern Tryz.prog 170 _ ReflectliteValue.set Tryz.func170 (by kernel_rfl) (by kernel_rfl) (by kernel_rfl) (by kernel_rfl)
  have tO := asTypeOfF
  have mA := asMethodAssignableTo
  have a25 := asAssignableF
  have v25 := asValueOfF
  have f6 := asValueOfP
  have f7 := asTypeP
  have mK := asMethodKind
  have mE := asMethodElem
  have mI := asMethodImplements
  have k27 := asKindP
  have k25 := asKindF
  have e27 := asElemP
  have i25 := asImplementsF
  have n8 := asIsNil ⟨w.heap.size, 0, none⟩ t ((w.alloc (.cells #[.pointer (some t)] 123)).alloc (.cells #[.pointer (some ⟨3, 123, none⟩), .pointer (some ⟨w.heap.size, 0, none⟩), .int .u64 150] 172)) (by simp)
  have hlt : 0 < w.heap.size := by
    rcases Nat.lt_or_ge 0 w.heap.size with h | h
    · exact h
    · simp [World.cell?, Array.getElem?_eq_none h] at hg
  have hg2 : ((w.alloc (.cells #[.pointer (some t)] 123)).alloc (.cells #[.pointer (some ⟨3, 123, none⟩), .pointer (some ⟨w.heap.size, 0, none⟩), .int .u64 150] 172)).cell? ⟨0, 0, none⟩ = some (.iface 218 (.agg #[.pointer (some ⟨3, 46, none⟩)])) := by
    rw [World.cell?_alloc_lt _ _ ⟨0, 0, none⟩ (by first | (simp; done) | (simp; omega)), World.cell?_alloc_lt _ _ ⟨0, 0, none⟩ hlt]; exact hg
  have htl : t.block < w.heap.size := by
    rcases Nat.lt_or_ge t.block w.heap.size with h | h
    · exact h
    · simp [World.cell?, Array.getElem?_eq_none h] at ht0
  have el := asElemVP ⟨w.heap.size, 0, none⟩ t (((w.alloc (.cells #[.pointer (some t)] 123)).alloc (.cells #[.pointer (some ⟨3, 123, none⟩), .pointer (some ⟨w.heap.size, 0, none⟩), .int .u64 150] 172)).alloc (.cells #[.pointer (some ⟨3, 123, none⟩), .pointer (some ⟨w.heap.size, 0, none⟩), .int .u64 150] 172)) (by rw [World.cell?_alloc_lt _ _ ⟨w.heap.size, 0, none⟩ (by simp; omega)]; simp)
  have st := asSetF t ⟨w.heap.size + 1 + 1 + 1, 0, none⟩ e old ((((w.alloc (.cells #[.pointer (some t)] 123)).alloc (.cells #[.pointer (some ⟨3, 123, none⟩), .pointer (some ⟨w.heap.size, 0, none⟩), .int .u64 150] 172)).alloc (.cells #[.pointer (some ⟨3, 123, none⟩), .pointer (some ⟨w.heap.size, 0, none⟩), .int .u64 150] 172)).alloc (.cells #[.pointer (some e)] 121))
    (by rw [World.cell?_alloc_at _ _ _ _ (by simp)]; rfl)
    (by rw [World.cell?_alloc_lt _ _ t (by simp; omega), World.cell?_alloc_lt _ _ t (by simp; omega), World.cell?_alloc_lt _ _ t (by simp; omega), World.cell?_alloc_lt _ _ t htl]; exact ht0)
    (by rw [World.frozen?_alloc_old _ _ t (by simp; omega), World.frozen?_alloc_old _ _ t (by simp; omega), World.frozen?_alloc_old _ _ t (by simp; omega), World.frozen?_alloc_old _ _ t (Nat.ne_of_lt htl)]; exact hf0)
  clear hg0
  go_enter Tryz.func77, Tryz.ntmps77
  go_wp2
  refine wp_loop_rounds 1 ?_
  rw [rounds_succ]
  go_wp2
  go_ret
  exact ⟨rfl, rfl⟩
end Go.Proofs.YtjdgibpjlhpanaaGreatDoor
