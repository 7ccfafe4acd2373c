/-
  errors.Is by contracts, at an error that is nothing, a number, or one or two Faults around a number; the target is a number.
  errors.As by a contract, at a Fault and a target that points to a variable for one.
  Contracts of pergolaalike: Code, Is, May.
-/
import Derived.Test.YtkfbkfcmdfpfjaaGreatDoorQRel1
import Derived.LaidEql
import Derived.Stop.Asserts
import Derived.Lib.IfaceEq
import Derived.RowKitTokens
import Derived.Test.YtkfbkfcmdfpfjaaGreatDoorQPlane
import Derived.Test.YtkfbkfcmdfpfjaaGreatDoorQPlainSplit
import Derived.Test.YtkfbkfcmdfpfjaaGreatDoorQOn
set_option linter.unusedSimpArgs false
set_option linter.unusedVariables false
namespace Go.Proofs.YtkfbkfcmdfpfjaaGreatDoor
open Go.RowKit Pg Go.Extern.Stop Go.Stop Go.Extern

theorem isTypeOf (v : Value) (w : World) : (Extern.ReflectliteType.typeOf #[.iface 68 v]).run Tryz.prog w = .ok (.iface 185 (.agg #[.pointer (some ⟨3, 68, none⟩)])) w := by kernel_rfl
def compE : Array Value → Sem Value := Extern.ReflectliteType.method fun t => do Rtype.noPackHeld "Comparable" t; pure (.bool (← typeInfo t).comparable)
theorem isComparable (w : World) : (compE #[.agg #[.pointer (some ⟨3, 68, none⟩)]]).run Tryz.prog w = .ok (.bool true) w := by kernel_rfl
theorem isMethodComparable (v : Value) (w : World) : (Go.method 467 185 v "Comparable").run Tryz.prog w = .ok (292, v) w := by kernel_rfl
theorem noIsE (v : Value) (xT : TypeId) (w : World) : (Instr.typeAssert (.iface 68 v) xT 197 true).run Tryz.prog w = .ok (.tuple #[.nilIface, .bool false]) w := run_typeAssert_lacksB Tryz.underlying197 (by kernel_rfl) (by kernel_rfl) v xT w
theorem noIsF (v : Value) (xT : TypeId) (w : World) : (Instr.typeAssert (.iface 74 v) xT 197 true).run Tryz.prog w = .ok (.tuple #[.nilIface, .bool false]) w := run_typeAssert_lacksB Tryz.underlying197 (by kernel_rfl) (by kernel_rfl) v xT w
theorem noUnwrapE (v : Value) (xT : TypeId) (w : World) : (Instr.typeAssert (.iface 68 v) xT 192 true).run Tryz.prog w = .ok (.tuple #[.nilIface, .bool false]) w := run_typeAssert_lacksB Tryz.underlying192 (by kernel_rfl) (by kernel_rfl) v xT w
theorem hasUnwrapF (v : Value) (xT : TypeId) (w : World) : (Instr.typeAssert (.iface 74 v) xT 192 true).run Tryz.prog w = .ok (.tuple #[.iface 74 v, .bool true]) w := run_typeAssert_hasB Tryz.underlying192 (by kernel_rfl) v xT w
theorem noUnwrapsE (v : Value) (xT : TypeId) (w : World) : (Instr.typeAssert (.iface 68 v) xT 193 true).run Tryz.prog w = .ok (.tuple #[.nilIface, .bool false]) w := run_typeAssert_lacksB Tryz.underlying193 (by kernel_rfl) (by kernel_rfl) v xT w
theorem methodUnwrap (v : Value) (w : World) : (Go.method 467 74 v "Unwrap").run Tryz.prog w = .ok (209, v) w := by kernel_rfl
theorem errnoComp : (Tryz.prog.info? 68).map (·.comparable) = some true := by kernel_rfl

end Go.Proofs.YtkfbkfcmdfpfjaaGreatDoor
set_option linter.unusedSimpArgs false
set_option linter.unusedVariables false
namespace Go.Proofs.YtkfbkfcmdfpfjaaGreatDoor
open Go.RowKit Pg Go.Extern.Stop Go.Stop Go.Extern

theorem asValueOfP (t : Addr) (w : World) : (ReflectliteValue.unpack (.iface 76 (.pointer (some t)))).run Tryz.prog w
    = .ok (.agg #[.pointer (some ⟨3, 76, none⟩), .pointer (some ⟨w.heap.size, 0, none⟩), .int .u64 150]) (w.alloc (.cells #[.pointer (some t)] 76)) := by kernel_rfl
theorem asTypeP (a : Addr) (w : World) : (ReflectliteValue.methodAny (ReflectliteValue.valueError "reflectlite.Value.Type" 0) (fun t _ _ _ => ReflectliteType.toType t) #[.agg #[.pointer (some ⟨3, 76, none⟩), .pointer (some a), .int .u64 150]]).run Tryz.prog w
    = .ok (.iface 185 (.agg #[.pointer (some ⟨3, 76, none⟩)])) w := by kernel_rfl
theorem asMethodKind (h : Value) (w : World) : (Go.method 467 185 (.agg #[h]) "Kind").run Tryz.prog w = .ok (204, h) w := by kernel_rfl
theorem asKindP (w : World) : ((ReflectliteType.abiMethod fun t => (fun a : Nat => Value.int IntKind.u8 (a : Int)) <$> Rtype.kind t) #[.pointer (some ⟨3, 76, none⟩)]).run Tryz.prog w = .ok (.int .u8 22) w := by kernel_rfl
theorem asKindF (w : World) : ((ReflectliteType.abiMethod fun t => (fun a : Nat => Value.int IntKind.u8 (a : Int)) <$> Rtype.kind t) #[.pointer (some ⟨3, 74, none⟩)]).run Tryz.prog w = .ok (.int .u8 22) w := by kernel_rfl
theorem asRlm (z : Sem Value) (f : TypeId → Addr → Nat → Nat → Sem Value) (v : Value) :
    ReflectliteValue.method z f #[v] = (do match ← ReflectliteValue.parts v with | none => z | some (t, a, fl) => f t a fl (fl % 32)) := rfl
theorem asPartsP (a : Addr) (w : World) : (ReflectliteValue.parts (.agg #[.pointer (some ⟨3, 76, none⟩), .pointer (some a), .int .u64 150])).run Tryz.prog w = .ok (some (76, a, 150)) w := by kernel_rfl
theorem asIsNil (a p : Addr) (W : World) (ha : W.cell? a = some (.pointer (some p))) :
    (ReflectliteValue.method (ReflectliteValue.valueError "reflectlite.Value.IsNil" 0) ReflectliteValue.isNil #[.agg #[.pointer (some ⟨3, 76, none⟩), .pointer (some a), .int .u64 150]]).run Tryz.prog W = .ok (.bool false) W := by
  rw [asRlm]
  simp only [Sem.run_bind, asPartsP, Result.andThen]
  simp [ReflectliteValue.isNil, loadVar, isAgg, underlying, Tryz.underlying76, ha, Result.andThen]
theorem asMethodElem (h : Value) (w : World) : (Go.method 467 185 (.agg #[h]) "Elem").run Tryz.prog w = .ok (293, .agg #[h]) w := by kernel_rfl
theorem asMethodAssignableTo (h : Value) (w : World) : (Go.method 467 185 (.agg #[h]) "AssignableTo").run Tryz.prog w = .ok (291, .agg #[h]) w := by kernel_rfl
theorem asMethodImplements (h : Value) (w : World) : (Go.method 467 185 (.agg #[h]) "Implements").run Tryz.prog w = .ok (294, .agg #[h]) w := by kernel_rfl
theorem asElemP (w : World) : (ReflectliteType.method ReflectliteType.elem #[.agg #[.pointer (some ⟨3, 76, none⟩)]]).run Tryz.prog w = .ok (.iface 185 (.agg #[.pointer (some ⟨3, 74, none⟩)])) w := by kernel_rfl
theorem asImplementsF (w : World) : (ReflectliteType.relation "Implements" ReflectliteType.implements_ #[.agg #[.pointer (some ⟨3, 74, none⟩)], .iface 185 (.agg #[.pointer (some ⟨3, 29, none⟩)])]).run Tryz.prog w = .ok (.bool true) w := by kernel_rfl
theorem asTypeOfF (v : Value) (w : World) : (ReflectliteType.typeOf #[.iface 74 v]).run Tryz.prog w = .ok (.iface 185 (.agg #[.pointer (some ⟨3, 74, none⟩)])) w := by kernel_rfl
theorem asAssignableF (w : World) : (ReflectliteType.relation "AssignableTo" ReflectliteType.assignableTo #[.agg #[.pointer (some ⟨3, 74, none⟩)], .iface 185 (.agg #[.pointer (some ⟨3, 74, none⟩)])]).run Tryz.prog w = .ok (.bool true) w := by kernel_rfl
theorem asValueOfF (e : Addr) (w : World) : (ReflectliteValue.unpack (.iface 74 (.pointer (some e)))).run Tryz.prog w
    = .ok (.agg #[.pointer (some ⟨3, 74, none⟩), .pointer (some ⟨w.heap.size, 0, none⟩), .int .u64 150]) (w.alloc (.cells #[.pointer (some e)] 74)) := by kernel_rfl
theorem asElemOfP (w : World) : (Rtype.elem? 76).run Tryz.prog w = .ok (some 74) w := by kernel_rfl
theorem asMkF (p : Addr) (w : World) : (ReflectliteValue.mk 74 p ReflectliteValue.flagAddr).run Tryz.prog w = .ok (.agg #[.pointer (some ⟨3, 74, none⟩), .pointer (some p), .int .u64 406]) w := by kernel_rfl
theorem asElemVP (a p : Addr) (W : World) (ha : W.cell? a = some (.pointer (some p))) :
    (ReflectliteValue.method (ReflectliteValue.valueError "reflectlite.Value.Elem" 0) ReflectliteValue.elem #[.agg #[.pointer (some ⟨3, 76, none⟩), .pointer (some a), .int .u64 150]]).run Tryz.prog W
      = .ok (.agg #[.pointer (some ⟨3, 74, none⟩), .pointer (some p), .int .u64 406]) W := by
  rw [asRlm]
  simp only [Sem.run_bind, asPartsP, Result.andThen]
  simp [ReflectliteValue.elem, loadVar, isAgg, underlying, Tryz.underlying76, ha, Result.andThen, asElemOfP, asMkF]
theorem asRls (v x : Value) : ReflectliteValue.set #[v, x] = (do
    let (some (dst, a, fl), some (src, b, _)) := (← ReflectliteValue.parts v, ← ReflectliteValue.parts x)
      | unsupported (.noEntry "extern/(internal/reflectlite.Value).Set.zeroValue")
    if fl / ReflectliteValue.flagAddr % 2 == 0 then unsupported (.noEntry "extern/(internal/reflectlite.Value).Set.unaddressable")
    let val ← loadVar src b
    if ← Rtype.directlyAssignable dst src then storeVar dst a val
    else if ← Rtype.implements dst src then
      if (← Rtype.kind src) == 20 then
        match val with
        | .nilIface => unsupported (.noEntry "extern/reflectlite: a nil value of one interface type handed on as a value of another")
        | _ => storeVar dst a val
      else storeVar dst a (.iface src val)
    else panicString ("reflectlite.Set: value of type " ++ (← Rtype.spelt src) ++ " is not assignable to type " ++ (← Rtype.spelt dst))
    pure (.tuple #[])) := rfl
theorem asPartsFa (a : Addr) (w : World) : (ReflectliteValue.parts (.agg #[.pointer (some ⟨3, 74, none⟩), .pointer (some a), .int .u64 406])).run Tryz.prog w = .ok (some (74, a, 406)) w := by kernel_rfl
theorem asPartsF (a : Addr) (w : World) : (ReflectliteValue.parts (.agg #[.pointer (some ⟨3, 74, none⟩), .pointer (some a), .int .u64 150])).run Tryz.prog w = .ok (some (74, a, 150)) w := by kernel_rfl
theorem asDirectF (w : World) : (Rtype.directlyAssignable 74 74).run Tryz.prog w = .ok true w := by kernel_rfl
theorem asSetF (ta b e : Addr) (old : Value) (W : World) (hb : W.cell? b = some (.pointer (some e))) (ht : W.cell? ta = some old) (hf : W.frozen? ta = false) :
    (ReflectliteValue.set #[.agg #[.pointer (some ⟨3, 74, none⟩), .pointer (some ta), .int .u64 406], .agg #[.pointer (some ⟨3, 74, none⟩), .pointer (some b), .int .u64 150]]).run Tryz.prog W
      = .ok (.tuple #[]) (W.setCell ta (.pointer (some e))) := by
  rw [asRls]
  simp only [Sem.run_bind, asPartsFa, asPartsF, Result.andThen]
  simp [ReflectliteValue.flagAddr, loadVar, isAgg, underlying, Tryz.underlying74, hb, Result.andThen, asDirectF, storeVar, Value.cells, storeCells, Addr.add]
  rw [run_store Tryz.prog W ta _ _ (by rfl)]
  simp [ht, hf]

/-- what errors.errorType must hold -/
def ErrT (w : World) : Prop := w.cell? ⟨0, 0, none⟩ = some (.iface 185 (.agg #[.pointer (some ⟨3, 29, none⟩)]))

set_option maxHeartbeats 4000000 in
theorem as_hit (e t : Addr) (old : Value) (w : World) (hg0 : ErrT w) (ht0 : w.cell? t = some old) (hf0 : w.frozen? t = false) :
    Calls Tryz.prog 30 #[.iface 74 (.pointer (some e)), .iface 76 (.pointer (some t))] w fun ev w' => ev = .returned (.bool true) ∧ w' = ((((w.alloc (.cells #[.pointer (some t)] 76)).alloc (.cells #[.pointer (some ⟨3, 76, none⟩), .pointer (some ⟨w.heap.size, 0, none⟩), .int .u64 150] 136)).alloc (.cells #[.pointer (some ⟨3, 76, none⟩), .pointer (some ⟨w.heap.size, 0, none⟩), .int .u64 150] 136)).alloc (.cells #[.pointer (some e)] 74)).setCell t (.pointer (some e)) := by
  have hg : w.cell? ⟨0, 0, none⟩ = some (.iface 185 (.agg #[.pointer (some ⟨3, 29, none⟩)])) := hg0
  have h6 := @run_callFunc_extern Tryz.prog 59 _ (fun args => ReflectliteValue.unpack (args.getD 0 (.tuple #[]))) Tryz.func59 (by kernel_rfl) (by kernel_rfl) (by kernel_rfl) (by kernel_rfl)
  have h7 := @run_callFunc_extern Tryz.prog 60 _ (ReflectliteValue.methodAny (ReflectliteValue.valueError "reflectlite.Value.Type" 0) (fun t _ _ _ => ReflectliteType.toType t)) Tryz.func60 (by kernel_rfl) (by kernel_rfl) (by kernel_rfl) (by kernel_rfl)
  have h8 := @run_callFunc_extern Tryz.prog 61 _ (ReflectliteValue.method (ReflectliteValue.valueError "reflectlite.Value.IsNil" 0) ReflectliteValue.isNil) Tryz.func61 (by kernel_rfl) (by kernel_rfl) (by kernel_rfl) (by kernel_rfl)
  have h27 := @run_callFunc_extern Tryz.prog 204 _ (ReflectliteType.abiMethod fun t => do pure (.int .u8 (← Rtype.kind t))) Tryz.func204 (by kernel_rfl) (by kernel_rfl) (by kernel_rfl) (by kernel_rfl)
  have h37 := @run_callFunc_extern Tryz.prog 293 _ (ReflectliteType.method ReflectliteType.elem) Tryz.func293 (by kernel_rfl) (by kernel_rfl) (by kernel_rfl) (by kernel_rfl)
  have h38 := @run_callFunc_extern Tryz.prog 294 _ (ReflectliteType.relation "Implements" ReflectliteType.implements_) Tryz.func294 (by kernel_rfl) (by kernel_rfl) (by kernel_rfl) (by kernel_rfl)
  have h10 := @run_callFunc_extern Tryz.prog 64 _ ReflectliteType.typeOf Tryz.func64 (by kernel_rfl) (by kernel_rfl) (by kernel_rfl) (by kernel_rfl)
  have h35 := @run_callFunc_extern Tryz.prog 291 _ (ReflectliteType.relation "AssignableTo" ReflectliteType.assignableTo) Tryz.func291 (by kernel_rfl) (by kernel_rfl) (by kernel_rfl) (by kernel_rfl)
  have h11 := @run_callFunc_extern Tryz.prog 92 _ (ReflectliteValue.method (ReflectliteValue.valueError "reflectlite.Value.Elem" 0) ReflectliteValue.elem) Tryz.func92 (by kernel_rfl) (by kernel_rfl) (by kernel_rfl) (by kernel_rfl)
  have h12 := @run_callFunc_extern Tryz.prog 93 _ ReflectliteValue.set Tryz.func93 (by kernel_rfl) (by kernel_rfl) (by kernel_rfl) (by kernel_rfl)
  have tO := asTypeOfF
  have mA := asMethodAssignableTo
  have a25 := asAssignableF
  have v25 := asValueOfF
  have f6 := asValueOfP
  have f7 := asTypeP
  have mK := asMethodKind
  have mE := asMethodElem
  have mI := asMethodImplements
  have k27 := asKindP
  have k25 := asKindF
  have e27 := asElemP
  have i25 := asImplementsF
  have n8 := asIsNil ⟨w.heap.size, 0, none⟩ t ((w.alloc (.cells #[.pointer (some t)] 76)).alloc (.cells #[.pointer (some ⟨3, 76, none⟩), .pointer (some ⟨w.heap.size, 0, none⟩), .int .u64 150] 136)) (by simp)
  have hlt : 0 < w.heap.size := by
    rcases Nat.lt_or_ge 0 w.heap.size with h | h
    · exact h
    · simp [World.cell?, Array.getElem?_eq_none h] at hg
  have hg2 : ((w.alloc (.cells #[.pointer (some t)] 76)).alloc (.cells #[.pointer (some ⟨3, 76, none⟩), .pointer (some ⟨w.heap.size, 0, none⟩), .int .u64 150] 136)).cell? ⟨0, 0, none⟩ = some (.iface 185 (.agg #[.pointer (some ⟨3, 29, none⟩)])) := by
    rw [World.cell?_alloc_lt _ _ ⟨0, 0, none⟩ (by first | (simp; done) | (simp; omega)), World.cell?_alloc_lt _ _ ⟨0, 0, none⟩ hlt]; exact hg
  have htl : t.block < w.heap.size := by
    rcases Nat.lt_or_ge t.block w.heap.size with h | h
    · exact h
    · simp [World.cell?, Array.getElem?_eq_none h] at ht0
  have el := asElemVP ⟨w.heap.size, 0, none⟩ t (((w.alloc (.cells #[.pointer (some t)] 76)).alloc (.cells #[.pointer (some ⟨3, 76, none⟩), .pointer (some ⟨w.heap.size, 0, none⟩), .int .u64 150] 136)).alloc (.cells #[.pointer (some ⟨3, 76, none⟩), .pointer (some ⟨w.heap.size, 0, none⟩), .int .u64 150] 136)) (by rw [World.cell?_alloc_lt _ _ ⟨w.heap.size, 0, none⟩ (by simp; omega)]; simp)
  have st := asSetF t ⟨w.heap.size + 1 + 1 + 1, 0, none⟩ e old ((((w.alloc (.cells #[.pointer (some t)] 76)).alloc (.cells #[.pointer (some ⟨3, 76, none⟩), .pointer (some ⟨w.heap.size, 0, none⟩), .int .u64 150] 136)).alloc (.cells #[.pointer (some ⟨3, 76, none⟩), .pointer (some ⟨w.heap.size, 0, none⟩), .int .u64 150] 136)).alloc (.cells #[.pointer (some e)] 74))
    (by rw [World.cell?_alloc_at _ _ _ _ (by simp)]; rfl)
    (by rw [World.cell?_alloc_lt _ _ t (by simp; omega), World.cell?_alloc_lt _ _ t (by simp; omega), World.cell?_alloc_lt _ _ t (by simp; omega), World.cell?_alloc_lt _ _ t htl]; exact ht0)
    (by rw [World.frozen?_alloc_old _ _ t (by simp; omega), World.frozen?_alloc_old _ _ t (by simp; omega), World.frozen?_alloc_old _ _ t (by simp; omega), World.frozen?_alloc_old _ _ t (Nat.ne_of_lt htl)]; exact hf0)
  clear hg0
  go_enter Tryz.func30, Tryz.ntmps30
  go_wp2
  refine wp_loop_rounds 1 ?_
  rw [rounds_succ]
  go_wp2
  go_ret
  exact ⟨rfl, rfl⟩
end Go.Proofs.YtkfbkfcmdfpfjaaGreatDoor
set_option linter.unusedSimpArgs false
set_option linter.unusedVariables false
namespace Go.Proofs.YtkfbkfcmdfpfjaaGreatDoor
open Go.RowKit Pg

/-- v stands for the number k, whatever wraps it: errors.Is says so -/
def IsErr (w : World) (v : Value) (k : Nat) : Prop :=
  (k = 0 ∧ v = .nilIface) ∨ (k ≠ 0 ∧ k ≤ 15 ∧ (∃ t u, v = .iface t u) ∧ ∀ b : Nat, 1 ≤ b → Calls Tryz.prog 34 #[v, .iface 68 (.int .i64 b)] w fun e w' => e = .returned (.bool (decide (k = b))) ∧ w = w')
set_option maxHeartbeats 1000000 in
theorem code_any (v : Value) (k : Nat) (w : World) (hv : IsErr w v k) :
    Calls Tryz.prog 14 #[v] w fun e w' => e = .returned (.int .i64 k) ∧ w = w' := by
  rcases hv with ⟨h0, rfl⟩ | ⟨h0, hk, ⟨t, u, rfl⟩, hi⟩
  · subst h0
    go_enter Tryz.func14, Tryz.ntmps14
    go_wp2
    go_ret
    exact ⟨rfl, rfl⟩
  · have HI := Lib.hid hi
    clear hi
    go_enter Tryz.func14, Tryz.ntmps14
    go_wp2
    go_loop [3] (fun i => ∃ m : Nat, 1 ≤ m ∧ m ≤ k ∧ i = .int .i64 m) (fun i => 16 - (intOf i).toNat)
    case atStart => exact ⟨1, by omega, by omega, rfl⟩
    case round =>
      obtain ⟨m, hm1, hmk, rfl⟩ := hrel
      have hm15 : (m : Int) ≤ 15 := by omega
      by_cases e : k = m
      · have HE : Hid (decide (k = m) = true) := by simp [Hid, e]
        have HK := Lib.hid e
        clear e
        go_wp2_with (go_at_call 34; refine (HI.out m hm1).mono ?_; rw [HE.out]; rintro e w1 ⟨rfl, rfl⟩)
        go_ret
        exact ⟨ret_int (by rw [HK.out]), rfl⟩
      · have HE : Hid (decide (k = m) = false) := by simp [Hid, e]
        have hlt : m < k := by omega
        clear e
        go_wp2_with (go_at_call 34; refine (HI.out m hm1).mono ?_; rw [HE.out]; rintro e w1 ⟨rfl, rfl⟩)
        go_round
        case rel => exact ⟨m + 1, by omega, by omega, by go_num⟩
        case measure => simp [intOf]; omega

theorem ErrT.lt {w : World} (h : ErrT w) : 0 < w.heap.size := by
  unfold ErrT at h
  rcases Nat.lt_or_ge 0 w.heap.size with k | k
  · exact k
  · simp [World.cell?, Array.getElem?_eq_none k] at h
theorem ErrT.below {w w' : World} {B : Nat} (h : ErrT w) (hb : Below B w w') (hB : 0 < B) : ErrT w' := by
  unfold ErrT at *
  rw [← h]
  exact hb.cell (p := ⟨0, 0, none⟩) hB
theorem ErrT.tr {w w' : World} (h : ErrT w) (hb : Below w.heap.size w w') : ErrT w' := h.below hb h.lt

/-- errors.As, with what it leaves -/
theorem as_hit2 (e : Addr) (tb : Nat) (old : Value) (w : World) (hg : ErrT w) (ht : w.cell? ⟨tb, 0, none⟩ = some old) (hf : w.frozen? ⟨tb, 0, none⟩ = false) :
    Calls Tryz.prog 30 #[.iface 74 (.pointer (some e)), .iface 76 (.pointer (some ⟨tb, 0, none⟩))] w fun ev w' => ev = .returned (.bool true) ∧ w'.cell? ⟨tb, 0, none⟩ = some (.pointer (some e)) ∧ (∀ b o, b < w.heap.size → b ≠ tb → w'.cell? ⟨b, o, none⟩ = w.cell? ⟨b, o, none⟩) ∧ Below tb w w' := by
  have htl : tb < w.heap.size := by
    rcases Nat.lt_or_ge tb w.heap.size with h | h
    · exact h
    · simp [World.cell?, Array.getElem?_eq_none h] at ht
  refine (as_hit e ⟨tb, 0, none⟩ old w hg ht hf).mono ?_
  rintro ev w' ⟨rfl, rfl⟩
  obtain ⟨w4, hw4⟩ : ∃ w4, ((((w.alloc (.cells #[.pointer (some ⟨tb, 0, none⟩)] 76)).alloc (.cells #[.pointer (some ⟨3, 76, none⟩), .pointer (some ⟨w.heap.size, 0, none⟩), .int .u64 150] 136)).alloc (.cells #[.pointer (some ⟨3, 76, none⟩), .pointer (some ⟨w.heap.size, 0, none⟩), .int .u64 150] 136)).alloc (.cells #[.pointer (some e)] 74)) = w4 := ⟨_, rfl⟩
  have hb : Below w.heap.size w w4 := by subst hw4; exact bel
  rw [hw4]
  have h0 : w4.cell? ⟨tb, 0, none⟩ = some old := (hb.cell (p := ⟨tb, 0, none⟩) htl).trans ht
  refine ⟨rfl, ?_, fun b o hb1 hne => ?_, (hb.mono (Nat.le_of_lt htl)).setCell (Nat.le_refl _) _⟩
  · rw [World.cell?_setCell_same _ _ _ h0]
  · rw [World.cell?_setCell_other]
    · exact hb.cell (p := ⟨b, o, none⟩) hb1
    · intro e; injection e with e1; exact hne e1.symm
end Go.Proofs.YtkfbkfcmdfpfjaaGreatDoor
