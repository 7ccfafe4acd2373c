/-
  errors.Is by contracts, at an error that is nothing, a number, or one or two Faults around a number; the target is a number.
  errors.As by a contract, at a Fault and a target that points to a variable for one.
  Contracts of pergolaalike: Code, Is, May.
  Errors of any depth: Faults around Faults around a number; errors.Is, Code and Is at them; fault.New.
-/
import Derived.Test.YtkfbkfcmdfpfjaaGreatDoorSRel1
import Derived.LaidEql
import Derived.Stop.Asserts
import Derived.Lib.IfaceEq
import Derived.RowKitTokens
import Derived.Test.YtkfbkfcmdfpfjaaGreatDoorSRef3
import Derived.Test.YtkfbkfcmdfpfjaaGreatDoorSEncG
set_option linter.unusedSimpArgs false
set_option linter.unusedVariables false
namespace Go.Proofs.YtkfbkfcmdfpfjaaGreatDoor
open Go.RowKit Pg Go.Extern.Stop Go.Stop Go.Extern

theorem isTypeOf (v : Value) (w : World) : (Extern.ReflectliteType.typeOf #[.iface 68 v]).run Tryz.prog w = .ok (.iface 185 (.agg #[.pointer (some ⟨3, 68, none⟩)])) w := by kernel_rfl
def compE : Array Value → Sem Value := Extern.ReflectliteType.method fun t => do Rtype.noPackHeld "Comparable" t; pure (.bool (← typeInfo t).comparable)
theorem isComparable (w : World) : (compE #[.agg #[.pointer (some ⟨3, 68, none⟩)]]).run Tryz.prog w = .ok (.bool true) w := by kernel_rfl
theorem isMethodComparable (v : Value) (w : World) : (Go.method 467 185 v "Comparable").run Tryz.prog w = .ok (292, v) w := by kernel_rfl
theorem noIsE (v : Value) (xT : TypeId) (w : World) : (Instr.typeAssert (.iface 68 v) xT 197 true).run Tryz.prog w = .ok (.tuple #[.nilIface, .bool false]) w := run_typeAssert_lacksB Tryz.underlying197 (by kernel_rfl) (by kernel_rfl) v xT w
theorem noIsF (v : Value) (xT : TypeId) (w : World) : (Instr.typeAssert (.iface 74 v) xT 197 true).run Tryz.prog w = .ok (.tuple #[.nilIface, .bool false]) w := run_typeAssert_lacksB Tryz.underlying197 (by kernel_rfl) (by kernel_rfl) v xT w
theorem noUnwrapE (v : Value) (xT : TypeId) (w : World) : (Instr.typeAssert (.iface 68 v) xT 192 true).run Tryz.prog w = .ok (.tuple #[.nilIface, .bool false]) w := run_typeAssert_lacksB Tryz.underlying192 (by kernel_rfl) (by kernel_rfl) v xT w
theorem hasUnwrapF (v : Value) (xT : TypeId) (w : World) : (Instr.typeAssert (.iface 74 v) xT 192 true).run Tryz.prog w = .ok (.tuple #[.iface 74 v, .bool true]) w := run_typeAssert_hasB Tryz.underlying192 (by kernel_rfl) v xT w
theorem noUnwrapsE (v : Value) (xT : TypeId) (w : World) : (Instr.typeAssert (.iface 68 v) xT 193 true).run Tryz.prog w = .ok (.tuple #[.nilIface, .bool false]) w := run_typeAssert_lacksB Tryz.underlying193 (by kernel_rfl) (by kernel_rfl) v xT w
theorem methodUnwrap (v : Value) (w : World) : (Go.method 467 74 v "Unwrap").run Tryz.prog w = .ok (209, v) w := by kernel_rfl
theorem errnoComp : (Tryz.prog.info? 68).map (·.comparable) = some true := by kernel_rfl

end Go.Proofs.YtkfbkfcmdfpfjaaGreatDoor
set_option linter.unusedSimpArgs false
set_option linter.unusedVariables false
namespace Go.Proofs.YtkfbkfcmdfpfjaaGreatDoor
open Go.RowKit Pg Go.Extern.Stop Go.Stop Go.Extern

theorem asValueOfP (t : Addr) (w : World) : (ReflectliteValue.unpack (.iface 76 (.pointer (some t)))).run Tryz.prog w
    = .ok (.agg #[.pointer (some ⟨3, 76, none⟩), .pointer (some ⟨w.heap.size, 0, none⟩), .int .u64 150]) (w.alloc (.cells #[.pointer (some t)] 76)) := by kernel_rfl
theorem asTypeP (a : Addr) (w : World) : (ReflectliteValue.methodAny (ReflectliteValue.valueError "reflectlite.Value.Type" 0) (fun t _ _ _ => ReflectliteType.toType t) #[.agg #[.pointer (some ⟨3, 76, none⟩), .pointer (some a), .int .u64 150]]).run Tryz.prog w
    = .ok (.iface 185 (.agg #[.pointer (some ⟨3, 76, none⟩)])) w := by kernel_rfl
theorem asMethodKind (h : Value) (w : World) : (Go.method 467 185 (.agg #[h]) "Kind").run Tryz.prog w = .ok (204, h) w := by kernel_rfl
theorem asKindP (w : World) : ((ReflectliteType.abiMethod fun t => (fun a : Nat => Value.int IntKind.u8 (a : Int)) <$> Rtype.kind t) #[.pointer (some ⟨3, 76, none⟩)]).run Tryz.prog w = .ok (.int .u8 22) w := by kernel_rfl
theorem asKindF (w : World) : ((ReflectliteType.abiMethod fun t => (fun a : Nat => Value.int IntKind.u8 (a : Int)) <$> Rtype.kind t) #[.pointer (some ⟨3, 74, none⟩)]).run Tryz.prog w = .ok (.int .u8 22) w := by kernel_rfl
theorem asRlm (z : Sem Value) (f : TypeId → Addr → Nat → Nat → Sem Value) (v : Value) :
    ReflectliteValue.method z f #[v] = (do match ← ReflectliteValue.parts v with | none => z | some (t, a, fl) => f t a fl (fl % 32)) := rfl
theorem asPartsP (a : Addr) (w : World) : (ReflectliteValue.parts (.agg #[.pointer (some ⟨3, 76, none⟩), .pointer (some a), .int .u64 150])).run Tryz.prog w = .ok (some (76, a, 150)) w := by kernel_rfl
theorem asIsNil (a p : Addr) (W : World) (ha : W.cell? a = some (.pointer (some p))) :
    (ReflectliteValue.method (ReflectliteValue.valueError "reflectlite.Value.IsNil" 0) ReflectliteValue.isNil #[.agg #[.pointer (some ⟨3, 76, none⟩), .pointer (some a), .int .u64 150]]).run Tryz.prog W = .ok (.bool false) W := by
  rw [asRlm]
  simp only [Sem.run_bind, asPartsP, Result.andThen]
  simp [ReflectliteValue.isNil, loadVar, isAgg, underlying, Tryz.underlying76, ha, Result.andThen]
theorem asMethodElem (h : Value) (w : World) : (Go.method 467 185 (.agg #[h]) "Elem").run Tryz.prog w = .ok (293, .agg #[h]) w := by kernel_rfl
theorem asMethodAssignableTo (h : Value) (w : World) : (Go.method 467 185 (.agg #[h]) "AssignableTo").run Tryz.prog w = .ok (291, .agg #[h]) w := by kernel_rfl
theorem asMethodImplements (h : Value) (w : World) : (Go.method 467 185 (.agg #[h]) "Implements").run Tryz.prog w = .ok (294, .agg #[h]) w := by kernel_rfl
theorem asElemP (w : World) : (ReflectliteType.method ReflectliteType.elem #[.agg #[.pointer (some ⟨3, 76, none⟩)]]).run Tryz.prog w = .ok (.iface 185 (.agg #[.pointer (some ⟨3, 74, none⟩)])) w := by kernel_rfl
theorem asImplementsF (w : World) : (ReflectliteType.relation "Implements" ReflectliteType.implements_ #[.agg #[.pointer (some ⟨3, 74, none⟩)], .iface 185 (.agg #[.pointer (some ⟨3, 29, none⟩)])]).run Tryz.prog w = .ok (.bool true) w := by kernel_rfl
theorem asTypeOfF (v : Value) (w : World) : (ReflectliteType.typeOf #[.iface 74 v]).run Tryz.prog w = .ok (.iface 185 (.agg #[.pointer (some ⟨3, 74, none⟩)])) w := by kernel_rfl
theorem asAssignableF (w : World) : (ReflectliteType.relation "AssignableTo" ReflectliteType.assignableTo #[.agg #[.pointer (some ⟨3, 74, none⟩)], .iface 185 (.agg #[.pointer (some ⟨3, 74, none⟩)])]).run Tryz.prog w = .ok (.bool true) w := by kernel_rfl
theorem asValueOfF (e : Addr) (w : World) : (ReflectliteValue.unpack (.iface 74 (.pointer (some e)))).run Tryz.prog w
    = .ok (.agg #[.pointer (some ⟨3, 74, none⟩), .pointer (some ⟨w.heap.size, 0, none⟩), .int .u64 150]) (w.alloc (.cells #[.pointer (some e)] 74)) := by kernel_rfl
theorem asElemOfP (w : World) : (Rtype.elem? 76).run Tryz.prog w = .ok (some 74) w := by kernel_rfl
theorem asMkF (p : Addr) (w : World) : (ReflectliteValue.mk 74 p ReflectliteValue.flagAddr).run Tryz.prog w = .ok (.agg #[.pointer (some ⟨3, 74, none⟩), .pointer (some p), .int .u64 406]) w := by kernel_rfl
theorem asElemVP (a p : Addr) (W : World) (ha : W.cell? a = some (.pointer (some p))) :
    (ReflectliteValue.method (ReflectliteValue.valueError "reflectlite.Value.Elem" 0) ReflectliteValue.elem #[.agg #[.pointer (some ⟨3, 76, none⟩), .pointer (some a), .int .u64 150]]).run Tryz.prog W
      = .ok (.agg #[.pointer (some ⟨3, 74, none⟩), .pointer (some p), .int .u64 406]) W := by
  rw [asRlm]
  simp only [Sem.run_bind, asPartsP, Result.andThen]
  simp [ReflectliteValue.elem, loadVar, isAgg, underlying, Tryz.underlying76, ha, Result.andThen, asElemOfP, asMkF]
theorem asRls (v x : Value) : ReflectliteValue.set #[v, x] = (do
    let (some (dst, a, fl), some (src, b, _)) := (← ReflectliteValue.parts v, ← ReflectliteValue.parts x)
      | unsupported (.noEntry "extern/(internal/reflectlite.Value).Set.zeroValue")
    if fl / ReflectliteValue.flagAddr % 2 == 0 then unsupported (.noEntry "extern/(internal/reflectlite.Value).Set.unaddressable")
    let val ← loadVar src b
    if ← Rtype.directlyAssignable dst src then storeVar dst a val
    else if ← Rtype.implements dst src then
      if (← Rtype.kind src) == 20 then
        match val with
        | .nilIface => unsupported (.noEntry "extern/reflectlite: a nil value of one interface type handed on as a value of another")
        | _ => storeVar dst a val
      else storeVar dst a (.iface src val)
    else panicString ("reflectlite.Set: value of type " ++ (← Rtype.spelt src) ++ " is not assignable to type " ++ (← Rtype.spelt dst))
    pure (.tuple #[])) := rfl
theorem asPartsFa (a : Addr) (w : World) : (ReflectliteValue.parts (.agg #[.pointer (some ⟨3, 74, none⟩), .pointer (some a), .int .u64 406])).run Tryz.prog w = .ok (some (74, a, 406)) w := by kernel_rfl
theorem asPartsF (a : Addr) (w : World) : (ReflectliteValue.parts (.agg #[.pointer (some ⟨3, 74, none⟩), .pointer (some a), .int .u64 150])).run Tryz.prog w = .ok (some (74, a, 150)) w := by kernel_rfl
theorem asDirectF (w : World) : (Rtype.directlyAssignable 74 74).run Tryz.prog w = .ok true w := by kernel_rfl
theorem asSetF (ta b e : Addr) (old : Value) (W : World) (hb : W.cell? b = some (.pointer (some e))) (ht : W.cell? ta = some old) (hf : W.frozen? ta = false) :
    (ReflectliteValue.set #[.agg #[.pointer (some ⟨3, 74, none⟩), .pointer (some ta), .int .u64 406], .agg #[.pointer (some ⟨3, 74, none⟩), .pointer (some b), .int .u64 150]]).run Tryz.prog W
      = .ok (.tuple #[]) (W.setCell ta (.pointer (some e))) := by
  rw [asRls]
  simp only [Sem.run_bind, asPartsFa, asPartsF, Result.andThen]
  simp [ReflectliteValue.flagAddr, loadVar, isAgg, underlying, Tryz.underlying74, hb, Result.andThen, asDirectF, storeVar, Value.cells, storeCells, Addr.add]
  rw [run_store Tryz.prog W ta _ _ (by rfl)]
  simp [ht, hf]

def ErrT (w : World) : Prop := w.cell? ⟨0, 0, none⟩ = some (.iface 185 (.agg #[.pointer (some ⟨3, 29, none⟩)]))

set_option maxHeartbeats 4000000 in
theorem as_hit (e t : Addr) (old : Value) (w : World) (hg0 : ErrT w) (ht0 : w.cell? t = some old) (hf0 : w.frozen? t = false) :
    Calls Tryz.prog 30 #[.iface 74 (.pointer (some e)), .iface 76 (.pointer (some t))] w fun ev w' => ev = .returned (.bool true) ∧ w' = ((((w.alloc (.cells #[.pointer (some t)] 76)).alloc (.cells #[.pointer (some ⟨3, 76, none⟩), .pointer (some ⟨w.heap.size, 0, none⟩), .int .u64 150] 136)).alloc (.cells #[.pointer (some ⟨3, 76, none⟩), .pointer (some ⟨w.heap.size, 0, none⟩), .int .u64 150] 136)).alloc (.cells #[.pointer (some e)] 74)).setCell t (.pointer (some e)) := by
  have hg : w.cell? ⟨0, 0, none⟩ = some (.iface 185 (.agg #[.pointer (some ⟨3, 29, none⟩)])) := hg0
  have h6 := @run_callFunc_extern Tryz.prog 59 _ (fun args => ReflectliteValue.unpack (args.getD 0 (.tuple #[]))) Tryz.func59 (by kernel_rfl) (by kernel_rfl) (by kernel_rfl) (by kernel_rfl)
  have h7 := @run_callFunc_extern Tryz.prog 60 _ (ReflectliteValue.methodAny (ReflectliteValue.valueError "reflectlite.Value.Type" 0) (fun t _ _ _ => ReflectliteType.toType t)) Tryz.func60 (by kernel_rfl) (by kernel_rfl) (by kernel_rfl) (by kernel_rfl)
  have h8 := @run_callFunc_extern Tryz.prog 61 _ (ReflectliteValue.method (ReflectliteValue.valueError "reflectlite.Value.IsNil" 0) ReflectliteValue.isNil) Tryz.func61 (by kernel_rfl) (by kernel_rfl) (by kernel_rfl) (by kernel_rfl)
  have h27 := @run_callFunc_extern Tryz.prog 204 _ (ReflectliteType.abiMethod fun t => do pure (.int .u8 (← Rtype.kind t))) Tryz.func204 (by kernel_rfl) (by kernel_rfl) (by kernel_rfl) (by kernel_rfl)
  have h37 := @run_callFunc_extern Tryz.prog 293 _ (ReflectliteType.method ReflectliteType.elem) Tryz.func293 (by kernel_rfl) (by kernel_rfl) (by kernel_rfl) (by kernel_rfl)
  have h38 := @run_callFunc_extern Tryz.prog 294 _ (ReflectliteType.relation "Implements" ReflectliteType.implements_) Tryz.func294 (by kernel_rfl) (by kernel_rfl) (by kernel_rfl) (by kernel_rfl)
  have h10 := @run_callFunc_extern Tryz.prog 64 _ ReflectliteType.typeOf Tryz.func64 (by kernel_rfl) (by kernel_rfl) (by kernel_rfl) (by kernel_rfl)
  have h35 := @run_callFunc_extern Tryz.prog 291 _ (ReflectliteType.relation "AssignableTo" ReflectliteType.assignableTo) Tryz.func291 (by kernel_rfl) (by kernel_rfl) (by kernel_rfl) (by kernel_rfl)
  have h11 := @run_callFunc_extern Tryz.prog 92 _ (ReflectliteValue.method (ReflectliteValue.valueError "reflectlite.Value.Elem" 0) ReflectliteValue.elem) Tryz.func92 (by kernel_rfl) (by kernel_rfl) (by kernel_rfl) (by kernel_rfl)
  have h12 := @run_callFunc_extern Tryz.prog 93 _ ReflectliteValue.set Tryz.func93 (by kernel_rfl) (by kernel_rfl) (by kernel_rfl) (by kernel_rfl)
  have tO := asTypeOfF
  have mA := asMethodAssignableTo
  have a25 := asAssignableF
  have v25 := asValueOfF
  have f6 := asValueOfP
  have f7 := asTypeP
  have mK := asMethodKind
  have mE := asMethodElem
  have mI := asMethodImplements
  have k27 := asKindP
  have k25 := asKindF
  have e27 := asElemP
  have i25 := asImplementsF
  have n8 := asIsNil ⟨w.heap.size, 0, none⟩ t ((w.alloc (.cells #[.pointer (some t)] 76)).alloc (.cells #[.pointer (some ⟨3, 76, none⟩), .pointer (some ⟨w.heap.size, 0, none⟩), .int .u64 150] 136)) (by simp)
  have hlt : 0 < w.heap.size := by
    rcases Nat.lt_or_ge 0 w.heap.size with h | h
    · exact h
    · simp [World.cell?, Array.getElem?_eq_none h] at hg
  have hg2 : ((w.alloc (.cells #[.pointer (some t)] 76)).alloc (.cells #[.pointer (some ⟨3, 76, none⟩), .pointer (some ⟨w.heap.size, 0, none⟩), .int .u64 150] 136)).cell? ⟨0, 0, none⟩ = some (.iface 185 (.agg #[.pointer (some ⟨3, 29, none⟩)])) := by
    rw [World.cell?_alloc_lt _ _ ⟨0, 0, none⟩ (by first | (simp; done) | (simp; omega)), World.cell?_alloc_lt _ _ ⟨0, 0, none⟩ hlt]; exact hg
  have htl : t.block < w.heap.size := by
    rcases Nat.lt_or_ge t.block w.heap.size with h | h
    · exact h
    · simp [World.cell?, Array.getElem?_eq_none h] at ht0
  have el := asElemVP ⟨w.heap.size, 0, none⟩ t (((w.alloc (.cells #[.pointer (some t)] 76)).alloc (.cells #[.pointer (some ⟨3, 76, none⟩), .pointer (some ⟨w.heap.size, 0, none⟩), .int .u64 150] 136)).alloc (.cells #[.pointer (some ⟨3, 76, none⟩), .pointer (some ⟨w.heap.size, 0, none⟩), .int .u64 150] 136)) (by rw [World.cell?_alloc_lt _ _ ⟨w.heap.size, 0, none⟩ (by simp; omega)]; simp)
  have st := asSetF t ⟨w.heap.size + 1 + 1 + 1, 0, none⟩ e old ((((w.alloc (.cells #[.pointer (some t)] 76)).alloc (.cells #[.pointer (some ⟨3, 76, none⟩), .pointer (some ⟨w.heap.size, 0, none⟩), .int .u64 150] 136)).alloc (.cells #[.pointer (some ⟨3, 76, none⟩), .pointer (some ⟨w.heap.size, 0, none⟩), .int .u64 150] 136)).alloc (.cells #[.pointer (some e)] 74))
    (by rw [World.cell?_alloc_at _ _ _ _ (by simp)]; rfl)
    (by rw [World.cell?_alloc_lt _ _ t (by simp; omega), World.cell?_alloc_lt _ _ t (by simp; omega), World.cell?_alloc_lt _ _ t (by simp; omega), World.cell?_alloc_lt _ _ t htl]; exact ht0)
    (by rw [World.frozen?_alloc_old _ _ t (by simp; omega), World.frozen?_alloc_old _ _ t (by simp; omega), World.frozen?_alloc_old _ _ t (by simp; omega), World.frozen?_alloc_old _ _ t (Nat.ne_of_lt htl)]; exact hf0)
  clear hg0
  go_enter Tryz.func30, Tryz.ntmps30
  go_wp2
  refine wp_loop_rounds 1 ?_
  rw [rounds_succ]
  go_wp2
  go_ret
  exact ⟨rfl, rfl⟩
end Go.Proofs.YtkfbkfcmdfpfjaaGreatDoor
set_option linter.unusedSimpArgs false
set_option linter.unusedVariables false
namespace Go.Proofs.YtkfbkfcmdfpfjaaGreatDoor
open Go.RowKit Pg

def IsErr (w : World) (v : Value) (k : Nat) : Prop :=
  (k = 0 ∧ v = .nilIface) ∨ (k ≠ 0 ∧ k ≤ 15 ∧ (∃ t u, v = .iface t u) ∧ ∀ b : Nat, 1 ≤ b → Calls Tryz.prog 34 #[v, .iface 68 (.int .i64 b)] w fun e w' => e = .returned (.bool (decide (k = b))) ∧ w = w')
set_option maxHeartbeats 1000000 in
theorem code_any (v : Value) (k : Nat) (w : World) (hv : IsErr w v k) :
    Calls Tryz.prog 14 #[v] w fun e w' => e = .returned (.int .i64 k) ∧ w = w' := by
  rcases hv with ⟨h0, rfl⟩ | ⟨h0, hk, ⟨t, u, rfl⟩, hi⟩
  · subst h0
    go_enter Tryz.func14, Tryz.ntmps14
    go_wp2
    go_ret
    exact ⟨rfl, rfl⟩
  · have HI := Lib.hid hi
    clear hi
    go_enter Tryz.func14, Tryz.ntmps14
    go_wp2
    go_loop [3] (fun i => ∃ m : Nat, 1 ≤ m ∧ m ≤ k ∧ i = .int .i64 m) (fun i => 16 - (intOf i).toNat)
    case atStart => exact ⟨1, by omega, by omega, rfl⟩
    case round =>
      obtain ⟨m, hm1, hmk, rfl⟩ := hrel
      have hm15 : (m : Int) ≤ 15 := by omega
      by_cases e : k = m
      · have HE : Hid (decide (k = m) = true) := by simp [Hid, e]
        have HK := Lib.hid e
        clear e
        go_wp2_with (go_at_call 34; refine (HI.out m hm1).mono ?_; rw [HE.out]; rintro e w1 ⟨rfl, rfl⟩)
        go_ret
        exact ⟨ret_int (by rw [HK.out]), rfl⟩
      · have HE : Hid (decide (k = m) = false) := by simp [Hid, e]
        have hlt : m < k := by omega
        clear e
        go_wp2_with (go_at_call 34; refine (HI.out m hm1).mono ?_; rw [HE.out]; rintro e w1 ⟨rfl, rfl⟩)
        go_round
        case rel => exact ⟨m + 1, by omega, by omega, by go_num⟩
        case measure => simp [intOf]; omega

theorem ErrT.lt {w : World} (h : ErrT w) : 0 < w.heap.size := by
  unfold ErrT at h
  rcases Nat.lt_or_ge 0 w.heap.size with k | k
  · exact k
  · simp [World.cell?, Array.getElem?_eq_none k] at h
theorem ErrT.below {w w' : World} {B : Nat} (h : ErrT w) (hb : Below B w w') (hB : 0 < B) : ErrT w' := by
  unfold ErrT at *
  rw [← h]
  exact hb.cell (p := ⟨0, 0, none⟩) hB
theorem ErrT.tr {w w' : World} (h : ErrT w) (hb : Below w.heap.size w w') : ErrT w' := h.below hb h.lt

theorem as_hit2 (e : Addr) (tb : Nat) (old : Value) (w : World) (hg : ErrT w) (ht : w.cell? ⟨tb, 0, none⟩ = some old) (hf : w.frozen? ⟨tb, 0, none⟩ = false) :
    Calls Tryz.prog 30 #[.iface 74 (.pointer (some e)), .iface 76 (.pointer (some ⟨tb, 0, none⟩))] w fun ev w' => ev = .returned (.bool true) ∧ w'.cell? ⟨tb, 0, none⟩ = some (.pointer (some e)) ∧ (∀ b o, b < w.heap.size → b ≠ tb → w'.cell? ⟨b, o, none⟩ = w.cell? ⟨b, o, none⟩) ∧ Below tb w w' := by
  have htl : tb < w.heap.size := by
    rcases Nat.lt_or_ge tb w.heap.size with h | h
    · exact h
    · simp [World.cell?, Array.getElem?_eq_none h] at ht
  refine (as_hit e ⟨tb, 0, none⟩ old w hg ht hf).mono ?_
  rintro ev w' ⟨rfl, rfl⟩
  obtain ⟨w4, hw4⟩ : ∃ w4, ((((w.alloc (.cells #[.pointer (some ⟨tb, 0, none⟩)] 76)).alloc (.cells #[.pointer (some ⟨3, 76, none⟩), .pointer (some ⟨w.heap.size, 0, none⟩), .int .u64 150] 136)).alloc (.cells #[.pointer (some ⟨3, 76, none⟩), .pointer (some ⟨w.heap.size, 0, none⟩), .int .u64 150] 136)).alloc (.cells #[.pointer (some e)] 74)) = w4 := ⟨_, rfl⟩
  have hb : Below w.heap.size w w4 := by subst hw4; exact bel
  rw [hw4]
  have h0 : w4.cell? ⟨tb, 0, none⟩ = some old := (hb.cell (p := ⟨tb, 0, none⟩) htl).trans ht
  refine ⟨rfl, ?_, fun b o hb1 hne => ?_, (hb.mono (Nat.le_of_lt htl)).setCell (Nat.le_refl _) _⟩
  · rw [World.cell?_setCell_same _ _ _ h0]
  · rw [World.cell?_setCell_other]
    · exact hb.cell (p := ⟨b, o, none⟩) hb1
    · intro e; injection e with e1; exact hne e1.symm
end Go.Proofs.YtkfbkfcmdfpfjaaGreatDoor
set_option linter.unusedSimpArgs false
set_option linter.unusedVariables false
namespace Go.Proofs.YtkfbkfcmdfpfjaaGreatDoor
open Go.RowKit Pg

def ErrD (w : World) (k : Nat) : Nat → Value → Prop
  | 0, v => v = .iface 68 (.int .i64 k)
  | d + 1, v => ∃ (g : Nat) (s : ByteArray) (id : Int) (inner : Value), v = faultV g ∧ Blk w g 78 #[.string s, .int .i64 id, inner] ∧ ErrD w k d inner
def depF (w : World) : Nat → Value → Nat
  | 0, _ => 0
  | n + 1, .iface _ (.pointer (some p)) => match w.cell? ⟨p.block, 2, none⟩ with
    | some x => depF w n x + 1
    | none => 0
  | _ + 1, _ => 0
theorem depF_of {w : World} {k : Nat} : ∀ (d n : Nat) (v : Value), d ≤ n → ErrD w k d v → depF w n v = d := by
  intro d
  induction d with
  | zero =>
    intro n v _ h
    obtain rfl : v = _ := h
    cases n <;> rfl
  | succ d ih =>
    intro n v hn h
    obtain ⟨g, s, id, inner, rfl, hB, hi⟩ := h
    obtain ⟨m, rfl⟩ : ∃ m, n = m + 1 := ⟨n - 1, by omega⟩
    have c2 : w.cell? ⟨g, 2, none⟩ = some inner := by rw [hB.cell]; rfl
    unfold faultV depF
    simp only [c2]
    rw [ih m inner (by omega) hi]
theorem ErrD.keep {w w' : World} {k : Nat} (hk : ∀ {g : Nat} {cs : Array Value}, Blk w g 78 cs → Blk w' g 78 cs) : ∀ (d : Nat) (v : Value), ErrD w k d v → ErrD w' k d v := by
  intro d
  induction d with
  | zero => intro v h; exact h
  | succ d ih =>
    intro v h
    obtain ⟨g, s, id, inner, hv, hB, hi⟩ := h
    exact ⟨g, s, id, inner, hv, hk hB, ih inner hi⟩
def ErrX (w : World) (v : Value) (k : Nat) (s : ByteArray) (id : Int) : Prop :=
  (k = 0 ∧ v = .nilIface) ∨ (k ≠ 0 ∧ ∃ (g d : Nat) (inner : Value), v = faultV g ∧ Blk w g 78 #[.string s, .int .i64 id, inner] ∧ ErrD w k d inner)
def ErrY (w : World) (v : Value) (k : Nat) : Prop := (k = 0 ∧ v = .nilIface) ∨ (k ≠ 0 ∧ ∃ d, ErrD w k d v)
theorem ErrX.keep {w w' : World} {v : Value} {k : Nat} {s : ByteArray} {id : Int} (hk : ∀ {g : Nat} {cs : Array Value}, Blk w g 78 cs → Blk w' g 78 cs) (h : ErrX w v k s id) : ErrX w' v k s id := by
  rcases h with h | ⟨h0, g, d, inner, hv, hB, hi⟩
  · exact .inl h
  · exact .inr ⟨h0, g, d, inner, hv, hk hB, hi.keep hk d inner⟩
theorem ErrX.tr {w w' : World} {v : Value} {k : Nat} {s : ByteArray} {id : Int} (h : ErrX w v k s id) (hb : Below w.heap.size w w') : ErrX w' v k s id := h.keep (fun hB => hB.tr hb)
theorem ErrY.keep {w w' : World} {v : Value} {k : Nat} (hk : ∀ {g : Nat} {cs : Array Value}, Blk w g 78 cs → Blk w' g 78 cs) (h : ErrY w v k) : ErrY w' v k := by
  rcases h with h | ⟨h0, d, hi⟩
  · exact .inl h
  · exact .inr ⟨h0, d, hi.keep hk d v⟩
theorem ErrY.tr {w w' : World} {v : Value} {k : Nat} (h : ErrY w v k) (hb : Below w.heap.size w w') : ErrY w' v k := h.keep (fun hB => hB.tr hb)
theorem ErrX.y {w : World} {v : Value} {k : Nat} {s : ByteArray} {id : Int} (h : ErrX w v k s id) : ErrY w v k := by
  rcases h with h | ⟨h0, g, d, inner, hv, hB, hi⟩
  · exact .inl h
  · exact .inr ⟨h0, d + 1, g, s, id, inner, hv, hB, hi⟩
theorem ErrY.zero {w : World} {v : Value} (h : ErrY w v 0) : v = .nilIface := by
  rcases h with ⟨_, h⟩ | ⟨h, _⟩
  · exact h
  · exact absurd rfl h
theorem ErrX.zero {w : World} {v : Value} {s : ByteArray} {id : Int} (h : ErrX w v 0 s id) : v = .nilIface := h.y.zero
theorem ErrD.some {w : World} {k : Nat} : ∀ (d : Nat) (v : Value), ErrD w k d v → ∃ t u, v = .iface t u
  | 0, v, h => ⟨_, _, h⟩
  | d + 1, v, ⟨g, s, id, inner, hv, _, _⟩ => ⟨_, _, hv⟩
theorem ErrY.succ {w : World} {v : Value} {k : Nat} (h : ErrY w v k) (hk : k ≠ 0) : ∃ t u, v = .iface t u := by
  rcases h with ⟨h, _⟩ | ⟨_, d, h⟩
  · exact absurd h hk
  · exact h.some
theorem ErrX.succ {w : World} {v : Value} {k : Nat} {s : ByteArray} {id : Int} (h : ErrX w v k s id) (hk : k ≠ 0) : ∃ t u, v = .iface t u := h.y.succ hk
theorem errD_bare {w : World} {v : Value} {k : Nat} (h0 : k ≠ 0) (h : v = errV k) : ErrD w k 0 v := by rw [h, errV_ne h0]; rfl
theorem ErrC.y {w : World} {v : Value} {k : Nat} (h : ErrC w v k) : ErrY w v k := by
  by_cases h0 : k = 0
  · subst h0
    exact .inl ⟨rfl, h.zero⟩
  · rcases h with h | ⟨h, _⟩ | ⟨_, g, s, id, hv, hB⟩
    · exact .inr ⟨h0, 0, errD_bare h0 h⟩
    · exact absurd h h0
    · exact .inr ⟨h0, 1, g, s, id, _, hv, hB, errD_bare h0 rfl⟩
theorem ErrC.d {w : World} {v : Value} {k : Nat} (h : ErrC w v k) (h0 : k ≠ 0) : ∃ d, ErrD w k d v := by
  rcases h.y with ⟨h, _⟩ | ⟨_, h⟩
  · exact absurd h h0
  · exact h
theorem ErrW.x {w : World} {v : Value} {k : Nat} {s : ByteArray} {id : Int} (h : ErrW w v k s id) : ErrX w v k s id := by
  rcases h with h | ⟨h0, g, inner, hv, hB, hi⟩
  · exact .inl h
  · obtain ⟨d, hd⟩ := hi.d h0
    exact .inr ⟨h0, g, d, inner, hv, hB, hd⟩
theorem fnewX_any (s : ByteArray) (id : Int) (v : Value) (k : Nat) (w : World) (hv : ErrY w v k) :
    Calls Tryz.prog 29 #[.string s, .int .i64 id, v] w fun e w' => ∃ v', e = .returned v' ∧ ErrX w' v' k s id ∧ Below w.heap.size w w' := by
  by_cases hk : k = 0
  · subst hk
    have := hv.zero
    subst this
    go_enter Tryz.func29, Tryz.ntmps29
    go_wp2
    go_ret
    exact ⟨_, rfl, .inl ⟨rfl, rfl⟩, bel⟩
  · obtain ⟨t, u, rfl⟩ := hv.succ hk
    have HV := Lib.hid hv
    clear hv
    go_enter Tryz.func29, Tryz.ntmps29
    go_wp2
    go_ret
    refine ⟨_, rfl, ?_, bel⟩
    rcases HV.out with ⟨h, _⟩ | ⟨_, d, hd⟩
    · exact absurd h hk
    · exact .inr ⟨hk, _, d, _, rfl, Blk.new rfl rfl, hd.keep (fun hB => hB.alloc _) d _⟩

set_option maxHeartbeats 2000000 in
theorem is_loop (a b d : Nat) (v : Value) (w : World) (h : ErrD w a d v) :
    Calls Tryz.prog 65 #[v, .iface 68 (.int .i64 b), .bool true] w fun e w' => e = .returned (.bool (decide (a = b))) ∧ w = w' := by
  have nE := noIsE
  have uE := noUnwrapE
  have vE := noUnwrapsE
  have nF := noIsF
  have uF := hasUnwrapF
  have mU := methodUnwrap
  have heq := fun w => Lib.run_eql_iface_int (P := Tryz.prog) w (k := .i64) (a : Int) (b : Int) Tryz.underlying29 errnoComp Tryz.underlying68
  have htyg := fun g w => run_eql_iface_types (P := Tryz.prog) 74 68 (.pointer (some ⟨g, 0, none⟩)) (.int .i64 b) Tryz.underlying29 (by decide) w
  have H := Lib.hid h
  clear h
  have hab : ((a : Int) == (b : Int)) = decide (a = b) := by
    by_cases e : a = b
    · subst e; simp
    · rw [decide_eq_false e, beq_eq_false_iff_ne]; omega
  go_enter Tryz.func65, Tryz.ntmps65
  go_wp2_with fail
  go_loopw [0] (fun v' wr => wr = w ∧ ∃ d', d' ≤ d ∧ ErrD w a d' v') (fun v' _ => depF w d v')
  case atStart => exact ⟨rfl, d, Nat.le_refl _, H.out⟩
  case round =>
    obtain ⟨rfl, d', hd', hE⟩ := hrel
    cases d' with
    | zero =>
      obtain rfl : _ = _ := hE
      cases hdec : decide (a = b)
      · rw [hdec] at hab
        have HD := Lib.hid hdec
        clear hdec
        go_wp2
        go_ret
        exact ⟨ret_bool HD.out.symm, rfl⟩
      · rw [hdec] at hab
        have HD := Lib.hid hdec
        clear hdec
        go_wp2
        go_ret
        exact ⟨ret_bool HD.out.symm, rfl⟩
    | succ d' =>
      have hdep := depF_of (d' + 1) d _ hd' hE
      obtain ⟨g, s, id, inner, rfl, hB, hi⟩ := hE
      have hdep2 := depF_of d' d _ (by omega) hi
      have c2 : wr.cell? ⟨g, 2, none⟩ = some inner := by rw [hB.cell]; rfl
      obtain ⟨t, u, rfl⟩ := hi.some
      have HI := Lib.hid hi
      have HDP := Lib.hid (And.intro hdep hdep2)
      clear hB hi hdep hdep2 hab
      unfold faultV at *
      have hg := htyg g
      go_wp2
      go_roundw
      case rel => exact ⟨trivial, d', by omega, HI.out⟩
      case measure => rw [HDP.out.1]; exact (show depF wr d (.iface t u) < d' + 1 by rw [HDP.out.2]; omega)

set_option maxHeartbeats 1000000 in
theorem isD_any (a b d : Nat) (v : Value) (w : World) (h : ErrD w a d v) :
    Calls Tryz.prog 34 #[v, .iface 68 (.int .i64 b)] w fun e w' => e = .returned (.bool (decide (a = b))) ∧ w = w' := by
  have h8 := @run_callFunc_extern Tryz.prog 64 _ Extern.ReflectliteType.typeOf Tryz.func64 (by kernel_rfl) (by kernel_rfl) (by kernel_rfl) (by kernel_rfl)
  have h32 := @run_callFunc_extern Tryz.prog 292 _ compE Tryz.func292 (by kernel_rfl) (by kernel_rfl) (by kernel_rfl) (by kernel_rfl)
  have tT := isTypeOf
  have cT := isComparable
  have mR := isMethodComparable
  have HL := Lib.hid (is_loop a b d v w h)
  obtain ⟨t, u, rfl⟩ := h.some
  clear h
  go_enter Tryz.func34, Tryz.ntmps34
  go_wp2_with (go_at_call 65; (with_reducible refine HL.out.mono ?_); rintro e w1 ⟨rfl, rfl⟩)
  go_ret
  exact ⟨rfl, rfl⟩
theorem ErrY.is {w : World} {v : Value} {k : Nat} (h : ErrY w v k) (hk : k ≤ 15) : IsErr w v k := by
  rcases h with h | ⟨h0, d, hd⟩
  · exact .inl h
  · exact .inr ⟨h0, hk, hd.some, fun b _ => isD_any k b d v w hd⟩

set_option maxHeartbeats 2000000 in
theorem isX_true (v : Value) (k : Nat) (s : ByteArray) (id : Int) (w : World) (hT : ErrT w) (hv : ErrX w v k s id) (hk : k ≤ 15) :
    Calls Tryz.prog 8 #[v, .int .i64 k, .string s, .int .i64 id] w (Ret w (.bool true)) := by
  have HC := Lib.hid (fun w => code_any v k w)
  have HI := Lib.hid (hv.y.is hk)
  rcases hv with ⟨h0, rfl⟩ | ⟨h0, g, d, inner, rfl, hB, _⟩
  · subst h0
    go_enter Tryz.func8, Tryz.ntmps8
    go_wp2_with (go_at_call 14; refine (HC.out _ HI.out).mono ?_; rintro e w1 ⟨rfl, rfl⟩)
    go_ret
    exact ⟨rfl, bel⟩
  · have hk0 : ((k : Int) == 0) = false := by rw [beq_eq_false_iff_ne]; omega
    have gl := hB.lt
    have c0 := hB.cell 0
    have c1 := hB.cell 1
    simp at c0 c1
    have HB := Lib.hid hB
    have HT := Lib.hid hT
    clear hB hT h0
    unfold faultV at *
    go_enter Tryz.func8, Tryz.ntmps8
    go_wp2_with (first | (go_at_call 14; refine (HC.out _ HI.out).mono ?_; rintro e w1 ⟨rfl, rfl⟩) | (go_at_call 30; refine (as_hit2 _ _ (.pointer none) _ (HT.out.tr bel) (by simp) (by simp)).mono ?_; rintro e w1 ⟨rfl, hcp, hco, hb1⟩; have d0 := (hco g 0 (by simp; omega) (by omega)).trans (World.cell?_alloc_lt _ _ _ gl); rw [c0] at d0; have d1 := (hco g 1 (by simp; omega) (by omega)).trans (World.cell?_alloc_lt _ _ _ gl); rw [c1] at d1; clear hco))
    go_ret
    exact ⟨rfl, Below.trans bel hb1⟩
end Go.Proofs.YtkfbkfcmdfpfjaaGreatDoor
