/-
  Errors of any depth: Faults around Faults around a number;errors.Is,Code and Is at them;fault.New.
-/
import Derived.Test.YtildgbhliaonnaaGreatQRel1
import Derived.LaidEql
import Derived.Stop.Asserts
import Derived.Lib.IfaceEq
import Derived.RowKitTokens
import Derived.Test.YtildgbhliaonnaaGreatQRef3
import Derived.Test.YtildgbhliaonnaaGreatQEncG
set_option linter.unusedVariables false
set_option linter.unusedSimpArgs false
namespace Go.Proofs.YtildgbhliaonnaaGreat
open Go.RowKit Pg
def ErrD (w : World) (k : Nat) : Nat → Value → Prop
 | 0,v => v = .iface 84 (.int .i64 k)
 | d + 1,v => ∃ (g : Nat) (s : ByteArray) (id : Int) (inner : Value),v = faultV g ∧ Blk w g 105 #[.string s,.int .i64 id,inner] ∧ ErrD w k d inner
theorem ErrD.keep {w w' : World} {k : Nat} (hk : ∀ {g : Nat} {cs : Array Value},Blk w g 105 cs → Blk w' g 105 cs) : ∀ (d : Nat) (v : Value),ErrD w k d v → ErrD w' k d v := by
 intro d
 induction d with
 | zero => intro v h;exact h
 | succ d ih =>
   intro v h;obtain ⟨g,s,id,inner,hv,hB,hi⟩ := h;exact ⟨g,s,id,inner,hv,hk hB,ih inner hi⟩
def ErrX (w : World) (v : Value) (k : Nat) (s : ByteArray) (id : Int) : Prop :=
 (k = 0 ∧ v = .nilIface) ∨ (k ≠ 0 ∧ ∃ (g d : Nat) (inner : Value),v = faultV g ∧ Blk w g 105 #[.string s,.int .i64 id,inner] ∧ ErrD w k d inner)
def ErrY (w : World) (v : Value) (k : Nat) : Prop := (k = 0 ∧ v = .nilIface) ∨ (k ≠ 0 ∧ ∃ d,ErrD w k d v)
theorem ErrY.keep {w w' : World} {v : Value} {k : Nat} (hk : ∀ {g : Nat} {cs : Array Value},Blk w g 105 cs → Blk w' g 105 cs) (h : ErrY w v k) : ErrY w' v k := by
 rcases h with h | ⟨h0,d,hi⟩
 · exact .inl h
 · exact .inr ⟨h0,d,hi.keep hk d v⟩
theorem ErrY.tr {w w' : World} {v : Value} {k : Nat} (h : ErrY w v k) (hb : Below w.heap.size w w') : ErrY w' v k := h.keep (fun hB => hB.tr hb)
theorem ErrX.y {w : World} {v : Value} {k : Nat} {s : ByteArray} {id : Int} (h : ErrX w v k s id) : ErrY w v k := by
 rcases h with h | ⟨h0,g,d,inner,hv,hB,hi⟩
 · exact .inl h
 · exact .inr ⟨h0,d + 1,g,s,id,inner,hv,hB,hi⟩
theorem ErrY.zero {w : World} {v : Value} (h : ErrY w v 0) : v = .nilIface := by
 rcases h with ⟨_,h⟩ | ⟨h,_⟩
 · exact h
 · exact absurd rfl h
theorem ErrX.zero {w : World} {v : Value} {s : ByteArray} {id : Int} (h : ErrX w v 0 s id) : v = .nilIface := h.y.zero
theorem ErrD.some {w : World} {k : Nat} : ∀ (d : Nat) (v : Value),ErrD w k d v → ∃ t u,v = .iface t u
 | 0,v,h => ⟨_,_,h⟩
 | d + 1,v,⟨g,s,id,inner,hv,_,_⟩ => ⟨_,_,hv⟩
theorem ErrY.succ {w : World} {v : Value} {k : Nat} (h : ErrY w v k) (hk : k ≠ 0) : ∃ t u,v = .iface t u := by
 rcases h with ⟨h,_⟩ | ⟨_,d,h⟩
 · exact absurd h hk
 · exact h.some
theorem ErrX.succ {w : World} {v : Value} {k : Nat} {s : ByteArray} {id : Int} (h : ErrX w v k s id) (hk : k ≠ 0) : ∃ t u,v = .iface t u := h.y.succ hk
theorem errD_bare {w : World} {v : Value} {k : Nat} (h0 : k ≠ 0) (h : v = errV k) : ErrD w k 0 v := by rw [h,errV_ne h0];rfl
theorem ErrC.y {w : World} {v : Value} {k : Nat} (h : ErrC w v k) : ErrY w v k := by
 by_cases h0 : k = 0
 · subst h0
   exact .inl ⟨rfl,h.zero⟩
 · rcases h with h | ⟨h,_⟩ | ⟨_,g,s,id,hv,hB⟩
   · exact .inr ⟨h0, 0, errD_bare h0 h⟩
   · exact absurd h h0
   · exact .inr ⟨h0, 1, g, s, id, _, hv, hB, errD_bare h0 rfl⟩
theorem ErrC.d {w : World} {v : Value} {k : Nat} (h : ErrC w v k) (h0 : k ≠ 0) : ∃ d,ErrD w k d v := by
 rcases h.y with ⟨h,_⟩ | ⟨_,h⟩
 · exact absurd h h0
 · exact h
theorem ErrW.x {w : World} {v : Value} {k : Nat} {s : ByteArray} {id : Int} (h : ErrW w v k s id) : ErrX w v k s id := by
 rcases h with h | ⟨h0,g,inner,hv,hB,hi⟩
 · exact .inl h
 · obtain ⟨d,hd⟩ := hi.d h0
   exact .inr ⟨h0,g,d,inner,hv,hB,hd⟩
theorem fnewX_any (s : ByteArray) (id : Int) (v : Value) (k : Nat) (w : World) (hv : ErrY w v k) :
 Calls Tryz.prog 26 #[.string s,.int .i64 id,v] w fun e w' => ∃ v',e = .returned v' ∧ ErrX w' v' k s id ∧ Below w.heap.size w w' := by
 by_cases hk : k = 0
 · subst hk
   have := hv.zero;subst this
   go_enter Tryz.func26, Tryz.ntmps26
   go_wp2;go_ret;exact ⟨_,rfl,.inl ⟨rfl,rfl⟩,bel⟩
 · obtain ⟨t,u,rfl⟩ := hv.succ hk
   have HV := Lib.hid hv;clear hv
   go_enter Tryz.func26, Tryz.ntmps26
   go_wp2;go_ret;refine ⟨_,rfl,?_,bel⟩
   rcases HV.out with ⟨h, _⟩ | ⟨_, d, hd⟩
   · exact absurd h hk
   · exact .inr ⟨hk, _, d, _, rfl, Blk.new rfl rfl, hd.keep (fun hB => hB.alloc _) d _⟩
end Go.Proofs.YtildgbhliaonnaaGreat
