/-
  Errors of any depth: Faults around Faults around a number; errors.Is, Code and Is at them; fault.New.
-/
import Derived.Test.YtahiaekoaokgnaaGreatErrIs
import Derived.Test.YtahiaekoaokgnaaGreatEncG
set_option linter.unusedSimpArgs false
set_option linter.unusedVariables false
namespace Go.Proofs.YtahiaekoaokgnaaGreat
open Go.RowKit Pg

/-- d Faults around the number k -/
def ErrD (w : World) (k : Nat) : Nat → Value → Prop
  | 0, v => v = .iface 69 (.int .i64 k)
  | d + 1, v => ∃ (g : Nat) (s : ByteArray) (id : Int) (inner : Value), v = faultV g ∧ Blk w g 110 #[.string s, .int .i64 id, inner] ∧ ErrD w k d inner
/-- how deep, to be sure that the loop ends -/
def depF (w : World) : Nat → Value → Nat
  | 0, _ => 0
  | n + 1, .iface _ (.pointer (some p)) => match w.cell? ⟨p.block, 2, none⟩ with
    | some x => depF w n x + 1
    | none => 0
  | _ + 1, _ => 0
theorem depF_of {w : World} {k : Nat} : ∀ (d n : Nat) (v : Value), d ≤ n → ErrD w k d v → depF w n v = d := by
  intro d
  induction d with
  | zero =>
    intro n v _ h
    obtain rfl : v = _ := h
    cases n <;> rfl
  | succ d ih =>
    intro n v hn h
    obtain ⟨g, s, id, inner, rfl, hB, hi⟩ := h
    obtain ⟨m, rfl⟩ : ∃ m, n = m + 1 := ⟨n - 1, by omega⟩
    have c2 : w.cell? ⟨g, 2, none⟩ = some inner := by rw [hB.cell]; rfl
    unfold faultV depF
    simp only [c2]
    rw [ih m inner (by omega) hi]
theorem ErrD.keep {w w' : World} {k : Nat} (hk : ∀ {g : Nat} {cs : Array Value}, Blk w g 110 cs → Blk w' g 110 cs) : ∀ (d : Nat) (v : Value), ErrD w k d v → ErrD w' k d v := by
  intro d
  induction d with
  | zero => intro v h; exact h
  | succ d ih =>
    intro v h
    obtain ⟨g, s, id, inner, hv, hB, hi⟩ := h
    exact ⟨g, s, id, inner, hv, hk hB, ih inner hi⟩
theorem ErrD.tr {w w' : World} {k d : Nat} {v : Value} (h : ErrD w k d v) (hb : Below w.heap.size w w') : ErrD w' k d v := h.keep (fun hB => hB.tr hb) d v
/-- v stands for k: nothing, or Faults around it, the outermost with these words -/
def ErrX (w : World) (v : Value) (k : Nat) (s : ByteArray) (id : Int) : Prop :=
  (k = 0 ∧ v = .nilIface) ∨ (k ≠ 0 ∧ ∃ (g d : Nat) (inner : Value), v = faultV g ∧ Blk w g 110 #[.string s, .int .i64 id, inner] ∧ ErrD w k d inner)
/-- the same without its words; it may be bare -/
def ErrY (w : World) (v : Value) (k : Nat) : Prop := (k = 0 ∧ v = .nilIface) ∨ (k ≠ 0 ∧ ∃ d, ErrD w k d v)
theorem ErrX.keep {w w' : World} {v : Value} {k : Nat} {s : ByteArray} {id : Int} (hk : ∀ {g : Nat} {cs : Array Value}, Blk w g 110 cs → Blk w' g 110 cs) (h : ErrX w v k s id) : ErrX w' v k s id := by
  rcases h with h | ⟨h0, g, d, inner, hv, hB, hi⟩
  · exact .inl h
  · exact .inr ⟨h0, g, d, inner, hv, hk hB, hi.keep hk d inner⟩
theorem ErrX.tr {w w' : World} {v : Value} {k : Nat} {s : ByteArray} {id : Int} (h : ErrX w v k s id) (hb : Below w.heap.size w w') : ErrX w' v k s id := h.keep (fun hB => hB.tr hb)
theorem ErrY.keep {w w' : World} {v : Value} {k : Nat} (hk : ∀ {g : Nat} {cs : Array Value}, Blk w g 110 cs → Blk w' g 110 cs) (h : ErrY w v k) : ErrY w' v k := by
  rcases h with h | ⟨h0, d, hi⟩
  · exact .inl h
  · exact .inr ⟨h0, d, hi.keep hk d v⟩
theorem ErrY.tr {w w' : World} {v : Value} {k : Nat} (h : ErrY w v k) (hb : Below w.heap.size w w') : ErrY w' v k := h.keep (fun hB => hB.tr hb)
theorem ErrX.y {w : World} {v : Value} {k : Nat} {s : ByteArray} {id : Int} (h : ErrX w v k s id) : ErrY w v k := by
  rcases h with h | ⟨h0, g, d, inner, hv, hB, hi⟩
  · exact .inl h
  · exact .inr ⟨h0, d + 1, g, s, id, inner, hv, hB, hi⟩
theorem ErrY.zero {w : World} {v : Value} (h : ErrY w v 0) : v = .nilIface := by
  rcases h with ⟨_, h⟩ | ⟨h, _⟩
  · exact h
  · exact absurd rfl h
theorem ErrX.zero {w : World} {v : Value} {s : ByteArray} {id : Int} (h : ErrX w v 0 s id) : v = .nilIface := h.y.zero
theorem ErrD.some {w : World} {k : Nat} : ∀ (d : Nat) (v : Value), ErrD w k d v → ∃ t u, v = .iface t u
  | 0, v, h => ⟨_, _, h⟩
  | d + 1, v, ⟨g, s, id, inner, hv, _, _⟩ => ⟨_, _, hv⟩
theorem ErrY.succ {w : World} {v : Value} {k : Nat} (h : ErrY w v k) (hk : k ≠ 0) : ∃ t u, v = .iface t u := by
  rcases h with ⟨h, _⟩ | ⟨_, d, h⟩
  · exact absurd h hk
  · exact h.some
theorem ErrX.succ {w : World} {v : Value} {k : Nat} {s : ByteArray} {id : Int} (h : ErrX w v k s id) (hk : k ≠ 0) : ∃ t u, v = .iface t u := h.y.succ hk
theorem errD_bare {w : World} {v : Value} {k : Nat} (h0 : k ≠ 0) (h : v = errV k) : ErrD w k 0 v := by rw [h, errV_ne h0]; rfl
theorem ErrC.y {w : World} {v : Value} {k : Nat} (h : ErrC w v k) : ErrY w v k := by
  by_cases h0 : k = 0
  · subst h0
    exact .inl ⟨rfl, h.zero⟩
  · rcases h with h | ⟨h, _⟩ | ⟨_, g, s, id, hv, hB⟩
    · exact .inr ⟨h0, 0, errD_bare h0 h⟩
    · exact absurd h h0
    · exact .inr ⟨h0, 1, g, s, id, _, hv, hB, errD_bare h0 rfl⟩
theorem ErrC.d {w : World} {v : Value} {k : Nat} (h : ErrC w v k) (h0 : k ≠ 0) : ∃ d, ErrD w k d v := by
  rcases h.y with ⟨h, _⟩ | ⟨_, h⟩
  · exact absurd h h0
  · exact h
theorem ErrW.x {w : World} {v : Value} {k : Nat} {s : ByteArray} {id : Int} (h : ErrW w v k s id) : ErrX w v k s id := by
  rcases h with h | ⟨h0, g, inner, hv, hB, hi⟩
  · exact .inl h
  · obtain ⟨d, hd⟩ := hi.d h0
    exact .inr ⟨h0, g, d, inner, hv, hB, hd⟩
theorem errY_bare {w : World} {k : Nat} : ErrY w (errV k) k := by
  by_cases h0 : k = 0
  · subst h0; exact .inl ⟨rfl, rfl⟩
  · exact .inr ⟨h0, 0, errD_bare h0 rfl⟩

theorem fnewX_any (s : ByteArray) (id : Int) (v : Value) (k : Nat) (w : World) (hv : ErrY w v k) :
    Calls Tryz.prog 37 #[.string s, .int .i64 id, v] w fun e w' => ∃ v', e = .returned v' ∧ ErrX w' v' k s id ∧ Below w.heap.size w w' := by
  by_cases hk : k = 0
  · subst hk
    have := hv.zero
    subst this
    go_enter Tryz.func37, Tryz.ntmps37
    go_wp2
    go_ret
    exact ⟨_, rfl, .inl ⟨rfl, rfl⟩, bel⟩
  · obtain ⟨t, u, rfl⟩ := hv.succ hk
    have HV := Lib.hid hv
    clear hv
    go_enter Tryz.func37, Tryz.ntmps37
    go_wp2
    go_ret
    refine ⟨_, rfl, ?_, bel⟩
    rcases HV.out with ⟨h, _⟩ | ⟨_, d, hd⟩
    · exact absurd h hk
    · exact .inr ⟨hk, _, d, _, rfl, Blk.new rfl rfl, hd.keep (fun hB => hB.alloc _) d _⟩

end Go.Proofs.YtahiaekoaokgnaaGreat
