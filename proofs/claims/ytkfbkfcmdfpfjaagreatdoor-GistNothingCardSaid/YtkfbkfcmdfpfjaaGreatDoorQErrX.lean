/-
  Errors of any depth: Faults around Faults around a number; errors.Is, Code and Is at them; fault.New.
-/
import Derived.Test.YtkfbkfcmdfpfjaaGreatDoorQErrIs
import Derived.Test.YtkfbkfcmdfpfjaaGreatDoorQEncG
set_option linter.unusedSimpArgs false
set_option linter.unusedVariables false
namespace Go.Proofs.YtkfbkfcmdfpfjaaGreatDoor
open Go.RowKit Pg

/-- d Faults around the number k -/
def ErrD (w : World) (k : Nat) : Nat → Value → Prop
  | 0, v => v = .iface 68 (.int .i64 k)
  | d + 1, v => ∃ (g : Nat) (s : ByteArray) (id : Int) (inner : Value), v = faultV g ∧ Blk w g 78 #[.string s, .int .i64 id, inner] ∧ ErrD w k d inner
/-- how deep, to be sure that the loop ends -/
def depF (w : World) : Nat → Value → Nat
  | 0, _ => 0
  | n + 1, .iface _ (.pointer (some p)) => match w.cell? ⟨p.block, 2, none⟩ with
    | some x => depF w n x + 1
    | none => 0
  | _ + 1, _ => 0
theorem depF_of {w : World} {k : Nat} : ∀ (d n : Nat) (v : Value), d ≤ n → ErrD w k d v → depF w n v = d := by
  intro d
  induction d with
  | zero =>
    intro n v _ h
    obtain rfl : v = _ := h
    cases n <;> rfl
  | succ d ih =>
    intro n v hn h
    obtain ⟨g, s, id, inner, rfl, hB, hi⟩ := h
    obtain ⟨m, rfl⟩ : ∃ m, n = m + 1 := ⟨n - 1, by omega⟩
    have c2 : w.cell? ⟨g, 2, none⟩ = some inner := by rw [hB.cell]; rfl
    unfold faultV depF
    simp only [c2]
    rw [ih m inner (by omega) hi]
theorem ErrD.keep {w w' : World} {k : Nat} (hk : ∀ {g : Nat} {cs : Array Value}, Blk w g 78 cs → Blk w' g 78 cs) : ∀ (d : Nat) (v : Value), ErrD w k d v → ErrD w' k d v := by
  intro d
  induction d with
  | zero => intro v h; exact h
  | succ d ih =>
    intro v h
    obtain ⟨g, s, id, inner, hv, hB, hi⟩ := h
    exact ⟨g, s, id, inner, hv, hk hB, ih inner hi⟩
theorem ErrD.tr {w w' : World} {k d : Nat} {v : Value} (h : ErrD w k d v) (hb : Below w.heap.size w w') : ErrD w' k d v := h.keep (fun hB => hB.tr hb) d v
/-- v stands for k: nothing, or Faults around it, the outermost with these words -/
def ErrX (w : World) (v : Value) (k : Nat) (s : ByteArray) (id : Int) : Prop :=
  (k = 0 ∧ v = .nilIface) ∨ (k ≠ 0 ∧ ∃ (g d : Nat) (inner : Value), v = faultV g ∧ Blk w g 78 #[.string s, .int .i64 id, inner] ∧ ErrD w k d inner)
/-- the same without its words; it may be bare -/
def ErrY (w : World) (v : Value) (k : Nat) : Prop := (k = 0 ∧ v = .nilIface) ∨ (k ≠ 0 ∧ ∃ d, ErrD w k d v)
theorem ErrX.keep {w w' : World} {v : Value} {k : Nat} {s : ByteArray} {id : Int} (hk : ∀ {g : Nat} {cs : Array Value}, Blk w g 78 cs → Blk w' g 78 cs) (h : ErrX w v k s id) : ErrX w' v k s id := by
  rcases h with h | ⟨h0, g, d, inner, hv, hB, hi⟩
  · exact .inl h
  · exact .inr ⟨h0, g, d, inner, hv, hk hB, hi.keep hk d inner⟩
theorem ErrX.tr {w w' : World} {v : Value} {k : Nat} {s : ByteArray} {id : Int} (h : ErrX w v k s id) (hb : Below w.heap.size w w') : ErrX w' v k s id := h.keep (fun hB => hB.tr hb)
theorem ErrY.keep {w w' : World} {v : Value} {k : Nat} (hk : ∀ {g : Nat} {cs : Array Value}, Blk w g 78 cs → Blk w' g 78 cs) (h : ErrY w v k) : ErrY w' v k := by
  rcases h with h | ⟨h0, d, hi⟩
  · exact .inl h
  · exact .inr ⟨h0, d, hi.keep hk d v⟩
theorem ErrY.tr {w w' : World} {v : Value} {k : Nat} (h : ErrY w v k) (hb : Below w.heap.size w w') : ErrY w' v k := h.keep (fun hB => hB.tr hb)
theorem ErrX.y {w : World} {v : Value} {k : Nat} {s : ByteArray} {id : Int} (h : ErrX w v k s id) : ErrY w v k := by
  rcases h with h | ⟨h0, g, d, inner, hv, hB, hi⟩
  · exact .inl h
  · exact .inr ⟨h0, d + 1, g, s, id, inner, hv, hB, hi⟩
theorem ErrY.zero {w : World} {v : Value} (h : ErrY w v 0) : v = .nilIface := by
  rcases h with ⟨_, h⟩ | ⟨h, _⟩
  · exact h
  · exact absurd rfl h
theorem ErrX.zero {w : World} {v : Value} {s : ByteArray} {id : Int} (h : ErrX w v 0 s id) : v = .nilIface := h.y.zero
theorem ErrD.some {w : World} {k : Nat} : ∀ (d : Nat) (v : Value), ErrD w k d v → ∃ t u, v = .iface t u
  | 0, v, h => ⟨_, _, h⟩
  | d + 1, v, ⟨g, s, id, inner, hv, _, _⟩ => ⟨_, _, hv⟩
theorem ErrY.succ {w : World} {v : Value} {k : Nat} (h : ErrY w v k) (hk : k ≠ 0) : ∃ t u, v = .iface t u := by
  rcases h with ⟨h, _⟩ | ⟨_, d, h⟩
  · exact absurd h hk
  · exact h.some
theorem ErrX.succ {w : World} {v : Value} {k : Nat} {s : ByteArray} {id : Int} (h : ErrX w v k s id) (hk : k ≠ 0) : ∃ t u, v = .iface t u := h.y.succ hk
theorem errD_bare {w : World} {v : Value} {k : Nat} (h0 : k ≠ 0) (h : v = errV k) : ErrD w k 0 v := by rw [h, errV_ne h0]; rfl
theorem ErrC.y {w : World} {v : Value} {k : Nat} (h : ErrC w v k) : ErrY w v k := by
  by_cases h0 : k = 0
  · subst h0
    exact .inl ⟨rfl, h.zero⟩
  · rcases h with h | ⟨h, _⟩ | ⟨_, g, s, id, hv, hB⟩
    · exact .inr ⟨h0, 0, errD_bare h0 h⟩
    · exact absurd h h0
    · exact .inr ⟨h0, 1, g, s, id, _, hv, hB, errD_bare h0 rfl⟩
theorem ErrC.d {w : World} {v : Value} {k : Nat} (h : ErrC w v k) (h0 : k ≠ 0) : ∃ d, ErrD w k d v := by
  rcases h.y with ⟨h, _⟩ | ⟨_, h⟩
  · exact absurd h h0
  · exact h
theorem ErrW.x {w : World} {v : Value} {k : Nat} {s : ByteArray} {id : Int} (h : ErrW w v k s id) : ErrX w v k s id := by
  rcases h with h | ⟨h0, g, inner, hv, hB, hi⟩
  · exact .inl h
  · obtain ⟨d, hd⟩ := hi.d h0
    exact .inr ⟨h0, g, d, inner, hv, hB, hd⟩
theorem errY_bare {w : World} {k : Nat} : ErrY w (errV k) k := by
  by_cases h0 : k = 0
  · subst h0; exact .inl ⟨rfl, rfl⟩
  · exact .inr ⟨h0, 0, errD_bare h0 rfl⟩

theorem fnewX_any (s : ByteArray) (id : Int) (v : Value) (k : Nat) (w : World) (hv : ErrY w v k) :
    Calls Tryz.prog 29 #[.string s, .int .i64 id, v] w fun e w' => ∃ v', e = .returned v' ∧ ErrX w' v' k s id ∧ Below w.heap.size w w' := by
  by_cases hk : k = 0
  · subst hk
    have := hv.zero
    subst this
    go_enter Tryz.func29, Tryz.ntmps29
    go_wp2
    go_ret
    exact ⟨_, rfl, .inl ⟨rfl, rfl⟩, bel⟩
  · obtain ⟨t, u, rfl⟩ := hv.succ hk
    have HV := Lib.hid hv
    clear hv
    go_enter Tryz.func29, Tryz.ntmps29
    go_wp2
    go_ret
    refine ⟨_, rfl, ?_, bel⟩
    rcases HV.out with ⟨h, _⟩ | ⟨_, d, hd⟩
    · exact absurd h hk
    · exact .inr ⟨hk, _, d, _, rfl, Blk.new rfl rfl, hd.keep (fun hB => hB.alloc _) d _⟩

set_option maxHeartbeats 2000000 in
/-- errors.is, at d Faults around a number -/
theorem is_loop (a b d : Nat) (v : Value) (w : World) (h : ErrD w a d v) :
    Calls Tryz.prog 65 #[v, .iface 68 (.int .i64 b), .bool true] w fun e w' => e = .returned (.bool (decide (a = b))) ∧ w = w' := by
  have nE := noIsE
  have uE := noUnwrapE
  have vE := noUnwrapsE
  have nF := noIsF
  have uF := hasUnwrapF
  have mU := methodUnwrap
  have heq := fun w => Lib.run_eql_iface_int (P := Tryz.prog) w (k := .i64) (a : Int) (b : Int) Tryz.underlying29 errnoComp Tryz.underlying68
  have htyg := fun g w => run_eql_iface_types (P := Tryz.prog) 74 68 (.pointer (some ⟨g, 0, none⟩)) (.int .i64 b) Tryz.underlying29 (by decide) w
  have H := Lib.hid h
  clear h
  have hab : ((a : Int) == (b : Int)) = decide (a = b) := by
    by_cases e : a = b
    · subst e; simp
    · rw [decide_eq_false e, beq_eq_false_iff_ne]; omega
  go_enter Tryz.func65, Tryz.ntmps65
  go_wp2_with fail
  go_loopw [0] (fun v' wr => wr = w ∧ ∃ d', d' ≤ d ∧ ErrD w a d' v') (fun v' _ => depF w d v')
  case atStart => exact ⟨rfl, d, Nat.le_refl _, H.out⟩
  case round =>
    obtain ⟨rfl, d', hd', hE⟩ := hrel
    cases d' with
    | zero =>
      obtain rfl : _ = _ := hE
      cases hdec : decide (a = b)
      · rw [hdec] at hab
        have HD := Lib.hid hdec
        clear hdec
        go_wp2
        go_ret
        exact ⟨ret_bool HD.out.symm, rfl⟩
      · rw [hdec] at hab
        have HD := Lib.hid hdec
        clear hdec
        go_wp2
        go_ret
        exact ⟨ret_bool HD.out.symm, rfl⟩
    | succ d' =>
      have hdep := depF_of (d' + 1) d _ hd' hE
      obtain ⟨g, s, id, inner, rfl, hB, hi⟩ := hE
      have hdep2 := depF_of d' d _ (by omega) hi
      have c2 : wr.cell? ⟨g, 2, none⟩ = some inner := by rw [hB.cell]; rfl
      obtain ⟨t, u, rfl⟩ := hi.some
      have HI := Lib.hid hi
      have HDP := Lib.hid (And.intro hdep hdep2)
      clear hB hi hdep hdep2 hab
      unfold faultV at *
      have hg := htyg g
      go_wp2
      go_roundw
      case rel => exact ⟨trivial, d', by omega, HI.out⟩
      case measure => rw [HDP.out.1]; exact (show depF wr d (.iface t u) < d' + 1 by rw [HDP.out.2]; omega)

set_option maxHeartbeats 1000000 in
theorem isD_any (a b d : Nat) (v : Value) (w : World) (h : ErrD w a d v) :
    Calls Tryz.prog 34 #[v, .iface 68 (.int .i64 b)] w fun e w' => e = .returned (.bool (decide (a = b))) ∧ w = w' := by
  have h8 := @run_callFunc_extern Tryz.prog 64 _ Extern.ReflectliteType.typeOf Tryz.func64 (by kernel_rfl) (by kernel_rfl) (by kernel_rfl) (by kernel_rfl)
  have h32 := @run_callFunc_extern Tryz.prog 292 _ compE Tryz.func292 (by kernel_rfl) (by kernel_rfl) (by kernel_rfl) (by kernel_rfl)
  have tT := isTypeOf
  have cT := isComparable
  have mR := isMethodComparable
  have HL := Lib.hid (is_loop a b d v w h)
  obtain ⟨t, u, rfl⟩ := h.some
  clear h
  go_enter Tryz.func34, Tryz.ntmps34
  go_wp2_with (go_at_call 65; (with_reducible refine HL.out.mono ?_); rintro e w1 ⟨rfl, rfl⟩)
  go_ret
  exact ⟨rfl, rfl⟩
theorem ErrY.is {w : World} {v : Value} {k : Nat} (h : ErrY w v k) (hk : k ≤ 15) : IsErr w v k := by
  rcases h with h | ⟨h0, d, hd⟩
  · exact .inl h
  · exact .inr ⟨h0, hk, hd.some, fun b _ => isD_any k b d v w hd⟩

set_option maxHeartbeats 2000000 in
/-- Is, at an error that is wrapped in just these words -/
theorem isX_true (v : Value) (k : Nat) (s : ByteArray) (id : Int) (w : World) (hT : ErrT w) (hv : ErrX w v k s id) (hk : k ≤ 15) :
    Calls Tryz.prog 8 #[v, .int .i64 k, .string s, .int .i64 id] w (Ret w (.bool true)) := by
  have HC := Lib.hid (fun w => code_any v k w)
  have HI := Lib.hid (hv.y.is hk)
  rcases hv with ⟨h0, rfl⟩ | ⟨h0, g, d, inner, rfl, hB, _⟩
  · subst h0
    go_enter Tryz.func8, Tryz.ntmps8
    go_wp2_with (go_at_call 14; refine (HC.out _ HI.out).mono ?_; rintro e w1 ⟨rfl, rfl⟩)
    go_ret
    exact ⟨rfl, bel⟩
  · have hk0 : ((k : Int) == 0) = false := by rw [beq_eq_false_iff_ne]; omega
    have gl := hB.lt
    have c0 := hB.cell 0
    have c1 := hB.cell 1
    simp at c0 c1
    have HB := Lib.hid hB
    have HT := Lib.hid hT
    clear hB hT h0
    unfold faultV at *
    go_enter Tryz.func8, Tryz.ntmps8
    go_wp2_with (first | (go_at_call 14; refine (HC.out _ HI.out).mono ?_; rintro e w1 ⟨rfl, rfl⟩) | (go_at_call 30; refine (as_hit2 _ _ (.pointer none) _ (HT.out.tr bel) (by simp) (by simp)).mono ?_; rintro e w1 ⟨rfl, hcp, hco, hb1⟩; have d0 := (hco g 0 (by simp; omega) (by omega)).trans (World.cell?_alloc_lt _ _ _ gl); rw [c0] at d0; have d1 := (hco g 1 (by simp; omega) (by omega)).trans (World.cell?_alloc_lt _ _ _ gl); rw [c1] at d1; clear hco))
    go_ret
    exact ⟨rfl, Below.trans bel hb1⟩
end Go.Proofs.YtkfbkfcmdfpfjaaGreatDoor
