/-
  Rows for the walk of OpclassUnions: keys and objects taken, cut and put together; a boxes class at a key.
-/
import Derived.Test.YtkfbkfcmdfpfjaaGreatDoorQCovA
import Derived.Test.YtkfbkfcmdfpfjaaGreatDoorQErrIs
import Derived.Test.YtkfbkfcmdfpfjaaGreatDoorQEncD
import Derived.Test.YtkfbkfcmdfpfjaaGreatDoorQEncK
import Derived.Test.YtkfbkfcmdfpfjaaGreatDoorQPlainCov
import Derived.Test.YtkfbkfcmdfpfjaaGreatDoorQEncG
import Derived.Test.YtkfbkfcmdfpfjaaGreatDoorQEncJ
set_option linter.unusedSimpArgs false
set_option linter.unusedVariables false
namespace Go.Proofs.YtkfbkfcmdfpfjaaGreatDoor
open Go.RowKit Pg
/-- pergolaalike.Round: a number turned into a place -/
def roundS (k : Int) (n : Nat) : Nat := (k % (n : Int)).toNat
theorem roundS_lt {k : Int} {n : Nat} (hn : 0 < n) : roundS k n < n := by
  unfold roundS
  have := Int.emod_lt_of_pos k (show (0 : Int) < n by omega)
  have := Int.emod_nonneg k (show (n : Int) ≠ 0 by omega)
  omega
theorem roundS_tmod (k : Int) {n : Nat} (hn : 0 < n) : ((roundS k n : Nat) : Int) = if k.tmod n < 0 then k.tmod n + n else k.tmod n := by
  unfold roundS
  have h1 := Int.emod_nonneg k (show (n : Int) ≠ 0 by omega)
  rw [Int.toNat_of_nonneg h1]
  have h2 := Int.emod_lt_of_pos k (show (0 : Int) < n by omega)
  rcases Int.lt_or_le k 0 with hk | hk
  · have e : k.tmod n = -((-k) % n) := by rw [← Int.tmod_eq_emod_of_nonneg (by omega : 0 ≤ -k), Int.neg_tmod, Int.neg_neg]
    have e2 := Int.emod_nonneg (-k) (show (n : Int) ≠ 0 by omega)
    have e3 := Int.emod_lt_of_pos (-k) (show (0 : Int) < n by omega)
    have d1 := Int.emod_add_mul_ediv k n
    have d2 := Int.emod_add_mul_ediv (-k) n
    have key : (k % n + (-k) % n) % n = 0 := by
      rw [← Int.add_emod, Int.add_right_neg, Int.zero_emod]
    rcases Decidable.em ((-k) % (n : Int) = 0) with z | z
    · rw [e, z]
      simp
      rw [z, Int.add_zero, Int.emod_emod_of_dvd k (Int.dvd_refl _)] at key
      exact key
    · rw [if_pos (by omega), e]
      have hs : k % n + (-k) % n = n := by
        rcases Int.lt_or_le (k % n + (-k) % n) n with h | h
        · rw [Int.emod_eq_of_lt (by omega) h] at key
          omega
        · have : (k % n + (-k) % n - n) % n = 0 := by rw [Int.sub_emod_right]; exact key
          rw [Int.emod_eq_of_lt (by omega) (by omega)] at this
          omega
      omega
  · rw [Int.tmod_eq_emod_of_nonneg hk, if_neg (by omega)]

set_option maxHeartbeats 1000000 in
theorem round_any (k : Int) (n : Nat) (hn : 0 < n) (hn2 : n ≤ 1000000) (w : World) : Calls Tryz.prog 36 #[.int .i64 k, .int .i64 n] w (Ret w (.int .i64 (roundS k n : Nat))) := by
  have HR := Lib.hid (roundS_tmod k hn)
  have h1 := roundS_lt (k := k) hn
  obtain ⟨m, hm⟩ : ∃ m, k.tmod n = m := ⟨_, rfl⟩
  rw [hm] at HR
  generalize roundS k n = r at *
  have hn0 : ¬ (n : Int) = 0 := by omega
  have hlo : -(n : Int) ≤ m := by
    rcases Decidable.em (m < 0) with h | h
    · have := HR.out
      rw [if_pos h] at this
      omega
    · omega
  have hhi : m < (n : Int) := by
    rcases Decidable.em (m < 0) with h | h
    · omega
    · have := HR.out
      rw [if_neg h] at this
      omega
  have hw : IntKind.i64.wrap m = m := IntWalk.i64_in m ⟨by omega, by omega⟩
  by_cases hneg : m < 0
  · have hr : (r : Int) = m + n := by rw [HR.out, if_pos hneg]
    go_enter Tryz.func36, Tryz.ntmps36
    go_wp2
    go_ret
    exact ⟨by simp [hw, hm, hr], bel⟩
  · have hr : (r : Int) = m := by rw [HR.out, if_neg hneg]
    go_enter Tryz.func36, Tryz.ntmps36
    go_wp2
    go_ret
    exact ⟨by simp [hw, hm, hr], bel⟩

theorem methodMakeU (v : Value) (w : World) : (Go.method 467 183 v "Make").run Tryz.prog w = .ok (259, v) w := by kernel_rfl
theorem methodUnionU (v : Value) (w : World) : (Go.method 467 183 v "Union").run Tryz.prog w = .ok (262, v) w := by kernel_rfl
theorem methodConsU (v : Value) (w : World) : (Go.method 467 183 v "Consistent").run Tryz.prog w = .ok (257, v) w := by kernel_rfl
theorem methodDistU (v : Value) (w : World) : (Go.method 467 183 v "Dist").run Tryz.prog w = .ok (258, v) w := by kernel_rfl
theorem nilAheadUC (v : Value) (w : World) : (nilAhead 467 183 (.agg #[v]) "Consistent").run Tryz.prog w = .ok (some false) w := by kernel_rfl
theorem nilAheadUD (v : Value) (w : World) : (nilAhead 467 183 (.agg #[v]) "Dist").run Tryz.prog w = .ok (some false) w := by kernel_rfl
theorem enterCons (args : Array Value) (w : World) : (callFunc 257 args).run Tryz.prog w = .ok (.enter 257 args) w := by kernel_rfl
theorem enterDist (args : Array Value) (w : World) : (callFunc 258 args).run Tryz.prog w = .ok (.enter 258 args) w := by kernel_rfl
theorem farS_okU (k : List Nat) (p : Pt) : FrOk (farS k p) := by
  unfold farS
  split
  · exact ⟨by decide, by decide⟩
  · exact bxF_okC _ _
theorem consAt_box (cv : Value) (Y : List Nat) (h256 : ∀ x ∈ Y, x < 256) (hY : Y.length ≤ 1000000) : ConsAt (.agg #[cv]) 257 Y (consS Y) where
  enter := enterCons
  calls := fun W A c q A' m c' hK hc hA hr hm => Cons_any cv W.heap.size Y.length c m c' q.kind q.box A A' Y q.ring W hK h256 hr (Nat.le_refl _) hY hc hm
theorem distAt_box (cv : Value) (Y : List Nat) (h256 : ∀ x ∈ Y, x < 256) (hY : Y.length ≤ 1000000) : DistAt (.agg #[cv]) 258 Y (farS Y) where
  enter := enterDist
  ok := farS_okU Y
  calls := fun W B A c x y hK hB hc hA => kDist_any cv B Y.length c x y A Y W hK h256 hB hY hc

/-- an own row of objects; their corners lie below B -/
def TakAt (w : World) (base B : Nat) (v : Value) (L : List Ob) : Prop :=
  ∃ cs : List Value, w.ownsRow base 49 2 v L.length cs ∧ ∀ (k : Nat) (o : Ob), L[k]? = some o → ∃ A' m c, cs[k * 2]? = some (.int .i64 o.kind) ∧ cs[k * 2 + 1]? = some (.slice A' m c) ∧ PtsAt w B A' m o.pts
theorem TakAt.nil (w : World) (base B : Nat) : TakAt w base B (.slice none 0 0) [] := ⟨[], World.ownsRow_nil _ _ _ _, fun j u h => by simp at h⟩
theorem TakAt.below {w w' : World} {base B : Nat} {v : Value} {L : List Ob} (h : TakAt w base B v L) (hb : Below w.heap.size w w') (hB : B ≤ w.heap.size) : TakAt w' base B v L := by
  obtain ⟨cs, h1, h2⟩ := h
  refine ⟨cs, own_belowK h1 hb, fun k o ho => ?_⟩
  obtain ⟨A', m, c, q1, q2, q3⟩ := h2 k o ho
  exact ⟨A', m, c, q1, q2, q3.tr hb hB⟩
end Go.Proofs.YtkfbkfcmdfpfjaaGreatDoor
