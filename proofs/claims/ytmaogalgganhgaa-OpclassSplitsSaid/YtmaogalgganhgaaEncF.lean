/-
  Contracts of the two Unsigned.
-/
import Derived.Test.YtmaogalgganhgaaEncC
set_option linter.unusedSimpArgs false
set_option linter.unusedVariables false
namespace Go.Proofs.Ytmaogalgganhgaa
open Go.RowKit Pg

/-- what is read: the number, how many bytes, whether there is one -/
def decV (n : Nat) (l : List Nat) : Value := match dec l with
  | none => .tuple #[.int .i64 0, .int .i64 0, .bool false]
  | some (x, r) => .tuple #[.int .i64 x, .int .i64 ((n - r.length : Nat) : Int), .bool true]
theorem uv_le {l : List Nat} (hl : ∀ c ∈ l, c < 256) : (uv l 0 0).2 ≤ l.length ∧ (uv l 0 0).1 < 18446744073709551616 := by
  by_cases h : (uv l 0 0).2 = 0
  · refine ⟨by omega, ?_⟩
    have : ∀ (l : List Nat) (i acc : Nat), (uv l i acc).2 = 0 → (uv l i acc).1 = 0 := by
      intro l
      induction l with
      | nil => intro i acc _; rfl
      | cons c r ih =>
        intro i acc h
        simp only [uv] at h ⊢
        split at h
        · rw [if_pos (by assumption)]
        rename_i h1
        rw [if_neg h1]
        split at h
        · rw [if_pos (by assumption)]
        rename_i h2
        rw [if_neg h2]
        split at h
        · rename_i h3
          rw [if_pos h3]
          split at h
          · rw [if_pos (by assumption)]
          · simp at h
        · rename_i h3
          rw [if_neg h3]
          exact ih _ _ h
    rw [this l 0 0 h]
    decide
  · obtain ⟨x, r, e1, e2, e3, _, e5, _⟩ := uv_inv l 0 0 _ _ hl rfl h
    rw [e2, e3]
    refine ⟨?_, by simpa using e5⟩
    conv => rhs; rw [e1]
    rw [List.length_append]
    omega
theorem xor_m1 (x : Nat) (hx : x < 9223372036854775808) : bits .xor .i64 (x : Int) (-1) = -(x : Int) - 1 := by
  have h := Lib.i64_not x hx
  rw [← h]
  simp only [bits]
  rw [BitVec.xor_comm]
theorem xor_z (x : Nat) (hx : x < 9223372036854775808) : bits .xor .i64 (x : Int) ((0 : Nat) : Int) = (x : Int) := by
  show IntKind.i64.wrap ((BitVec.ofInt 64 (x : Int) ^^^ BitVec.ofInt 64 ((0 : Nat) : Int)).toNat : Int) = _
  have h1 : BitVec.ofInt 64 ((0 : Nat) : Int) = 0#64 := by decide
  have h2 : (BitVec.ofInt 64 (x : Int)).toNat = x := by
    rw [BitVec.ofInt_natCast, BitVec.toNat_ofNat]; exact Nat.mod_eq_of_lt (by omega)
  rw [h1, BitVec.xor_zero, h2, IntKind.wrap_i64]
  omega

set_option maxHeartbeats 2000000 in
set_option maxRecDepth 20000 in
theorem unsigned_any (B n c : Nat) (A : Option Addr) (l : List Nat) (w : World) (hl : BysAt w B A n l) (h256 : ∀ x ∈ l, x < 256) (hB : B ≤ w.heap.size) (hn : n ≤ 1000000) :
    Calls Try.prog 45 #[.slice A n c] w (Ret w (decV n l)) := by
  have hU := unvarint_any B n c A l w hl h256 hB hn
  obtain ⟨hle, hlt⟩ := uv_le h256
  have hD : decV n l = if (uv l 0 0).2 = 0 then .tuple #[.int .i64 0, .int .i64 0, .bool false] else .tuple #[.int .i64 (unzig (uv l 0 0).1), .int .i64 ((uv l 0 0).2 : Nat), .bool true] := by
    unfold decV dec
    by_cases h : (uv l 0 0).2 = 0
    · rw [if_pos h, if_pos h]
    · rw [if_neg h, if_neg h]
      simp only [List.length_drop, hl.1]
      rw [show n - (n - (uv l 0 0).2) = (uv l 0 0).2 by rw [hl.1] at hle; omega]
  rw [hD]
  generalize (uv l 0 0).1 = v at *
  generalize (uv l 0 0).2 = k at *
  clear hD hl h256
  by_cases hk : k = 0
  · subst hk
    go_enter Try.func45, Try.ntmps45
    go_wp2_with (go_at_call 54; refine hU.mono ?_; rintro e w1 ⟨rfl, hb1⟩)
    exact bodyPost_ret (v := .tuple #[.int .i64 0, .int .i64 0, .bool false]) (by simp [results, Try.results45, go_sem]) rfl ⟨rfl, (by repeat (first | with_reducible exact Below.refl _ _ | with_reducible assumption | with_reducible refine al ?_ _ | with_reducible refine Below.drew ?_ | with_reducible refine Below.setCell ?_ (by first | (simp; done) | (simp; omega)) _ | with_reducible refine tr ?_ (by with_reducible assumption)))⟩
  · rw [if_neg hk]
    have hand := Lib.u64_and1 (v : Int) (by omega) (by omega)
    have e : bits .xor .i64 ((v : Int) / 2) (-((v : Int) % 2)) = unzig v := by
      unfold unzig
      by_cases ho : v % 2 = 1
      · rw [if_pos ho, show -((v : Int) % 2) = -1 by omega, show (v : Int) / 2 = ((v / 2 : Nat) : Int) by omega]
        exact xor_m1 _ (by omega)
      · rw [if_neg ho, show -((v : Int) % 2) = ((0 : Nat) : Int) by omega, show (v : Int) / 2 = ((v / 2 : Nat) : Int) by omega]
        exact xor_z _ (by omega)
    go_enter Try.func45, Try.ntmps45
    go_wp2_with (go_at_call 54; refine hU.mono ?_; rintro e w1 ⟨rfl, hb1⟩)
    exact bodyPost_ret (v := .tuple #[.int .i64 (unzig v), .int .i64 (k : Int), .bool true]) (by simp [results, Try.results45, go_sem]) rfl ⟨rfl, (by repeat (first | with_reducible exact Below.refl _ _ | with_reducible assumption | with_reducible refine al ?_ _ | with_reducible refine Below.drew ?_ | with_reducible refine Below.setCell ?_ (by first | (simp; done) | (simp; omega)) _ | with_reducible refine tr ?_ (by with_reducible assumption)))⟩

end Go.Proofs.Ytmaogalgganhgaa
