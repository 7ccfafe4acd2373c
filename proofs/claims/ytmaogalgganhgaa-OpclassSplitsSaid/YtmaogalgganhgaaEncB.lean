/-
  Contracts of enc.Signed and of the reference's Varint, Signed.
-/
import Derived.Test.YtmaogalgganhgaaEncA
set_option linter.unusedSimpArgs false
set_option linter.unusedVariables false
namespace Go.Proofs.Ytmaogalgganhgaa
open Go.RowKit Pg

theorem zig_neg {n : Int} (h : in64 n) (hn : n < 0) : bits .xor .u64 (IntKind.u64.wrap (IntKind.u64.wrap n * 2)) (IntKind.u64.wrap (n / 9223372036854775808)) = (zig n : Int) := by
  obtain ⟨h0, h1⟩ := h
  have e1 : IntKind.u64.wrap (IntKind.u64.wrap n * 2) = (((2 * n + 18446744073709551616).toNat : Nat) : Int) := by
    rw [IntKind.wrap_u64, IntKind.wrap_u64]
    omega
  have e2 : IntKind.u64.wrap (n / 9223372036854775808) = ((2 ^ 64 - 1 : Nat) : Int) := by
    rw [show n / 9223372036854775808 = -1 by omega]
    decide
  rw [e1, e2, bits_xor_u64_nat _ _ (by omega) (by decide), Nat.xor_comm, Lib.xor_ones64 _ (by omega)]
  unfold zig
  rw [if_pos hn]
  omega
theorem zig_pos {n : Int} (h : in64 n) (hn : ¬ n < 0) : bits .xor .u64 (n * 2) (n / 9223372036854775808) = (zig n : Int) := by
  obtain ⟨h0, h1⟩ := h
  have e1 : n * 2 = (((2 * n).toNat : Nat) : Int) := by omega
  have e2 : n / 9223372036854775808 = ((0 : Nat) : Int) := by omega
  rw [e1, e2, bits_xor_u64_nat _ _ (by omega) (by decide), Nat.xor_zero]
  unfold zig
  rw [if_neg hn]
  omega
theorem signed_any (n : Int) (h : in64 n) (w : World) : Calls Try.prog 12 #[.int .i64 n] w (RetB w (sint n)) := by
  have hV := varint_any (zig n) (zig_lt h) w
  by_cases hn : n < 0
  · have e := zig_neg h hn
    obtain ⟨h0, h1⟩ := h
    go_enter Try.func12, Try.ntmps12
    go_wp2_with (go_at_call 14; (try simp only [e]); refine hV.mono ?_; rintro e w1 ⟨s, rfl, ho, hb⟩)
    go_ret
    exact ⟨s, rfl, ho, hb⟩
  · have e := zig_pos h hn
    obtain ⟨h0, h1⟩ := h
    go_enter Try.func12, Try.ntmps12
    go_wp2_with (go_at_call 14; (try simp only [e]); refine hV.mono ?_; rintro e w1 ⟨s, rfl, ho, hb⟩)
    go_ret
    exact ⟨s, rfl, ho, hb⟩
end Go.Proofs.Ytmaogalgganhgaa
