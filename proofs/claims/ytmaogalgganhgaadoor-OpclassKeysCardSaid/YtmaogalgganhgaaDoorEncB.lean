/-
  Contracts of enc.Signed and of the reference's Varint, Signed.
-/
import Derived.Test.YtmaogalgganhgaaDoorEncA
set_option linter.unusedSimpArgs false
set_option linter.unusedVariables false
namespace Go.Proofs.YtmaogalgganhgaaDoor
open Go.RowKit Pg

set_option maxHeartbeats 2000000 in
set_option maxRecDepth 20000 in
theorem rvarint_any (v : Nat) (hv : v < 18446744073709551616) (w : World) : Calls Tryd.prog 58 #[.int .u64 (v : Int)] w (RetB w (vint v)) := by
  obtain ⟨i0, hi, hz0, hz1, hz2⟩ := info_parts Tryd.infoByte
  have hlen := vint_len10 hv
  go_enter Tryd.func58, Tryd.ntmps58
  go_wp2
  go_loopw [0, 3] (fun vx vb wr => ∃ (y : Nat) (pre : List Nat), vx = .int .u64 y ∧ y ≤ v ∧ vint v = pre ++ vint y ∧ wr.ownsRow w.heap.size 5 1 vb pre.length (ycells pre) ∧ Below w.heap.size w wr)
    (fun vx _ _ => (intOf vx).toNat)
  case atStart => exact ⟨v, [], rfl, Nat.le_refl _, rfl, World.ownsRow_nil _ _ _ _, Below.refl _ _⟩
  case round =>
    obtain ⟨y, pre, rfl, hy, hsplit, hown1, hnx⟩ := hrel
    have hpl : pre.length + (vint y).length ≤ 10 := by
      have h2 := congrArg List.length hsplit
      rw [List.length_append] at h2
      omega
    have hyp := vint_pos y
    by_cases h128 : 128 ≤ y
    · have hand : bits .and .u64 (y : Int) 127 = (y : Int) % 128 := by
        have h := bits_mask .u64 64 (by decide) wraps_u64 7 (by decide) (y : Int) (by omega) (by omega)
        rw [show (2 : Int) ^ 7 - 1 = 127 by decide] at h
        rw [h, show (2 : Int) ^ 7 = 128 by decide]
      have hor : bits .or .u64 (bits .and .u64 (y : Int) 127) 128 = ((y % 128 + 128 : Nat) : Int) := by
        rw [hand, u64_orv7 _ _ (by omega) (by omega) (by omega) (by omega) (by omega)]
        omega
      clear hand
      have hw : ((y : Int) % 128 + 128) % 256 = (y : Int) % 128 + 128 := by omega
      go_wp2_with (at_builtin; refine wpList_append_own _ rfl _ _ 26 rfl w.heap.size 5 i0 (.int .u8 0) 1 1 Tryd.underlying26 hi hz0 hz1 hz2 rfl (by decide) _ _ _ rfl (hown1.alloc _) ⟨wr.heap.size, 0, none⟩ 1 1 [Value.int .u8 ((y % 128 + 128 : Nat) : Int)] rfl rfl one_at one_one ?c3 ?c4 ?c5 ?_)
      case c3 => unfold maxLen; omega
      case c4 => omega
      case c5 => have := hnx.size; simp; omega
      intro v' w1 hown' hgrow _
      have hnx1 : Below w.heap.size w w1 := (hnx.alloc (by have := hnx.size; omega) _).grown hgrow (by have := hnx.size; simp; omega) (fun k hk => (hown1.lt k hk).1)
      go_wp2
      go_roundw
      case rel =>
        refine ⟨y / 128, pre ++ [y % 128 + 128], by go_num, by omega, by rw [hsplit, vint_big (by omega)]; simp, ?_, hnx1⟩
        have ec : ((y % 128 + 128 : Nat) : Int) = (y : Int) % 128 + 128 := by omega
        rw [ycells_snoc, List.length_append, List.length_singleton, ec]
        exact hown'
      case measure => simp [intOf]; omega
    · have hsm : vint y = [y] := vint_small (by omega)
      go_wp2_with (at_builtin; refine wpList_append_own _ rfl _ _ 26 rfl w.heap.size 5 i0 (.int .u8 0) 1 1 Tryd.underlying26 hi hz0 hz1 hz2 rfl (by decide) _ _ _ rfl (hown1.alloc _) ⟨wr.heap.size, 0, none⟩ 1 1 [Value.int .u8 (y : Int)] rfl rfl one_at one_one ?c3 ?c4 ?c5 ?_)
      case c3 => unfold maxLen; omega
      case c4 => omega
      case c5 => have := hnx.size; simp; omega
      intro v' w1 hown' hgrow _
      have hnx1 : Below w.heap.size w w1 := (hnx.alloc (by have := hnx.size; omega) _).grown hgrow (by have := hnx.size; simp; omega) (fun k hk => (hown1.lt k hk).1)
      go_wp2
      go_ret
      refine ⟨v', rfl, ?_, hnx1⟩
      rw [hsplit, hsm, ycells_snoc, List.length_append, List.length_singleton]
      exact hown'
theorem zig_neg {n : Int} (h : in64 n) (hn : n < 0) : bits .xor .u64 (IntKind.u64.wrap (IntKind.u64.wrap n * 2)) (IntKind.u64.wrap (n / 9223372036854775808)) = (zig n : Int) := by
  obtain ⟨h0, h1⟩ := h
  have e1 : IntKind.u64.wrap (IntKind.u64.wrap n * 2) = (((2 * n + 18446744073709551616).toNat : Nat) : Int) := by
    rw [IntKind.wrap_u64, IntKind.wrap_u64]
    omega
  have e2 : IntKind.u64.wrap (n / 9223372036854775808) = ((2 ^ 64 - 1 : Nat) : Int) := by
    rw [show n / 9223372036854775808 = -1 by omega]
    decide
  rw [e1, e2, bits_xor_u64_nat _ _ (by omega) (by decide), Nat.xor_comm, Lib.xor_ones64 _ (by omega)]
  unfold zig
  rw [if_pos hn]
  omega
theorem zig_pos {n : Int} (h : in64 n) (hn : ¬ n < 0) : bits .xor .u64 (n * 2) (n / 9223372036854775808) = (zig n : Int) := by
  obtain ⟨h0, h1⟩ := h
  have e1 : n * 2 = (((2 * n).toNat : Nat) : Int) := by omega
  have e2 : n / 9223372036854775808 = ((0 : Nat) : Int) := by omega
  rw [e1, e2, bits_xor_u64_nat _ _ (by omega) (by decide), Nat.xor_zero]
  unfold zig
  rw [if_neg hn]
  omega
theorem signed_any (n : Int) (h : in64 n) (w : World) : Calls Tryd.prog 31 #[.int .i64 n] w (RetB w (sint n)) := by
  have hV := varint_any (zig n) (zig_lt h) w
  by_cases hn : n < 0
  · have e := zig_neg h hn
    obtain ⟨h0, h1⟩ := h
    go_enter Tryd.func31, Tryd.ntmps31
    go_wp2_with (go_at_call 57; (try simp only [e]); refine hV.mono ?_; rintro e w1 ⟨s, rfl, ho, hb⟩)
    go_ret
    exact ⟨s, rfl, ho, hb⟩
  · have e := zig_pos h hn
    obtain ⟨h0, h1⟩ := h
    go_enter Tryd.func31, Tryd.ntmps31
    go_wp2_with (go_at_call 57; (try simp only [e]); refine hV.mono ?_; rintro e w1 ⟨s, rfl, ho, hb⟩)
    go_ret
    exact ⟨s, rfl, ho, hb⟩
theorem rsigned_any (n : Int) (h : in64 n) (w : World) : Calls Tryd.prog 32 #[.int .i64 n] w (RetB w (sint n)) := by
  have hV := rvarint_any (zig n) (zig_lt h) w
  obtain ⟨h0, h1⟩ := h
  by_cases hn : n < 0
  · have e : -(n + 1) * 2 + 1 = (zig n : Int) := by unfold zig; rw [if_pos hn]; omega
    go_enter Tryd.func32, Tryd.ntmps32
    go_wp2_with (go_at_call 58; (try simp only [e]); refine hV.mono ?_; rintro e w1 ⟨s, rfl, ho, hb⟩)
    go_ret
    exact ⟨s, rfl, ho, hb⟩
  · have e : n * 2 = (zig n : Int) := by unfold zig; rw [if_neg hn]; omega
    go_enter Tryd.func32, Tryd.ntmps32
    go_wp2_with (go_at_call 58; (try simp only [e]); refine hV.mono ?_; rintro e w1 ⟨s, rfl, ho, hb⟩)
    go_ret
    exact ⟨s, rfl, ho, hb⟩
end Go.Proofs.YtmaogalgganhgaaDoor
