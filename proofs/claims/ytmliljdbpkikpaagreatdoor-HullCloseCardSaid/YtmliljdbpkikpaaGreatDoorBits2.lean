/-
  Contract of math/bits.Div64.
-/
import Derived.Test.YtmliljdbpkikpaaGreatDoorPlane
import Derived.Test.YtmliljdbpkikpaaGreatDoorBits1
import Derived.Test.YtmliljdbpkikpaaGreatDoorLex
import Derived.Lib.EndianBits
import Derived.Shelf.Bits.Mul64
set_option linter.unusedVariables false
set_option linter.unusedSimpArgs false
namespace Pg
/-! Division of a number of two words by one, as Knuth does it, word by word. -/

/-- what the loop over a digit keeps: q is at least the digit, r what is left of the high part -/
structure KnI (u v w1 w0 q r : Nat) : Prop where
  sum : q * w1 + r = u
  low : (u * 4294967296 + v) / (w1 * 4294967296 + w0) ≤ q
  top : q ≤ 4294967297
  rest : r < 4294967296

theorem kn_q (u v w1 w0 : Nat) (hw1 : 2147483648 ≤ w1) (hw1' : w1 < 4294967296) (hw0 : w0 < 4294967296) (hv : v < 4294967296) (hu : u < w1 * 4294967296 + w0) :
    (u * 4294967296 + v) / (w1 * 4294967296 + w0) < 4294967296 := by
  rw [Nat.div_lt_iff_lt_mul (by omega)]
  omega

theorem kn_start (u v w1 w0 : Nat) (hw1 : 2147483648 ≤ w1) (hw1' : w1 < 4294967296) (hw0 : w0 < 4294967296) (hv : v < 4294967296) (hu : u < w1 * 4294967296 + w0) :
    KnI u v w1 w0 (u / w1) (u - u / w1 * w1) := by
  have hd := Nat.div_add_mod u w1
  have hm := Nat.mod_lt u (show w1 > 0 by omega)
  rw [Nat.mul_comm] at hd
  refine ⟨by omega, ?_, ?_, by omega⟩
  · apply Nat.le_of_lt_succ
    rw [Nat.div_lt_iff_lt_mul (by omega)]
    have h1 : (u / w1 + 1) * (w1 * 4294967296 + w0) = (u / w1 * w1 + w1) * 4294967296 + (u / w1 + 1) * w0 := by grind
    rw [h1]
    omega
  · apply Nat.le_of_lt_succ
    rw [Nat.div_lt_iff_lt_mul (by omega)]
    omega

theorem kn_mul {u v w1 w0 q r : Nat} (h : q * w1 + r = u) : q * (w1 * 4294967296 + w0) + r * 4294967296 = u * 4294967296 + q * w0 := by
  subst h; grind

/-- the test holds: the digit is less -/
theorem kn_less {u v w1 w0 q r : Nat} (hw1 : 2147483648 ≤ w1) (hw1' : w1 < 4294967296) (hw0 : w0 < 4294967296) (hv : v < 4294967296) (hu : u < w1 * 4294967296 + w0) (h : KnI u v w1 w0 q r)
    (ht : 4294967296 ≤ q ∨ 4294967296 * r + v < q * w0) : (u * 4294967296 + v) / (w1 * 4294967296 + w0) < q := by
  rcases ht with ht | ht
  · have := kn_q u v w1 w0 hw1 hw1' hw0 hv hu; omega
  · rw [Nat.div_lt_iff_lt_mul (by omega)]
    have := kn_mul (v := v) (w0 := w0) h.sum
    omega

/-- the test fails: it is the digit -/
theorem kn_end {u v w1 w0 q r : Nat} (hw1 : 2147483648 ≤ w1) (h : q * w1 + r = u) (low : (u * 4294967296 + v) / (w1 * 4294967296 + w0) ≤ q)
    (ht : q * w0 ≤ 4294967296 * r + v) : (u * 4294967296 + v) / (w1 * 4294967296 + w0) = q := by
  apply Nat.le_antisymm low
  rw [Nat.le_div_iff_mul_le (by omega)]
  have := kn_mul (v := v) (w0 := w0) h
  omega

/-- one down, and what is left is still small -/
theorem kn_step {u v w1 w0 q r : Nat} (hw1 : 2147483648 ≤ w1) (hw1' : w1 < 4294967296) (hw0 : w0 < 4294967296) (hv : v < 4294967296) (hu : u < w1 * 4294967296 + w0) (h : KnI u v w1 w0 q r)
    (ht : 4294967296 ≤ q ∨ 4294967296 * r + v < q * w0) (hr : r + w1 < 4294967296) : KnI u v w1 w0 (q - 1) (r + w1) := by
  have hl := kn_less hw1 hw1' hw0 hv hu h ht
  have hs : (q - 1) * w1 + (r + w1) = u := by
    have : (q - 1 + 1) * w1 = (q - 1) * w1 + w1 := by rw [Nat.add_mul, Nat.one_mul]
    rw [Nat.sub_add_cancel (Nat.lt_of_le_of_lt (Nat.zero_le _) hl)] at this
    have := h.sum
    omega
  exact ⟨hs, by omega, by have := h.top; omega, hr⟩

/-- one down, and what is left is no word any more: it is the digit -/
theorem kn_break {u v w1 w0 q r : Nat} (hw1 : 2147483648 ≤ w1) (hw1' : w1 < 4294967296) (hw0 : w0 < 4294967296) (hv : v < 4294967296) (hu : u < w1 * 4294967296 + w0) (h : KnI u v w1 w0 q r)
    (ht : 4294967296 ≤ q ∨ 4294967296 * r + v < q * w0) (hr : 4294967296 ≤ r + w1) : (u * 4294967296 + v) / (w1 * 4294967296 + w0) = q - 1 := by
  have hl := kn_less hw1 hw1' hw0 hv hu h ht
  have hs : (q - 1) * w1 + (r + w1) = u := by
    have : (q - 1 + 1) * w1 = (q - 1) * w1 + w1 := by rw [Nat.add_mul, Nat.one_mul]
    rw [Nat.sub_add_cancel (Nat.lt_of_le_of_lt (Nat.zero_le _) hl)] at this
    have := h.sum
    omega
  refine kn_end hw1 hs (by omega) ?_
  have h1 : (q - 1) * w0 ≤ 4294967296 * w0 := Nat.mul_le_mul_right _ (by have := h.top; omega)
  have h2 : 4294967296 * 4294967296 ≤ 4294967296 * (r + w1) := Nat.mul_le_mul_left _ hr
  omega

theorem kn_prod {u v w1 w0 q r : Nat} (hw0 : w0 < 4294967296) (h : KnI u v w1 w0 q r) : q * w0 < 18446744073709551616 := by
  have h1 : q * w0 ≤ 4294967297 * w0 := Nat.mul_le_mul_right _ h.top
  omega

/-- what is left of a digit, as words reckon it -/
theorem kn_rest (u v y q : Nat) (hy : y < 18446744073709551616) (hy0 : 0 < y) (hq : (u * 4294967296 + v) / y = q) :
    (((u * 4294967296 : Nat) : Int) + v - (q * y : Nat)) = (((u * 4294967296 + v) % y : Nat) : Int) ∧ (u * 4294967296 + v) % y < 18446744073709551616 := by
  have := Nat.div_add_mod (u * 4294967296 + v) y
  have hm := Nat.mod_lt (u * 4294967296 + v) hy0
  rw [hq, Nat.mul_comm] at this
  omega

/-- both digits -/
theorem kn_two (u a b y : Nat) (ha : a < 4294967296) (hb : b < 4294967296) (hy0 : 0 < y) (hu : u < y) :
    (u * 18446744073709551616 + (a * 4294967296 + b)) / y = (u * 4294967296 + a) / y * 4294967296 + ((u * 4294967296 + a) % y * 4294967296 + b) / y ∧
    (u * 18446744073709551616 + (a * 4294967296 + b)) % y = ((u * 4294967296 + a) % y * 4294967296 + b) % y := by
  have h1 := Nat.div_add_mod (u * 4294967296 + a) y
  have e : u * 18446744073709551616 + (a * 4294967296 + b) = ((u * 4294967296 + a) % y * 4294967296 + b) + y * ((u * 4294967296 + a) / y * 4294967296) := by
    have : (y * ((u * 4294967296 + a) / y) + (u * 4294967296 + a) % y) * 4294967296 = (u * 4294967296 + a) * 4294967296 := by rw [h1]
    rw [Nat.add_mul, Nat.mul_assoc] at this
    omega
  rw [e, Nat.add_mul_div_left _ _ hy0, Nat.add_mul_mod_self_left]
  exact ⟨by omega, rfl⟩

/-- moved to the left so that the highest bit is there -/
theorem kn_norm (hi lo y s : Nat) (hs : s ≤ 63) (hlo : lo < 18446744073709551616) (hhi : hi < y) (hy : y * 2 ^ s < 18446744073709551616) :
    hi * 2 ^ s + lo / 2 ^ (64 - s) < y * 2 ^ s ∧ (hi * 18446744073709551616 + lo) * 2 ^ s = (hi * 2 ^ s + lo / 2 ^ (64 - s)) * 18446744073709551616 + lo * 2 ^ s % 18446744073709551616 ∧ lo / 2 ^ (64 - s) < 2 ^ s := by
  have hp : 2 ^ (64 - s) * 2 ^ s = 18446744073709551616 := by rw [← Nat.pow_add, show 64 - s + s = 64 by omega]
  have hp0 : 0 < 2 ^ (64 - s) := Nat.pow_pos (by omega)
  have hp1 : 0 < 2 ^ s := Nat.pow_pos (by omega)
  have hl : lo / 2 ^ (64 - s) < 2 ^ s := by
    rw [Nat.div_lt_iff_lt_mul hp0, Nat.mul_comm, hp]
    exact hlo
  refine ⟨?_, ?_, hl⟩
  · have : (hi + 1) * 2 ^ s ≤ y * 2 ^ s := Nat.mul_le_mul_right _ hhi
    rw [Nat.add_mul] at this
    omega
  · have h1 := Nat.div_add_mod (lo * 2 ^ s) 18446744073709551616
    have h2 : lo * 2 ^ s / 18446744073709551616 = lo / 2 ^ (64 - s) := by
      rw [← hp]
      exact Nat.mul_div_mul_right _ _ hp1
    rw [h2] at h1
    generalize 2 ^ s = P at *
    generalize lo / 2 ^ (64 - s) = L at *
    generalize lo * P % 18446744073709551616 = M at *
    grind
end Pg
set_option linter.unusedSimpArgs false
set_option linter.unusedVariables false
namespace Go.Proofs.YtmliljdbpkikpaaGreatDoor
open Go.RowKit Pg

theorem lead_bounds (y : Nat) (h0 : 0 < y) (hy : y < 18446744073709551616) : ∃ s : Nat, s ≤ 63 ∧ 64 - (Lib.bitLen y : Int) = s ∧ 9223372036854775808 ≤ y * 2 ^ s ∧ y * 2 ^ s < 18446744073709551616 := by
  obtain ⟨h1, h2, h3⟩ := Lib.bitLenAux_bounds 64 y hy (by omega)
  have h4 := Lib.bitLen_le y 64 (by omega) hy
  unfold Lib.bitLen at h4 ⊢
  generalize Lib.bitLenAux 64 y = b at *
  refine ⟨64 - b, by omega, by omega, ?_, ?_⟩
  · have : 2 ^ (b - 1) * 2 ^ (64 - b) = 9223372036854775808 := by rw [← Nat.pow_add, show b - 1 + (64 - b) = 63 by omega]
    rw [← this]
    exact Nat.mul_le_mul_right _ h2
  · have : 2 ^ b * 2 ^ (64 - b) = 18446744073709551616 := by rw [← Nat.pow_add, show b + (64 - b) = 64 by omega]
    rw [← this]
    exact Nat.mul_lt_mul_of_pos_right h3 (Nat.pow_pos (by decide))

theorem wrap_nat (n : Nat) (h : n < 18446744073709551616) : IntKind.u64.wrap (n : Int) = (n : Int) := wraps_u64 _ (by omega) (by simp; omega)
theorem wrap_ex (z : Int) : ∃ n : Nat, IntKind.u64.wrap z = (n : Int) := ⟨(z % 18446744073709551616).toNat, by rw [IntKind.wrap_u64]; omega⟩
theorem or_join (A B s : Nat) (hs : s ≤ 63) (hA : A * 2 ^ s < 18446744073709551616) (hB : B < 2 ^ s) : bits .or .u64 ((A * 2 ^ s : Nat) : Int) (B : Int) = ((A * 2 ^ s + B : Nat) : Int) := by
  have h2 : (2 : Nat) ^ s ≤ 2 ^ 63 := Nat.pow_le_pow_right (by decide) hs
  rw [bits_join .u64 64 (by decide) (fun n h₀ h₁ => wraps_u64 n h₀ (by simpa using h₁)) s _ _ (by omega) ?_ (by rw [show (2 : Int) ^ 64 = 18446744073709551616 by decide]; omega) (by omega) (by exact_mod_cast hB) (by rw [show (2 : Int) ^ 64 = 18446744073709551616 by decide]; have := Nat.lt_of_lt_of_le hB h2; simp only [Nat.reducePow] at this; omega)]
  · omega
  · rw [Int.natCast_mul, Int.natCast_pow]
    exact Int.mul_emod_left _ _
/-- a digit, and what is left of it, in the machine's words -/
theorem kn_words (u v y q : Nat) (hy : y < 18446744073709551616) (hy0 : 0 < y) (hq : (u * 4294967296 + v) / y = q) :
    IntKind.u64.wrap (IntKind.u64.wrap (IntKind.u64.wrap ((u : Int) * 4294967296) + (v : Int)) - IntKind.u64.wrap ((q : Int) * (y : Int))) = (((u * 4294967296 + v) % y : Nat) : Int) := by
  obtain ⟨h1, h2⟩ := kn_rest u v y q hy hy0 hq
  simp only [IntKind.wrap_u64]
  rw [show (q : Int) * (y : Int) = ((q * y : Nat) : Int) by rw [Int.natCast_mul], show (u : Int) * 4294967296 = ((u * 4294967296 : Nat) : Int) by omega]
  generalize q * y = P at *
  generalize (u * 4294967296 + v) % y = R at *
  omega

end Go.Proofs.YtmliljdbpkikpaaGreatDoor
