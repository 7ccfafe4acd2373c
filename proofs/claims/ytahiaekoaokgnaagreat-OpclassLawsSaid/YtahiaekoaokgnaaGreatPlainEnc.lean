/-
  Plain laws of numbers as bytes: groups of seven digits, written and read.
-/
import Derived.Test.YtahiaekoaokgnaaGreatGeo
set_option linter.unusedVariables false
set_option linter.unusedSimpArgs false
namespace Pg

/-- a number in groups of seven digits -/
def vint (v : Nat) : List Nat := if v < 128 then [v] else (v % 128 + 128) :: vint (v / 128)
termination_by v
decreasing_by omega
theorem vint_small {v : Nat} (h : v < 128) : vint v = [v] := by rw [vint, if_pos h]
theorem vint_big {v : Nat} (h : ¬ v < 128) : vint v = (v % 128 + 128) :: vint (v / 128) := by rw [vint, if_neg h]
theorem vint_lt : ∀ (n v : Nat), v < n → ∀ c ∈ vint v, c < 256 := by
  intro n
  induction n with
  | zero => intro v h; omega
  | succ n ih =>
    intro v h c hc
    by_cases h1 : v < 128
    · rw [vint_small h1] at hc
      simp at hc
      omega
    · rw [vint_big h1] at hc
      rcases List.mem_cons.1 hc with h2 | h2
      · omega
      · exact ih _ (by omega) c h2
theorem vint_byte {v c : Nat} (h : c ∈ vint v) : c < 256 := vint_lt (v + 1) v (by omega) c h
theorem vint_pos (v : Nat) : 1 ≤ (vint v).length := by
  by_cases h : v < 128
  · rw [vint_small h]; simp
  · rw [vint_big h]; simp
theorem vint_len : ∀ (k v : Nat), v < 128 ^ (k + 1) → (vint v).length ≤ k + 1 := by
  intro k
  induction k with
  | zero => intro v h; rw [vint_small (by simpa using h)]; simp
  | succ k ih =>
    intro v h
    by_cases h1 : v < 128
    · rw [vint_small h1]; simp
    · rw [vint_big h1]
      have := ih (v / 128) (by rw [Nat.pow_succ] at h; omega)
      simp only [List.length_cons]
      omega
theorem vint_len10 {v : Nat} (h : v < 18446744073709551616) : (vint v).length ≤ 10 := vint_len 9 v (Nat.lt_of_lt_of_le h (by decide))
/-- the number that bytes begin with, and how many bytes it has (0: there is none) -/
def uv : List Nat → Nat → Nat → Nat × Nat
  | [], _, _ => (0, 0)
  | c :: r, i, v => if 10 ≤ i then (0, 0) else if i = 9 ∧ 1 < c then (0, 0) else if c < 128 then (if c = 0 ∧ 0 < i then (0, 0) else (v + c % 128 * 2 ^ (7 * i), i + 1)) else uv r (i + 1) (v + c % 128 * 2 ^ (7 * i))
theorem pow7 (i : Nat) : 2 ^ (7 * (i + 1)) = 2 ^ (7 * i) * 128 := by rw [show 7 * (i + 1) = 7 * i + 7 by omega, Nat.pow_add]
theorem uv_vint : ∀ (n x i acc : Nat) (r : List Nat), x < n → i ≤ 9 → x * 2 ^ (7 * i) < 18446744073709551616 → (0 < i → 0 < x) → uv (vint x ++ r) i acc = (acc + x * 2 ^ (7 * i), i + (vint x).length) := by
  intro n
  induction n with
  | zero => intro x i acc r h; omega
  | succ n ih =>
    intro x i acc r hx hi hb h0
    by_cases h1 : x < 128
    · rw [vint_small h1]
      simp only [List.cons_append, List.nil_append, uv, List.length_cons, List.length_nil]
      rw [if_neg (by omega), if_neg, if_pos h1, if_neg (by omega), Nat.mod_eq_of_lt h1]
      rintro ⟨rfl, h⟩
      have : (2 : Nat) ^ (7 * 9) = 9223372036854775808 := by decide
      omega
    · rw [vint_big h1]
      simp only [List.cons_append, uv, List.length_cons]
      have h2 : i ≤ 8 := by
        rcases Nat.lt_or_ge i 9 with h | h
        · omega
        · obtain rfl : i = 9 := by omega
          have : (2 : Nat) ^ (7 * 9) = 9223372036854775808 := by decide
          omega
      rw [if_neg (by omega), if_neg (by omega), if_neg (by omega)]
      have hp := pow7 i
      have e : x * 2 ^ (7 * i) = x % 128 * 2 ^ (7 * i) + x / 128 * 2 ^ (7 * (i + 1)) := by
        rw [hp]
        conv => lhs; rw [← Nat.mod_add_div x 128]
        rw [Nat.add_mul]
        congr 1
        rw [Nat.mul_comm (2 ^ (7 * i)) 128, ← Nat.mul_assoc, Nat.mul_comm 128]
      rw [ih (x / 128) (i + 1) _ r (by omega) (by omega) (by omega) (by omega), e]
      rw [show (x % 128 + 128) % 128 = x % 128 by omega]
      congr 1 <;> omega
theorem uv_inv : ∀ (l : List Nat) (i acc v n : Nat), (∀ c ∈ l, c < 256) → uv l i acc = (v, n) → n ≠ 0 →
    ∃ x r, l = vint x ++ r ∧ n = i + (vint x).length ∧ v = acc + x * 2 ^ (7 * i) ∧ (0 < i → 0 < x) ∧ x * 2 ^ (7 * i) < 18446744073709551616 ∧ i ≤ 9 := by
  intro l
  induction l with
  | nil => intro i acc v n _ h hn; simp [uv] at h; omega
  | cons c r ih =>
    intro i acc v n hl h hn
    have hc : c < 256 := hl c (by simp)
    simp only [uv] at h
    split at h
    · simp at h; omega
    rename_i h1
    split at h
    · simp at h; omega
    rename_i h2
    split at h
    · rename_i h3
      split at h
      · simp at h; omega
      rename_i h4
      simp only [Prod.mk.injEq] at h
      refine ⟨c, r, by rw [vint_small h3]; rfl, by rw [vint_small h3]; simp; omega, by rw [← h.1, Nat.mod_eq_of_lt h3], by omega, ?_, by omega⟩
      have hh : i = 0 ∨ i = 1 ∨ i = 2 ∨ i = 3 ∨ i = 4 ∨ i = 5 ∨ i = 6 ∨ i = 7 ∨ i = 8 ∨ i = 9 := by omega
      rcases hh with rfl | rfl | rfl | rfl | rfl | rfl | rfl | rfl | rfl | rfl <;> simp only [Nat.mul_zero, Nat.pow_zero, Nat.reduceMul, Nat.reducePow, Nat.mul_one] <;> omega
    · rename_i h3
      obtain ⟨x, r', e1, e2, e3, e4, e5, e6⟩ := ih (i + 1) _ v n (fun c hc => hl c (by simp [hc])) h hn
      have hx := e4 (by omega)
      have hp := pow7 i
      refine ⟨x * 128 + (c - 128), r', ?_, ?_, ?_, by omega, ?_, by omega⟩
      · rw [vint_big (by omega), show (x * 128 + (c - 128)) % 128 + 128 = c by omega, show (x * 128 + (c - 128)) / 128 = x by omega, e1]
        rfl
      · rw [vint_big (by omega), show (x * 128 + (c - 128)) / 128 = x by omega, e2]
        simp only [List.length_cons]
        omega
      · rw [e3, hp, show c % 128 = c - 128 by omega, Nat.add_mul]
        have : x * (2 ^ (7 * i) * 128) = x * 128 * 2 ^ (7 * i) := by rw [Nat.mul_comm (2 ^ (7 * i)) 128, Nat.mul_assoc]
        omega
      · rw [hp] at e5
        have h8 : i ≤ 8 := by omega
        have hh : i = 0 ∨ i = 1 ∨ i = 2 ∨ i = 3 ∨ i = 4 ∨ i = 5 ∨ i = 6 ∨ i = 7 ∨ i = 8 := by omega
        rcases hh with rfl | rfl | rfl | rfl | rfl | rfl | rfl | rfl | rfl
        · simp only [Nat.reduceMul, Nat.reducePow] at e5 ⊢
          have hx2 : x < 144115188075855872 := by omega
          have hx3 : x * 128 + (c - 128) ≤ 18446744073709551615 := by omega
          exact Nat.lt_of_le_of_lt (Nat.mul_le_mul_right 1 hx3) (by decide)
        · simp only [Nat.reduceMul, Nat.reducePow] at e5 ⊢
          have hx2 : x < 1125899906842624 := by omega
          have hx3 : x * 128 + (c - 128) ≤ 144115188075855871 := by omega
          exact Nat.lt_of_le_of_lt (Nat.mul_le_mul_right 128 hx3) (by decide)
        · simp only [Nat.reduceMul, Nat.reducePow] at e5 ⊢
          have hx2 : x < 8796093022208 := by omega
          have hx3 : x * 128 + (c - 128) ≤ 1125899906842623 := by omega
          exact Nat.lt_of_le_of_lt (Nat.mul_le_mul_right 16384 hx3) (by decide)
        · simp only [Nat.reduceMul, Nat.reducePow] at e5 ⊢
          have hx2 : x < 68719476736 := by omega
          have hx3 : x * 128 + (c - 128) ≤ 8796093022207 := by omega
          exact Nat.lt_of_le_of_lt (Nat.mul_le_mul_right 2097152 hx3) (by decide)
        · simp only [Nat.reduceMul, Nat.reducePow] at e5 ⊢
          have hx2 : x < 536870912 := by omega
          have hx3 : x * 128 + (c - 128) ≤ 68719476735 := by omega
          exact Nat.lt_of_le_of_lt (Nat.mul_le_mul_right 268435456 hx3) (by decide)
        · simp only [Nat.reduceMul, Nat.reducePow] at e5 ⊢
          have hx2 : x < 4194304 := by omega
          have hx3 : x * 128 + (c - 128) ≤ 536870911 := by omega
          exact Nat.lt_of_le_of_lt (Nat.mul_le_mul_right 34359738368 hx3) (by decide)
        · simp only [Nat.reduceMul, Nat.reducePow] at e5 ⊢
          have hx2 : x < 32768 := by omega
          have hx3 : x * 128 + (c - 128) ≤ 4194303 := by omega
          exact Nat.lt_of_le_of_lt (Nat.mul_le_mul_right 4398046511104 hx3) (by decide)
        · simp only [Nat.reduceMul, Nat.reducePow] at e5 ⊢
          have hx2 : x < 256 := by omega
          have hx3 : x * 128 + (c - 128) ≤ 32767 := by omega
          exact Nat.lt_of_le_of_lt (Nat.mul_le_mul_right 562949953421312 hx3) (by decide)
        · simp only [Nat.reduceMul, Nat.reducePow] at e5 ⊢
          have hx2 : x < 2 := by omega
          have hx3 : x * 128 + (c - 128) ≤ 255 := by omega
          exact Nat.lt_of_le_of_lt (Nat.mul_le_mul_right 72057594037927936 hx3) (by decide)
/-- a number that may be below 0, as one that may not -/
def zig (n : Int) : Nat := if n < 0 then 2 * (-(n + 1)).toNat + 1 else 2 * n.toNat
def unzig (v : Nat) : Int := if v % 2 = 1 then -((v / 2 : Nat) : Int) - 1 else ((v / 2 : Nat) : Int)
def in64 (n : Int) : Prop := -9223372036854775808 ≤ n ∧ n ≤ 9223372036854775807
theorem zig_lt {n : Int} (h : in64 n) : zig n < 18446744073709551616 := by unfold in64 at h; unfold zig; split <;> omega
theorem unzig_zig (n : Int) : unzig (zig n) = n := by
  unfold unzig zig
  split
  · rw [if_pos (by omega)]; omega
  · rw [if_neg (by omega)]; omega
theorem zig_unzig (v : Nat) : zig (unzig v) = v := by
  unfold unzig zig
  split <;> split <;> omega
theorem unzig_in {v : Nat} (h : v < 18446744073709551616) : in64 (unzig v) := by
  unfold in64 unzig
  split
  · have : v / 2 < 9223372036854775808 := by omega
    omega
  · have : v / 2 < 9223372036854775808 := by omega
    omega
def sint (n : Int) : List Nat := vint (zig n)
theorem sint_len {n : Int} (h : in64 n) : 1 ≤ (sint n).length ∧ (sint n).length ≤ 10 := ⟨vint_pos _, vint_len10 (zig_lt h)⟩
/-- a number read, and what is behind it -/
def dec (l : List Nat) : Option (Int × List Nat) := if (uv l 0 0).2 = 0 then none else some (unzig (uv l 0 0).1, l.drop (uv l 0 0).2)
theorem uv_sint {x : Int} (h : in64 x) (r : List Nat) : uv (sint x ++ r) 0 0 = (zig x, (sint x).length) := by
  have := uv_vint (zig x + 1) (zig x) 0 0 r (by omega) (by omega) (by have := zig_lt h; simpa using this) (by omega)
  rw [sint, this]
  simp
theorem dec_sint {x : Int} (h : in64 x) (r : List Nat) : dec (sint x ++ r) = some (x, r) := by
  unfold dec
  rw [uv_sint h]
  have := (sint_len h).1
  rw [if_neg (by simp only; omega)]
  simp [unzig_zig]
theorem dec_inv {l r : List Nat} {x : Int} (hl : ∀ c ∈ l, c < 256) (h : dec l = some (x, r)) : in64 x ∧ l = sint x ++ r := by
  unfold dec at h
  split at h
  · cases h
  rename_i h1
  obtain ⟨y, r', e1, e2, e3, e4, e5, e6⟩ := uv_inv l 0 0 (uv l 0 0).1 (uv l 0 0).2 hl rfl h1
  simp only [Option.some.injEq, Prod.mk.injEq] at h
  obtain ⟨h2, h3⟩ := h
  simp only [Nat.mul_zero, Nat.pow_zero, Nat.mul_one, Nat.zero_add] at e3 e5 e2
  rw [e3] at h2
  subst h2
  rw [sint, zig_unzig]
  refine ⟨unzig_in e5, ?_⟩
  rw [e2] at h3
  subst h3
  conv => lhs; rw [e1]
  rw [e1]
  simp
/-- a box's key -/
def keyL (b : Bx) : List Nat := sint b.lo.x ++ (sint b.lo.y ++ (sint b.hi.x ++ sint b.hi.y))
/-- a key's box -/
def unkeyS (l : List Nat) : Option Bx :=
  match dec l with
  | none => none
  | some (a, l1) => match dec l1 with
    | none => none
    | some (b, l2) => match dec l2 with
      | none => none
      | some (c, l3) => match dec l3 with
        | none => none
        | some (d, l4) => if l4 = [] ∧ okBx ⟨⟨a, b⟩, ⟨c, d⟩⟩ = true then some ⟨⟨a, b⟩, ⟨c, d⟩⟩ else none
def inBx (b : Bx) : Prop := in64 b.lo.x ∧ in64 b.lo.y ∧ in64 b.hi.x ∧ in64 b.hi.y
theorem okBx_in {b : Bx} (h : okBx b = true) : inBx b := by
  unfold okBx ckBox okPt farB at h
  simp only [decide_eq_true_eq] at h
  split at h
  · split at h
    · cases h
    · rename_i h1 _
      simp only [Bool.and_eq_true, Bool.not_eq_true', Bool.or_eq_false_iff, decide_eq_false_iff_not] at h1
      unfold inBx in64
      omega
  · cases h
theorem unkey_key {b : Bx} (h : inBx b) : unkeyS (keyL b) = if okBx b = true then some b else none := by
  obtain ⟨h1, h2, h3, h4⟩ := h
  have e := dec_sint h4 []
  rw [List.append_nil] at e
  unfold unkeyS keyL
  rw [dec_sint h1, ]
  simp only
  rw [dec_sint h2]
  simp only
  rw [dec_sint h3]
  simp only
  rw [e]
  simp
theorem unkey_inv {l : List Nat} {b : Bx} (hl : ∀ c ∈ l, c < 256) (h : unkeyS l = some b) : okBx b = true ∧ l = keyL b := by
  unfold unkeyS at h
  split at h
  · cases h
  rename_i a l1 d1
  split at h
  · cases h
  rename_i c l2 d2
  split at h
  · cases h
  rename_i d l3 d3
  split at h
  · cases h
  rename_i f l4 d4
  split at h
  · rename_i hh
    obtain ⟨rfl, ho⟩ := hh
    obtain ⟨i1, e1⟩ := dec_inv hl d1
    have hl1 : ∀ c ∈ l1, c < 256 := fun c hc => hl c (by rw [e1]; simp [hc])
    obtain ⟨i2, e2⟩ := dec_inv hl1 d2
    have hl2 : ∀ c ∈ l2, c < 256 := fun c hc => hl1 c (by rw [e2]; simp [hc])
    obtain ⟨i3, e3⟩ := dec_inv hl2 d3
    have hl3 : ∀ c ∈ l3, c < 256 := fun c hc => hl2 c (by rw [e3]; simp [hc])
    obtain ⟨i4, e4⟩ := dec_inv hl3 d4
    rw [List.append_nil] at e4
    simp only [Option.some.injEq] at h
    subst h
    exact ⟨ho, by rw [e1, e2, e3, e4]; rfl⟩
  · cases h
theorem keyL_byte {b : Bx} {c : Nat} (h : c ∈ keyL b) : c < 256 := by
  unfold keyL at h
  simp only [List.mem_append] at h
  rcases h with h | h | h | h <;> exact vint_byte h
theorem keyL_inj {a b : Bx} (ha : okBx a = true) (hb : okBx b = true) (h : keyL a = keyL b) : a = b := by
  have h1 := unkey_key (okBx_in ha)
  rw [h, unkey_key (okBx_in hb), if_pos hb, if_pos ha] at h1
  exact (Option.some.inj h1).symm
theorem keyL_len {b : Bx} (h : inBx b) : 4 ≤ (keyL b).length ∧ (keyL b).length ≤ 40 := by
  obtain ⟨h1, h2, h3, h4⟩ := h
  have := sint_len h1
  have := sint_len h2
  have := sint_len h3
  have := sint_len h4
  unfold keyL
  simp only [List.length_append]
  omega
theorem sint_ok {n : Int} (h : -1073741823 ≤ n ∧ n ≤ 1073741823) : (sint n).length ≤ 5 := vint_len 4 _ (Nat.lt_of_lt_of_le (show zig n < 34359738368 by unfold zig; split <;> omega) (by decide))
end Pg
