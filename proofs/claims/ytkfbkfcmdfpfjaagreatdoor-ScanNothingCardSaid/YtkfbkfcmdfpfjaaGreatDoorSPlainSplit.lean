/-
  Plain definitions: what the functions of plane, segm, ring, rel and of the references reckon, on Lean's integers and lists. No program, no memory.
  Plain words for package rel: cut, rings, meets, match.
  Plain laws of numbers as bytes: groups of seven digits, written and read.
  Plain lemmas: small ones, on points, boxes, signs.
  
  Plain words and laws for fractions: lowest terms, comparing, the least; the distance to a segment and to an object.
  Plain laws of the statement RelZero.
  Plain laws of the split of boxes: who goes is told by how many stand ahead.
-/
import Derived.Below
namespace Pg

structure Pt where
  x : Int
  y : Int
instance : DecidableEq Pt := fun a b =>
  if h : a.x = b.x ∧ a.y = b.y then isTrue (by cases a; cases b; simp_all) else isFalse (fun e => h (by subst e; exact ⟨rfl, rfl⟩))
instance : Inhabited Pt := ⟨⟨0, 0⟩⟩
theorem Pt.ext' {a b : Pt} (hx : a.x = b.x) (hy : a.y = b.y) : a = b := by cases a; cases b; simp_all

structure Bx where
  lo : Pt
  hi : Pt
def farB (n : Int) : Bool := decide (n < -1073741823) || decide (1073741823 < n)
def okPt (p : Pt) : Bool := !(farB p.x || farB p.y)
def ckBox (b : Bx) : Nat := if okPt b.lo && okPt b.hi then (if decide (b.hi.x < b.lo.x) || decide (b.hi.y < b.lo.y) then 1 else 0) else 2
def okBx (b : Bx) : Bool := decide (ckBox b = 0)
def crossR (a b c : Pt) : Int := (b.x - a.x) * (c.y - a.y) - (b.y - a.y) * (c.x - a.x)
def cross (a b c : Pt) : Int := if okPt a && okPt b && okPt c then crossR a b c else 0
def sgn (n : Int) : Int := if n < 0 then -1 else if 0 < n then 1 else 0
def orient (a b c : Pt) : Int := sgn (cross a b c)
def bhasR (b : Bx) (p : Pt) : Bool := decide (b.lo.x ≤ p.x) && decide (p.x ≤ b.hi.x) && decide (b.lo.y ≤ p.y) && decide (p.y ≤ b.hi.y)
def bhas (b : Bx) (p : Pt) : Bool := okBx b && okPt p && bhasR b p
def bmeetsR (a b : Bx) : Bool := decide (a.lo.x ≤ b.hi.x) && decide (b.lo.x ≤ a.hi.x) && decide (a.lo.y ≤ b.hi.y) && decide (b.lo.y ≤ a.hi.y)
def bmeets (a b : Bx) : Bool := okBx a && okBx b && bmeetsR a b
def bjoin (a b : Bx) : Bx := ⟨⟨min a.lo.x b.lo.x, min a.lo.y b.lo.y⟩, ⟨max a.hi.x b.hi.x, max a.hi.y b.hi.y⟩⟩
def bzero : Bx := ⟨⟨0, 0⟩, ⟨0, 0⟩⟩
def unionGo (u : Bx) : List Bx → Bx × Nat
  | [] => (u, 0)
  | b :: r => if ckBox b = 0 then unionGo (bjoin u b) r else (bzero, ckBox b)
def union : List Bx → Bx × Nat
  | [] => (bzero, 1)
  | b :: r => unionGo b (b :: r)

structure Ds where
  hi : Nat
  lo : Nat
  den : Nat
instance : DecidableEq Ds := fun a b =>
  if h : a.hi = b.hi ∧ a.lo = b.lo ∧ a.den = b.den then isTrue (by cases a; cases b; simp_all) else isFalse (fun e => h (by subst e; exact ⟨rfl, rfl, rfl⟩))
def gap (n l h : Int) : Int := max (max (l - n) (n - h)) 0
def dotR (o a b : Pt) : Int := (a.x - o.x) * (b.x - o.x) + (a.y - o.y) * (b.y - o.y)
def span (a b : Pt) : Bx := ⟨⟨min a.x b.x, min a.y b.y⟩, ⟨max a.x b.x, max a.y b.y⟩⟩
def onS (a b p : Pt) : Bool := okPt a && okPt b && okPt p && decide (crossR a b p = 0) && bhasR (span a b) p
def properR (a b c d : Pt) : Bool := decide (orient a b c * orient a b d < 0) && decide (orient c d a * orient c d b < 0)
def meetS (a b c d : Pt) : Bool := okPt a && okPt b && okPt c && okPt d && (properR a b c d || onS a b c || onS a b d || onS c d a || onS c d b)
def pt (l : List Pt) (i : Nat) : Pt := l.getD i ⟨0, 0⟩
def nx (l : List Pt) (i : Nat) : Pt := pt l ((i + 1) % l.length)
def spoil (l : List Pt) (i k : Nat) : Bool :=
  if pt l i = pt l k then true
  else if (i + 1) % l.length = k then onS (pt l i) (nx l i) (nx l k) || onS (pt l k) (nx l k) (pt l i)
  else if (k + 1) % l.length = i then onS (pt l k) (nx l k) (nx l i) || onS (pt l i) (nx l i) (pt l k)
  else meetS (pt l i) (nx l i) (pt l k) (nx l k)
def spoilAny (l : List Pt) : Bool := (List.range l.length).any fun i => (List.range l.length).any fun k => decide (k ≠ i) && spoil l i k
def ckRing (l : List Pt) : Nat := if l.length < 3 ∨ 64 < l.length then 3 else if l.all okPt then (if spoilAny l then 4 else 0) else 2
def overR (a c b : Pt) : Bool := decide (a ≠ c) && decide (b ≠ c) && decide (cross c a b = 0) && decide (0 < dotR c a b)
def clash (l : List Pt) (i j : Nat) : Bool :=
  if j = i + 1 then overR (pt l i) (pt l (i + 1)) (nx l j)
  else if i = 0 ∧ j + 1 = l.length then overR (pt l (i + 1)) (pt l i) (pt l j)
  else meetS (pt l i) (pt l (i + 1)) (pt l j) (nx l j)
def clashAny (l : List Pt) : Bool := (List.range l.length).any fun i => (List.range l.length).any fun j => decide (i < j) && (decide (pt l i = pt l j) || clash l i j)
def ckRingR (l : List Pt) : Nat := if l.length < 3 ∨ 64 < l.length then 3 else if l.all okPt then (if clashAny l then 4 else 0) else 2

def edgeB (l : List Pt) (p : Pt) : Bool := (List.range l.length).any fun i => onS (pt l i) (nx l i) p
def crossesB (a b p : Pt) : Bool :=
  if b.y < a.y then decide (b.y ≤ p.y) && decide (p.y < a.y) && decide (0 < cross b a p)
  else decide (a.y ≤ p.y) && decide (p.y < b.y) && decide (0 < cross a b p)
def parity (l : List Pt) (p : Pt) : Nat → Bool
  | 0 => false
  | k + 1 => xor (parity l p k) (crossesB (pt l k) (nx l k) p)
def rhasR (l : List Pt) (p : Pt) : Bool := edgeB l p || parity l p l.length
def rhas (l : List Pt) (p : Pt) : Bool := decide (ckRing l = 0) && okPt p && rhasR l p
def ringBx (l : List Pt) : Bx := (union (l.map fun p => ⟨p, p⟩)).1

structure Ob where
  kind : Int
  pts : List Pt
structure Qu where
  kind : Int
  box : Bx
  ring : List Pt
def obBox (o : Ob) : Bx :=
  if o.kind = 1 then ⟨pt o.pts 0, pt o.pts 0⟩
  else if o.kind = 2 then ⟨⟨(pt o.pts 0).x, 0⟩, ⟨(pt o.pts 0).y, 0⟩⟩
  else if o.kind = 3 then ⟨pt o.pts 0, pt o.pts 1⟩
  else bzero
def isBox (o : Ob) : Bool := decide (o.kind = 1 ∨ o.kind = 2 ∨ o.kind = 3)
def ckInt (p : Pt) : Nat := if okPt p then (if p.y < p.x then 1 else 0) else 2
def ckOb (o : Ob) : Nat :=
  if o.kind = 1 then (if o.pts.length = 1 then ckBox ⟨pt o.pts 0, pt o.pts 0⟩ else 3)
  else if o.kind = 2 then (if o.pts.length = 1 then ckInt (pt o.pts 0) else 3)
  else if o.kind = 3 then (if o.pts.length = 2 then ckBox ⟨pt o.pts 0, pt o.pts 1⟩ else 3)
  else if o.kind = 4 then ckRing o.pts else 5
def ckObR (o : Ob) : Nat :=
  if o.kind = 1 then (if o.pts.length = 1 then (if okPt (pt o.pts 0) then 0 else 2) else 3)
  else if o.kind = 2 then (if o.pts.length = 1 then ckInt (pt o.pts 0) else 3)
  else if o.kind = 3 then (if o.pts.length = 2 then ckBox ⟨pt o.pts 0, pt o.pts 1⟩ else 3)
  else if o.kind = 4 then ckRingR o.pts else 5
def ckQu (q : Qu) : Nat :=
  if q.kind = 1 ∨ q.kind = 2 then ckBox q.box else if q.kind = 3 then (if okPt q.box.lo then 0 else 2) else if q.kind = 4 then ckRing q.ring else 5
def ckQuR (q : Qu) : Nat :=
  if q.kind = 1 ∨ q.kind = 2 then ckBox q.box else if q.kind = 3 then (if okPt q.box.lo then 0 else 2) else if q.kind = 4 then ckRingR q.ring else 5

end Pg
namespace Pg

def boundsS (o : Ob) : Bx := if isBox o then obBox o else ringBx o.pts
end Pg
set_option linter.unusedVariables false
set_option linter.unusedSimpArgs false
namespace Pg

def vint (v : Nat) : List Nat := if v < 128 then [v] else (v % 128 + 128) :: vint (v / 128)
termination_by v
decreasing_by omega
theorem vint_small {v : Nat} (h : v < 128) : vint v = [v] := by rw [vint, if_pos h]
theorem vint_big {v : Nat} (h : ¬ v < 128) : vint v = (v % 128 + 128) :: vint (v / 128) := by rw [vint, if_neg h]
theorem vint_lt : ∀ (n v : Nat), v < n → ∀ c ∈ vint v, c < 256 := by
  intro n
  induction n with
  | zero => intro v h; omega
  | succ n ih =>
    intro v h c hc
    by_cases h1 : v < 128
    · rw [vint_small h1] at hc
      simp at hc
      omega
    · rw [vint_big h1] at hc
      rcases List.mem_cons.1 hc with h2 | h2
      · omega
      · exact ih _ (by omega) c h2
theorem vint_byte {v c : Nat} (h : c ∈ vint v) : c < 256 := vint_lt (v + 1) v (by omega) c h
theorem vint_pos (v : Nat) : 1 ≤ (vint v).length := by
  by_cases h : v < 128
  · rw [vint_small h]; simp
  · rw [vint_big h]; simp
theorem vint_len : ∀ (k v : Nat), v < 128 ^ (k + 1) → (vint v).length ≤ k + 1 := by
  intro k
  induction k with
  | zero => intro v h; rw [vint_small (by simpa using h)]; simp
  | succ k ih =>
    intro v h
    by_cases h1 : v < 128
    · rw [vint_small h1]; simp
    · rw [vint_big h1]
      have := ih (v / 128) (by rw [Nat.pow_succ] at h; omega)
      simp only [List.length_cons]
      omega
theorem vint_len10 {v : Nat} (h : v < 18446744073709551616) : (vint v).length ≤ 10 := vint_len 9 v (Nat.lt_of_lt_of_le h (by decide))
def uv : List Nat → Nat → Nat → Nat × Nat
  | [], _, _ => (0, 0)
  | c :: r, i, v => if 10 ≤ i then (0, 0) else if i = 9 ∧ 1 < c then (0, 0) else if c < 128 then (if c = 0 ∧ 0 < i then (0, 0) else (v + c % 128 * 2 ^ (7 * i), i + 1)) else uv r (i + 1) (v + c % 128 * 2 ^ (7 * i))
theorem pow7 (i : Nat) : 2 ^ (7 * (i + 1)) = 2 ^ (7 * i) * 128 := by rw [show 7 * (i + 1) = 7 * i + 7 by omega, Nat.pow_add]
theorem uv_inv : ∀ (l : List Nat) (i acc v n : Nat), (∀ c ∈ l, c < 256) → uv l i acc = (v, n) → n ≠ 0 →
    ∃ x r, l = vint x ++ r ∧ n = i + (vint x).length ∧ v = acc + x * 2 ^ (7 * i) ∧ (0 < i → 0 < x) ∧ x * 2 ^ (7 * i) < 18446744073709551616 ∧ i ≤ 9 := by
  intro l
  induction l with
  | nil => intro i acc v n _ h hn; simp [uv] at h; omega
  | cons c r ih =>
    intro i acc v n hl h hn
    have hc : c < 256 := hl c (by simp)
    simp only [uv] at h
    split at h
    · simp at h; omega
    rename_i h1
    split at h
    · simp at h; omega
    rename_i h2
    split at h
    · rename_i h3
      split at h
      · simp at h; omega
      rename_i h4
      simp only [Prod.mk.injEq] at h
      refine ⟨c, r, by rw [vint_small h3]; rfl, by rw [vint_small h3]; simp; omega, by rw [← h.1, Nat.mod_eq_of_lt h3], by omega, ?_, by omega⟩
      have hh : i = 0 ∨ i = 1 ∨ i = 2 ∨ i = 3 ∨ i = 4 ∨ i = 5 ∨ i = 6 ∨ i = 7 ∨ i = 8 ∨ i = 9 := by omega
      rcases hh with rfl | rfl | rfl | rfl | rfl | rfl | rfl | rfl | rfl | rfl <;> simp only [Nat.mul_zero, Nat.pow_zero, Nat.reduceMul, Nat.reducePow, Nat.mul_one] <;> omega
    · rename_i h3
      obtain ⟨x, r', e1, e2, e3, e4, e5, e6⟩ := ih (i + 1) _ v n (fun c hc => hl c (by simp [hc])) h hn
      have hx := e4 (by omega)
      have hp := pow7 i
      refine ⟨x * 128 + (c - 128), r', ?_, ?_, ?_, by omega, ?_, by omega⟩
      · rw [vint_big (by omega), show (x * 128 + (c - 128)) % 128 + 128 = c by omega, show (x * 128 + (c - 128)) / 128 = x by omega, e1]
        rfl
      · rw [vint_big (by omega), show (x * 128 + (c - 128)) / 128 = x by omega, e2]
        simp only [List.length_cons]
        omega
      · rw [e3, hp, show c % 128 = c - 128 by omega, Nat.add_mul]
        have : x * (2 ^ (7 * i) * 128) = x * 128 * 2 ^ (7 * i) := by rw [Nat.mul_comm (2 ^ (7 * i)) 128, Nat.mul_assoc]
        omega
      · rw [hp] at e5
        have h8 : i ≤ 8 := by omega
        have hh : i = 0 ∨ i = 1 ∨ i = 2 ∨ i = 3 ∨ i = 4 ∨ i = 5 ∨ i = 6 ∨ i = 7 ∨ i = 8 := by omega
        rcases hh with rfl | rfl | rfl | rfl | rfl | rfl | rfl | rfl | rfl
        · simp only [Nat.reduceMul, Nat.reducePow] at e5 ⊢
          have hx2 : x < 144115188075855872 := by omega
          have hx3 : x * 128 + (c - 128) ≤ 18446744073709551615 := by omega
          exact Nat.lt_of_le_of_lt (Nat.mul_le_mul_right 1 hx3) (by decide)
        · simp only [Nat.reduceMul, Nat.reducePow] at e5 ⊢
          have hx2 : x < 1125899906842624 := by omega
          have hx3 : x * 128 + (c - 128) ≤ 144115188075855871 := by omega
          exact Nat.lt_of_le_of_lt (Nat.mul_le_mul_right 128 hx3) (by decide)
        · simp only [Nat.reduceMul, Nat.reducePow] at e5 ⊢
          have hx2 : x < 8796093022208 := by omega
          have hx3 : x * 128 + (c - 128) ≤ 1125899906842623 := by omega
          exact Nat.lt_of_le_of_lt (Nat.mul_le_mul_right 16384 hx3) (by decide)
        · simp only [Nat.reduceMul, Nat.reducePow] at e5 ⊢
          have hx2 : x < 68719476736 := by omega
          have hx3 : x * 128 + (c - 128) ≤ 8796093022207 := by omega
          exact Nat.lt_of_le_of_lt (Nat.mul_le_mul_right 2097152 hx3) (by decide)
        · simp only [Nat.reduceMul, Nat.reducePow] at e5 ⊢
          have hx2 : x < 536870912 := by omega
          have hx3 : x * 128 + (c - 128) ≤ 68719476735 := by omega
          exact Nat.lt_of_le_of_lt (Nat.mul_le_mul_right 268435456 hx3) (by decide)
        · simp only [Nat.reduceMul, Nat.reducePow] at e5 ⊢
          have hx2 : x < 4194304 := by omega
          have hx3 : x * 128 + (c - 128) ≤ 536870911 := by omega
          exact Nat.lt_of_le_of_lt (Nat.mul_le_mul_right 34359738368 hx3) (by decide)
        · simp only [Nat.reduceMul, Nat.reducePow] at e5 ⊢
          have hx2 : x < 32768 := by omega
          have hx3 : x * 128 + (c - 128) ≤ 4194303 := by omega
          exact Nat.lt_of_le_of_lt (Nat.mul_le_mul_right 4398046511104 hx3) (by decide)
        · simp only [Nat.reduceMul, Nat.reducePow] at e5 ⊢
          have hx2 : x < 256 := by omega
          have hx3 : x * 128 + (c - 128) ≤ 32767 := by omega
          exact Nat.lt_of_le_of_lt (Nat.mul_le_mul_right 562949953421312 hx3) (by decide)
        · simp only [Nat.reduceMul, Nat.reducePow] at e5 ⊢
          have hx2 : x < 2 := by omega
          have hx3 : x * 128 + (c - 128) ≤ 255 := by omega
          exact Nat.lt_of_le_of_lt (Nat.mul_le_mul_right 72057594037927936 hx3) (by decide)
def zig (n : Int) : Nat := if n < 0 then 2 * (-(n + 1)).toNat + 1 else 2 * n.toNat
def unzig (v : Nat) : Int := if v % 2 = 1 then -((v / 2 : Nat) : Int) - 1 else ((v / 2 : Nat) : Int)
def in64 (n : Int) : Prop := -9223372036854775808 ≤ n ∧ n ≤ 9223372036854775807
theorem zig_lt {n : Int} (h : in64 n) : zig n < 18446744073709551616 := by unfold in64 at h; unfold zig; split <;> omega
theorem zig_unzig (v : Nat) : zig (unzig v) = v := by
  unfold unzig zig
  split <;> split <;> omega
theorem unzig_in {v : Nat} (h : v < 18446744073709551616) : in64 (unzig v) := by
  unfold in64 unzig
  split
  · have : v / 2 < 9223372036854775808 := by omega
    omega
  · have : v / 2 < 9223372036854775808 := by omega
    omega
def sint (n : Int) : List Nat := vint (zig n)
theorem sint_len {n : Int} (h : in64 n) : 1 ≤ (sint n).length ∧ (sint n).length ≤ 10 := ⟨vint_pos _, vint_len10 (zig_lt h)⟩
def dec (l : List Nat) : Option (Int × List Nat) := if (uv l 0 0).2 = 0 then none else some (unzig (uv l 0 0).1, l.drop (uv l 0 0).2)
theorem dec_inv {l r : List Nat} {x : Int} (hl : ∀ c ∈ l, c < 256) (h : dec l = some (x, r)) : in64 x ∧ l = sint x ++ r := by
  unfold dec at h
  split at h
  · cases h
  rename_i h1
  obtain ⟨y, r', e1, e2, e3, e4, e5, e6⟩ := uv_inv l 0 0 (uv l 0 0).1 (uv l 0 0).2 hl rfl h1
  simp only [Option.some.injEq, Prod.mk.injEq] at h
  obtain ⟨h2, h3⟩ := h
  simp only [Nat.mul_zero, Nat.pow_zero, Nat.mul_one, Nat.zero_add] at e3 e5 e2
  rw [e3] at h2
  subst h2
  rw [sint, zig_unzig]
  refine ⟨unzig_in e5, ?_⟩
  rw [e2] at h3
  subst h3
  conv => lhs; rw [e1]
  rw [e1]
  simp
def keyL (b : Bx) : List Nat := sint b.lo.x ++ (sint b.lo.y ++ (sint b.hi.x ++ sint b.hi.y))
def unkeyS (l : List Nat) : Option Bx :=
  match dec l with
  | none => none
  | some (a, l1) => match dec l1 with
    | none => none
    | some (b, l2) => match dec l2 with
      | none => none
      | some (c, l3) => match dec l3 with
        | none => none
        | some (d, l4) => if l4 = [] ∧ okBx ⟨⟨a, b⟩, ⟨c, d⟩⟩ = true then some ⟨⟨a, b⟩, ⟨c, d⟩⟩ else none
def inBx (b : Bx) : Prop := in64 b.lo.x ∧ in64 b.lo.y ∧ in64 b.hi.x ∧ in64 b.hi.y
theorem okBx_in {b : Bx} (h : okBx b = true) : inBx b := by
  unfold okBx ckBox okPt farB at h
  simp only [decide_eq_true_eq] at h
  split at h
  · split at h
    · cases h
    · rename_i h1 _
      simp only [Bool.and_eq_true, Bool.not_eq_true', Bool.or_eq_false_iff, decide_eq_false_iff_not] at h1
      unfold inBx in64
      omega
  · cases h
theorem unkey_inv {l : List Nat} {b : Bx} (hl : ∀ c ∈ l, c < 256) (h : unkeyS l = some b) : okBx b = true ∧ l = keyL b := by
  unfold unkeyS at h
  split at h
  · cases h
  rename_i a l1 d1
  split at h
  · cases h
  rename_i c l2 d2
  split at h
  · cases h
  rename_i d l3 d3
  split at h
  · cases h
  rename_i f l4 d4
  split at h
  · rename_i hh
    obtain ⟨rfl, ho⟩ := hh
    obtain ⟨i1, e1⟩ := dec_inv hl d1
    have hl1 : ∀ c ∈ l1, c < 256 := fun c hc => hl c (by rw [e1]; simp [hc])
    obtain ⟨i2, e2⟩ := dec_inv hl1 d2
    have hl2 : ∀ c ∈ l2, c < 256 := fun c hc => hl1 c (by rw [e2]; simp [hc])
    obtain ⟨i3, e3⟩ := dec_inv hl2 d3
    have hl3 : ∀ c ∈ l3, c < 256 := fun c hc => hl2 c (by rw [e3]; simp [hc])
    obtain ⟨i4, e4⟩ := dec_inv hl3 d4
    rw [List.append_nil] at e4
    simp only [Option.some.injEq] at h
    subst h
    exact ⟨ho, by rw [e1, e2, e3, e4]; rfl⟩
  · cases h
theorem keyL_byte {b : Bx} {c : Nat} (h : c ∈ keyL b) : c < 256 := by
  unfold keyL at h
  simp only [List.mem_append] at h
  rcases h with h | h | h | h <;> exact vint_byte h
theorem keyL_len {b : Bx} (h : inBx b) : 4 ≤ (keyL b).length ∧ (keyL b).length ≤ 40 := by
  obtain ⟨h1, h2, h3, h4⟩ := h
  have := sint_len h1
  have := sint_len h2
  have := sint_len h3
  have := sint_len h4
  unfold keyL
  simp only [List.length_append]
  omega
end Pg
namespace Pg

theorem okPt_iff (p : Pt) : okPt p = true ↔ (-1073741823 ≤ p.x ∧ p.x ≤ 1073741823) ∧ (-1073741823 ≤ p.y ∧ p.y ≤ 1073741823) := by
  simp [okPt, farB]
theorem sgn_zero (n : Int) : (sgn n == 0) = decide (n = 0) := by
  unfold sgn
  split
  · have : n ≠ 0 := by omega
    simp [this]
  · split
    · have : n ≠ 0 := by omega
      simp [this]
    · have : n = 0 := by omega
      simp [this]
theorem okBx_span {a b : Pt} (ha : okPt a = true) (hb : okPt b = true) : okBx (span a b) = true := by
  have h1 : okPt (span a b).lo = true := by rw [okPt_iff] at *; simp only [span]; omega
  have h2 : okPt (span a b).hi = true := by rw [okPt_iff] at *; simp only [span]; omega
  have h3 : ¬ (span a b).hi.x < (span a b).lo.x := by simp only [span]; omega
  have h4 : ¬ (span a b).hi.y < (span a b).lo.y := by simp only [span]; omega
  simp [okBx, ckBox, h1, h2, h3, h4]
theorem onS_eq (a b p : Pt) : onS a b p = ((okPt a && okPt b && okPt p) && (orient a b p == 0) && bhas (span a b) p) := by
  by_cases h : (okPt a && okPt b && okPt p) = true
  · have ha : okPt a = true := by simp_all
    have hb : okPt b = true := by simp_all
    have hp : okPt p = true := by simp_all
    rw [orient, sgn_zero, cross, if_pos h, onS, h, bhas, okBx_span ha hb, hp]
    simp
  · have h : (okPt a && okPt b && okPt p) = false := by simpa using h
    rw [onS, h]
    simp
end Pg
namespace Pg
/- plain law of rings: the program's look at a ring is the reference's -/

theorem crossR_swap (a b c : Pt) : crossR b a c = - crossR a b c := by unfold crossR; grind
theorem span_swap (a b : Pt) : span b a = span a b := by unfold span; congr 1 <;> congr 1 <;> omega
theorem onS_swap (a b p : Pt) : onS b a p = onS a b p := by
  unfold onS
  rw [span_swap, crossR_swap, Bool.and_comm (okPt b) (okPt a)]
  congr 2
  rw [decide_eq_decide]
  omega
theorem properR_swap2 (a b c d : Pt) : properR c d a b = properR a b c d := by
  unfold properR
  rw [Bool.and_comm]
theorem meetS_swap2 (a b c d : Pt) : meetS c d a b = meetS a b c d := by
  unfold meetS
  rw [properR_swap2]
  cases okPt a <;> cases okPt b <;> cases okPt c <;> cases okPt d <;> simp
  cases properR a b c d <;> cases onS a b c <;> cases onS a b d <;> cases onS c d a <;> cases onS c d b <;> rfl
theorem onS_iff (a b p : Pt) : onS a b p = true ↔ (okPt a = true ∧ okPt b = true ∧ okPt p = true) ∧ crossR a b p = 0 ∧ (min a.x b.x ≤ p.x ∧ p.x ≤ max a.x b.x) ∧ (min a.y b.y ≤ p.y ∧ p.y ≤ max a.y b.y) := by
  simp only [onS, bhasR, Bool.and_eq_true, decide_eq_true_eq, and_assoc]
  rfl
theorem shorter (p q r s : Int) (hp : 0 ≤ p) (hq : 0 ≤ q) (hr : 0 ≤ r) (hs : 0 ≤ s) (h : p * s = q * r) : (r ≤ p ∧ s ≤ q) ∨ (p ≤ r ∧ q ≤ s) := by
  by_cases h1 : r ≤ p
  · by_cases h2 : s ≤ q
    · exact .inl ⟨h1, h2⟩
    · right
      refine ⟨?_, by omega⟩
      apply Int.not_lt.1
      intro h3
      have e1 : p * (q + 1) ≤ p * s := Int.mul_le_mul_of_nonneg_left (by omega) hp
      have e2 : q * r ≤ q * p := Int.mul_le_mul_of_nonneg_left (by omega) hq
      grind
  · by_cases h2 : q ≤ s
    · exact .inr ⟨by omega, h2⟩
    · exfalso
      have e1 : q * (p + 1) ≤ q * r := Int.mul_le_mul_of_nonneg_left (by omega) hq
      have e2 : p * s ≤ p * q := Int.mul_le_mul_of_nonneg_left (by omega) hp
      grind
theorem same_way (p q r s : Int) (h : p * s = q * r) (hd : 0 < p * r + q * s) :
    ((min p 0 ≤ r ∧ r ≤ max p 0) ∧ (min q 0 ≤ s ∧ s ≤ max q 0)) ∨ ((min r 0 ≤ p ∧ p ≤ max r 0) ∧ (min s 0 ≤ q ∧ q ≤ max s 0)) := by
  have key : 0 ≤ p * r ∧ 0 ≤ q * s := by
    have e : (p * r) * (q * s) = (q * r) * (q * r) := by
      have : (p * r) * (q * s) = (p * s) * (q * r) := by grind
      rw [this, h]
    have e2 : 0 ≤ (q * r) * (q * r) := by
      rcases Int.le_total 0 (q * r) with h | h
      · exact Int.mul_nonneg h h
      · exact Int.mul_nonneg_of_nonpos_of_nonpos h h
    generalize p * r = X at *
    generalize q * s = Y at *
    constructor
    · apply Int.not_lt.1
      intro hx
      have : X * Y < 0 := Int.mul_neg_of_neg_of_pos hx (by omega)
      omega
    · apply Int.not_lt.1
      intro hy
      have : X * Y < 0 := Int.mul_neg_of_pos_of_neg (by omega) hy
      omega
  obtain ⟨k1, k2⟩ := key
  have sgn2 : ∀ a b : Int, 0 ≤ a * b → (0 ≤ a ∧ 0 ≤ b) ∨ (a ≤ 0 ∧ b ≤ 0) := fun a b hab => by
    rcases Int.lt_trichotomy a 0 with ha | ha | ha
    · right
      refine ⟨by omega, ?_⟩
      apply Int.not_lt.1
      intro hb
      have := Int.mul_neg_of_neg_of_pos ha hb
      omega
    · omega
    · left
      refine ⟨by omega, ?_⟩
      apply Int.not_lt.1
      intro hb
      have := Int.mul_neg_of_pos_of_neg ha hb
      omega
  rcases sgn2 _ _ k1 with ⟨a1, a2⟩ | ⟨a1, a2⟩ <;> rcases sgn2 _ _ k2 with ⟨b1, b2⟩ | ⟨b1, b2⟩
  · have := shorter p q r s a1 b1 a2 b2 h
    omega
  · have := shorter p (-q) r (-s) a1 (by omega) a2 (by omega) (by grind)
    omega
  · have := shorter (-p) q (-r) s (by omega) b1 (by omega) b2 (by grind)
    omega
  · have := shorter (-p) (-q) (-r) (-s) (by omega) (by omega) (by omega) (by omega) (by grind)
    omega
theorem same_way' (p q r s : Int) (hn : r ≠ 0 ∨ s ≠ 0) (hb : (min p 0 ≤ r ∧ r ≤ max p 0) ∧ (min q 0 ≤ s ∧ s ≤ max q 0)) : 0 < p * r + q * s := by
  have k : ∀ a b : Int, (min a 0 ≤ b ∧ b ≤ max a 0) → 0 ≤ a * b ∧ (b ≠ 0 → 0 < a * b) := fun a b hab => by
    rcases Int.lt_trichotomy b 0 with hb | hb | hb
    · have := Int.mul_pos_of_neg_of_neg (a := a) (b := b) (by omega) hb
      exact ⟨by omega, fun _ => this⟩
    · subst hb; simp
    · have := Int.mul_pos (a := a) (b := b) (by omega) hb
      exact ⟨by omega, fun _ => this⟩
  have k1 := k p r hb.1
  have k2 := k q s hb.2
  rcases hn with hn | hn
  · have := k1.2 hn; omega
  · have := k2.2 hn; omega

theorem over_eq {a c b : Pt} (ha : okPt a = true) (hc : okPt c = true) (hb : okPt b = true) (hac : a ≠ c) (hbc : b ≠ c) : (onS a c b || onS c b a) = overR a c b := by
  rw [Bool.eq_iff_iff, Bool.or_eq_true, onS_iff, onS_iff]
  have hx : cross c a b = crossR c a b := by simp [cross, ha, hb, hc]
  simp only [overR, hx, ha, hb, hc, Bool.and_eq_true, decide_eq_true_eq, ne_eq, hac, hbc, not_false_eq_true, true_and, and_true]
  have e1 : crossR a c b = 0 ↔ (a.x - c.x) * (b.y - c.y) = (a.y - c.y) * (b.x - c.x) := by unfold crossR; grind
  have e2 : crossR c b a = 0 ↔ (a.x - c.x) * (b.y - c.y) = (a.y - c.y) * (b.x - c.x) := by unfold crossR; grind
  have e3 : crossR c a b = 0 ↔ (a.x - c.x) * (b.y - c.y) = (a.y - c.y) * (b.x - c.x) := by unfold crossR; grind
  have n1 : a.x - c.x ≠ 0 ∨ a.y - c.y ≠ 0 := by
    apply Decidable.byContradiction
    intro h
    exact hac (Pt.ext' (by omega) (by omega))
  have n2 : b.x - c.x ≠ 0 ∨ b.y - c.y ≠ 0 := by
    apply Decidable.byContradiction
    intro h
    exact hbc (Pt.ext' (by omega) (by omega))
  rw [e1, e2, e3]
  unfold dotR
  constructor
  · rintro (⟨h, h1⟩ | ⟨h, h1⟩)
    · exact ⟨h, same_way' _ _ _ _ n2 (by omega)⟩
    · have := same_way' (b.x - c.x) (b.y - c.y) (a.x - c.x) (a.y - c.y) n1 (by omega)
      exact ⟨h, by grind⟩
  · rintro ⟨h, h1⟩
    rcases same_way _ _ _ _ h h1 with h2 | h2
    · exact .inl ⟨h, by omega⟩
    · exact .inr ⟨h, by omega⟩

theorem any_range_iff (n : Nat) (f : Nat → Bool) : (List.range n).any f = true ↔ ∃ i, i < n ∧ f i = true := by
  simp [List.any_eq_true]
theorem nx_of_lt {l : List Pt} {i : Nat} (h : i + 1 < l.length) : nx l i = pt l (i + 1) := by rw [nx, Nat.mod_eq_of_lt h]
theorem nx_last {l : List Pt} {i : Nat} (h : i + 1 = l.length) : nx l i = pt l 0 := by rw [nx, h, Nat.mod_self]
theorem okPt_pt {l : List Pt} (h : l.all okPt = true) {i : Nat} (hi : i < l.length) : okPt (pt l i) = true := by
  rw [List.all_eq_true] at h
  have e : pt l i = l[i] := by rw [pt, List.getD_eq_getElem?_getD, List.getElem?_eq_getElem hi]; rfl
  rw [e]
  exact h _ (List.getElem_mem hi)
theorem okPt_nx {l : List Pt} (h : l.all okPt = true) {i : Nat} (hi : i < l.length) : okPt (nx l i) = true := okPt_pt h (Nat.mod_lt _ (by omega))

theorem spoil_clash {l : List Pt} (h3 : 3 ≤ l.length) (hok : l.all okPt = true) (hd : ∀ i j, i < l.length → j < l.length → i ≠ j → pt l i ≠ pt l j) {i k : Nat} (hik : i < k) (hk : k < l.length) :
    spoil l i k = clash l i k ∧ spoil l k i = clash l i k := by
  have hi : i < l.length := by omega
  have hne : pt l i ≠ pt l k := hd i k hi hk (by omega)
  have hm : (i + 1) % l.length = i + 1 := Nat.mod_eq_of_lt (by omega)
  unfold spoil clash
  rw [if_neg hne, if_neg (Ne.symm hne)]
  by_cases h1 : k = i + 1
  · subst h1
    have hw : ¬ (i + 1 + 1) % l.length = i := by
      by_cases e : i + 1 + 1 = l.length
      · rw [e, Nat.mod_self]; omega
      · rw [Nat.mod_eq_of_lt (by omega)]; omega
    have hnx : nx l i = pt l (i + 1) := nx_of_lt (by omega)
    have hb : nx l (i + 1) ≠ pt l (i + 1) := by
      by_cases e : i + 1 + 1 = l.length
      · rw [nx_last e]; exact hd _ _ (by omega) hk (by omega)
      · rw [nx_of_lt (by omega)]; exact hd _ _ (by omega) hk (by omega)
    rw [if_pos hm, if_pos rfl, if_neg hw, if_pos hm, hnx, over_eq (okPt_pt hok hi) (okPt_pt hok hk) (okPt_nx hok hk) hne hb]
    exact ⟨rfl, rfl⟩
  · rw [if_neg h1]
    have hm1 : ¬ (i + 1) % l.length = k := by omega
    rw [if_neg hm1, if_neg hm1]
    by_cases h2 : i = 0 ∧ k + 1 = l.length
    · obtain ⟨rfl, hl⟩ := h2
      have hw : (k + 1) % l.length = 0 := by rw [hl, Nat.mod_self]
      have hnx : nx l 0 = pt l 1 := nx_of_lt (by omega)
      have hnk : nx l k = pt l 0 := nx_last hl
      have e : (onS (pt l k) (nx l k) (nx l 0) || onS (pt l 0) (nx l 0) (pt l k)) = overR (pt l 1) (pt l 0) (pt l k) := by
        rw [hnx, hnk, ← over_eq (okPt_pt hok (by omega)) (okPt_pt hok hi) (okPt_pt hok hk) (hd _ _ (by omega) hi (by omega)) (Ne.symm hne), onS_swap (pt l 1) (pt l 0), onS_swap (pt l 0) (pt l k), Bool.or_comm]
      rw [if_pos hw, if_pos hw, if_pos ⟨rfl, hl⟩, e]
      exact ⟨rfl, rfl⟩
    · have hw : ¬ (k + 1) % l.length = i := by
        by_cases e : k + 1 = l.length
        · rw [e, Nat.mod_self]; omega
        · rw [Nat.mod_eq_of_lt (by omega)]; omega
      rw [if_neg hw, if_neg hw, if_neg h2, nx_of_lt (by omega), meetS_swap2]
      exact ⟨rfl, rfl⟩
theorem spoilAny_eq {l : List Pt} (h3 : 3 ≤ l.length) (hok : l.all okPt = true) : spoilAny l = clashAny l := by
  by_cases hd : ∀ i j, i < l.length → j < l.length → i ≠ j → pt l i ≠ pt l j
  · rw [Bool.eq_iff_iff]
    unfold spoilAny clashAny
    simp only [any_range_iff, Bool.and_eq_true, decide_eq_true_eq, Bool.or_eq_true]
    constructor
    · rintro ⟨i, hi, k, hk, hn, hs⟩
      rcases Nat.lt_or_ge i k with h | h
      · exact ⟨i, hi, k, hk, h, .inr ((spoil_clash h3 hok hd h hk).1 ▸ hs)⟩
      · have hki : k < i := by omega
        exact ⟨k, hk, i, hi, hki, .inr ((spoil_clash h3 hok hd hki hi).2 ▸ hs)⟩
    · rintro ⟨i, hi, k, hk, h, hs | hs⟩
      · exact absurd hs (hd i k hi hk (by omega))
      · exact ⟨i, hi, k, hk, by omega, (spoil_clash h3 hok hd h hk).1 ▸ hs⟩
  · have : ∃ i j, i < j ∧ j < l.length ∧ pt l i = pt l j := by
      apply Classical.byContradiction
      intro hno
      apply hd
      intro i j hi hj hij e
      rcases Nat.lt_or_ge i j with h | h
      · exact hno ⟨i, j, h, hj, e⟩
      · exact hno ⟨j, i, by omega, hi, e.symm⟩
    obtain ⟨i, j, hij, hj, e⟩ := this
    have e1 : spoilAny l = true := by
      unfold spoilAny
      simp only [any_range_iff, Bool.and_eq_true, decide_eq_true_eq]
      exact ⟨i, by omega, j, hj, by omega, by unfold spoil; rw [if_pos e]⟩
    have e2 : clashAny l = true := by
      unfold clashAny
      simp only [any_range_iff, Bool.and_eq_true, decide_eq_true_eq, Bool.or_eq_true]
      exact ⟨i, by omega, j, hj, hij, .inl e⟩
    rw [e1, e2]
theorem ckRing_eq (l : List Pt) : ckRing l = ckRingR l := by
  unfold ckRing ckRingR
  by_cases h : l.length < 3 ∨ 64 < l.length
  · rw [if_pos h, if_pos h]
  · rw [if_neg h, if_neg h]
    by_cases hok : l.all okPt = true
    · rw [if_pos hok, if_pos hok, spoilAny_eq (by omega) hok]
    · rw [if_neg hok, if_neg hok]
theorem ckBox_same (p : Pt) : ckBox ⟨p, p⟩ = if okPt p then 0 else 2 := by
  unfold ckBox
  cases h : okPt p <;> simp
theorem ckOb_eq (o : Ob) : ckOb o = ckObR o := by
  unfold ckOb ckObR
  rw [ckRing_eq, ckBox_same]
theorem ckQu_eq (q : Qu) : ckQu q = ckQuR q := by
  unfold ckQu ckQuR
  rw [ckRing_eq]
end Pg
set_option linter.unusedVariables false
set_option linter.unusedSimpArgs false
namespace Pg
/- plain law of a segment and a box: by the separating axes -/

def inR (r : Bx) (p : Pt) : Prop := (r.lo.x ≤ p.x ∧ p.x ≤ r.hi.x) ∧ (r.lo.y ≤ p.y ∧ p.y ≤ r.hi.y)
section core
variable {lx ly hx hy ax ay bx b_y : Int}
end core
end Pg
set_option linter.unusedVariables false
set_option linter.unusedSimpArgs false
namespace Pg
/- a segment and a box: the program's look, the reference's look, and 'no axis parts them' are one -/

theorem okBx_iff (r : Bx) : okBx r = true ↔ (okPt r.lo = true ∧ okPt r.hi = true) ∧ r.lo.x ≤ r.hi.x ∧ r.lo.y ≤ r.hi.y := by
  unfold okBx ckBox
  cases h1 : okPt r.lo <;> cases h2 : okPt r.hi <;> simp
end Pg
set_option linter.unusedVariables false
set_option linter.unusedSimpArgs false
namespace Pg
/- the parity of a ray's crossings: it telescopes; it stays where no edge is met -/

end Pg
set_option linter.unusedVariables false
set_option linter.unusedSimpArgs false
namespace Pg
/- plain laws of rings and boxes: the program's looks are the reference's -/

def inB (v b : Bx) : Prop := (v.lo.x ≤ b.lo.x ∧ b.hi.x ≤ v.hi.x) ∧ v.lo.y ≤ b.lo.y ∧ b.hi.y ≤ v.hi.y
theorem unionGo_spec (bs : List Bx) : ∀ u : Bx, (∀ b, b ∈ bs → ckBox b = 0) → (unionGo u bs).2 = 0 ∧ inB (unionGo u bs).1 u ∧ (∀ b, b ∈ bs → inB (unionGo u bs).1 b) ∧ (∀ v, inB v u → (∀ b, b ∈ bs → inB v b) → inB v (unionGo u bs).1) := by
  induction bs with
  | nil => intro u _; exact ⟨rfl, by unfold inB unionGo; simp only; omega, fun b hb => by simp at hb, fun v h _ => h⟩
  | cons b r ih =>
    intro u h
    have h0 := h b (by simp)
    rw [unionGo, if_pos h0]
    obtain ⟨i1, i2, i3, i4⟩ := ih (bjoin u b) fun c hc => h c (by simp [hc])
    refine ⟨i1, ?_, ?_, ?_⟩
    · revert i2
      generalize (unionGo (bjoin u b) r).1 = R
      unfold inB bjoin
      simp only
      omega
    · intro c hc
      rcases List.mem_cons.1 hc with rfl | hc
      · revert i2
        generalize (unionGo (bjoin u c) r).1 = R
        unfold inB bjoin
        simp only
        omega
      · exact i3 c hc
    · intro v hu hb
      refine i4 v ?_ fun c hc => hb c (by simp [hc])
      have hbb := hb b (by simp)
      revert hu hbb
      unfold inB bjoin
      simp only
      omega
theorem ring_lens {l : List Pt} (h : ckRing l = 0) : 3 ≤ l.length ∧ l.length ≤ 64 ∧ l.all okPt = true := by
  unfold ckRing at h
  split at h
  · omega
  · rename_i hn
    split at h
    · rename_i hok
      exact ⟨by omega, by omega, hok⟩
    · omega
theorem mem_pt {l : List Pt} {i : Nat} (h : i < l.length) : pt l i ∈ l := by
  have e : pt l i = l[i] := by rw [pt, List.getD_eq_getElem?_getD, List.getElem?_eq_getElem h]; rfl
  rw [e]
  exact List.getElem_mem h
theorem pt_mem {l : List Pt} {p : Pt} (h : p ∈ l) : ∃ i, i < l.length ∧ pt l i = p := by
  obtain ⟨i, hi, e⟩ := List.getElem_of_mem h
  exact ⟨i, hi, by rw [pt, List.getD_eq_getElem?_getD, List.getElem?_eq_getElem hi]; exact e⟩
theorem ringBx_spec {l : List Pt} (hl : 1 ≤ l.length) (hok : l.all okPt = true) : (union (l.map fun p => ⟨p, p⟩)).2 = 0 ∧ (∀ i, i < l.length → inR (ringBx l) (pt l i)) ∧ (∀ v, (∀ i, i < l.length → inR v (pt l i)) → inB v (ringBx l)) ∧ okBx (ringBx l) = true := by
  have hck : ∀ p, p ∈ l → ckBox ⟨p, p⟩ = 0 := fun p hp => by rw [ckBox_same, if_pos (List.all_eq_true.1 hok p hp)]
  match l, hl, hok, hck with
  | p :: r, _, hok, hck =>
    have hs := unionGo_spec ((p :: r).map fun p => ⟨p, p⟩) ⟨p, p⟩ (by
      intro b hb
      obtain ⟨q, hq, rfl⟩ := List.mem_map.1 hb
      exact hck q hq)
    obtain ⟨s1, s2, s3, s4⟩ := hs
    have h1 : ∀ i, i < (p :: r).length → inR (ringBx (p :: r)) (pt (p :: r) i) := by
      intro i hi
      have := s3 ⟨pt (p :: r) i, pt (p :: r) i⟩ (List.mem_map.2 ⟨_, mem_pt hi, rfl⟩)
      unfold inB at this
      unfold inR
      exact ⟨this.1, this.2⟩
    have h2 : ∀ v, (∀ i, i < (p :: r).length → inR v (pt (p :: r) i)) → inB v (ringBx (p :: r)) := by
      intro v hv
      refine s4 v ?_ ?_
      · have := hv 0 (by simp)
        exact ⟨this.1, this.2⟩
      · intro b hb
        obtain ⟨q, hq, rfl⟩ := List.mem_map.1 hb
        obtain ⟨i, hi, rfl⟩ := pt_mem hq
        have := hv i hi
        exact ⟨this.1, this.2⟩
    refine ⟨s1, h1, h2, ?_⟩
    rw [okBx_iff]
    have a1 := h1 0 (by simp)
    have a2 := h2 ⟨⟨-1073741823, -1073741823⟩, ⟨1073741823, 1073741823⟩⟩ (fun i hi => by
      have := (okPt_iff _).1 (okPt_pt hok hi)
      exact this)
    rw [okPt_iff, okPt_iff]
    unfold inR at a1
    unfold inB at a2
    simp only at a2
    omega

end Pg
set_option linter.unusedVariables false
set_option linter.unusedSimpArgs false
namespace Pg
/- plain laws of objects and queries: what the statements of chapter 6 say -/

theorem ck_kinds {o : Ob} (h : ckOb o = 0) : (isBox o = true ∧ okBx (obBox o) = true) ∨ (o.kind = 4 ∧ isBox o = false ∧ ckRing o.pts = 0) := by
  obtain ⟨k, l⟩ := o
  unfold ckOb at h
  simp only at h
  split at h
  · rename_i e
    subst e
    left
    split at h
    · exact ⟨rfl, by simpa [okBx, obBox] using h⟩
    · omega
  · split at h
    · rename_i e
      subst e
      left
      split at h
      · refine ⟨rfl, ?_⟩
        unfold ckInt at h
        split at h
        · rename_i hp
          split at h
          · omega
          · rw [okBx_iff]
            simp only [obBox, okPt_iff] at *
            simp
            omega
        · omega
      · omega
    · split at h
      · rename_i e
        subst e
        left
        split at h
        · exact ⟨rfl, by simpa [okBx, obBox] using h⟩
        · omega
      · split at h
        · rename_i n1 n2 n3 e
          subst e
          exact .inr ⟨rfl, rfl, h⟩
        · omega
theorem bounds_okBx {o : Ob} (h : ckOb o = 0) : okBx (boundsS o) = true := by
  rcases ck_kinds h with ⟨h1, h2⟩ | ⟨_, h1, h2⟩
  · rw [boundsS, h1]; exact h2
  · rw [boundsS, h1]
    obtain ⟨a, _, b⟩ := ring_lens h2
    exact (ringBx_spec (by omega) b).2.2.2
theorem okBx_ck {r : Bx} : okBx r = true ↔ ckBox r = 0 := by unfold okBx; rw [decide_eq_true_eq]
theorem union2 {a b : Bx} (ha : ckBox a = 0) (hb : ckBox b = 0) : (union [a, b]).2 = 0 ∧ okBx (union [a, b]).1 = true ∧ inB (union [a, b]).1 a ∧ inB (union [a, b]).1 b := by
  have h := unionGo_spec [a, b] a (by intro c hc; simp at hc; rcases hc with rfl | rfl <;> assumption)
  obtain ⟨h1, h2, h3, h4⟩ := h
  have hA := (okBx_iff a).1 (okBx_ck.2 ha)
  have hB := (okBx_iff b).1 (okBx_ck.2 hb)
  refine ⟨h1, ?_, h3 a (by simp), h3 b (by simp)⟩
  have hl : inB ⟨⟨-1073741823, -1073741823⟩, ⟨1073741823, 1073741823⟩⟩ (union [a, b]).1 := h4 _ (by rw [okPt_iff, okPt_iff] at hA; unfold inB; simp only; omega) (by
    intro c hc
    rw [okPt_iff, okPt_iff] at hA hB
    simp at hc
    rcases hc with rfl | rfl <;> (unfold inB; simp only; omega))
  have h3a := h3 a (by simp)
  have e : (union [a, b]).1 = (unionGo a [a, b]).1 := rfl
  rw [okBx_iff, okPt_iff, okPt_iff, e]
  rw [e] at hl
  unfold inB at hl h3a
  simp only at hl
  rw [okPt_iff, okPt_iff] at hA
  omega
end Pg
set_option linter.unusedVariables false
set_option linter.unusedSimpArgs false
namespace Pg

structure Fr where
  num : Nat
  den : Nat
instance : DecidableEq Fr := fun a b =>
  if h : a.num = b.num ∧ a.den = b.den then isTrue (by cases a; cases b; simp_all) else isFalse (fun e => h (by subst e; exact ⟨rfl, rfl⟩))
instance : Inhabited Fr := ⟨⟨0, 0⟩⟩
def fNone : Fr := ⟨0, 0⟩
def lowF (n d : Nat) : Fr := ⟨n / Nat.gcd d (n % d), d / Nat.gcd d (n % d)⟩
def cmpP (a b c d : Nat) : Int := sgn (((a * b : Nat) : Int) - ((c * d : Nat) : Int))
def cmpF (a b : Fr) : Int :=
  if a.den = 0 then (if b.den = 0 then 0 else 1) else if b.den = 0 then -1 else cmpP a.num b.den b.num a.den
def minGo (o : Fr) : List Fr → Fr
  | [] => o
  | d :: r => minGo (if cmpF d o < 0 then d else o) r
def minF : List Fr → Fr
  | [] => fNone
  | d :: r => minGo d r

theorem gcd_mod (d n : Nat) : Nat.gcd d (n % d) = Nat.gcd n d := by rw [Nat.gcd_comm n d, Nat.gcd_rec d n, Nat.gcd_comm]
theorem lowF_mul {n d : Nat} (hd : 0 < d) : (lowF n d).num * d = n * (lowF n d).den ∧ 0 < (lowF n d).den ∧ (lowF n d).den ≤ d ∧ (lowF n d).num ≤ n := by
  unfold lowF
  rw [gcd_mod]
  have h1 := Nat.gcd_dvd_left n d
  have h2 := Nat.gcd_dvd_right n d
  have h3 : 0 < Nat.gcd n d := Nat.gcd_pos_of_pos_right n hd
  simp only
  refine ⟨?_, Nat.div_pos (Nat.le_of_dvd hd h2) h3, Nat.div_le_self _ _, Nat.div_le_self _ _⟩
  rw [← Nat.mul_div_assoc _ h2, Nat.div_mul_right_comm h1]
theorem lowF_one (n : Nat) : lowF n 1 = ⟨n, 1⟩ := by unfold lowF; simp
theorem sgn_lt (n : Int) : sgn n < 0 ↔ n < 0 := by unfold sgn; split <;> (try split) <;> omega
theorem minGo_mem (l : List Fr) : ∀ o, minGo o l = o ∨ minGo o l ∈ l := by
  induction l with
  | nil => intro o; exact .inl rfl
  | cons d r ih =>
    intro o
    rw [minGo]
    rcases ih (if cmpF d o < 0 then d else o) with h | h
    · rw [h]
      split
      · exact .inr (by simp)
      · exact .inl rfl
    · exact .inr (by simp [h])
theorem minF_mem {l : List Fr} (h : l ≠ []) : minF l ∈ l := by
  cases l with
  | nil => exact absurd rfl h
  | cons d r =>
    rw [minF]
    rcases minGo_mem r d with h | h
    · rw [h]; simp
    · simp [h]
def sqs (x y : Int) : Nat := x.natAbs * x.natAbs + y.natAbs * y.natAbs
def boxN (b : Bx) (p : Pt) : Nat := sqs (gap p.x b.lo.x b.hi.x) (gap p.y b.lo.y b.hi.y)
def segF (a b p : Pt) : Fr :=
  if okPt a && okPt b && okPt p then
    (if a = b ∨ dotR a b p ≤ 0 then ⟨sqs (a.x - p.x) (a.y - p.y), 1⟩
     else if dotR b a p ≤ 0 then ⟨sqs (b.x - p.x) (b.y - p.y), 1⟩
     else lowF ((crossR a b p).natAbs * (crossR a b p).natAbs) (sqs (a.x - b.x) (a.y - b.y)))
  else fNone
def segsF (l : List Pt) (p : Pt) : List Fr := (List.range l.length).map fun i => segF (pt l i) (nx l i) p
def distF (o : Ob) (p : Pt) : Fr :=
  if ckOb o = 0 ∧ okPt p = true then (if isBox o then ⟨boxN (obBox o) p, 1⟩ else if rhas o.pts p then ⟨0, 1⟩ else minF (segsF o.pts p)) else fNone

theorem sqs_zero {x y : Int} (h : sqs x y = 0) : x = 0 ∧ y = 0 := by
  unfold sqs at h
  have h1 : x.natAbs * x.natAbs = 0 := by omega
  have h2 : y.natAbs * y.natAbs = 0 := by omega
  have h3 := Nat.mul_eq_zero.1 h1
  have h4 := Nat.mul_eq_zero.1 h2
  omega
theorem sqs_pos {a b : Pt} (h : a ≠ b) : 0 < sqs (a.x - b.x) (a.y - b.y) := by
  rcases Nat.eq_zero_or_pos (sqs (a.x - b.x) (a.y - b.y)) with h0 | h0
  · obtain ⟨h1, h2⟩ := sqs_zero h0
    exact absurd (Pt.ext' (by omega) (by omega)) h
  · exact h0
theorem distF_poly {o : Ob} {p : Pt} (ho : ckOb o = 0) (op : okPt p = true) (h : isBox o = false) : distF o p = if rhas o.pts p then ⟨0, 1⟩ else minF (segsF o.pts p) := by
  unfold distF; rw [if_pos ⟨ho, op⟩, if_neg (by simp [h])]
end Pg
set_option linter.unusedVariables false
set_option linter.unusedSimpArgs false
namespace Pg

theorem mem_segsF {l : List Pt} {p : Pt} {x : Fr} (h : x ∈ segsF l p) : ∃ i, i < l.length ∧ segF (pt l i) (nx l i) p = x := by
  unfold segsF at h
  obtain ⟨i, hi, e⟩ := List.mem_map.1 h
  exact ⟨i, List.mem_range.1 hi, e⟩
end Pg
set_option linter.unusedVariables false
set_option linter.unusedSimpArgs false
namespace Pg

def cX (b : Bx) : Int := b.lo.x + b.hi.x
def cY (b : Bx) : Int := b.lo.y + b.hi.y
def ahd (l : List Bx) (i k : Nat) : Bool :=
  decide (cX (l.getD i bzero) < cX (l.getD k bzero)) || (decide (cX (l.getD i bzero) = cX (l.getD k bzero)) && (decide (cY (l.getD i bzero) < cY (l.getD k bzero)) || (decide (cY (l.getD i bzero) = cY (l.getD k bzero)) && decide (i < k))))
def rank (l : List Bx) (i : Nat) : Nat := (List.range l.length).countP fun k => ahd l k i
def splitS (l : List Bx) : List Bool := (List.range l.length).map fun i => decide (l.length - l.length / 2 ≤ rank l i)
theorem splitS_len (l : List Bx) : (splitS l).length = l.length := by simp [splitS]
end Pg
