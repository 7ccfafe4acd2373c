/-
  Plain definitions: what the functions of plane, segm, ring, rel and of the references reckon, on Lean's integers and lists. No program, no memory.
  Plain words for package rel: cut, rings, meets, match.
  Plain laws of numbers as bytes: groups of seven digits, written and read.
  Plain lemmas: small ones, on points, boxes, signs.
  
  Plain words and laws for fractions: lowest terms,comparing,the least;the distance to a segment and to an object.
  Plain laws of the statement RelZero.
  Plain laws of the split of boxes: who goes is told by how many stand ahead.
-/
import Derived.Below
set_option linter.unusedVariables false
set_option linter.unusedSimpArgs false
namespace Pg
theorem lcz {α : Type _} {a : α} {l : List α} : (a :: l)[0]? = some a := List.getElem?_cons_zero
theorem lcs {α : Type _} {a : α} {l : List α} {i : Nat} : (a :: l)[i + 1]? = l[i]? := List.getElem?_cons_succ
theorem lta {α : Type _} {l : List α} {i : Nat} : l.toArray[i]? = l[i]? := List.getElem?_toArray
theorem lsi {α : Type _} (l : List α) (i : Nat) (a : α) : l.toArray.setIfInBounds i a = (l.set i a).toArray := List.setIfInBounds_toArray l i a
theorem lsz {α : Type _} {l : List α} {a b : α} : (a :: l).set 0 b = b :: l := List.set_cons_zero
theorem lss {α : Type _} {l : List α} {n : Nat} {a b : α} : (a :: l).set (n + 1) b = a :: l.set n b := List.set_cons_succ
theorem ldz {α : Type _} {a d : α} {l : List α} : (a :: l).getD 0 d = a := List.getD_cons_zero
theorem lds {α : Type _} {a d : α} {l : List α} {n : Nat} : (a :: l).getD (n + 1) d = l.getD n d := List.getD_cons_succ
structure Pt where
 x : Int
 y : Int
instance : DecidableEq Pt := fun a b =>
 if h : a.x = b.x ∧ a.y = b.y then isTrue (by cases a;cases b;simp_all) else isFalse (fun e => h (by subst e;exact ⟨rfl,rfl⟩))
instance : Inhabited Pt := ⟨⟨0,0⟩⟩
theorem Pt.ext' {a b : Pt} (hx : a.x = b.x) (hy : a.y = b.y) : a = b := by cases a;cases b;simp_all
structure Bx where
 lo : Pt
 hi : Pt
def farB (n : Int) : Bool := decide (n < -1073741823) || decide (1073741823 < n)
def okPt (p : Pt) : Bool := !(farB p.x || farB p.y)
def ckBox (b : Bx) : Nat := if okPt b.lo && okPt b.hi then (if decide (b.hi.x < b.lo.x) || decide (b.hi.y < b.lo.y) then 1 else 0) else 2
def okBx (b : Bx) : Bool := decide (ckBox b = 0)
def crossR (a b c : Pt) : Int := (b.x - a.x) * (c.y - a.y) - (b.y - a.y) * (c.x - a.x)
def cross (a b c : Pt) : Int := if okPt a && okPt b && okPt c then crossR a b c else 0
def sgn (n : Int) : Int := if n < 0 then -1 else if 0 < n then 1 else 0
def orient (a b c : Pt) : Int := sgn (cross a b c)
def bhasR (b : Bx) (p : Pt) : Bool := decide (b.lo.x ≤ p.x) && decide (p.x ≤ b.hi.x) && decide (b.lo.y ≤ p.y) && decide (p.y ≤ b.hi.y)
def bhas (b : Bx) (p : Pt) : Bool := okBx b && okPt p && bhasR b p
def bmeetsR (a b : Bx) : Bool := decide (a.lo.x ≤ b.hi.x) && decide (b.lo.x ≤ a.hi.x) && decide (a.lo.y ≤ b.hi.y) && decide (b.lo.y ≤ a.hi.y)
def bmeets (a b : Bx) : Bool := okBx a && okBx b && bmeetsR a b
def binside (a b : Bx) : Bool := okBx a && bhas b a.lo && bhas b a.hi
def bjoin (a b : Bx) : Bx := ⟨⟨min a.lo.x b.lo.x,min a.lo.y b.lo.y⟩,⟨max a.hi.x b.hi.x,max a.hi.y b.hi.y⟩⟩
def bzero : Bx := ⟨⟨0,0⟩,⟨0,0⟩⟩
def unionGo (u : Bx) : List Bx → Bx × Nat
 | [] => (u,0)
 | b :: r => if ckBox b = 0 then unionGo (bjoin u b) r else (bzero,ckBox b)
def union : List Bx → Bx × Nat
 | [] => (bzero,1)
 | b :: r => unionGo b (b :: r)
structure Ds where
 hi : Nat
 lo : Nat
 den : Nat
instance : DecidableEq Ds := fun a b =>
 if h : a.hi = b.hi ∧ a.lo = b.lo ∧ a.den = b.den then isTrue (by cases a;cases b;simp_all) else isFalse (fun e => h (by subst e;exact ⟨rfl,rfl,rfl⟩))
def gap (n l h : Int) : Int := max (max (l - n) (n - h)) 0
def dotR (o a b : Pt) : Int := (a.x - o.x) * (b.x - o.x) + (a.y - o.y) * (b.y - o.y)
def span (a b : Pt) : Bx := ⟨⟨min a.x b.x,min a.y b.y⟩,⟨max a.x b.x,max a.y b.y⟩⟩
def onS (a b p : Pt) : Bool := okPt a && okPt b && okPt p && decide (crossR a b p = 0) && bhasR (span a b) p
def properR (a b c d : Pt) : Bool := decide (orient a b c * orient a b d < 0) && decide (orient c d a * orient c d b < 0)
def meetS (a b c d : Pt) : Bool := okPt a && okPt b && okPt c && okPt d && (properR a b c d || onS a b c || onS a b d || onS c d a || onS c d b)
def mbox (a b : Pt) (r : Bx) : Bool := okPt a && okPt b && okBx r && (bhas r a || bhas r b || meetS a b r.lo r.hi || meetS a b ⟨r.lo.x,r.hi.y⟩ ⟨r.hi.x,r.lo.y⟩)
def mboxR (a b : Pt) (r : Bx) : Bool := okPt a && okPt b && okBx r && (bhas r a || bhas r b || meetS a b r.lo ⟨r.hi.x,r.lo.y⟩ || meetS a b ⟨r.hi.x,r.lo.y⟩ r.hi || meetS a b r.hi ⟨r.lo.x,r.hi.y⟩ || meetS a b ⟨r.lo.x,r.hi.y⟩ r.lo)
def pt (l : List Pt) (i : Nat) : Pt := l.getD i ⟨0,0⟩
def nx (l : List Pt) (i : Nat) : Pt := pt l ((i + 1) % l.length)
def spoil (l : List Pt) (i k : Nat) : Bool :=
 if pt l i = pt l k then true
 else if (i + 1) % l.length = k then onS (pt l i) (nx l i) (nx l k) || onS (pt l k) (nx l k) (pt l i)
 else if (k + 1) % l.length = i then onS (pt l k) (nx l k) (nx l i) || onS (pt l i) (nx l i) (pt l k)
 else meetS (pt l i) (nx l i) (pt l k) (nx l k)
def spoilAny (l : List Pt) : Bool := (List.range l.length).any fun i => (List.range l.length).any fun k => decide (k ≠ i) && spoil l i k
def ckRing (l : List Pt) : Nat := if l.length < 3 ∨ 64 < l.length then 3 else if l.all okPt then (if spoilAny l then 4 else 0) else 2
def overR (a c b : Pt) : Bool := decide (a ≠ c) && decide (b ≠ c) && decide (cross c a b = 0) && decide (0 < dotR c a b)
def clash (l : List Pt) (i j : Nat) : Bool :=
 if j = i + 1 then overR (pt l i) (pt l (i + 1)) (nx l j)
 else if i = 0 ∧ j + 1 = l.length then overR (pt l (i + 1)) (pt l i) (pt l j)
 else meetS (pt l i) (pt l (i + 1)) (pt l j) (nx l j)
def clashAny (l : List Pt) : Bool := (List.range l.length).any fun i => (List.range l.length).any fun j => decide (i < j) && (decide (pt l i = pt l j) || clash l i j)
def ckRingR (l : List Pt) : Nat := if l.length < 3 ∨ 64 < l.length then 3 else if l.all okPt then (if clashAny l then 4 else 0) else 2
def edgeB (l : List Pt) (p : Pt) : Bool := (List.range l.length).any fun i => onS (pt l i) (nx l i) p
def crossesB (a b p : Pt) : Bool :=
 if b.y < a.y then decide (b.y ≤ p.y) && decide (p.y < a.y) && decide (0 < cross b a p)
 else decide (a.y ≤ p.y) && decide (p.y < b.y) && decide (0 < cross a b p)
def parity (l : List Pt) (p : Pt) : Nat → Bool
 | 0 => false
 | k + 1 => xor (parity l p k) (crossesB (pt l k) (nx l k) p)
def rhasR (l : List Pt) (p : Pt) : Bool := edgeB l p || parity l p l.length
def rhas (l : List Pt) (p : Pt) : Bool := decide (ckRing l = 0) && okPt p && rhasR l p
def ringBx (l : List Pt) : Bx := (union (l.map fun p => ⟨p,p⟩)).1
structure Ob where
 kind : Int
 pts : List Pt
structure Qu where
 kind : Int
 box : Bx
 ring : List Pt
def obBox (o : Ob) : Bx :=
 if o.kind = 1 then ⟨pt o.pts 0,pt o.pts 0⟩
 else if o.kind = 2 then ⟨⟨(pt o.pts 0).x,0⟩,⟨(pt o.pts 0).y,0⟩⟩
 else if o.kind = 3 then ⟨pt o.pts 0,pt o.pts 1⟩
 else bzero
def isBox (o : Ob) : Bool := decide (o.kind = 1 ∨ o.kind = 2 ∨ o.kind = 3)
def ckInt (p : Pt) : Nat := if okPt p then (if p.y < p.x then 1 else 0) else 2
def ckOb (o : Ob) : Nat :=
 if o.kind = 1 then (if o.pts.length = 1 then ckBox ⟨pt o.pts 0,pt o.pts 0⟩ else 3)
 else if o.kind = 2 then (if o.pts.length = 1 then ckInt (pt o.pts 0) else 3)
 else if o.kind = 3 then (if o.pts.length = 2 then ckBox ⟨pt o.pts 0,pt o.pts 1⟩ else 3)
 else if o.kind = 4 then ckRing o.pts else 5
def ckObR (o : Ob) : Nat :=
 if o.kind = 1 then (if o.pts.length = 1 then (if okPt (pt o.pts 0) then 0 else 2) else 3)
 else if o.kind = 2 then (if o.pts.length = 1 then ckInt (pt o.pts 0) else 3)
 else if o.kind = 3 then (if o.pts.length = 2 then ckBox ⟨pt o.pts 0,pt o.pts 1⟩ else 3)
 else if o.kind = 4 then ckRingR o.pts else 5
def ckQu (q : Qu) : Nat :=
 if q.kind = 1 ∨ q.kind = 2 then ckBox q.box else if q.kind = 3 then (if okPt q.box.lo then 0 else 2) else if q.kind = 4 then ckRing q.ring else 5
def cutS (l : List Pt) (b : Bx) : Bool := (List.range l.length).any (fun i => mbox (pt l i) (nx l i) b) || rhas l b.lo
def crossAny (a b : List Pt) : Bool := (List.range a.length).any fun i => (List.range b.length).any fun k => meetS (pt a i) (nx a i) (pt b k) (nx b k)
def ringsS (a b : List Pt) : Bool := bmeets (ringBx a) (ringBx b) && (crossAny a b || (rhas a (pt b 0) || rhas b (pt a 0)))
def boundsS (o : Ob) : Bx := if isBox o then obBox o else ringBx o.pts
def meetsO (a b : Ob) : Bool :=
 if isBox a then (if isBox b then bmeets (obBox a) (obBox b) else cutS b.pts (obBox a))
 else if isBox b then cutS a.pts (obBox b) else ringsS a.pts b.pts
def matchS (o : Ob) (q : Qu) : Bool :=
 if ckOb o = 0 ∧ ckQu q = 0 then
  (if q.kind = 1 then meetsO o ⟨3, [q.box.lo, q.box.hi]⟩ else if q.kind = 2 then binside (boundsS o) q.box else if q.kind = 3 then meetsO o ⟨1, [q.box.lo]⟩ else meetsO o ⟨4, q.ring⟩)
 else false
def touchS (a b : Ob) : Bool := decide (ckOb a = 0) && decide (ckOb b = 0) && meetsO a b
def vint (v : Nat) : List Nat := if v < 128 then [v] else (v % 128 + 128) :: vint (v / 128)
termination_by v
decreasing_by omega
theorem vint_small {v : Nat} (h : v < 128) : vint v = [v] := by rw [vint,if_pos h]
theorem vint_big {v : Nat} (h : ¬ v < 128) : vint v = (v % 128 + 128) :: vint (v / 128) := by rw [vint,if_neg h]
theorem vint_lt : ∀ (n v : Nat),v < n → ∀ c ∈ vint v,c < 256 := by
 intro n
 induction n with
 | zero => intro v h;omega
 | succ n ih =>
   intro v h c hc
   by_cases h1 : v < 128
   · rw [vint_small h1] at hc
     simp at hc
     omega
   · rw [vint_big h1] at hc
     rcases List.mem_cons.1 hc with h2 | h2
     · omega
     · exact ih _ (by omega) c h2
theorem vint_byte {v c : Nat} (h : c ∈ vint v) : c < 256 := vint_lt (v + 1) v (by omega) c h
theorem vint_pos (v : Nat) : 1 ≤ (vint v).length := by
 by_cases h : v < 128
 · rw [vint_small h];simp
 · rw [vint_big h];simp
theorem vint_len : ∀ (k v : Nat),v < 128 ^ (k + 1) → (vint v).length ≤ k + 1 := by
 intro k
 induction k with
 | zero => intro v h;rw [vint_small (by simpa using h)];simp
 | succ k ih =>
   intro v h
   by_cases h1 : v < 128
   · rw [vint_small h1];simp
   · rw [vint_big h1]
     have := ih (v / 128) (by rw [Nat.pow_succ] at h;omega)
     simp only [List.length_cons]
     omega
theorem vint_len10 {v : Nat} (h : v < 18446744073709551616) : (vint v).length ≤ 10 := vint_len 9 v (Nat.lt_of_lt_of_le h (by decide))
def uv : List Nat → Nat → Nat → Nat × Nat
 | [],_,_ => (0,0)
 | c :: r,i,v => if 10 ≤ i then (0,0) else if i = 9 ∧ 1 < c then (0,0) else if c < 128 then (if c = 0 ∧ 0 < i then (0,0) else (v + c % 128 * 2 ^ (7 * i),i + 1)) else uv r (i + 1) (v + c % 128 * 2 ^ (7 * i))
theorem pow7 (i : Nat) : 2 ^ (7 * (i + 1)) = 2 ^ (7 * i) * 128 := by rw [show 7 * (i + 1) = 7 * i + 7 by omega,Nat.pow_add]
theorem uv_inv : ∀ (l : List Nat) (i acc v n : Nat),(∀ c ∈ l,c < 256) → uv l i acc = (v,n) → n ≠ 0 →
 ∃ x r,l = vint x ++ r ∧ n = i + (vint x).length ∧ v = acc + x * 2 ^ (7 * i) ∧ (0 < i → 0 < x) ∧ x * 2 ^ (7 * i) < 18446744073709551616 ∧ i ≤ 9 := by
 intro l
 induction l with
 | nil => intro i acc v n _ h hn;simp [uv] at h;omega
 | cons c r ih =>
   intro i acc v n hl h hn;have hc : c < 256 := hl c (by simp)
   simp only [uv] at h
   split at h
   · simp at h;omega
   rename_i h1
   split at h
   · simp at h;omega
   rename_i h2
   split at h
   · rename_i h3
     split at h
     · simp at h;omega
     rename_i h4
     simp only [Prod.mk.injEq] at h;refine ⟨c,r,by rw [vint_small h3];rfl,by rw [vint_small h3];simp;omega,by rw [← h.1,Nat.mod_eq_of_lt h3],by omega,?_,by omega⟩
     have hh : i = 0 ∨ i = 1 ∨ i = 2 ∨ i = 3 ∨ i = 4 ∨ i = 5 ∨ i = 6 ∨ i = 7 ∨ i = 8 ∨ i = 9 := by omega
     rcases hh with rfl | rfl | rfl | rfl | rfl | rfl | rfl | rfl | rfl | rfl <;> simp only [Nat.mul_zero,Nat.pow_zero,Nat.reduceMul,Nat.reducePow,Nat.mul_one] <;> omega
   · rename_i h3
     obtain ⟨x,r',e1,e2,e3,e4,e5,e6⟩ := ih (i + 1) _ v n (fun c hc => hl c (by simp [hc])) h hn
     have hx := e4 (by omega)
     have hp := pow7 i;refine ⟨x * 128 + (c - 128),r',?_,?_,?_,by omega,?_,by omega⟩
     · rw [vint_big (by omega), show (x * 128 + (c - 128)) % 128 + 128 = c by omega, show (x * 128 + (c - 128)) / 128 = x by omega, e1]
       rfl
     · rw [vint_big (by omega), show (x * 128 + (c - 128)) / 128 = x by omega, e2]
       simp only [List.length_cons]
       omega
     · rw [e3, hp, show c % 128 = c - 128 by omega, Nat.add_mul]
       have : x * (2 ^ (7 * i) * 128) = x * 128 * 2 ^ (7 * i) := by rw [Nat.mul_comm (2 ^ (7 * i)) 128,Nat.mul_assoc]
       omega
     · rw [hp] at e5
       have h8 : i ≤ 8 := by omega
       have hh : i = 0 ∨ i = 1 ∨ i = 2 ∨ i = 3 ∨ i = 4 ∨ i = 5 ∨ i = 6 ∨ i = 7 ∨ i = 8 := by omega
       rcases hh with rfl | rfl | rfl | rfl | rfl | rfl | rfl | rfl | rfl
       · simp only [Nat.reduceMul, Nat.reducePow] at e5 ⊢
         have hx2 : x < 144115188075855872 := by omega
         have hx3 : x * 128 + (c - 128) ≤ 18446744073709551615 := by omega
         exact Nat.lt_of_le_of_lt (Nat.mul_le_mul_right 1 hx3) (by decide)
       · simp only [Nat.reduceMul, Nat.reducePow] at e5 ⊢
         have hx2 : x < 1125899906842624 := by omega
         have hx3 : x * 128 + (c - 128) ≤ 144115188075855871 := by omega
         exact Nat.lt_of_le_of_lt (Nat.mul_le_mul_right 128 hx3) (by decide)
       · simp only [Nat.reduceMul, Nat.reducePow] at e5 ⊢
         have hx2 : x < 8796093022208 := by omega
         have hx3 : x * 128 + (c - 128) ≤ 1125899906842623 := by omega
         exact Nat.lt_of_le_of_lt (Nat.mul_le_mul_right 16384 hx3) (by decide)
       · simp only [Nat.reduceMul, Nat.reducePow] at e5 ⊢
         have hx2 : x < 68719476736 := by omega
         have hx3 : x * 128 + (c - 128) ≤ 8796093022207 := by omega
         exact Nat.lt_of_le_of_lt (Nat.mul_le_mul_right 2097152 hx3) (by decide)
       · simp only [Nat.reduceMul, Nat.reducePow] at e5 ⊢
         have hx2 : x < 536870912 := by omega
         have hx3 : x * 128 + (c - 128) ≤ 68719476735 := by omega
         exact Nat.lt_of_le_of_lt (Nat.mul_le_mul_right 268435456 hx3) (by decide)
       · simp only [Nat.reduceMul, Nat.reducePow] at e5 ⊢
         have hx2 : x < 4194304 := by omega
         have hx3 : x * 128 + (c - 128) ≤ 536870911 := by omega
         exact Nat.lt_of_le_of_lt (Nat.mul_le_mul_right 34359738368 hx3) (by decide)
       · simp only [Nat.reduceMul, Nat.reducePow] at e5 ⊢
         have hx2 : x < 32768 := by omega
         have hx3 : x * 128 + (c - 128) ≤ 4194303 := by omega
         exact Nat.lt_of_le_of_lt (Nat.mul_le_mul_right 4398046511104 hx3) (by decide)
       · simp only [Nat.reduceMul, Nat.reducePow] at e5 ⊢
         have hx2 : x < 256 := by omega
         have hx3 : x * 128 + (c - 128) ≤ 32767 := by omega
         exact Nat.lt_of_le_of_lt (Nat.mul_le_mul_right 562949953421312 hx3) (by decide)
       · simp only [Nat.reduceMul, Nat.reducePow] at e5 ⊢
         have hx2 : x < 2 := by omega
         have hx3 : x * 128 + (c - 128) ≤ 255 := by omega
         exact Nat.lt_of_le_of_lt (Nat.mul_le_mul_right 72057594037927936 hx3) (by decide)
def zig (n : Int) : Nat := if n < 0 then 2 * (-(n + 1)).toNat + 1 else 2 * n.toNat
def unzig (v : Nat) : Int := if v % 2 = 1 then -((v / 2 : Nat) : Int) - 1 else ((v / 2 : Nat) : Int)
def in64 (n : Int) : Prop := -9223372036854775808 ≤ n ∧ n ≤ 9223372036854775807
theorem zig_lt {n : Int} (h : in64 n) : zig n < 18446744073709551616 := by unfold in64 at h;unfold zig;split <;> omega
theorem zig_unzig (v : Nat) : zig (unzig v) = v := by
 unfold unzig zig
 split <;> split <;> omega
theorem unzig_in {v : Nat} (h : v < 18446744073709551616) : in64 (unzig v) := by
 unfold in64 unzig
 split
 · have : v / 2 < 9223372036854775808 := by omega
   omega
 · have : v / 2 < 9223372036854775808 := by omega
   omega
def sint (n : Int) : List Nat := vint (zig n)
theorem sint_len {n : Int} (h : in64 n) : 1 ≤ (sint n).length ∧ (sint n).length ≤ 10 := ⟨vint_pos _,vint_len10 (zig_lt h)⟩
def dec (l : List Nat) : Option (Int × List Nat) := if (uv l 0 0).2 = 0 then none else some (unzig (uv l 0 0).1,l.drop (uv l 0 0).2)
theorem dec_inv {l r : List Nat} {x : Int} (hl : ∀ c ∈ l,c < 256) (h : dec l = some (x,r)) : in64 x ∧ l = sint x ++ r := by
 unfold dec at h
 split at h
 · cases h
 rename_i h1
 obtain ⟨y,r',e1,e2,e3,e4,e5,e6⟩ := uv_inv l 0 0 (uv l 0 0).1 (uv l 0 0).2 hl rfl h1;simp only [Option.some.injEq,Prod.mk.injEq] at h;obtain ⟨h2,h3⟩ := h;simp only [Nat.mul_zero,Nat.pow_zero,Nat.mul_one,Nat.zero_add] at e3 e5 e2;rw [e3] at h2;subst h2
 rw [sint,zig_unzig]
 refine ⟨unzig_in e5,?_⟩;rw [e2] at h3;subst h3
 conv => lhs;rw [e1]
 rw [e1]
 simp
def keyL (b : Bx) : List Nat := sint b.lo.x ++ (sint b.lo.y ++ (sint b.hi.x ++ sint b.hi.y))
def unkeyS (l : List Nat) : Option Bx :=
 match dec l with
 | none => none
 | some (a,l1) => match dec l1 with
   | none => none
   | some (b, l2) => match dec l2 with
     | none => none
     | some (c, l3) => match dec l3 with
       | none => none
       | some (d, l4) => if l4 = [] ∧ okBx ⟨⟨a, b⟩, ⟨c, d⟩⟩ = true then some ⟨⟨a, b⟩, ⟨c, d⟩⟩ else none
def inBx (b : Bx) : Prop := in64 b.lo.x ∧ in64 b.lo.y ∧ in64 b.hi.x ∧ in64 b.hi.y
theorem okBx_in {b : Bx} (h : okBx b = true) : inBx b := by
 unfold okBx ckBox okPt farB at h;simp only [decide_eq_true_eq] at h
 split at h
 · split at h
   · cases h
   · rename_i h1 _
     simp only [Bool.and_eq_true,Bool.not_eq_true',Bool.or_eq_false_iff,decide_eq_false_iff_not] at h1;unfold inBx in64
     omega
 · cases h
theorem unkey_inv {l : List Nat} {b : Bx} (hl : ∀ c ∈ l,c < 256) (h : unkeyS l = some b) : okBx b = true ∧ l = keyL b := by
 unfold unkeyS at h
 split at h
 · cases h
 rename_i a l1 d1
 split at h
 · cases h
 rename_i c l2 d2
 split at h
 · cases h
 rename_i d l3 d3
 split at h
 · cases h
 rename_i f l4 d4
 split at h
 · rename_i hh
   obtain ⟨rfl,ho⟩ := hh;obtain ⟨i1,e1⟩ := dec_inv hl d1;have hl1 : ∀ c ∈ l1,c < 256 := fun c hc => hl c (by rw [e1];simp [hc])
   obtain ⟨i2,e2⟩ := dec_inv hl1 d2;have hl2 : ∀ c ∈ l2,c < 256 := fun c hc => hl1 c (by rw [e2];simp [hc])
   obtain ⟨i3,e3⟩ := dec_inv hl2 d3;have hl3 : ∀ c ∈ l3,c < 256 := fun c hc => hl2 c (by rw [e3];simp [hc])
   obtain ⟨i4,e4⟩ := dec_inv hl3 d4;rw [List.append_nil] at e4;simp only [Option.some.injEq] at h;subst h;exact ⟨ho,by rw [e1,e2,e3,e4];rfl⟩
 · cases h
theorem keyL_byte {b : Bx} {c : Nat} (h : c ∈ keyL b) : c < 256 := by
 unfold keyL at h;simp only [List.mem_append] at h
 rcases h with h | h | h | h <;> exact vint_byte h
theorem keyL_len {b : Bx} (h : inBx b) : 4 ≤ (keyL b).length ∧ (keyL b).length ≤ 40 := by
 obtain ⟨h1,h2,h3,h4⟩ := h;have := sint_len h1;have := sint_len h2;have := sint_len h3;have := sint_len h4;unfold keyL
 simp only [List.length_append]
 omega
theorem okPt_iff (p : Pt) : okPt p = true ↔ (-1073741823 ≤ p.x ∧ p.x ≤ 1073741823) ∧ (-1073741823 ≤ p.y ∧ p.y ≤ 1073741823) := by
 simp [okPt,farB]
theorem sgn_zero (n : Int) : (sgn n == 0) = decide (n = 0) := by
 unfold sgn
 split
 · have : n ≠ 0 := by omega
   simp [this]
 · split
   · have : n ≠ 0 := by omega
     simp [this]
   · have : n = 0 := by omega
     simp [this]
theorem okBx_span {a b : Pt} (ha : okPt a = true) (hb : okPt b = true) : okBx (span a b) = true := by
 have h1 : okPt (span a b).lo = true := by rw [okPt_iff] at *;simp only [span];omega
 have h2 : okPt (span a b).hi = true := by rw [okPt_iff] at *;simp only [span];omega
 have h3 : ¬ (span a b).hi.x < (span a b).lo.x := by simp only [span];omega
 have h4 : ¬ (span a b).hi.y < (span a b).lo.y := by simp only [span];omega
 simp [okBx,ckBox,h1,h2,h3,h4]
theorem onS_eq (a b p : Pt) : onS a b p = ((okPt a && okPt b && okPt p) && (orient a b p == 0) && bhas (span a b) p) := by
 by_cases h : (okPt a && okPt b && okPt p) = true
 · have ha : okPt a = true := by simp_all
   have hb : okPt b = true := by simp_all
   have hp : okPt p = true := by simp_all
   rw [orient, sgn_zero, cross, if_pos h, onS, h, bhas, okBx_span ha hb, hp]
   simp
 · have h : (okPt a && okPt b && okPt p) = false := by simpa using h
   rw [onS, h]
   simp
/- plain law of rings: the program's look at a ring is the reference's -/
theorem sgn_neg (n : Int) : sgn (-n) = - sgn n := by unfold sgn;split <;> split <;> (try split) <;> (try split) <;> omega
theorem sgn_mul_neg (m n : Int) : sgn m * sgn n < 0 ↔ (m < 0 ∧ 0 < n) ∨ (0 < m ∧ n < 0) := by
 unfold sgn
 split
 · split
   · simp;omega
   · split <;> simp <;> omega
 · split
   · split
     · simp;omega
     · split <;> simp <;> omega
   · split
     · simp;omega
     · split <;> simp <;> omega
theorem crossR_swap (a b c : Pt) : crossR b a c = - crossR a b c := by unfold crossR;grind
theorem crossR_aba (a b : Pt) : crossR a b a = 0 := by unfold crossR;grind
theorem orient_swap (a b c : Pt) : orient b a c = - orient a b c := by
 unfold orient cross
 rw [← sgn_neg]
 congr 1
 by_cases h : (okPt a && okPt b && okPt c) = true
 · rw [if_pos h,if_pos (by simp_all),crossR_swap]
 · rw [if_neg h,if_neg (by simp_all)]
   rfl
theorem span_swap (a b : Pt) : span b a = span a b := by unfold span;congr 1 <;> congr 1 <;> omega
theorem onS_swap (a b p : Pt) : onS b a p = onS a b p := by
 unfold onS
 rw [span_swap,crossR_swap,Bool.and_comm (okPt b) (okPt a)]
 congr 2
 rw [decide_eq_decide]
 omega
theorem properR_swap1 (a b c d : Pt) : properR b a c d = properR a b c d := by
 unfold properR
 rw [orient_swap a b c,orient_swap a b d,Int.neg_mul_neg,Int.mul_comm (orient c d b)]
theorem properR_swap2 (a b c d : Pt) : properR c d a b = properR a b c d := by
 unfold properR
 rw [Bool.and_comm]
theorem meetS_swap2 (a b c d : Pt) : meetS c d a b = meetS a b c d := by
 unfold meetS
 rw [properR_swap2]
 cases okPt a <;> cases okPt b <;> cases okPt c <;> cases okPt d <;> simp
 cases properR a b c d <;> cases onS a b c <;> cases onS a b d <;> cases onS c d a <;> cases onS c d b <;> rfl
theorem meetS_swap1 (a b c d : Pt) : meetS b a c d = meetS a b c d := by
 unfold meetS
 rw [properR_swap1,onS_swap a b c,onS_swap a b d]
 cases okPt a <;> cases okPt b <;> cases okPt c <;> cases okPt d <;> simp
 cases properR a b c d <;> cases onS a b c <;> cases onS a b d <;> cases onS c d a <;> cases onS c d b <;> rfl
theorem meetS_swap3 (a b c d : Pt) : meetS a b d c = meetS a b c d := by
 rw [meetS_swap2,meetS_swap1,meetS_swap2]
theorem onS_iff (a b p : Pt) : onS a b p = true ↔ (okPt a = true ∧ okPt b = true ∧ okPt p = true) ∧ crossR a b p = 0 ∧ (min a.x b.x ≤ p.x ∧ p.x ≤ max a.x b.x) ∧ (min a.y b.y ≤ p.y ∧ p.y ≤ max a.y b.y) := by
 simp only [onS,bhasR,Bool.and_eq_true,decide_eq_true_eq,and_assoc]
 rfl
theorem properR_iff {a b c d : Pt} (ha : okPt a = true) (hb : okPt b = true) (hc : okPt c = true) (hd : okPt d = true) : properR a b c d = true ↔
 ((crossR a b c < 0 ∧ 0 < crossR a b d) ∨ (0 < crossR a b c ∧ crossR a b d < 0)) ∧ ((crossR c d a < 0 ∧ 0 < crossR c d b) ∨ (0 < crossR c d a ∧ crossR c d b < 0)) := by
 simp only [properR,orient,cross,ha,hb,hc,hd,Bool.and_self,if_true,Bool.and_eq_true,decide_eq_true_eq,sgn_mul_neg]
theorem meetS_iff (a b c d : Pt) : meetS a b c d = true ↔ (okPt a = true ∧ okPt b = true ∧ okPt c = true ∧ okPt d = true) ∧ (properR a b c d = true ∨ onS a b c = true ∨ onS a b d = true ∨ onS c d a = true ∨ onS c d b = true) := by
 simp [meetS,and_assoc,or_assoc]
theorem shorter (p q r s : Int) (hp : 0 ≤ p) (hq : 0 ≤ q) (hr : 0 ≤ r) (hs : 0 ≤ s) (h : p * s = q * r) : (r ≤ p ∧ s ≤ q) ∨ (p ≤ r ∧ q ≤ s) := by
 by_cases h1 : r ≤ p
 · by_cases h2 : s ≤ q
   · exact .inl ⟨h1, h2⟩
   · right
     refine ⟨?_,by omega⟩
     apply Int.not_lt.1
     intro h3;have e1 : p * (q + 1) ≤ p * s := Int.mul_le_mul_of_nonneg_left (by omega) hp
     have e2 : q * r ≤ q * p := Int.mul_le_mul_of_nonneg_left (by omega) hq
     grind
 · by_cases h2 : q ≤ s
   · exact .inr ⟨by omega, h2⟩
   · exfalso
     have e1 : q * (p + 1) ≤ q * r := Int.mul_le_mul_of_nonneg_left (by omega) hq
     have e2 : p * s ≤ p * q := Int.mul_le_mul_of_nonneg_left (by omega) hp
     grind
theorem same_way (p q r s : Int) (h : p * s = q * r) (hd : 0 < p * r + q * s) :
 ((min p 0 ≤ r ∧ r ≤ max p 0) ∧ (min q 0 ≤ s ∧ s ≤ max q 0)) ∨ ((min r 0 ≤ p ∧ p ≤ max r 0) ∧ (min s 0 ≤ q ∧ q ≤ max s 0)) := by
 have key : 0 ≤ p * r ∧ 0 ≤ q * s := by
  have e : (p * r) * (q * s) = (q * r) * (q * r) := by
   have : (p * r) * (q * s) = (p * s) * (q * r) := by grind
   rw [this, h]
  have e2 : 0 ≤ (q * r) * (q * r) := by
   rcases Int.le_total 0 (q * r) with h | h
   · exact Int.mul_nonneg h h
   · exact Int.mul_nonneg_of_nonpos_of_nonpos h h
  generalize p * r = X at *;generalize q * s = Y at *
  constructor
  · apply Int.not_lt.1
    intro hx;have : X * Y < 0 := Int.mul_neg_of_neg_of_pos hx (by omega)
    omega
  · apply Int.not_lt.1
    intro hy;have : X * Y < 0 := Int.mul_neg_of_pos_of_neg (by omega) hy
    omega
 obtain ⟨k1,k2⟩ := key
 have sgn2 : ∀ a b : Int,0 ≤ a * b → (0 ≤ a ∧ 0 ≤ b) ∨ (a ≤ 0 ∧ b ≤ 0) := fun a b hab => by
  rcases Int.lt_trichotomy a 0 with ha | ha | ha
  · right
    refine ⟨by omega,?_⟩
    apply Int.not_lt.1
    intro hb;have := Int.mul_neg_of_neg_of_pos ha hb
    omega
  · omega
  · left
    refine ⟨by omega,?_⟩
    apply Int.not_lt.1
    intro hb;have := Int.mul_neg_of_pos_of_neg ha hb
    omega
 rcases sgn2 _ _ k1 with ⟨a1,a2⟩ | ⟨a1,a2⟩ <;> rcases sgn2 _ _ k2 with ⟨b1,b2⟩ | ⟨b1,b2⟩
 · have := shorter p q r s a1 b1 a2 b2 h
   omega
 · have := shorter p (-q) r (-s) a1 (by omega) a2 (by omega) (by grind)
   omega
 · have := shorter (-p) q (-r) s (by omega) b1 (by omega) b2 (by grind)
   omega
 · have := shorter (-p) (-q) (-r) (-s) (by omega) (by omega) (by omega) (by omega) (by grind)
   omega
theorem same_way' (p q r s : Int) (hn : r ≠ 0 ∨ s ≠ 0) (hb : (min p 0 ≤ r ∧ r ≤ max p 0) ∧ (min q 0 ≤ s ∧ s ≤ max q 0)) : 0 < p * r + q * s := by
 have k : ∀ a b : Int,(min a 0 ≤ b ∧ b ≤ max a 0) → 0 ≤ a * b ∧ (b ≠ 0 → 0 < a * b) := fun a b hab => by
  rcases Int.lt_trichotomy b 0 with hb | hb | hb
  · have := Int.mul_pos_of_neg_of_neg (a := a) (b := b) (by omega) hb
    exact ⟨by omega,fun _ => this⟩
  · subst hb;simp
  · have := Int.mul_pos (a := a) (b := b) (by omega) hb
    exact ⟨by omega,fun _ => this⟩
 have k1 := k p r hb.1;have k2 := k q s hb.2
 rcases hn with hn | hn
 · have := k1.2 hn;omega
 · have := k2.2 hn;omega
theorem over_eq {a c b : Pt} (ha : okPt a = true) (hc : okPt c = true) (hb : okPt b = true) (hac : a ≠ c) (hbc : b ≠ c) : (onS a c b || onS c b a) = overR a c b := by
 rw [Bool.eq_iff_iff,Bool.or_eq_true,onS_iff,onS_iff]
 have hx : cross c a b = crossR c a b := by simp [cross,ha,hb,hc]
 simp only [overR,hx,ha,hb,hc,Bool.and_eq_true,decide_eq_true_eq,ne_eq,hac,hbc,not_false_eq_true,true_and,and_true]
 have e1 : crossR a c b = 0 ↔ (a.x - c.x) * (b.y - c.y) = (a.y - c.y) * (b.x - c.x) := by unfold crossR;grind
 have e2 : crossR c b a = 0 ↔ (a.x - c.x) * (b.y - c.y) = (a.y - c.y) * (b.x - c.x) := by unfold crossR;grind
 have e3 : crossR c a b = 0 ↔ (a.x - c.x) * (b.y - c.y) = (a.y - c.y) * (b.x - c.x) := by unfold crossR;grind
 have n1 : a.x - c.x ≠ 0 ∨ a.y - c.y ≠ 0 := by
  apply Decidable.byContradiction
  intro h;exact hac (Pt.ext' (by omega) (by omega))
 have n2 : b.x - c.x ≠ 0 ∨ b.y - c.y ≠ 0 := by
  apply Decidable.byContradiction
  intro h;exact hbc (Pt.ext' (by omega) (by omega))
 rw [e1,e2,e3]
 unfold dotR
 constructor
 · rintro (⟨h,h1⟩ | ⟨h,h1⟩)
   · exact ⟨h, same_way' _ _ _ _ n2 (by omega)⟩
   · have := same_way' (b.x - c.x) (b.y - c.y) (a.x - c.x) (a.y - c.y) n1 (by omega)
     exact ⟨h,by grind⟩
 · rintro ⟨h,h1⟩
   rcases same_way _ _ _ _ h h1 with h2 | h2
   · exact .inl ⟨h, by omega⟩
   · exact .inr ⟨h, by omega⟩
theorem any_range_iff (n : Nat) (f : Nat → Bool) : (List.range n).any f = true ↔ ∃ i,i < n ∧ f i = true := by
 simp [List.any_eq_true]
theorem nx_of_lt {l : List Pt} {i : Nat} (h : i + 1 < l.length) : nx l i = pt l (i + 1) := by rw [nx,Nat.mod_eq_of_lt h]
theorem nx_last {l : List Pt} {i : Nat} (h : i + 1 = l.length) : nx l i = pt l 0 := by rw [nx,h,Nat.mod_self]
theorem okPt_pt {l : List Pt} (h : l.all okPt = true) {i : Nat} (hi : i < l.length) : okPt (pt l i) = true := by
 rw [List.all_eq_true] at h;have e : pt l i = l[i] := by rw [pt,List.getD_eq_getElem?_getD,List.getElem?_eq_getElem hi];rfl
 rw [e]
 exact h _ (List.getElem_mem hi)
theorem okPt_nx {l : List Pt} (h : l.all okPt = true) {i : Nat} (hi : i < l.length) : okPt (nx l i) = true := okPt_pt h (Nat.mod_lt _ (by omega))
theorem spoil_clash {l : List Pt} (h3 : 3 ≤ l.length) (hok : l.all okPt = true) (hd : ∀ i j,i < l.length → j < l.length → i ≠ j → pt l i ≠ pt l j) {i k : Nat} (hik : i < k) (hk : k < l.length) :
 spoil l i k = clash l i k ∧ spoil l k i = clash l i k := by
 have hi : i < l.length := by omega
 have hne : pt l i ≠ pt l k := hd i k hi hk (by omega)
 have hm : (i + 1) % l.length = i + 1 := Nat.mod_eq_of_lt (by omega)
 unfold spoil clash
 rw [if_neg hne,if_neg (Ne.symm hne)]
 by_cases h1 : k = i + 1
 · subst h1
   have hw : ¬ (i + 1 + 1) % l.length = i := by
    by_cases e : i + 1 + 1 = l.length
    · rw [e,Nat.mod_self];omega
    · rw [Nat.mod_eq_of_lt (by omega)];omega
   have hnx : nx l i = pt l (i + 1) := nx_of_lt (by omega)
   have hb : nx l (i + 1) ≠ pt l (i + 1) := by
    by_cases e : i + 1 + 1 = l.length
    · rw [nx_last e];exact hd _ _ (by omega) hk (by omega)
    · rw [nx_of_lt (by omega)];exact hd _ _ (by omega) hk (by omega)
   rw [if_pos hm, if_pos rfl, if_neg hw, if_pos hm, hnx, over_eq (okPt_pt hok hi) (okPt_pt hok hk) (okPt_nx hok hk) hne hb]
   exact ⟨rfl,rfl⟩
 · rw [if_neg h1]
   have hm1 : ¬ (i + 1) % l.length = k := by omega
   rw [if_neg hm1, if_neg hm1]
   by_cases h2 : i = 0 ∧ k + 1 = l.length
   · obtain ⟨rfl, hl⟩ := h2
     have hw : (k + 1) % l.length = 0 := by rw [hl,Nat.mod_self]
     have hnx : nx l 0 = pt l 1 := nx_of_lt (by omega)
     have hnk : nx l k = pt l 0 := nx_last hl
     have e : (onS (pt l k) (nx l k) (nx l 0) || onS (pt l 0) (nx l 0) (pt l k)) = overR (pt l 1) (pt l 0) (pt l k) := by
      rw [hnx, hnk, ← over_eq (okPt_pt hok (by omega)) (okPt_pt hok hi) (okPt_pt hok hk) (hd _ _ (by omega) hi (by omega)) (Ne.symm hne), onS_swap (pt l 1) (pt l 0), onS_swap (pt l 0) (pt l k), Bool.or_comm]
     rw [if_pos hw, if_pos hw, if_pos ⟨rfl, hl⟩, e]
     exact ⟨rfl,rfl⟩
   · have hw : ¬ (k + 1) % l.length = i := by
      by_cases e : k + 1 = l.length
      · rw [e,Nat.mod_self];omega
      · rw [Nat.mod_eq_of_lt (by omega)];omega
     rw [if_neg hw, if_neg hw, if_neg h2, nx_of_lt (by omega), meetS_swap2]
     exact ⟨rfl,rfl⟩
theorem spoilAny_eq {l : List Pt} (h3 : 3 ≤ l.length) (hok : l.all okPt = true) : spoilAny l = clashAny l := by
 by_cases hd : ∀ i j,i < l.length → j < l.length → i ≠ j → pt l i ≠ pt l j
 · rw [Bool.eq_iff_iff]
   unfold spoilAny clashAny
   simp only [any_range_iff, Bool.and_eq_true, decide_eq_true_eq, Bool.or_eq_true]
   constructor
   · rintro ⟨i, hi, k, hk, hn, hs⟩
     rcases Nat.lt_or_ge i k with h | h
     · exact ⟨i, hi, k, hk, h, .inr ((spoil_clash h3 hok hd h hk).1 ▸ hs)⟩
     · have hki : k < i := by omega
       exact ⟨k,hk,i,hi,hki,.inr ((spoil_clash h3 hok hd hki hi).2 ▸ hs)⟩
   · rintro ⟨i, hi, k, hk, h, hs | hs⟩
     · exact absurd hs (hd i k hi hk (by omega))
     · exact ⟨i, hi, k, hk, by omega, (spoil_clash h3 hok hd h hk).1 ▸ hs⟩
 · have : ∃ i j,i < j ∧ j < l.length ∧ pt l i = pt l j := by
    apply Classical.byContradiction
    intro hno
    apply hd
    intro i j hi hj hij e
    rcases Nat.lt_or_ge i j with h | h
    · exact hno ⟨i, j, h, hj, e⟩
    · exact hno ⟨j, i, by omega, hi, e.symm⟩
   obtain ⟨i,j,hij,hj,e⟩ := this
   have e1 : spoilAny l = true := by
    unfold spoilAny
    simp only [any_range_iff, Bool.and_eq_true, decide_eq_true_eq]
    exact ⟨i,by omega,j,hj,by omega,by unfold spoil;rw [if_pos e]⟩
   have e2 : clashAny l = true := by
    unfold clashAny
    simp only [any_range_iff, Bool.and_eq_true, decide_eq_true_eq, Bool.or_eq_true]
    exact ⟨i,by omega,j,hj,hij,.inl e⟩
   rw [e1, e2]
theorem ckRing_eq (l : List Pt) : ckRing l = ckRingR l := by
 unfold ckRing ckRingR
 by_cases h : l.length < 3 ∨ 64 < l.length
 · rw [if_pos h,if_pos h]
 · rw [if_neg h,if_neg h]
   by_cases hok : l.all okPt = true
   · rw [if_pos hok, if_pos hok, spoilAny_eq (by omega) hok]
   · rw [if_neg hok, if_neg hok]
theorem ckBox_same (p : Pt) : ckBox ⟨p,p⟩ = if okPt p then 0 else 2 := by
 unfold ckBox
 cases h : okPt p <;> simp
theorem ckOb_eq (o : Ob) : ckOb o = ckObR o := by
 unfold ckOb ckObR
 rw [ckRing_eq,ckBox_same]
/- plain law of a segment and a box: by the separating axes -/
theorem avg_sep {p q r s u v u' v' : Int} (hu : 0 < u) (hv : 0 < v) (hu' : 0 < u') (hv' : 0 < v') (hs : u + v = u' + v') (h : p * u + q * v = r * u' + s * v') : min r s ≤ max p q := by
 apply Int.not_lt.1
 intro hlt;have hp : p ≤ max p q := by omega
 have hq : q ≤ max p q := by omega
 have hr : max p q + 1 ≤ r := by omega
 have hs' : max p q + 1 ≤ s := by omega
 generalize max p q = M at *;have e1 := Int.mul_le_mul_of_nonneg_right hp (Int.le_of_lt hu);have e2 := Int.mul_le_mul_of_nonneg_right hq (Int.le_of_lt hv);have e3 := Int.mul_le_mul_of_nonneg_right hr (Int.le_of_lt hu');have e4 := Int.mul_le_mul_of_nonneg_right hs' (Int.le_of_lt hv');have e5 : M * u + M * v = M * u' + M * v' := by rw [← Int.mul_add,← Int.mul_add,hs]
 grind
theorem avg_sep' {p q r s u v u' v' : Int} (hu : 0 < u) (hv : 0 < v) (hu' : 0 < u') (hv' : 0 < v') (hs : u + v = u' + v') (h : p * u + q * v = r * u' + s * v') : min r s ≤ max p q ∧ min p q ≤ max r s :=
 ⟨avg_sep hu hv hu' hv' hs h,avg_sep hu' hv' hu hv hs.symm h.symm⟩
theorem proper_overlap {a b c d : Pt} (h1 : (crossR a b c < 0 ∧ 0 < crossR a b d) ∨ (0 < crossR a b c ∧ crossR a b d < 0)) (h2 : (crossR c d a < 0 ∧ 0 < crossR c d b) ∨ (0 < crossR c d a ∧ crossR c d b < 0)) :
 (min a.x b.x ≤ max c.x d.x ∧ min c.x d.x ≤ max a.x b.x) ∧ (min a.y b.y ≤ max c.y d.y ∧ min c.y d.y ≤ max a.y b.y) := by
 have e0 : crossR a b d - crossR a b c = crossR c d a - crossR c d b := by unfold crossR;grind
 have ex : c.x * crossR a b d - d.x * crossR a b c = b.x * crossR c d a - a.x * crossR c d b := by unfold crossR;grind
 have ey : c.y * crossR a b d - d.y * crossR a b c = b.y * crossR c d a - a.y * crossR c d b := by unfold crossR;grind
 generalize crossR a b d = F2 at *;generalize crossR a b c = F1 at *;generalize crossR c d a = G1 at *;generalize crossR c d b = G2 at *
 rcases h1 with h1 | h1
 · have k : G2 < 0 ∧ 0 < G1 := by omega
   have x := avg_sep' (p := c.x) (q := d.x) (r := b.x) (s := a.x) (u := F2) (v := -F1) (u' := G1) (v' := -G2) (by omega) (by omega) (by omega) (by omega) (by omega) (by grind)
   have y := avg_sep' (p := c.y) (q := d.y) (r := b.y) (s := a.y) (u := F2) (v := -F1) (u' := G1) (v' := -G2) (by omega) (by omega) (by omega) (by omega) (by omega) (by grind)
   omega
 · have k : 0 < G2 ∧ G1 < 0 := by omega
   have x := avg_sep' (p := c.x) (q := d.x) (r := b.x) (s := a.x) (u := -F2) (v := F1) (u' := -G1) (v' := G2) (by omega) (by omega) (by omega) (by omega) (by omega) (by grind)
   have y := avg_sep' (p := c.y) (q := d.y) (r := b.y) (s := a.y) (u := -F2) (v := F1) (u' := -G1) (v' := G2) (by omega) (by omega) (by omega) (by omega) (by omega) (by grind)
   omega
def inR (r : Bx) (p : Pt) : Prop := (r.lo.x ≤ p.x ∧ p.x ≤ r.hi.x) ∧ (r.lo.y ≤ p.y ∧ p.y ≤ r.hi.y)
def allPos (a b : Pt) (r : Bx) : Prop := (0 < crossR a b r.lo ∧ 0 < crossR a b ⟨r.hi.x,r.lo.y⟩) ∧ (0 < crossR a b r.hi ∧ 0 < crossR a b ⟨r.lo.x,r.hi.y⟩)
def sat (a b : Pt) (r : Bx) : Prop :=
 ((min a.x b.x ≤ r.hi.x ∧ r.lo.x ≤ max a.x b.x) ∧ (min a.y b.y ≤ r.hi.y ∧ r.lo.y ≤ max a.y b.y)) ∧ ¬ allPos a b r ∧ ¬ allPos b a r
theorem mul_le_of {t u v : Int} (h : u ≤ v) : (0 ≤ t → t * u ≤ t * v) ∧ (t ≤ 0 → t * v ≤ t * u) :=
 ⟨fun ht => Int.mul_le_mul_of_nonneg_left h ht,fun ht => Int.mul_le_mul_of_nonpos_left ht h⟩
theorem allPos_in {a b : Pt} {r : Bx} (h : allPos a b r) {c : Pt} (hc : inR r c) : 0 < crossR a b c := by
 obtain ⟨⟨h1,h2⟩,h3,h4⟩ := h;obtain ⟨⟨x1,x2⟩,y1,y2⟩ := hc;unfold crossR at *
 simp only at *
 have X1 := mul_le_of (t := b.y - a.y) (Int.sub_le_sub_right x1 a.x);have X2 := mul_le_of (t := b.y - a.y) (Int.sub_le_sub_right x2 a.x);have Y1 := mul_le_of (t := b.x - a.x) (Int.sub_le_sub_right y1 a.y);have Y2 := mul_le_of (t := b.x - a.x) (Int.sub_le_sub_right y2 a.y)
 rcases Int.le_total 0 (b.y - a.y) with hy | hy <;> rcases Int.le_total 0 (b.x - a.x) with hx | hx
 · have := X2.1 hy;have := Y1.1 hx;omega
 · have := X2.1 hy;have := Y2.2 hx;omega
 · have := X1.2 hy;have := Y1.1 hx;omega
 · have := X1.2 hy;have := Y2.2 hx;omega
theorem sat_of_zero {a b c : Pt} {r : Bx} (hc : inR r c) (h0 : crossR a b c = 0) : ¬ allPos a b r ∧ ¬ allPos b a r := by
 constructor
 · intro h;have := allPos_in h hc;omega
 · intro h;have := allPos_in h hc;rw [crossR_swap] at this;omega
theorem sat_in {a b : Pt} {r : Bx} (h : inR r a) : sat a b r := by
 refine ⟨?_,sat_of_zero h (crossR_aba a b)⟩;unfold inR at h
 omega
theorem sat_swap {a b : Pt} {r : Bx} (h : sat a b r) : sat b a r := by
 obtain ⟨h1,h2,h3⟩ := h;exact ⟨by omega,h3,h2⟩
theorem sat_of_meet {a b c d : Pt} {r : Bx} (hc : inR r c) (hd : inR r d) (h : meetS a b c d = true) : sat a b r := by
 rw [meetS_iff] at h;obtain ⟨⟨oa,ob,oc,od⟩,h⟩ := h
 rcases h with h | h | h | h | h
 · rw [properR_iff oa ob oc od] at h
   obtain ⟨h1,h2⟩ := h;have := proper_overlap h1 h2;unfold inR at hc hd;refine ⟨by omega,fun k => ?_,fun k => ?_⟩
   · have := allPos_in k hc;have := allPos_in k hd;omega
   · have u1 := allPos_in k hc;have u2 := allPos_in k hd;rw [crossR_swap] at u1 u2;omega
 · rw [onS_iff] at h
   refine ⟨?_,sat_of_zero hc h.2.1⟩;unfold inR at hc;omega
 · rw [onS_iff] at h
   refine ⟨?_,sat_of_zero hd h.2.1⟩;unfold inR at hd;omega
 · rw [onS_iff] at h
   exact sat_in (by unfold inR at *;omega)
 · rw [onS_iff] at h
   exact sat_swap (sat_in (by unfold inR at *;omega))
theorem sat_mono {a b : Pt} {r u : Bx} (h : sat a b r) (hlo : inR u r.lo) (hhi : inR u r.hi) : sat a b u := by
 obtain ⟨h1,h2,h3⟩ := h;unfold inR at hlo hhi;refine ⟨by omega,fun k => h2 ?_,fun k => h3 ?_⟩
 · exact ⟨⟨allPos_in k (by unfold inR;omega),allPos_in k (by unfold inR;simp only;omega)⟩,allPos_in k (by unfold inR;omega),allPos_in k (by unfold inR;simp only;omega)⟩
 · exact ⟨⟨allPos_in k (by unfold inR;omega),allPos_in k (by unfold inR;simp only;omega)⟩,allPos_in k (by unfold inR;omega),allPos_in k (by unfold inR;simp only;omega)⟩
section core
variable {lx ly hx hy ax ay bx b_y : Int}
theorem mz {p q : Int} (h : p * q = 0) : p = 0 ∨ q = 0 := Int.mul_eq_zero.1 h
theorem core1 (hW : lx ≤ hx) (hH : ly ≤ hy) (dx : ax ≤ bx) (dy : ay ≤ b_y) (o : (ax ≤ hx ∧ lx ≤ bx) ∧ (ay ≤ hy ∧ ly ≤ b_y)) (ha : ax < lx ∨ ay < ly) (hb : hx < bx ∨ hy < b_y)
 (h : (bx - ax) * (ly - ay) - (b_y - ay) * (hx - ax) = 0) : (ax ≤ hx ∧ hx ≤ bx) ∧ (ay ≤ ly ∧ ly ≤ b_y) := by
 refine ⟨⟨o.1.1,?_⟩,?_,o.2.2⟩
 · apply Int.not_lt.1
   intro k
   -- b.x < hx, so b.y > hy
   have hby : hy < b_y := by omega
   have e : (b_y - ay) * (bx - ax + 1) ≤ (b_y - ay) * (hx - ax) := Int.mul_le_mul_of_nonneg_left (by omega) (by omega)
   have e2 : (bx - ax) * (ly - ay) ≤ (bx - ax) * (b_y - ay) := Int.mul_le_mul_of_nonneg_left (by omega) (by omega)
   have e3 : 0 < b_y - ay := by omega
   grind
 · apply Int.not_lt.1
   intro k;have hax : ax < lx := by omega
   have e : 0 ≤ (b_y - ay) * (hx - ax) := Int.mul_nonneg (by omega) (by omega)
   have e2 : 0 < (bx - ax) * (ay - ly) := Int.mul_pos (by omega) (by omega)
   grind
theorem core4 (hW : lx ≤ hx) (hH : ly ≤ hy) (dx : ax ≤ bx) (dy : ay ≤ b_y) (o : (ax ≤ hx ∧ lx ≤ bx) ∧ (ay ≤ hy ∧ ly ≤ b_y)) (ha : ax < lx ∨ ay < ly)
 (h : (bx - ax) * (ly - ay) - (b_y - ay) * (lx - ax) = 0) : (ax ≤ lx ∧ lx ≤ bx) ∧ (ay ≤ ly ∧ ly ≤ b_y) := by
 refine ⟨⟨?_,o.1.2⟩,?_,o.2.2⟩
 · apply Int.not_lt.1
   intro k;have : 0 < (b_y - ay) * (ax - lx) := Int.mul_pos (by omega) (by omega)
   have : 0 ≤ (bx - ax) * (ly - ay) := Int.mul_nonneg (by omega) (by omega)
   grind
 · apply Int.not_lt.1
   intro k;have : 0 < (bx - ax) * (ay - ly) := Int.mul_pos (by omega) (by omega)
   have : 0 ≤ (b_y - ay) * (lx - ax) := Int.mul_nonneg (by omega) (by omega)
   grind
theorem core3 (hW : lx ≤ hx) (hH : ly ≤ hy) (dx : ax ≤ bx) (dy : ay ≤ b_y) (o : (ax ≤ hx ∧ lx ≤ bx) ∧ (ay ≤ hy ∧ ly ≤ b_y)) (ha : ax < lx ∨ ay < ly) (hb : hx < bx ∨ hy < b_y)
 (h1 : (bx - ax) * (ly - ay) - (b_y - ay) * (hx - ax) < 0) (h2 : 0 < (bx - ax) * (hy - ay) - (b_y - ay) * (lx - ax)) :
 (hx - lx) * (ay - hy) - (ly - hy) * (ax - lx) < 0 ∧ 0 < (hx - lx) * (b_y - hy) - (ly - hy) * (bx - lx) := by
 have W := hW
 constructor
 · apply Int.not_le.1
   intro k
   rcases ha with ha | ha
   · have e1 : 0 ≤ (hx - lx) * (hy - ay) := Int.mul_nonneg (by omega) (by omega)
     have e2 : 0 ≤ (hy - ly) * (lx - ax) := Int.mul_nonneg (by omega) (by omega)
     have z1 : (hx - lx) * (hy - ay) = 0 := by (simp only [Int.sub_mul,Int.mul_sub,Int.add_mul,Int.mul_add,Int.neg_mul,Int.mul_neg,Int.mul_comm,Int.mul_left_comm,Int.mul_assoc] at *;omega)
     have z2 : (hy - ly) * (lx - ax) = 0 := by (simp only [Int.sub_mul,Int.mul_sub,Int.add_mul,Int.mul_add,Int.neg_mul,Int.mul_neg,Int.mul_comm,Int.mul_left_comm,Int.mul_assoc] at *;omega)
     have hl : hy = ly := by rcases mz z2 with h | h <;> omega
     rcases mz z1 with h | h
     · have : hx = lx := by omega
       subst this hl
       omega
     · have : hy = ay := by omega
       subst this;have e3 : 0 ≤ (b_y - hy) * (lx - ax) := Int.mul_nonneg (by omega) (by omega)
       (simp only [Int.sub_mul,Int.mul_sub,Int.add_mul,Int.mul_add,Int.neg_mul,Int.mul_neg,Int.mul_comm,Int.mul_left_comm,Int.mul_assoc] at *;omega)
   · have e1 : 0 ≤ (hx - lx) * (ly - ay) := Int.mul_nonneg (by omega) (by omega)
     have e2 : 0 ≤ (hy - ly) * (hx - ax) := Int.mul_nonneg (by omega) (by omega)
     have z1 : (hx - lx) * (ly - ay) = 0 := by (simp only [Int.sub_mul,Int.mul_sub,Int.add_mul,Int.mul_add,Int.neg_mul,Int.mul_neg,Int.mul_comm,Int.mul_left_comm,Int.mul_assoc] at *;omega)
     have z2 : (hy - ly) * (hx - ax) = 0 := by (simp only [Int.sub_mul,Int.mul_sub,Int.add_mul,Int.mul_add,Int.neg_mul,Int.mul_neg,Int.mul_comm,Int.mul_left_comm,Int.mul_assoc] at *;omega)
     have hl : hx = lx := by rcases mz z1 with h | h <;> omega
     rcases mz z2 with h | h
     · have : hy = ly := by omega
       subst this hl
       omega
     · have : hx = ax := by omega
       subst this;have e3 : 0 ≤ (bx - hx) * (ly - ay) := Int.mul_nonneg (by omega) (by omega)
       (simp only [Int.sub_mul,Int.mul_sub,Int.add_mul,Int.mul_add,Int.neg_mul,Int.mul_neg,Int.mul_comm,Int.mul_left_comm,Int.mul_assoc] at *;omega)
 · apply Int.not_le.1
   intro k
   rcases hb with hb | hb
   · have e1 : 0 ≤ (hx - lx) * (b_y - ly) := Int.mul_nonneg (by omega) (by omega)
     have e2 : 0 ≤ (hy - ly) * (bx - hx) := Int.mul_nonneg (by omega) (by omega)
     have z1 : (hx - lx) * (b_y - ly) = 0 := by (simp only [Int.sub_mul,Int.mul_sub,Int.add_mul,Int.mul_add,Int.neg_mul,Int.mul_neg,Int.mul_comm,Int.mul_left_comm,Int.mul_assoc] at *;omega)
     have z2 : (hy - ly) * (bx - hx) = 0 := by (simp only [Int.sub_mul,Int.mul_sub,Int.add_mul,Int.mul_add,Int.neg_mul,Int.mul_neg,Int.mul_comm,Int.mul_left_comm,Int.mul_assoc] at *;omega)
     have hl : hy = ly := by rcases mz z2 with h | h <;> omega
     rcases mz z1 with h | h
     · have : hx = lx := by omega
       subst this hl
       omega
     · have : b_y = ly := by omega
       subst this;have e3 : 0 ≤ (b_y - ay) * (bx - hx) := Int.mul_nonneg (by omega) (by omega)
       (simp only [Int.sub_mul,Int.mul_sub,Int.add_mul,Int.mul_add,Int.neg_mul,Int.mul_neg,Int.mul_comm,Int.mul_left_comm,Int.mul_assoc] at *;omega)
   · have e1 : 0 ≤ (hx - lx) * (b_y - hy) := Int.mul_nonneg (by omega) (by omega)
     have e2 : 0 ≤ (hy - ly) * (bx - lx) := Int.mul_nonneg (by omega) (by omega)
     have z1 : (hx - lx) * (b_y - hy) = 0 := by (simp only [Int.sub_mul,Int.mul_sub,Int.add_mul,Int.mul_add,Int.neg_mul,Int.mul_neg,Int.mul_comm,Int.mul_left_comm,Int.mul_assoc] at *;omega)
     have z2 : (hy - ly) * (bx - lx) = 0 := by (simp only [Int.sub_mul,Int.mul_sub,Int.add_mul,Int.mul_add,Int.neg_mul,Int.mul_neg,Int.mul_comm,Int.mul_left_comm,Int.mul_assoc] at *;omega)
     have hl : hx = lx := by rcases mz z1 with h | h <;> omega
     rcases mz z2 with h | h
     · have : hy = ly := by omega
       subst this hl
       omega
     · have : bx = lx := by omega
       subst this;have e3 : 0 ≤ (bx - ax) * (b_y - hy) := Int.mul_nonneg (by omega) (by omega)
       (simp only [Int.sub_mul,Int.mul_sub,Int.add_mul,Int.mul_add,Int.neg_mul,Int.mul_neg,Int.mul_comm,Int.mul_left_comm,Int.mul_assoc] at *;omega)
theorem core5 (hW : lx ≤ hx) (hH : ly ≤ hy) (dx : ax ≤ bx) (dy : ay ≤ b_y) (o : (ax ≤ hx ∧ lx ≤ bx) ∧ (ay ≤ hy ∧ ly ≤ b_y)) (ha : ax < lx ∨ ay < ly) (hb : hx < bx ∨ hy < b_y)
 (h1 : (bx - ax) * (ly - ay) - (b_y - ay) * (hx - ax) < 0) (h2 : 0 < (bx - ax) * (ly - ay) - (b_y - ay) * (lx - ax)) :
 (hx - lx) * (ay - ly) < 0 ∧ 0 < (hx - lx) * (b_y - ly) := by
 have hW' : lx < hx := by
  rcases Int.lt_or_eq_of_le hW with h | h
  · exact h
  · subst h;omega
 have ya : ay < ly := by
  apply Int.not_le.1
  intro k;have : ax < lx := by omega
  have e1 : 0 ≤ (bx - ax) * (ay - ly) := Int.mul_nonneg (by omega) (by omega)
  have e2 : 0 ≤ (b_y - ay) * (lx - ax) := Int.mul_nonneg (by omega) (by omega)
  (simp only [Int.sub_mul,Int.mul_sub,Int.add_mul,Int.mul_add,Int.neg_mul,Int.mul_neg,Int.mul_comm,Int.mul_left_comm,Int.mul_assoc] at *;omega)
 have yb : ly < b_y := by
  apply Int.not_le.1
  intro k;have hl : b_y = ly := by omega
  subst hl;have e1 : 0 ≤ (b_y - ay) * (bx - hx) := Int.mul_nonneg (by omega) (by omega)
  (simp only [Int.sub_mul,Int.mul_sub,Int.add_mul,Int.mul_add,Int.neg_mul,Int.mul_neg,Int.mul_comm,Int.mul_left_comm,Int.mul_assoc] at *;omega)
 exact ⟨Int.mul_neg_of_pos_of_neg (by omega) (by omega),Int.mul_pos (by omega) (by omega)⟩
end core
/- a segment and a box: the program's look, the reference's look, and 'no axis parts them' are one -/
theorem meetS_proper {a b c d : Pt} (oa : okPt a = true) (ob : okPt b = true) (oc : okPt c = true) (od : okPt d = true)
 (h : ((crossR a b c < 0 ∧ 0 < crossR a b d) ∨ (0 < crossR a b c ∧ crossR a b d < 0)) ∧ ((crossR c d a < 0 ∧ 0 < crossR c d b) ∨ (0 < crossR c d a ∧ crossR c d b < 0))) : meetS a b c d = true := by
 rw [meetS_iff]
 exact ⟨⟨oa,ob,oc,od⟩,.inl ((properR_iff oa ob oc od).2 h)⟩
theorem meetS_on1 {a b c d : Pt} (oa : okPt a = true) (ob : okPt b = true) (oc : okPt c = true) (od : okPt d = true)
 (h : crossR a b c = 0 ∧ (min a.x b.x ≤ c.x ∧ c.x ≤ max a.x b.x) ∧ (min a.y b.y ≤ c.y ∧ c.y ≤ max a.y b.y)) : meetS a b c d = true := by
 rw [meetS_iff]
 exact ⟨⟨oa,ob,oc,od⟩,.inr (.inl ((onS_iff _ _ _).2 ⟨⟨oa,ob,oc⟩,h⟩))⟩
theorem meetS_on2 {a b c d : Pt} (oa : okPt a = true) (ob : okPt b = true) (oc : okPt c = true) (od : okPt d = true)
 (h : crossR a b d = 0 ∧ (min a.x b.x ≤ d.x ∧ d.x ≤ max a.x b.x) ∧ (min a.y b.y ≤ d.y ∧ d.y ≤ max a.y b.y)) : meetS a b c d = true := by
 rw [meetS_swap3]
 exact meetS_on1 oa ob od oc h
theorem core_dir {ax ay bx b_y lx ly hx hy : Int} (oa : okPt ⟨ax,ay⟩ = true) (ob : okPt ⟨bx,b_y⟩ = true) (ol : okPt ⟨lx,ly⟩ = true) (oh : okPt ⟨hx,hy⟩ = true) (hW : lx ≤ hx) (hH : ly ≤ hy)
 (hs : sat ⟨ax,ay⟩ ⟨bx,b_y⟩ ⟨⟨lx,ly⟩,⟨hx,hy⟩⟩) (dx : ax ≤ bx) (dy : ay ≤ b_y) (na : ¬ inR ⟨⟨lx,ly⟩,⟨hx,hy⟩⟩ ⟨ax,ay⟩) (nb : ¬ inR ⟨⟨lx,ly⟩,⟨hx,hy⟩⟩ ⟨bx,b_y⟩) :
 meetS ⟨ax,ay⟩ ⟨bx,b_y⟩ ⟨lx,hy⟩ ⟨hx,ly⟩ = true ∧ (meetS ⟨ax,ay⟩ ⟨bx,b_y⟩ ⟨lx,ly⟩ ⟨hx,ly⟩ = true ∨ meetS ⟨ax,ay⟩ ⟨bx,b_y⟩ ⟨lx,hy⟩ ⟨lx,ly⟩ = true) := by
 have o1 : okPt ⟨lx,hy⟩ = true := by rw [okPt_iff] at *;simp only at *;omega
 have o2 : okPt ⟨hx,ly⟩ = true := by rw [okPt_iff] at *;simp only at *;omega
 obtain ⟨h1,h2,h3⟩ := hs;unfold inR at na nb;unfold allPos at h2 h3;rw [crossR_swap,crossR_swap ⟨ax,ay⟩,crossR_swap ⟨ax,ay⟩,crossR_swap ⟨ax,ay⟩] at h3
 simp only at *
 have o : (ax ≤ hx ∧ lx ≤ bx) ∧ (ay ≤ hy ∧ ly ≤ b_y) := by omega
 have ha : ax < lx ∨ ay < ly := by omega
 have hb : hx < bx ∨ hy < b_y := by omega
 have P : (bx - ax) * (ly - ay) ≤ (bx - ax) * (hy - ay) := Int.mul_le_mul_of_nonneg_left (by omega) (by omega)
 have Q : (b_y - ay) * (lx - ax) ≤ (b_y - ay) * (hx - ax) := Int.mul_le_mul_of_nonneg_left (by omega) (by omega)
 have eLR : crossR ⟨ax,ay⟩ ⟨bx,b_y⟩ ⟨hx,ly⟩ = (bx - ax) * (ly - ay) - (b_y - ay) * (hx - ax) := rfl;have eHL : crossR ⟨ax,ay⟩ ⟨bx,b_y⟩ ⟨lx,hy⟩ = (bx - ax) * (hy - ay) - (b_y - ay) * (lx - ax) := rfl;have eLL : crossR ⟨ax,ay⟩ ⟨bx,b_y⟩ ⟨lx,ly⟩ = (bx - ax) * (ly - ay) - (b_y - ay) * (lx - ax) := rfl;have eHH : crossR ⟨ax,ay⟩ ⟨bx,b_y⟩ ⟨hx,hy⟩ = (bx - ax) * (hy - ay) - (b_y - ay) * (hx - ax) := rfl;rw [eLR,eHL,eLL,eHH] at h2 h3
 have fLR : (bx - ax) * (ly - ay) - (b_y - ay) * (hx - ax) ≤ 0 := by
  apply Int.not_lt.1
  intro k;exact h2 (by omega)
 have fHL : 0 ≤ (bx - ax) * (hy - ay) - (b_y - ay) * (lx - ax) := by
  apply Int.not_lt.1
  intro k;exact h3 (by omega)
 clear h2 h3 na nb P Q h1 eHH
 by_cases zLR : (bx - ax) * (ly - ay) - (b_y - ay) * (hx - ax) = 0
 · have := core1 hW hH dx dy o ha hb zLR
   have hm : crossR ⟨ax,ay⟩ ⟨bx,b_y⟩ ⟨hx,ly⟩ = 0 ∧ (min ax bx ≤ hx ∧ hx ≤ max ax bx) ∧ (min ay b_y ≤ ly ∧ ly ≤ max ay b_y) := by rw [eLR];exact ⟨zLR,by omega⟩
   exact ⟨meetS_on2 oa ob o1 o2 hm,.inl (meetS_on2 oa ob ol o2 hm)⟩
 by_cases zHL : (bx - ax) * (hy - ay) - (b_y - ay) * (lx - ax) = 0
 · have := core1 (lx := ly) (ly := lx) (hx := hy) (hy := hx) (ax := ay) (ay := ax) (bx := b_y) (b_y := bx) hH hW dy dx ⟨o.2,o.1⟩ (by omega) (by omega) (by omega)
   have hm : crossR ⟨ax,ay⟩ ⟨bx,b_y⟩ ⟨lx,hy⟩ = 0 ∧ (min ax bx ≤ lx ∧ lx ≤ max ax bx) ∧ (min ay b_y ≤ hy ∧ hy ≤ max ay b_y) := by rw [eHL];exact ⟨zHL,by omega⟩
   exact ⟨meetS_on1 oa ob o1 o2 hm,.inr (meetS_on1 oa ob o1 ol hm)⟩
 refine ⟨meetS_proper oa ob o1 o2 ⟨.inr (by rw [eLR,eHL];omega),.inl ?_⟩,?_⟩
 · have := core3 hW hH dx dy o ha hb (by omega) (by omega)
   exact this
 · by_cases zLL : (bx - ax) * (ly - ay) - (b_y - ay) * (lx - ax) = 0
   · have := core4 hW hH dx dy o ha zLL
     exact .inl (meetS_on1 oa ob ol o2 (by rw [eLL];exact ⟨zLL,by simp only;omega⟩))
   by_cases pLL : 0 < (bx - ax) * (ly - ay) - (b_y - ay) * (lx - ax)
   · left
     have := core5 hW hH dx dy o ha hb (by omega) pLL
     refine meetS_proper oa ob ol o2 ⟨.inr (by rw [eLR,eLL];omega),.inl ?_⟩
     unfold crossR
     simp only [Int.sub_self, Int.zero_mul, Int.sub_zero]
     exact this
   · right
     have := core5 (lx := ly) (ly := lx) (hx := hy) (hy := hx) (ax := ay) (ay := ax) (bx := b_y) (b_y := bx) hH hW dy dx ⟨o.2,o.1⟩ (by omega) (by omega) (by omega) (by omega)
     refine meetS_proper oa ob o1 ol ⟨.inr (by rw [eHL,eLL];omega),.inl ?_⟩
     unfold crossR
     simp only [Int.sub_self, Int.zero_mul, Int.zero_sub]
     have e : ∀ t,-((ly - hy) * t) = (hy - ly) * t := fun t => by (simp only [Int.sub_mul,Int.mul_sub,Int.add_mul,Int.mul_add,Int.neg_mul,Int.mul_neg,Int.mul_comm,Int.mul_left_comm,Int.mul_assoc] at *;omega)
     rw [e, e]
     exact this
def ry (p : Pt) : Pt := ⟨p.x,-p.y⟩
theorem okPt_ry (p : Pt) : okPt (ry p) = okPt p := by
 rw [Bool.eq_iff_iff,okPt_iff,okPt_iff]
 simp only [ry]
 omega
theorem crossR_ry (a b c : Pt) : crossR (ry a) (ry b) (ry c) = - crossR a b c := by unfold crossR ry;(simp only [Int.sub_mul,Int.mul_sub,Int.add_mul,Int.mul_add,Int.neg_mul,Int.mul_neg,Int.mul_comm,Int.mul_left_comm,Int.mul_assoc] at *;omega)
theorem onS_ry (a b p : Pt) : onS (ry a) (ry b) (ry p) = onS a b p := by
 rw [Bool.eq_iff_iff,onS_iff,onS_iff,okPt_ry,okPt_ry,okPt_ry,crossR_ry]
 simp only [ry]
 constructor <;> rintro ⟨h,h1⟩ <;> exact ⟨h,by omega⟩
theorem orient_ry (a b c : Pt) : orient (ry a) (ry b) (ry c) = - orient a b c := by
 unfold orient cross
 rw [okPt_ry,okPt_ry,okPt_ry,crossR_ry,← sgn_neg]
 congr 1
 split <;> omega
theorem meetS_ry (a b c d : Pt) : meetS (ry a) (ry b) (ry c) (ry d) = meetS a b c d := by
 unfold meetS properR
 rw [okPt_ry,okPt_ry,okPt_ry,okPt_ry,onS_ry,onS_ry,onS_ry,onS_ry,orient_ry,orient_ry,orient_ry,orient_ry,Int.neg_mul_neg,Int.neg_mul_neg]
theorem okBx_iff (r : Bx) : okBx r = true ↔ (okPt r.lo = true ∧ okPt r.hi = true) ∧ r.lo.x ≤ r.hi.x ∧ r.lo.y ≤ r.hi.y := by
 unfold okBx ckBox
 cases h1 : okPt r.lo <;> cases h2 : okPt r.hi <;> simp
theorem bhas_iff {r : Bx} {p : Pt} (hr : okBx r = true) (hp : okPt p = true) : bhas r p = true ↔ inR r p := by
 simp [bhas,hr,hp,bhasR,inR,and_assoc]
theorem sat_ry {a b : Pt} {lx ly hx hy : Int} (h : sat a b ⟨⟨lx,ly⟩,⟨hx,hy⟩⟩) : sat (ry a) (ry b) ⟨⟨lx,-hy⟩,⟨hx,-ly⟩⟩ := by
 obtain ⟨h1,h2,h3⟩ := h
 have e : ∀ a b : Pt,¬ allPos a b ⟨⟨lx,ly⟩,⟨hx,hy⟩⟩ → ¬ allPos (ry b) (ry a) ⟨⟨lx,-hy⟩,⟨hx,-ly⟩⟩ := fun a b hn k => by
  apply hn
  unfold allPos at *
  simp only at *
  have c1 := crossR_ry b a ⟨lx,ly⟩;have c2 := crossR_ry b a ⟨hx,ly⟩;have c3 := crossR_ry b a ⟨lx,hy⟩;have c4 := crossR_ry b a ⟨hx,hy⟩;rw [crossR_swap a b] at c1 c2 c3 c4
  simp only [ry] at *
  omega
 refine ⟨?_,e b a h3,e a b h2⟩
 simp only [ry] at *
 omega
theorem core_x {a b : Pt} {r : Bx} (oa : okPt a = true) (ob : okPt b = true) (hr : okBx r = true) (hs : sat a b r) (dx : a.x ≤ b.x) (na : ¬ inR r a) (nb : ¬ inR r b) :
 (meetS a b r.lo r.hi = true ∨ meetS a b ⟨r.lo.x,r.hi.y⟩ ⟨r.hi.x,r.lo.y⟩ = true) ∧
 (((meetS a b r.lo ⟨r.hi.x,r.lo.y⟩ = true ∨ meetS a b ⟨r.hi.x,r.lo.y⟩ r.hi = true) ∨ meetS a b r.hi ⟨r.lo.x,r.hi.y⟩ = true) ∨ meetS a b ⟨r.lo.x,r.hi.y⟩ r.lo = true) := by
 obtain ⟨⟨ol,oh⟩,hW,hH⟩ := (okBx_iff r).1 hr;obtain ⟨⟨lx,ly⟩,⟨hx,hy⟩⟩ := r;obtain ⟨ax,ay⟩ := a;obtain ⟨bx,b_y⟩ := b
 simp only at *
 rcases Int.le_total ay b_y with dy | dy
 · obtain ⟨m1,m2⟩ := core_dir oa ob ol oh hW hH hs dx dy na nb
   refine ⟨.inr m1,?_⟩
   rcases m2 with m2 | m2
   · exact .inl (.inl (.inl m2))
   · exact .inr m2
 · have h := sat_ry hs
   have hn : ∀ x y,¬ inR ⟨⟨lx,ly⟩,⟨hx,hy⟩⟩ ⟨x,y⟩ → ¬ inR ⟨⟨lx,-hy⟩,⟨hx,-ly⟩⟩ ⟨x,-y⟩ := fun x y h k => h (by unfold inR at *;simp only at *;omega)
   have r1 := okPt_ry ⟨lx,hy⟩;have r2 := okPt_ry ⟨hx,ly⟩
   obtain ⟨m1,m2⟩ := core_dir (ax := ax) (ay := -ay) (bx := bx) (b_y := -b_y) (lx := lx) (ly := -hy) (hx := hx) (hy := -ly) (by have := okPt_ry ⟨ax,ay⟩;rw [oa] at this;exact this) (by have := okPt_ry ⟨bx,b_y⟩;rw [ob] at this;exact this)
    (by rw [okPt_iff] at *;simp only at *;omega) (by rw [okPt_iff] at *;simp only at *;omega) hW (by omega) h dx (by omega) (hn _ _ na) (hn _ _ nb)
   have k1 := meetS_ry ⟨ax,ay⟩ ⟨bx,b_y⟩ ⟨lx,ly⟩ ⟨hx,hy⟩;have k2 := meetS_ry ⟨ax,ay⟩ ⟨bx,b_y⟩ ⟨lx,hy⟩ ⟨hx,hy⟩;have k3 := meetS_ry ⟨ax,ay⟩ ⟨bx,b_y⟩ ⟨lx,ly⟩ ⟨lx,hy⟩;simp only [ry] at k1 k2 k3;rw [k1] at m1;rw [k2,k3] at m2;refine ⟨.inl m1,?_⟩
   rcases m2 with m2 | m2
   · rw [meetS_swap3] at m2
     exact .inl (.inr m2)
   · rw [meetS_swap3] at m2
     exact .inr m2
theorem core_all {a b : Pt} {r : Bx} (oa : okPt a = true) (ob : okPt b = true) (hr : okBx r = true) (hs : sat a b r) (na : ¬ inR r a) (nb : ¬ inR r b) :
 (meetS a b r.lo r.hi = true ∨ meetS a b ⟨r.lo.x,r.hi.y⟩ ⟨r.hi.x,r.lo.y⟩ = true) ∧
 (((meetS a b r.lo ⟨r.hi.x,r.lo.y⟩ = true ∨ meetS a b ⟨r.hi.x,r.lo.y⟩ r.hi = true) ∨ meetS a b r.hi ⟨r.lo.x,r.hi.y⟩ = true) ∨ meetS a b ⟨r.lo.x,r.hi.y⟩ r.lo = true) := by
 rcases Int.le_total a.x b.x with dx | dx
 · exact core_x oa ob hr hs dx na nb
 · have := core_x ob oa hr (sat_swap hs) dx nb na
   simp only [meetS_swap1 a b] at this;exact this
theorem inR_corners {r : Bx} (hr : okBx r = true) : (inR r r.lo ∧ inR r r.hi) ∧ inR r ⟨r.lo.x,r.hi.y⟩ ∧ inR r ⟨r.hi.x,r.lo.y⟩ := by
 have := (okBx_iff r).1 hr;unfold inR
 simp only
 omega
theorem mbox_iff {a b : Pt} {r : Bx} (oa : okPt a = true) (ob : okPt b = true) (hr : okBx r = true) : mbox a b r = true ↔ sat a b r := by
 obtain ⟨⟨c1,c2⟩,c3,c4⟩ := inR_corners hr
 simp only [mbox,oa,ob,hr,Bool.and_self,Bool.true_and,Bool.or_eq_true,bhas_iff hr oa,bhas_iff hr ob]
 constructor
 · rintro (((h | h) | h) | h)
   · exact sat_in h
   · exact sat_swap (sat_in h)
   · exact sat_of_meet c1 c2 h
   · exact sat_of_meet c3 c4 h
 · intro h
   by_cases na : inR r a
   · exact .inl (.inl (.inl na))
   by_cases nb : inR r b
   · exact .inl (.inl (.inr nb))
   rcases (core_all oa ob hr h na nb).1 with m | m
   · exact .inl (.inr m)
   · exact .inr m
theorem mboxR_iff {a b : Pt} {r : Bx} (oa : okPt a = true) (ob : okPt b = true) (hr : okBx r = true) : mboxR a b r = true ↔ sat a b r := by
 obtain ⟨⟨c1,c2⟩,c3,c4⟩ := inR_corners hr
 simp only [mboxR,oa,ob,hr,Bool.and_self,Bool.true_and,Bool.or_eq_true,bhas_iff hr oa,bhas_iff hr ob]
 constructor
 · rintro (((((h | h) | h) | h) | h) | h)
   · exact sat_in h
   · exact sat_swap (sat_in h)
   · exact sat_of_meet c1 c4 h
   · exact sat_of_meet c4 c2 h
   · exact sat_of_meet c2 c3 h
   · exact sat_of_meet c3 c1 h
 · intro h
   by_cases na : inR r a
   · exact .inl (.inl (.inl (.inl (.inl na))))
   by_cases nb : inR r b
   · exact .inl (.inl (.inl (.inl (.inr nb))))
   rcases (core_all oa ob hr h na nb).2 with ((m | m) | m) | m
   · exact .inl (.inl (.inl (.inr m)))
   · exact .inl (.inl (.inr m))
   · exact .inl (.inr m)
   · exact .inr m
theorem mbox_eq (a b : Pt) (r : Bx) : mbox a b r = mboxR a b r := by
 by_cases h : (okPt a && okPt b && okBx r) = true
 · have oa : okPt a = true := by simp_all
   have ob : okPt b = true := by simp_all
   have hr : okBx r = true := by simp_all
   rw [Bool.eq_iff_iff, mbox_iff oa ob hr, mboxR_iff oa ob hr]
 · have h : (okPt a && okPt b && okBx r) = false := by simpa using h
   rw [mbox, mboxR, h]
   rfl
/- the parity of a ray's crossings: it telescopes;it stays where no edge is met -/
def parF (c : Nat → Bool) : Nat → Bool
 | 0 => false
 | k + 1 => xor (parF c k) (c k)
theorem parity_parF (l : List Pt) (p : Pt) (k : Nat) : parity l p k = parF (fun i => crossesB (pt l i) (nx l i) p) k := by
 induction k with
 | zero => rfl
 | succ k ih => rw [parity,parF,ih]
theorem parF_xor (c d : Nat → Bool) (k : Nat) : xor (parF c k) (parF d k) = parF (fun i => xor (c i) (d i)) k := by
 induction k with
 | zero => rfl
 | succ k ih =>
   rw [parF, parF, parF, ← ih]
   cases parF c k <;> cases parF d k <;> cases c k <;> cases d k <;> rfl
theorem parF_tele {c : Nat → Bool} {l : List Pt} {g : Pt → Bool} (h : ∀ i,i < l.length → c i = xor (g (pt l i)) (g (nx l i))) : parF c l.length = false := by
 have step : ∀ k,k < l.length → parF c k = xor (g (pt l 0)) (g (pt l k)) := by
  intro k
  induction k with
  | zero => intro _;rw [parF];cases g (pt l 0) <;> rfl
  | succ k ih =>
    intro hk
    rw [parF, ih (by omega), h k (by omega), nx_of_lt hk]
    cases g (pt l 0) <;> cases g (pt l k) <;> cases g (pt l (k + 1)) <;> rfl
 cases hn : l.length with
 | zero => rfl
 | succ m =>
   rw [parF, step m (by omega), h m (by omega), nx_last (by omega)]
   cases g (pt l 0) <;> cases g (pt l m) <;> rfl
theorem parity_move {l : List Pt} {p q : Pt} {g : Pt → Bool} (h : ∀ i,i < l.length → xor (crossesB (pt l i) (nx l i) p) (crossesB (pt l i) (nx l i) q) = xor (g (pt l i)) (g (nx l i))) :
 parity l p l.length = parity l q l.length := by
 have e : xor (parity l p l.length) (parity l q l.length) = false := by
  rw [parity_parF, parity_parF, parF_xor]
  exact parF_tele h
 revert e
 cases parity l p l.length <;> cases parity l q l.length <;> simp
theorem crossesB_swap (a b p : Pt) : crossesB b a p = crossesB a b p := by
 unfold crossesB
 by_cases h1 : b.y < a.y
 · rw [if_pos h1,if_neg (by omega)]
 · rw [if_neg h1]
   by_cases h2 : a.y < b.y
   · rw [if_pos h2]
   · rw [if_neg h2]
     have e : a.y = b.y := by omega
     have e1 : (decide (b.y ≤ p.y) && decide (p.y < a.y)) = false := by
      rw [Bool.and_eq_false_iff]
      by_cases h : b.y ≤ p.y
      · right;simp;omega
      · left;simp;omega
     have e2 : (decide (a.y ≤ p.y) && decide (p.y < b.y)) = false := by
      rw [Bool.and_eq_false_iff]
      by_cases h : a.y ≤ p.y
      · right;simp;omega
      · left;simp;omega
     rw [e1, e2]
     rfl
theorem crossesB_up {a b p : Pt} (oa : okPt a = true) (ob : okPt b = true) (op : okPt p = true) (h : a.y ≤ b.y) : crossesB a b p = decide (a.y ≤ p.y ∧ p.y < b.y ∧ 0 < crossR a b p) := by
 have e : cross a b p = crossR a b p := by simp [cross,oa,ob,op]
 rw [crossesB,if_neg (by omega),e]
 by_cases h1 : a.y ≤ p.y <;> by_cases h2 : p.y < b.y <;> by_cases h3 : 0 < crossR a b p <;> simp [h1,h2,h3]
theorem side_right {a b p : Pt} (h1 : a.y ≤ p.y) (h2 : p.y < b.y) (ha : a.x < p.x) (hb : b.x < p.x) : crossR a b p < 0 := by
 unfold crossR;have e1 : (b.x - a.x) * (p.y - a.y) ≤ (p.x - a.x) * (p.y - a.y) := Int.mul_le_mul_of_nonneg_right (by omega) (by omega)
 have e2 : 0 < (p.x - a.x) * (b.y - p.y) := Int.mul_pos (by omega) (by omega)
 (simp only [Int.sub_mul,Int.mul_sub,Int.add_mul,Int.mul_add,Int.neg_mul,Int.mul_neg,Int.mul_comm,Int.mul_left_comm,Int.mul_assoc] at *;omega)
theorem side_left {a b p : Pt} (h1 : a.y ≤ p.y) (h2 : p.y < b.y) (ha : p.x < a.x) (hb : p.x < b.x) : 0 < crossR a b p := by
 unfold crossR;have e1 : (p.x - a.x) * (p.y - a.y) ≤ (b.x - a.x) * (p.y - a.y) := Int.mul_le_mul_of_nonneg_right (by omega) (by omega)
 have e2 : 0 < (a.x - p.x) * (b.y - p.y) := Int.mul_pos (by omega) (by omega)
 (simp only [Int.sub_mul,Int.mul_sub,Int.add_mul,Int.mul_add,Int.neg_mul,Int.mul_neg,Int.mul_comm,Int.mul_left_comm,Int.mul_assoc] at *;omega)
theorem not_sat {a b : Pt} {u : Bx} (h : ¬ sat a b u) : (u.hi.x < a.x ∧ u.hi.x < b.x) ∨ (a.x < u.lo.x ∧ b.x < u.lo.x) ∨ (u.hi.y < a.y ∧ u.hi.y < b.y) ∨ (a.y < u.lo.y ∧ b.y < u.lo.y) ∨ allPos a b u ∨ allPos b a u := by
 unfold sat at h
 by_cases h1 : allPos a b u
 · simp [h1]
 by_cases h2 : allPos b a u
 · simp [h2]
 simp only [h1,h2,not_false_eq_true,and_true,or_false] at *
 omega
theorem same_side {a b p q : Pt} {u : Bx} (h : ¬ sat a b u) (hp : inR u p) (hq : inR u q) (p1 : a.y ≤ p.y) (p2 : p.y < b.y) (q1 : a.y ≤ q.y) (q2 : q.y < b.y) : 0 < crossR a b p ↔ 0 < crossR a b q := by
 have hn := not_sat h;have hp' := hp;have hq' := hq;unfold inR at hp hq
 rcases hn with k | k | k | k | k | k
 · have := side_left p1 p2 (by omega) (by omega)
   have := side_left q1 q2 (by omega) (by omega)
   omega
 · have := side_right p1 p2 (by omega) (by omega)
   have := side_right q1 q2 (by omega) (by omega)
   omega
 · omega
 · omega
 · have := allPos_in k hp'
   have := allPos_in k hq'
   omega
 · have k1 := allPos_in k hp'
   have k2 := allPos_in k hq';rw [crossR_swap] at k1 k2
   omega
theorem cross_at_b (a b : Pt) (x : Int) : crossR a b ⟨x,b.y⟩ = (b.y - a.y) * (b.x - x) := by unfold crossR;(simp only [Int.sub_mul,Int.mul_sub,Int.add_mul,Int.mul_add,Int.neg_mul,Int.mul_neg,Int.mul_comm,Int.mul_left_comm,Int.mul_assoc] at *;omega)
theorem cross_at_a (a b : Pt) (x : Int) : crossR a b ⟨x,a.y⟩ = (b.y - a.y) * (a.x - x) := by unfold crossR;(simp only [Int.sub_mul,Int.mul_sub,Int.add_mul,Int.mul_add,Int.neg_mul,Int.mul_neg,Int.mul_comm,Int.mul_left_comm,Int.mul_assoc] at *;omega)
theorem pos_mul_iff {t v : Int} (ht : 0 < t) : (0 < t * v ↔ 0 < v) ∧ (t * v < 0 ↔ v < 0) := by
 rcases Int.lt_trichotomy v 0 with h | h | h
 · have := Int.mul_neg_of_pos_of_neg ht h
   omega
 · subst h;simp
 · have := Int.mul_pos ht h
   omega
theorem side_b {a b p : Pt} {u : Bx} (h : ¬ sat a b u) (hp : inR u p) (hb : inR u ⟨p.x,b.y⟩) (p1 : a.y ≤ p.y) (p2 : p.y < b.y) : 0 < crossR a b p ↔ p.x < b.x := by
 have hn := not_sat h;have hp' := hp;have hb' := hb;have hc := cross_at_b a b p.x;have hm := pos_mul_iff (t := b.y - a.y) (v := b.x - p.x) (by omega)
 rw [← hc] at hm;unfold inR at hp hb
 simp only at hb
 rcases hn with k | k | k | k | k | k
 · have := side_left p1 p2 (by omega) (by omega)
   omega
 · have := side_right p1 p2 (by omega) (by omega)
   omega
 · omega
 · omega
 · have := allPos_in k hp'
   have := allPos_in k hb'
   omega
 · have k1 := allPos_in k hp'
   have k2 := allPos_in k hb';rw [crossR_swap] at k1 k2
   omega
theorem side_a {a b p : Pt} {u : Bx} (h : ¬ sat a b u) (hp : inR u p) (ha : inR u ⟨p.x,a.y⟩) (p1 : a.y ≤ p.y) (p2 : p.y < b.y) : 0 < crossR a b p ↔ p.x < a.x := by
 have hn := not_sat h;have hp' := hp;have ha' := ha;have hc := cross_at_a a b p.x;have hm := pos_mul_iff (t := b.y - a.y) (v := a.x - p.x) (by omega)
 rw [← hc] at hm;unfold inR at hp ha
 simp only at ha
 rcases hn with k | k | k | k | k | k
 · have := side_left p1 p2 (by omega) (by omega)
   omega
 · have := side_right p1 p2 (by omega) (by omega)
   omega
 · omega
 · omega
 · have := allPos_in k hp'
   have := allPos_in k ha'
   omega
 · have k1 := allPos_in k hp'
   have k2 := allPos_in k ha';rw [crossR_swap] at k1 k2
   omega
theorem side_ab {a b : Pt} {x : Int} {u : Bx} (h : ¬ sat a b u) (ha : inR u ⟨x,a.y⟩) (hb : inR u ⟨x,b.y⟩) (hab : a.y ≤ b.y) : x < a.x ↔ x < b.x := by
 have hn := not_sat h;have ha' := ha;have hb' := hb;unfold inR at ha hb
 simp only at ha hb
 have ca := cross_at_a a b x;have cb := cross_at_b a b x
 have key : ∀ t : Int,0 ≤ t → (0 < t * (a.x - x) → 0 < t * (b.x - x) → (x < a.x ↔ x < b.x)) ∧ (t * (a.x - x) < 0 → t * (b.x - x) < 0 → (x < a.x ↔ x < b.x)) := by
  intro t ht
  rcases Int.lt_or_eq_of_le ht with h | h
  · have m1 := pos_mul_iff (v := a.x - x) h
    have m2 := pos_mul_iff (v := b.x - x) h
    constructor <;> intro _ _ <;> omega
  · subst h
    simp
 have key := key (b.y - a.y) (by omega)
 rw [← ca,← cb] at key
 rcases hn with k | k | k | k | k | k
 · omega
 · omega
 · omega
 · omega
 · exact key.1 (allPos_in k ha') (allPos_in k hb')
 · have k1 := allPos_in k ha'
   have k2 := allPos_in k hb';rw [crossR_swap] at k1 k2;exact key.2 (by omega) (by omega)
theorem move_x {a b p q : Pt} {u : Bx} (oa : okPt a = true) (ob : okPt b = true) (op : okPt p = true) (oq : okPt q = true) (h : ¬ sat a b u) (hp : inR u p) (hq : inR u q) (e : p.y = q.y) : crossesB a b p = crossesB a b q := by
 have go : ∀ a b : Pt,okPt a = true → okPt b = true → ¬ sat a b u → a.y ≤ b.y → crossesB a b p = crossesB a b q := by
  intro a b oa ob h hab
  rw [crossesB_up oa ob op hab, crossesB_up oa ob oq hab, decide_eq_decide, e]
  constructor
  · rintro ⟨h1, h2, h3⟩
    exact ⟨h1,h2,(same_side h hp hq (by omega) (by omega) h1 h2).1 h3⟩
  · rintro ⟨h1, h2, h3⟩
    exact ⟨h1,h2,(same_side h hp hq (by omega) (by omega) h1 h2).2 h3⟩
 rcases Int.le_total a.y b.y with hab | hab
 · exact go a b oa ob h hab
 · rw [← crossesB_swap a b p,← crossesB_swap a b q]
   exact go b a ob oa (fun k => h (sat_swap k)) hab
def passed (x y y' : Int) (v : Pt) : Bool := decide (y < v.y ∧ v.y ≤ y' ∧ x < v.x)
theorem move_y {a b p q : Pt} {u : Bx} (oa : okPt a = true) (ob : okPt b = true) (op : okPt p = true) (oq : okPt q = true) (h : ¬ sat a b u) (hp : inR u p) (hq : inR u q) (e : p.x = q.x) (hy : p.y ≤ q.y) :
 xor (crossesB a b p) (crossesB a b q) = xor (passed p.x p.y q.y a) (passed p.x p.y q.y b) := by
 have go : ∀ a b : Pt,okPt a = true → okPt b = true → ¬ sat a b u → a.y ≤ b.y → xor (crossesB a b p) (crossesB a b q) = xor (passed p.x p.y q.y a) (passed p.x p.y q.y b) := by
  intro a b oa ob h hab
  rw [crossesB_up oa ob op hab, crossesB_up oa ob oq hab]
  unfold passed;have hmid : ∀ y,p.y ≤ y → y ≤ q.y → inR u ⟨p.x,y⟩ := fun y h1 h2 => by unfold inR at *;simp only at *;omega
  by_cases c1 : b.y ≤ p.y
  · rw [decide_eq_false (by omega), decide_eq_false (by omega), decide_eq_false (by omega), decide_eq_false (by omega)]
  by_cases c2 : q.y < a.y
  · rw [decide_eq_false (by omega), decide_eq_false (by omega), decide_eq_false (by omega), decide_eq_false (by omega)]
  by_cases c3 : a.y ≤ p.y
  · by_cases c4 : b.y ≤ q.y
    · have k := side_b h hp (hmid b.y (by omega) c4) c3 (by omega)
      rw [decide_eq_false (p := a.y ≤ q.y ∧ _) (by omega), decide_eq_false (p := p.y < a.y ∧ _) (by omega), Bool.xor_false, Bool.false_xor, decide_eq_decide]
      omega
    · have k := same_side h hp hq c3 (by omega) (by omega) (by omega)
      rw [decide_eq_false (p := p.y < a.y ∧ _) (by omega), decide_eq_false (p := p.y < b.y ∧ b.y ≤ q.y ∧ _) (by omega)]
      have e : decide (a.y ≤ p.y ∧ p.y < b.y ∧ 0 < crossR a b p) = decide (a.y ≤ q.y ∧ q.y < b.y ∧ 0 < crossR a b q) := by
       rw [decide_eq_decide];omega
      rw [e]
      cases decide (a.y ≤ q.y ∧ q.y < b.y ∧ 0 < crossR a b q) <;> rfl
  · by_cases c4 : b.y ≤ q.y
    · have k := side_ab h (hmid a.y (by omega) (by omega)) (hmid b.y (by omega) c4) hab
      rw [decide_eq_false (p := a.y ≤ p.y ∧ _) (by omega), decide_eq_false (p := a.y ≤ q.y ∧ _) (by omega)]
      have e : decide (p.y < a.y ∧ a.y ≤ q.y ∧ p.x < a.x) = decide (p.y < b.y ∧ b.y ≤ q.y ∧ p.x < b.x) := by
       rw [decide_eq_decide];omega
      rw [e]
      cases decide (p.y < b.y ∧ b.y ≤ q.y ∧ p.x < b.x) <;> rfl
    · have hm := hmid a.y (by omega) (by omega)
      rw [e] at hm;have k := side_a h hq hm (by omega) (by omega)
      rw [decide_eq_false (p := a.y ≤ p.y ∧ _) (by omega), decide_eq_false (p := p.y < b.y ∧ b.y ≤ q.y ∧ _) (by omega), Bool.xor_false, Bool.false_xor, decide_eq_decide]
      omega
 rcases Int.le_total a.y b.y with hab | hab
 · exact go a b oa ob h hab
 · rw [← crossesB_swap a b p,← crossesB_swap a b q,Bool.xor_comm (passed p.x p.y q.y a)]
   exact go b a ob oa (fun k => h (sat_swap k)) hab
theorem parity_box {l : List Pt} {u : Bx} {p q : Pt} (hok : l.all okPt = true) (op : okPt p = true) (oq : okPt q = true) (hn : ∀ i,i < l.length → ¬ sat (pt l i) (nx l i) u) (hp : inR u p) (hq : inR u q) :
 parity l p l.length = parity l q l.length := by
 have om : okPt ⟨p.x,q.y⟩ = true := by rw [okPt_iff] at *;simp only;omega
 have hm : inR u ⟨p.x,q.y⟩ := by unfold inR at *;simp only;omega
 have e1 : parity l ⟨p.x,q.y⟩ l.length = parity l q l.length := by
  apply parity_move (g := fun _ => false)
  intro i hi
  rw [move_x (okPt_pt hok hi) (okPt_nx hok hi) om oq (hn i hi) hm hq rfl]
  cases crossesB (pt l i) (nx l i) q <;> rfl
 rw [← e1]
 rcases Int.le_total p.y q.y with h | h
 · exact parity_move fun i hi => move_y (okPt_pt hok hi) (okPt_nx hok hi) op om (hn i hi) hp hm rfl h
 · exact (parity_move fun i hi => move_y (okPt_pt hok hi) (okPt_nx hok hi) om op (hn i hi) hm hp rfl h).symm
/- plain laws of rings and boxes: the program's looks are the reference's -/
def inB (v b : Bx) : Prop := (v.lo.x ≤ b.lo.x ∧ b.hi.x ≤ v.hi.x) ∧ v.lo.y ≤ b.lo.y ∧ b.hi.y ≤ v.hi.y
theorem unionGo_spec (bs : List Bx) : ∀ u : Bx,(∀ b,b ∈ bs → ckBox b = 0) → (unionGo u bs).2 = 0 ∧ inB (unionGo u bs).1 u ∧ (∀ b,b ∈ bs → inB (unionGo u bs).1 b) ∧ (∀ v,inB v u → (∀ b,b ∈ bs → inB v b) → inB v (unionGo u bs).1) := by
 induction bs with
 | nil => intro u _;exact ⟨rfl,by unfold inB unionGo;simp only;omega,fun b hb => by simp at hb,fun v h _ => h⟩
 | cons b r ih =>
   intro u h;have h0 := h b (by simp)
   rw [unionGo, if_pos h0]
   obtain ⟨i1,i2,i3,i4⟩ := ih (bjoin u b) fun c hc => h c (by simp [hc])
   refine ⟨i1,?_,?_,?_⟩
   · revert i2
     generalize (unionGo (bjoin u b) r).1 = R;unfold inB bjoin
     simp only
     omega
   · intro c hc
     rcases List.mem_cons.1 hc with rfl | hc
     · revert i2
       generalize (unionGo (bjoin u c) r).1 = R;unfold inB bjoin
       simp only
       omega
     · exact i3 c hc
   · intro v hu hb
     refine i4 v ?_ fun c hc => hb c (by simp [hc])
     have hbb := hb b (by simp)
     revert hu hbb;unfold inB bjoin
     simp only
     omega
theorem ring_lens {l : List Pt} (h : ckRing l = 0) : 3 ≤ l.length ∧ l.length ≤ 64 ∧ l.all okPt = true := by
 unfold ckRing at h
 split at h
 · omega
 · rename_i hn
   split at h
   · rename_i hok
     exact ⟨by omega,by omega,hok⟩
   · omega
theorem mem_pt {l : List Pt} {i : Nat} (h : i < l.length) : pt l i ∈ l := by
 have e : pt l i = l[i] := by rw [pt,List.getD_eq_getElem?_getD,List.getElem?_eq_getElem h];rfl
 rw [e]
 exact List.getElem_mem h
theorem pt_mem {l : List Pt} {p : Pt} (h : p ∈ l) : ∃ i,i < l.length ∧ pt l i = p := by
 obtain ⟨i,hi,e⟩ := List.getElem_of_mem h;exact ⟨i,hi,by rw [pt,List.getD_eq_getElem?_getD,List.getElem?_eq_getElem hi];exact e⟩
theorem ringBx_spec {l : List Pt} (hl : 1 ≤ l.length) (hok : l.all okPt = true) : (union (l.map fun p => ⟨p,p⟩)).2 = 0 ∧ (∀ i,i < l.length → inR (ringBx l) (pt l i)) ∧ (∀ v,(∀ i,i < l.length → inR v (pt l i)) → inB v (ringBx l)) ∧ okBx (ringBx l) = true := by
 have hck : ∀ p,p ∈ l → ckBox ⟨p,p⟩ = 0 := fun p hp => by rw [ckBox_same,if_pos (List.all_eq_true.1 hok p hp)]
 match l,hl,hok,hck with
 | p :: r,_,hok,hck =>
   have hs := unionGo_spec ((p :: r).map fun p => ⟨p,p⟩) ⟨p,p⟩ (by
    intro b hb;obtain ⟨q,hq,rfl⟩ := List.mem_map.1 hb
    exact hck q hq)
   obtain ⟨s1,s2,s3,s4⟩ := hs
   have h1 : ∀ i,i < (p :: r).length → inR (ringBx (p :: r)) (pt (p :: r) i) := by
    intro i hi;have := s3 ⟨pt (p :: r) i,pt (p :: r) i⟩ (List.mem_map.2 ⟨_,mem_pt hi,rfl⟩);unfold inB at this;unfold inR;exact ⟨this.1,this.2⟩
   have h2 : ∀ v,(∀ i,i < (p :: r).length → inR v (pt (p :: r) i)) → inB v (ringBx (p :: r)) := by
    intro v hv;refine s4 v ?_ ?_
    · have := hv 0 (by simp)
      exact ⟨this.1,this.2⟩
    · intro b hb
      obtain ⟨q,hq,rfl⟩ := List.mem_map.1 hb;obtain ⟨i,hi,rfl⟩ := pt_mem hq;have := hv i hi;exact ⟨this.1,this.2⟩
   refine ⟨s1,h1,h2,?_⟩
   rw [okBx_iff]
   have a1 := h1 0 (by simp)
   have a2 := h2 ⟨⟨-1073741823,-1073741823⟩,⟨1073741823,1073741823⟩⟩ (fun i hi => by
    have := (okPt_iff _).1 (okPt_pt hok hi)
    exact this)
   rw [okPt_iff, okPt_iff]
   unfold inR at a1;unfold inB at a2
   simp only at a2
   omega
theorem rhasR_in {l : List Pt} {p : Pt} (hl : 1 ≤ l.length) (hok : l.all okPt = true) (op : okPt p = true) (h : rhasR l p = true) : inR (ringBx l) p := by
 obtain ⟨_,hin,_,_⟩ := ringBx_spec hl hok;have hin2 : ∀ i,i < l.length → inR (ringBx l) (nx l i) := fun i hi => hin _ (Nat.mod_lt _ (by omega))
 apply Classical.byContradiction
 intro hno;unfold rhasR at h;rw [Bool.or_eq_true] at h
 rcases h with h | h
 · unfold edgeB at h
   rw [any_range_iff] at h;obtain ⟨i,hi,h⟩ := h;rw [onS_iff] at h;have h1 := hin i hi;have h2 := hin2 i hi
   apply hno
   unfold inR at *
   omega
 · have hz : parity l p l.length = false := by
    have hup : ∀ (g : Pt → Bool),(∀ a b : Pt,okPt a = true → okPt b = true → inR (ringBx l) a → inR (ringBx l) b → a.y ≤ b.y → crossesB a b p = xor (g a) (g b)) → parity l p l.length = false := by
     intro g hg
     rw [parity_parF]
     apply parF_tele (g := g)
     intro i hi
     rcases Int.le_total (pt l i).y (nx l i).y with k | k
     · exact hg _ _ (okPt_pt hok hi) (okPt_nx hok hi) (hin i hi) (hin2 i hi) k
     · have := hg _ _ (okPt_nx hok hi) (okPt_pt hok hi) (hin2 i hi) (hin i hi) k
       rw [crossesB_swap,Bool.xor_comm] at this;exact this
    by_cases c1 : p.y < (ringBx l).lo.y
    · refine hup (fun _ => false) fun a b oa ob ha hb hab => ?_
      rw [crossesB_up oa ob op hab]
      unfold inR at ha hb
      rw [decide_eq_false (by omega)]
      rfl
    by_cases c2 : (ringBx l).hi.y < p.y
    · refine hup (fun _ => false) fun a b oa ob ha hb hab => ?_
      rw [crossesB_up oa ob op hab]
      unfold inR at ha hb
      rw [decide_eq_false (by omega)]
      rfl
    by_cases c3 : (ringBx l).hi.x < p.x
    · refine hup (fun _ => false) fun a b oa ob ha hb hab => ?_
      rw [crossesB_up oa ob op hab]
      unfold inR at ha hb
      rw [decide_eq_false]
      · rfl
      · rintro ⟨k1, k2, k3⟩
        have := side_right (a := a) (b := b) k1 k2 (by omega) (by omega)
        omega
    by_cases c4 : p.x < (ringBx l).lo.x
    · refine hup (fun v => decide (v.y ≤ p.y)) fun a b oa ob ha hb hab => ?_
      rw [crossesB_up oa ob op hab]
      unfold inR at ha hb
      by_cases k1 : a.y ≤ p.y
      · by_cases k2 : p.y < b.y
        · have := side_left (a := a) (b := b) k1 k2 (by omega) (by omega)
          rw [decide_eq_true (by omega), decide_eq_true k1, decide_eq_false (by omega)]
          rfl
        · rw [decide_eq_false (by omega), decide_eq_true k1, decide_eq_true (by omega)]
          rfl
      · rw [decide_eq_false (by omega), decide_eq_false k1, decide_eq_false (by omega)]
        rfl
    · exfalso
      apply hno
      unfold inR
      omega
   rw [hz] at h
   cases h
theorem meetS_spans {a b c d : Pt} (h : meetS a b c d = true) : (min a.x b.x ≤ max c.x d.x ∧ min c.x d.x ≤ max a.x b.x) ∧ (min a.y b.y ≤ max c.y d.y ∧ min c.y d.y ≤ max a.y b.y) := by
 rw [meetS_iff] at h;obtain ⟨⟨oa,ob,oc,od⟩,h⟩ := h
 rcases h with h | h | h | h | h
 · rw [properR_iff oa ob oc od] at h
   exact proper_overlap h.1 h.2
 all_goals
  rw [onS_iff] at h
  omega
def ringsR (a b : List Pt) : Bool := (rhasR a (pt b 0) || rhasR b (pt a 0)) || crossAny a b
def ringBoxR (l : List Pt) (b : Bx) : Bool := rhasR l b.lo || (List.range l.length).any (fun i => mboxR (pt l i) (nx l i) b)
theorem rhas_ok {l : List Pt} {p : Pt} (h : ckRing l = 0) (op : okPt p = true) : rhas l p = rhasR l p := by simp [rhas,h,op]
theorem ringsS_eq {a b : List Pt} (ha : ckRing a = 0) (hb : ckRing b = 0) : ringsS a b = ringsR a b := by
 obtain ⟨a3,_,aok⟩ := ring_lens ha;obtain ⟨b3,_,bok⟩ := ring_lens hb;have oa0 := okPt_pt aok (i := 0) (by omega)
 have ob0 := okPt_pt bok (i := 0) (by omega)
 obtain ⟨_,ain,_,aokb⟩ := ringBx_spec (by omega) aok
 obtain ⟨_,bin,_,bokb⟩ := ringBx_spec (by omega) bok
 unfold ringsS ringsR
 rw [rhas_ok ha ob0,rhas_ok hb oa0]
 have key : (rhasR a (pt b 0) || rhasR b (pt a 0) || crossAny a b) = true → bmeets (ringBx a) (ringBx b) = true := by
  intro h
  have hm : ∀ p,inR (ringBx a) p → inR (ringBx b) p → bmeets (ringBx a) (ringBx b) = true := by
   intro p h1 h2;unfold inR at h1 h2
   simp only [bmeets, aokb, bokb, bmeetsR, Bool.true_and, Bool.and_eq_true, decide_eq_true_eq]
   omega
  simp only [Bool.or_eq_true] at h
  rcases h with (h | h) | h
  · exact hm _ (rhasR_in (by omega) aok ob0 h) (bin 0 (by omega))
  · exact hm _ (ain 0 (by omega)) (rhasR_in (by omega) bok oa0 h)
  · unfold crossAny at h
    rw [any_range_iff] at h;obtain ⟨i,hi,h⟩ := h;rw [any_range_iff] at h;obtain ⟨k,hk,h⟩ := h;have hs := meetS_spans h;have i1 := ain i hi;have i2 := ain ((i + 1) % a.length) (Nat.mod_lt _ (by omega))
    have k1 := bin k hk;have k2 := bin ((k + 1) % b.length) (Nat.mod_lt _ (by omega))
    unfold inR at *;unfold nx at hs
    simp only [bmeets, aokb, bokb, bmeetsR, Bool.true_and, Bool.and_eq_true, decide_eq_true_eq]
    omega
 revert key
 cases bmeets (ringBx a) (ringBx b) <;> cases rhasR a (pt b 0) <;> cases rhasR b (pt a 0) <;> cases crossAny a b <;> simp
theorem cutS_eq {l : List Pt} {b : Bx} (h : ckRing l = 0) (hb : okBx b = true) : cutS l b = ringBoxR l b := by
 have ob := ((okBx_iff b).1 hb).1.1;unfold cutS ringBoxR
 rw [rhas_ok h ob,Bool.or_comm]
 congr 1;congr 1
 funext i
 exact mbox_eq _ _ _
theorem ringsR_swap (a b : List Pt) : ringsR b a = ringsR a b := by
 unfold ringsR
 rw [Bool.or_comm (rhasR b (pt a 0))]
 congr 1;unfold crossAny
 rw [Bool.eq_iff_iff,any_range_iff,any_range_iff]
 constructor
 · rintro ⟨i,hi,h⟩
   obtain ⟨k,hk,h⟩ := (any_range_iff _ _).1 h;exact ⟨k,hk,(any_range_iff _ _).2 ⟨i,hi,by rw [meetS_swap2];exact h⟩⟩
 · rintro ⟨i,hi,h⟩
   obtain ⟨k,hk,h⟩ := (any_range_iff _ _).1 h;exact ⟨k,hk,(any_range_iff _ _).2 ⟨i,hi,by rw [meetS_swap2];exact h⟩⟩
theorem bmeets_swap (a b : Bx) : bmeets b a = bmeets a b := by
 unfold bmeets bmeetsR
 rw [Bool.and_comm (okBx b)]
 congr 1
 rw [Bool.eq_iff_iff]
 simp only [Bool.and_eq_true,decide_eq_true_eq]
 omega
theorem cutS_mono {l : List Pt} {a u : Bx} (h : ckRing l = 0) (ha : okBx a = true) (hu : okBx u = true) (hau : inB u a) (hc : cutS l a = true) : cutS l u = true := by
 obtain ⟨h3,_,hok⟩ := ring_lens h;have oa := (okBx_iff a).1 ha;have ou := (okBx_iff u).1 hu;have u1 : inR u a.lo := by unfold inB at hau;unfold inR;omega
 have u2 : inR u a.hi := by unfold inB at hau;unfold inR;omega
 have aa : inR a a.lo := by unfold inR;omega
 unfold cutS at *
 rw [Bool.or_eq_true] at *
 by_cases hs : ∃ i,i < l.length ∧ sat (pt l i) (nx l i) u
 · obtain ⟨i,hi,hs⟩ := hs
   left
   rw [any_range_iff]
   exact ⟨i,hi,(mbox_iff (okPt_pt hok hi) (okPt_nx hok hi) hu).2 hs⟩
 · have hn : ∀ i,i < l.length → ¬ sat (pt l i) (nx l i) u := fun i hi k => hs ⟨i,hi,k⟩
   rcases hc with hc | hc
   · rw [any_range_iff] at hc
     obtain ⟨i,hi,hc⟩ := hc;exact absurd (sat_mono ((mbox_iff (okPt_pt hok hi) (okPt_nx hok hi) ha).1 hc) u1 u2) (hn i hi)
   · right
     rw [rhas_ok h oa.1.1] at hc
     rw [rhas_ok h ou.1.1]
     unfold rhasR at *
     rw [Bool.or_eq_true] at *
     rcases hc with hc | hc
     · exfalso
       unfold edgeB at hc;rw [any_range_iff] at hc;obtain ⟨i,hi,hc⟩ := hc;rw [onS_iff] at hc;refine hn i hi ⟨?_,sat_of_zero u1 hc.2.1⟩;unfold inR at u1
       omega
     · right
       rw [← parity_box hok oa.1.1 ou.1.1 hn u1 (by unfold inR;omega)]
       exact hc
/- plain laws of objects and queries: what the statements of chapter 6 say -/
theorem ck_kinds {o : Ob} (h : ckOb o = 0) : (isBox o = true ∧ okBx (obBox o) = true) ∨ (o.kind = 4 ∧ isBox o = false ∧ ckRing o.pts = 0) := by
 obtain ⟨k,l⟩ := o;unfold ckOb at h
 simp only at h
 split at h
 · rename_i e
   subst e
   left
   split at h
   · exact ⟨rfl, by simpa [okBx, obBox] using h⟩
   · omega
 · split at h
   · rename_i e
     subst e
     left
     split at h
     · refine ⟨rfl, ?_⟩
       unfold ckInt at h
       split at h
       · rename_i hp
         split at h
         · omega
         · rw [okBx_iff]
           simp only [obBox, okPt_iff] at *
           simp
           omega
       · omega
     · omega
   · split at h
     · rename_i e
       subst e
       left
       split at h
       · exact ⟨rfl, by simpa [okBx, obBox] using h⟩
       · omega
     · split at h
       · rename_i n1 n2 n3 e
         subst e;exact .inr ⟨rfl,rfl,h⟩
       · omega
theorem bounds_okBx {o : Ob} (h : ckOb o = 0) : okBx (boundsS o) = true := by
 rcases ck_kinds h with ⟨h1,h2⟩ | ⟨_,h1,h2⟩
 · rw [boundsS,h1];exact h2
 · rw [boundsS,h1]
   obtain ⟨a,_,b⟩ := ring_lens h2;exact (ringBx_spec (by omega) b).2.2.2
theorem okBx_ck {r : Bx} : okBx r = true ↔ ckBox r = 0 := by unfold okBx;rw [decide_eq_true_eq]
theorem match_meets {o : Ob} {r : Bx} {l : List Pt} (ho : ckOb o = 0) (hr : ckBox r = 0) : matchS o ⟨1,r,l⟩ = if isBox o then bmeets (obBox o) r else cutS o.pts r := by
 unfold matchS
 rw [if_pos ⟨ho,by simpa [ckQu] using hr⟩,if_pos rfl]
 rfl
theorem match_in {o : Ob} {r : Bx} {l : List Pt} (ho : ckOb o = 0) (hr : ckBox r = 0) : matchS o ⟨2,r,l⟩ = binside (boundsS o) r := by
 unfold matchS
 rw [if_pos ⟨ho,by simpa [ckQu] using hr⟩,if_neg (by simp),if_pos rfl]
theorem union2 {a b : Bx} (ha : ckBox a = 0) (hb : ckBox b = 0) : (union [a,b]).2 = 0 ∧ okBx (union [a,b]).1 = true ∧ inB (union [a,b]).1 a ∧ inB (union [a,b]).1 b := by
 have h := unionGo_spec [a,b] a (by intro c hc;simp at hc;rcases hc with rfl | rfl <;> assumption)
 obtain ⟨h1,h2,h3,h4⟩ := h;have hA := (okBx_iff a).1 (okBx_ck.2 ha);have hB := (okBx_iff b).1 (okBx_ck.2 hb);refine ⟨h1,?_,h3 a (by simp),h3 b (by simp)⟩
 have hl : inB ⟨⟨-1073741823,-1073741823⟩,⟨1073741823,1073741823⟩⟩ (union [a,b]).1 := h4 _ (by rw [okPt_iff,okPt_iff] at hA;unfold inB;simp only;omega) (by
  intro c hc;rw [okPt_iff,okPt_iff] at hA hB
  simp at hc
  rcases hc with rfl | rfl <;> (unfold inB;simp only;omega))
 have h3a := h3 a (by simp)
 have e : (union [a,b]).1 = (unionGo a [a,b]).1 := rfl
 rw [okBx_iff,okPt_iff,okPt_iff,e]
 rw [e] at hl;unfold inB at hl h3a
 simp only at hl
 rw [okPt_iff,okPt_iff] at hA
 omega
theorem bmeets_iff {a b : Bx} (ha : okBx a = true) (hb : okBx b = true) : bmeets a b = true ↔ (a.lo.x ≤ b.hi.x ∧ b.lo.x ≤ a.hi.x) ∧ a.lo.y ≤ b.hi.y ∧ b.lo.y ≤ a.hi.y := by
 simp [bmeets,ha,hb,bmeetsR,and_assoc]
theorem binside_iff {a b : Bx} (ha : okBx a = true) (hb : okBx b = true) : binside a b = true ↔ inB b a := by
 have hA := (okBx_iff a).1 ha
 simp only [binside,ha,Bool.true_and,Bool.and_eq_true,bhas_iff hb hA.1.1,bhas_iff hb hA.1.2]
 unfold inR inB
 omega
theorem nest_meets {o : Ob} {a u : Bx} (ho : ckOb o = 0) (ha : ckBox a = 0) (hu : okBx u = true) (h : inB u a) (hm : matchS o ⟨1,a,[]⟩ = true) : matchS o ⟨1,u,[]⟩ = true := by
 rw [match_meets ho ha] at hm
 rw [match_meets ho (okBx_ck.1 hu)]
 rcases ck_kinds ho with ⟨h1,h2⟩ | ⟨_,h1,h2⟩
 · rw [h1,if_pos rfl] at hm
   rw [h1, if_pos rfl]
   rw [bmeets_iff h2 (okBx_ck.2 ha)] at hm
   rw [bmeets_iff h2 hu]
   unfold inB at h
   omega
 · rw [h1,if_neg (by simp)] at hm
   rw [h1, if_neg (by simp)]
   exact cutS_mono h2 (okBx_ck.2 ha) hu h hm
theorem nest_self_meets {o : Ob} (ho : ckOb o = 0) : matchS o ⟨1,boundsS o,[]⟩ = true := by
 have hb := bounds_okBx ho
 rw [match_meets ho (okBx_ck.1 hb)]
 rcases ck_kinds ho with ⟨h1,h2⟩ | ⟨_,h1,h2⟩
 · have e : boundsS o = obBox o := by rw [boundsS,h1];rfl
   rw [h1, if_pos rfl, e, bmeets_iff h2 h2]
   have := (okBx_iff _).1 h2
   omega
 · have e : boundsS o = ringBx o.pts := by rw [boundsS,h1];rfl
   rw [h1, if_neg (by simp), e]
   obtain ⟨h3,_,hok⟩ := ring_lens h2;obtain ⟨_,hin,_,hbk⟩ := ringBx_spec (by omega) hok
   unfold cutS
   rw [Bool.or_eq_true]
   left
   rw [any_range_iff]
   refine ⟨0,by omega,?_⟩
   rw [mbox_iff (okPt_pt hok (by omega)) (okPt_nx hok (by omega)) hbk]
   exact sat_in (hin 0 (by omega))
structure Fr where
 num : Nat
 den : Nat
instance : DecidableEq Fr := fun a b =>
 if h : a.num = b.num ∧ a.den = b.den then isTrue (by cases a;cases b;simp_all) else isFalse (fun e => h (by subst e;exact ⟨rfl,rfl⟩))
instance : Inhabited Fr := ⟨⟨0,0⟩⟩
def fNone : Fr := ⟨0,0⟩
theorem sgn_lt (n : Int) : sgn n < 0 ↔ n < 0 := by unfold sgn;split <;> (try split) <;> omega
def sqs (x y : Int) : Nat := x.natAbs * x.natAbs + y.natAbs * y.natAbs
def boxN (b : Bx) (p : Pt) : Nat := sqs (gap p.x b.lo.x b.hi.x) (gap p.y b.lo.y b.hi.y)
theorem boundsS_box {o : Ob} (h : isBox o = true) : boundsS o = obBox o := by unfold boundsS;rw [if_pos h]
theorem boundsS_poly {o : Ob} (h : isBox o = false) : boundsS o = ringBx o.pts := by unfold boundsS;rw [if_neg (by simp [h])]
theorem okBx_pp {p : Pt} (op : okPt p = true) : okBx ⟨p,p⟩ = true := by
 rw [okBx_iff]
 exact ⟨⟨op,op⟩,Int.le_refl _,Int.le_refl _⟩
theorem bmeets_pp {b : Bx} {p : Pt} (hb : okBx b = true) (op : okPt p = true) : bmeets b ⟨p,p⟩ = true ↔ inR b p := by
 rw [bmeets_iff hb (okBx_pp op)]
 unfold inR;exact ⟨fun h => ⟨⟨h.1.1,h.1.2⟩,h.2.1,h.2.2⟩,fun h => ⟨⟨h.1.1,h.1.2⟩,h.2.1,h.2.2⟩⟩
theorem in_meets {o : Ob} {r : Bx} (ho : ckOb o = 0) (hr : ckBox r = 0) (h : matchS o ⟨2,r,[]⟩ = true) : matchS o ⟨1,r,[]⟩ = true := by
 have hb := bounds_okBx ho;rw [match_in ho hr] at h;exact nest_meets ho (okBx_ck.1 hb) (okBx_ck.2 hr) ((binside_iff hb (okBx_ck.2 hr)).1 h) (nest_self_meets ho)
theorem meets_bounds {o : Ob} {r : Bx} (ho : ckOb o = 0) (hr : ckBox r = 0) (h : matchS o ⟨1,r,[]⟩ = true) : bmeets (boundsS o) r = true := by
 have hb := bounds_okBx ho;have hr' := okBx_ck.2 hr;rw [match_meets ho hr] at h
 rcases ck_kinds ho with ⟨h1,h2⟩ | ⟨_,h1,h2⟩
 · rw [if_pos h1] at h
   unfold boundsS
   rw [if_pos h1]
   exact h
 · rw [if_neg (by simp [h1]),cutS_eq h2 hr'] at h
   unfold boundsS at hb ⊢
   rw [if_neg (by simp [h1])] at hb ⊢
   obtain ⟨a,_,b⟩ := ring_lens h2
   rw [bmeets_iff hb hr']
   obtain ⟨⟨o1,o2⟩,o3,o4⟩ := (okBx_iff r).1 hr';unfold ringBoxR at h;rw [Bool.or_eq_true,any_range_iff] at h
   rcases h with h | ⟨i, hi, hm⟩
   · have := rhasR_in (by omega) b o1 h
     unfold inR at this
     omega
   · obtain ⟨⟨⟨s1, s2⟩, s3, s4⟩, _⟩ := (mboxR_iff (okPt_pt b hi) (okPt_nx b hi) hr').1 hm
     have k1 := (ringBx_spec (by omega) b).2.1 i hi
     have k2 := (ringBx_spec (l := o.pts) (by omega) b).2.1 ((i + 1) % o.pts.length) (Nat.mod_lt _ (by omega))
     have k3 : inR (ringBx o.pts) (nx o.pts i) := k2;unfold inR at k1 k3
     omega
def cX (b : Bx) : Int := b.lo.x + b.hi.x
def cY (b : Bx) : Int := b.lo.y + b.hi.y
def ahd (l : List Bx) (i k : Nat) : Bool :=
 decide (cX (l.getD i bzero) < cX (l.getD k bzero)) || (decide (cX (l.getD i bzero) = cX (l.getD k bzero)) && (decide (cY (l.getD i bzero) < cY (l.getD k bzero)) || (decide (cY (l.getD i bzero) = cY (l.getD k bzero)) && decide (i < k))))
def rank (l : List Bx) (i : Nat) : Nat := (List.range l.length).countP fun k => ahd l k i
def splitS (l : List Bx) : List Bool := (List.range l.length).map fun i => decide (l.length - l.length / 2 ≤ rank l i)
theorem splitS_len (l : List Bx) : (splitS l).length = l.length := by simp [splitS]
end Pg
