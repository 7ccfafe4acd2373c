/-
  Plain definitions: what the functions of plane, segm, ring, rel and of the references reckon, on Lean's integers and lists. No program, no memory.
  Plain words for package rel: cut, rings, meets, match.
-/
import Derived.Below
namespace Pg

structure Pt where
  x : Int
  y : Int
instance : DecidableEq Pt := fun a b =>
  if h : a.x = b.x ∧ a.y = b.y then isTrue (by cases a; cases b; simp_all) else isFalse (fun e => h (by subst e; exact ⟨rfl, rfl⟩))
instance : Inhabited Pt := ⟨⟨0, 0⟩⟩
theorem Pt.ext' {a b : Pt} (hx : a.x = b.x) (hy : a.y = b.y) : a = b := by cases a; cases b; simp_all

structure Bx where
  lo : Pt
  hi : Pt
theorem Bx.ext' {a b : Bx} (h : a.lo = b.lo) (k : a.hi = b.hi) : a = b := by cases a; cases b; simp_all

/-- may a coordinate not be? -/
def farB (n : Int) : Bool := decide (n < -1073741823) || decide (1073741823 < n)
def okPt (p : Pt) : Bool := !(farB p.x || farB p.y)
/-- 0: the box may be; 2: a corner may not; 1: the corners are the wrong way round -/
def ckBox (b : Bx) : Nat := if okPt b.lo && okPt b.hi then (if decide (b.hi.x < b.lo.x) || decide (b.hi.y < b.lo.y) then 1 else 0) else 2
def okBx (b : Bx) : Bool := decide (ckBox b = 0)
def crossR (a b c : Pt) : Int := (b.x - a.x) * (c.y - a.y) - (b.y - a.y) * (c.x - a.x)
def cross (a b c : Pt) : Int := if okPt a && okPt b && okPt c then crossR a b c else 0
def sgn (n : Int) : Int := if n < 0 then -1 else if 0 < n then 1 else 0
def orient (a b c : Pt) : Int := sgn (cross a b c)
def bhasR (b : Bx) (p : Pt) : Bool := decide (b.lo.x ≤ p.x) && decide (p.x ≤ b.hi.x) && decide (b.lo.y ≤ p.y) && decide (p.y ≤ b.hi.y)
def bhas (b : Bx) (p : Pt) : Bool := okBx b && okPt p && bhasR b p
def bmeetsR (a b : Bx) : Bool := decide (a.lo.x ≤ b.hi.x) && decide (b.lo.x ≤ a.hi.x) && decide (a.lo.y ≤ b.hi.y) && decide (b.lo.y ≤ a.hi.y)
def bmeets (a b : Bx) : Bool := okBx a && okBx b && bmeetsR a b
def binside (a b : Bx) : Bool := okBx a && bhas b a.lo && bhas b a.hi
def bjoin (a b : Bx) : Bx := ⟨⟨min a.lo.x b.lo.x, min a.lo.y b.lo.y⟩, ⟨max a.hi.x b.hi.x, max a.hi.y b.hi.y⟩⟩
def bzero : Bx := ⟨⟨0, 0⟩, ⟨0, 0⟩⟩
def unionGo (u : Bx) : List Bx → Bx × Nat
  | [] => (u, 0)
  | b :: r => if ckBox b = 0 then unionGo (bjoin u b) r else (bzero, ckBox b)
def union : List Bx → Bx × Nat
  | [] => (bzero, 1)
  | b :: r => unionGo b (b :: r)

/-- 2^64, out of the walk's sight -/
def W64 : Nat := 18446744073709551616
structure Ds where
  hi : Nat
  lo : Nat
  den : Nat
instance : DecidableEq Ds := fun a b =>
  if h : a.hi = b.hi ∧ a.lo = b.lo ∧ a.den = b.den then isTrue (by cases a; cases b; simp_all) else isFalse (fun e => h (by subst e; exact ⟨rfl, rfl, rfl⟩))
def dOf (n d : Nat) : Ds := ⟨n / W64, n % W64, d⟩
def dNone : Ds := ⟨0, 0, 0⟩
def sq (n : Int) : Nat := n.natAbs * n.natAbs
def dist2 (a b : Pt) : Ds := if okPt a && okPt b then dOf (sq (a.x - b.x) + sq (a.y - b.y)) 1 else dNone
def gap (n l h : Int) : Int := max (max (l - n) (n - h)) 0
def bdist (b : Bx) (p : Pt) : Ds := if okBx b && okPt p then dOf (sq (gap p.x b.lo.x b.hi.x) + sq (gap p.y b.lo.y b.hi.y)) 1 else dNone

def dotR (o a b : Pt) : Int := (a.x - o.x) * (b.x - o.x) + (a.y - o.y) * (b.y - o.y)
def span (a b : Pt) : Bx := ⟨⟨min a.x b.x, min a.y b.y⟩, ⟨max a.x b.x, max a.y b.y⟩⟩
def onS (a b p : Pt) : Bool := okPt a && okPt b && okPt p && decide (crossR a b p = 0) && bhasR (span a b) p
def properR (a b c d : Pt) : Bool := decide (orient a b c * orient a b d < 0) && decide (orient c d a * orient c d b < 0)
def meetS (a b c d : Pt) : Bool := okPt a && okPt b && okPt c && okPt d && (properR a b c d || onS a b c || onS a b d || onS c d a || onS c d b)
/-- the program's: an end in the box, or a diagonal met -/
def mbox (a b : Pt) (r : Bx) : Bool := okPt a && okPt b && okBx r && (bhas r a || bhas r b || meetS a b r.lo r.hi || meetS a b ⟨r.lo.x, r.hi.y⟩ ⟨r.hi.x, r.lo.y⟩)
/-- the reference's: an end in the box, or an edge met -/
def mboxR (a b : Pt) (r : Bx) : Bool := okPt a && okPt b && okBx r && (bhas r a || bhas r b || meetS a b r.lo ⟨r.hi.x, r.lo.y⟩ || meetS a b ⟨r.hi.x, r.lo.y⟩ r.hi || meetS a b r.hi ⟨r.lo.x, r.hi.y⟩ || meetS a b ⟨r.lo.x, r.hi.y⟩ r.lo)

def pt (l : List Pt) (i : Nat) : Pt := l.getD i ⟨0, 0⟩
def nx (l : List Pt) (i : Nat) : Pt := pt l ((i + 1) % l.length)
/-- the program's look at two edges -/
def spoil (l : List Pt) (i k : Nat) : Bool :=
  if pt l i = pt l k then true
  else if (i + 1) % l.length = k then onS (pt l i) (nx l i) (nx l k) || onS (pt l k) (nx l k) (pt l i)
  else if (k + 1) % l.length = i then onS (pt l k) (nx l k) (nx l i) || onS (pt l i) (nx l i) (pt l k)
  else meetS (pt l i) (nx l i) (pt l k) (nx l k)
def spoilAny (l : List Pt) : Bool := (List.range l.length).any fun i => (List.range l.length).any fun k => decide (k ≠ i) && spoil l i k
/-- the program's: 0: the ring may be; else why not -/
def ckRing (l : List Pt) : Nat := if l.length < 3 ∨ 64 < l.length then 3 else if l.all okPt then (if spoilAny l then 4 else 0) else 2
/-- the reference's -/
def overR (a c b : Pt) : Bool := decide (a ≠ c) && decide (b ≠ c) && decide (cross c a b = 0) && decide (0 < dotR c a b)
def clash (l : List Pt) (i j : Nat) : Bool :=
  if j = i + 1 then overR (pt l i) (pt l (i + 1)) (nx l j)
  else if i = 0 ∧ j + 1 = l.length then overR (pt l (i + 1)) (pt l i) (pt l j)
  else meetS (pt l i) (pt l (i + 1)) (pt l j) (nx l j)
def clashAny (l : List Pt) : Bool := (List.range l.length).any fun i => (List.range l.length).any fun j => decide (i < j) && (decide (pt l i = pt l j) || clash l i j)
def ckRingR (l : List Pt) : Nat := if l.length < 3 ∨ 64 < l.length then 3 else if l.all okPt then (if clashAny l then 4 else 0) else 2

def edgeB (l : List Pt) (p : Pt) : Bool := (List.range l.length).any fun i => onS (pt l i) (nx l i) p
/-- does the ray to the right from p cross the edge a b? -/
def crossesB (a b p : Pt) : Bool :=
  if b.y < a.y then decide (b.y ≤ p.y) && decide (p.y < a.y) && decide (0 < cross b a p)
  else decide (a.y ≤ p.y) && decide (p.y < b.y) && decide (0 < cross a b p)
def parity (l : List Pt) (p : Pt) : Nat → Bool
  | 0 => false
  | k + 1 => xor (parity l p k) (crossesB (pt l k) (nx l k) p)
def rhasR (l : List Pt) (p : Pt) : Bool := edgeB l p || parity l p l.length
def rhas (l : List Pt) (p : Pt) : Bool := decide (ckRing l = 0) && okPt p && rhasR l p
def ringBx (l : List Pt) : Bx := (union (l.map fun p => ⟨p, p⟩)).1

/-- an object: its kind, its points -/
structure Ob where
  kind : Int
  pts : List Pt
structure Qu where
  kind : Int
  box : Bx
  ring : List Pt
def obBox (o : Ob) : Bx :=
  if o.kind = 1 then ⟨pt o.pts 0, pt o.pts 0⟩
  else if o.kind = 2 then ⟨⟨(pt o.pts 0).x, 0⟩, ⟨(pt o.pts 0).y, 0⟩⟩
  else if o.kind = 3 then ⟨pt o.pts 0, pt o.pts 1⟩
  else bzero
def isBox (o : Ob) : Bool := decide (o.kind = 1 ∨ o.kind = 2 ∨ o.kind = 3)
def ckInt (p : Pt) : Nat := if okPt p then (if p.y < p.x then 1 else 0) else 2
/-- the program's check of an object; 'R': the reference's, by the reference's look at rings -/
def ckOb (o : Ob) : Nat :=
  if o.kind = 1 then (if o.pts.length = 1 then ckBox ⟨pt o.pts 0, pt o.pts 0⟩ else 3)
  else if o.kind = 2 then (if o.pts.length = 1 then ckInt (pt o.pts 0) else 3)
  else if o.kind = 3 then (if o.pts.length = 2 then ckBox ⟨pt o.pts 0, pt o.pts 1⟩ else 3)
  else if o.kind = 4 then ckRing o.pts else 5
def ckObR (o : Ob) : Nat :=
  if o.kind = 1 then (if o.pts.length = 1 then (if okPt (pt o.pts 0) then 0 else 2) else 3)
  else if o.kind = 2 then (if o.pts.length = 1 then ckInt (pt o.pts 0) else 3)
  else if o.kind = 3 then (if o.pts.length = 2 then ckBox ⟨pt o.pts 0, pt o.pts 1⟩ else 3)
  else if o.kind = 4 then ckRingR o.pts else 5
def ckQu (q : Qu) : Nat :=
  if q.kind = 1 ∨ q.kind = 2 then ckBox q.box else if q.kind = 3 then (if okPt q.box.lo then 0 else 2) else if q.kind = 4 then ckRing q.ring else 5
def ckQuR (q : Qu) : Nat :=
  if q.kind = 1 ∨ q.kind = 2 then ckBox q.box else if q.kind = 3 then (if okPt q.box.lo then 0 else 2) else if q.kind = 4 then ckRingR q.ring else 5

end Pg
namespace Pg

def cutS (l : List Pt) (b : Bx) : Bool := (List.range l.length).any (fun i => mbox (pt l i) (nx l i) b) || rhas l b.lo
def crossAny (a b : List Pt) : Bool := (List.range a.length).any fun i => (List.range b.length).any fun k => meetS (pt a i) (nx a i) (pt b k) (nx b k)
def ringsS (a b : List Pt) : Bool := bmeets (ringBx a) (ringBx b) && (crossAny a b || (rhas a (pt b 0) || rhas b (pt a 0)))
def boundsS (o : Ob) : Bx := if isBox o then obBox o else ringBx o.pts
def meetsO (a b : Ob) : Bool :=
  if isBox a then (if isBox b then bmeets (obBox a) (obBox b) else cutS b.pts (obBox a))
  else if isBox b then cutS a.pts (obBox b) else ringsS a.pts b.pts
def matchS (o : Ob) (q : Qu) : Bool :=
  if ckOb o = 0 ∧ ckQu q = 0 then
    (if q.kind = 1 then meetsO o ⟨3, [q.box.lo, q.box.hi]⟩ else if q.kind = 2 then binside (boundsS o) q.box else if q.kind = 3 then meetsO o ⟨1, [q.box.lo]⟩ else meetsO o ⟨4, q.ring⟩)
  else false
def touchS (a b : Ob) : Bool := decide (ckOb a = 0) && decide (ckOb b = 0) && meetsO a b
end Pg
