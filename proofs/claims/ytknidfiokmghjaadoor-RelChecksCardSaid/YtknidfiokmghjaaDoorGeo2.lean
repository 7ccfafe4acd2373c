/-
  Plain words for package rel: cut, rings, meets, match.
-/
import Derived.Test.YtknidfiokmghjaaDoorGeo
namespace Pg

def cutS (l : List Pt) (b : Bx) : Bool := (List.range l.length).any (fun i => mbox (pt l i) (nx l i) b) || rhas l b.lo
def crossAny (a b : List Pt) : Bool := (List.range a.length).any fun i => (List.range b.length).any fun k => meetS (pt a i) (nx a i) (pt b k) (nx b k)
def ringsS (a b : List Pt) : Bool := bmeets (ringBx a) (ringBx b) && (crossAny a b || (rhas a (pt b 0) || rhas b (pt a 0)))
def boundsS (o : Ob) : Bx := if isBox o then obBox o else ringBx o.pts
def meetsO (a b : Ob) : Bool :=
  if isBox a then (if isBox b then bmeets (obBox a) (obBox b) else cutS b.pts (obBox a))
  else if isBox b then cutS a.pts (obBox b) else ringsS a.pts b.pts
def matchS (o : Ob) (q : Qu) : Bool :=
  if ckOb o = 0 ∧ ckQu q = 0 then
    (if q.kind = 1 then meetsO o ⟨3, [q.box.lo, q.box.hi]⟩ else if q.kind = 2 then binside (boundsS o) q.box else if q.kind = 3 then meetsO o ⟨1, [q.box.lo]⟩ else meetsO o ⟨4, q.ring⟩)
  else false
def touchS (a b : Ob) : Bool := decide (ckOb a = 0) && decide (ckOb b = 0) && meetsO a b
end Pg
