/-
  More words for memory.
-/
import Derived.Test.YtknidfiokmghjaaDoorWords
namespace Pg
open Go Go.RowKit
theorem Blk.tr {W w1 : World} {g : Nat} {t : TypeId} {cs : Array Value} (h : Blk W g t cs) (hb : Below W.heap.size W w1) : Blk w1 g t cs := h.below hb h.lt
theorem PtsAt.tr {W w1 : World} {B n : Nat} {A : Option Addr} {l : List Pt} (h : PtsAt W B A n l) (hb : Below W.heap.size W w1) (hB : B ≤ W.heap.size) : PtsAt w1 B A n l := h.below (hb.mono hB)
end Pg
