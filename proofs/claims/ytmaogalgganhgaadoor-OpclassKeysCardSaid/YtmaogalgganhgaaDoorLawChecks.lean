/-
  The walk of the statement RelChecks.
-/
import Derived.Test.YtmaogalgganhgaaDoorLawRel
set_option linter.unusedSimpArgs false
set_option linter.unusedVariables false
namespace Go.Proofs.YtmaogalgganhgaaDoor
open Go.RowKit Pg

theorem ErrR.tr {w w' : World} {v : Value} {k : Nat} (h : ErrR w v k) (hb : Below w.heap.size w w') : ErrR w' v k := by
  rcases h with h | ⟨h0, g, s, id, e, hB⟩
  · exact .inl h
  · exact .inr ⟨h0, g, s, id, e, hB.tr hb⟩
theorem ErrC.tr {w w' : World} {v : Value} {k : Nat} (h : ErrC w v k) (hb : Below w.heap.size w w') : ErrC w' v k := by
  rcases h with h | h
  · exact .inl h
  · exact .inr (h.tr hb)
theorem ErrW.tr {w w' : World} {v : Value} {k : Nat} {s : ByteArray} {id : Int} (h : ErrW w v k s id) (hb : Below w.heap.size w w') : ErrW w' v k s id := by
  rcases h with h | ⟨h0, g, inner, e, hB, hi⟩
  · exact .inl h
  · exact .inr ⟨h0, g, inner, e, hB.tr hb, hi.tr hb⟩
theorem ckBox_le (b : Bx) : ckBox b ≤ 15 := by unfold ckBox; split <;> (try split) <;> omega
theorem ckRing_le (l : List Pt) : ckRing l ≤ 15 := by unfold ckRing; split <;> (try split) <;> (try split) <;> omega
theorem ckInt_le (p : Pt) : ckInt p ≤ 15 := by unfold ckInt; split <;> (try split) <;> omega
theorem ckOb_le (o : Ob) : ckOb o ≤ 15 := by
  unfold ckOb
  have h1 := ckBox_le ⟨pt o.pts 0, pt o.pts 0⟩
  have h2 := ckBox_le ⟨pt o.pts 0, pt o.pts 1⟩
  have h3 := ckInt_le (pt o.pts 0)
  have h4 := ckRing_le o.pts
  repeat' split
  all_goals omega
theorem ckQu_le (q : Qu) : ckQu q ≤ 15 := by
  unfold ckQu
  have h1 := ckBox_le q.box
  have h4 := ckRing_le q.ring
  repeat' split
  all_goals omega

end Go.Proofs.YtmaogalgganhgaaDoor
