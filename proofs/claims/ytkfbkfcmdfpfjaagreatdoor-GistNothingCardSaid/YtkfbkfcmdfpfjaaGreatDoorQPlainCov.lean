/-
  Lists of objects and of queries in memory.
  What a box covers: what an object's box is asked for, and how near it is; the same for any greater box.
  The union of keys: of whatever order, in two parts or in one; it covers what its keys were made of.
-/
import Derived.Test.YtkfbkfcmdfpfjaaGreatDoorQRel1
import Derived.Test.YtkfbkfcmdfpfjaaGreatDoorQOpcA
import Derived.Test.YtkfbkfcmdfpfjaaGreatDoorQPlainSplit
import Derived.Test.YtkfbkfcmdfpfjaaGreatDoorQWide
import Derived.Test.YtkfbkfcmdfpfjaaGreatDoorQSegm
import Derived.Test.YtkfbkfcmdfpfjaaGreatDoorQPlane
import Derived.Test.YtkfbkfcmdfpfjaaGreatDoorQOn
import Derived.StillTailTactics
import Derived.Outline
import Derived.Test.YtkfbkfcmdfpfjaaGreatDoorQUAll
import Derived.Test.YtkfbkfcmdfpfjaaGreatDoorQLex
import Derived.Shelf.Spec.BitsCarry
set_option linter.unusedSimpArgs false
set_option linter.unusedVariables false
namespace Go.Proofs.YtkfbkfcmdfpfjaaGreatDoor
open Go.RowKit Pg
instance : Inhabited Ob := ⟨⟨0, []⟩⟩
instance : Inhabited Qu := ⟨⟨0, bzero, []⟩⟩
/-- a list of objects, its corners too -/
def ObsAt (w : World) (B : Nat) (A : Option Addr) (n : Nat) (l : List Ob) : Prop :=
  l.length = n ∧ (0 < n → ∃ b off, A = some ⟨b, off, none⟩ ∧ b < B ∧ ∀ k o, l[k]? = some o → ∃ A' m c, w.cell? ⟨b, off + k * 2, none⟩ = some (.int .i64 o.kind) ∧ w.cell? ⟨b, off + k * 2 + 1, none⟩ = some (.slice A' m c) ∧ PtsAt w B A' m o.pts)
theorem ObsAt.keep {w w' : World} {B n : Nat} {A : Option Addr} {l : List Ob} (h : ObsAt w B A n l) (hk : ∀ p : Addr, p.block < B → w'.cell? p = w.cell? p) : ObsAt w' B A n l :=
  ⟨h.1, fun hn => by
    obtain ⟨b, off, e, hb, hc⟩ := h.2 hn
    refine ⟨b, off, e, hb, fun k o ho => ?_⟩
    obtain ⟨A', m, c, h0, h1, h2⟩ := hc k o ho
    exact ⟨A', m, c, by rw [hk _ hb]; exact h0, by rw [hk _ hb]; exact h1, h2.keep hk⟩⟩
theorem ObsAt.below {w w' : World} {B n : Nat} {A : Option Addr} {l : List Ob} (h : ObsAt w B A n l) (hb : Below B w w') : ObsAt w' B A n l := h.keep fun _ hp => hb.cell hp
theorem ObsAt.tr {w w' : World} {B n : Nat} {A : Option Addr} {l : List Ob} (h : ObsAt w B A n l) (hb : Below w.heap.size w w') (hB : B ≤ w.heap.size) : ObsAt w' B A n l := h.below (hb.mono hB)
theorem ObsAt.at_ {w : World} {B n : Nat} {A : Option Addr} {l : List Ob} (h : ObsAt w B A n l) {k : Nat} (hk : k < n) :
    ∃ b off A' m c o, A = some ⟨b, off, none⟩ ∧ b < B ∧ l[k]? = some o ∧ w.cell? ⟨b, off + k * 2, none⟩ = some (.int .i64 o.kind) ∧ w.cell? ⟨b, off + k * 2 + 1, none⟩ = some (.slice A' m c) ∧ PtsAt w B A' m o.pts := by
  obtain ⟨b, off, e, hb, hc⟩ := h.2 (by omega)
  have hl : k < l.length := by rw [h.1]; exact hk
  obtain ⟨A', m, c, h0, h1, h2⟩ := hc k _ (List.getElem?_eq_getElem hl)
  exact ⟨b, off, A', m, c, _, e, hb, List.getElem?_eq_getElem hl, h0, h1, h2⟩
/-- a list of queries, their rings too -/
def QusAt (w : World) (B : Nat) (A : Option Addr) (n : Nat) (l : List Qu) : Prop :=
  l.length = n ∧ (0 < n → ∃ b off, A = some ⟨b, off, none⟩ ∧ b < B ∧ ∀ k q, l[k]? = some q → ∃ A' m c, w.cell? ⟨b, off + k * 6, none⟩ = some (.int .i64 q.kind) ∧ w.cell? ⟨b, off + k * 6 + 1, none⟩ = some (.int .i64 q.box.lo.x) ∧ w.cell? ⟨b, off + k * 6 + 2, none⟩ = some (.int .i64 q.box.lo.y) ∧ w.cell? ⟨b, off + k * 6 + 3, none⟩ = some (.int .i64 q.box.hi.x) ∧ w.cell? ⟨b, off + k * 6 + 4, none⟩ = some (.int .i64 q.box.hi.y) ∧ w.cell? ⟨b, off + k * 6 + 5, none⟩ = some (.slice A' m c) ∧ PtsAt w B A' m q.ring)
theorem QusAt.keep {w w' : World} {B n : Nat} {A : Option Addr} {l : List Qu} (h : QusAt w B A n l) (hk : ∀ p : Addr, p.block < B → w'.cell? p = w.cell? p) : QusAt w' B A n l :=
  ⟨h.1, fun hn => by
    obtain ⟨b, off, e, hb, hc⟩ := h.2 hn
    refine ⟨b, off, e, hb, fun k o ho => ?_⟩
    obtain ⟨A', m, c, h0, h1, h2, h3, h4, h5, h6⟩ := hc k o ho
    exact ⟨A', m, c, by rw [hk _ hb]; exact h0, by rw [hk _ hb]; exact h1, by rw [hk _ hb]; exact h2, by rw [hk _ hb]; exact h3, by rw [hk _ hb]; exact h4, by rw [hk _ hb]; exact h5, h6.keep hk⟩⟩
theorem QusAt.below {w w' : World} {B n : Nat} {A : Option Addr} {l : List Qu} (h : QusAt w B A n l) (hb : Below B w w') : QusAt w' B A n l := h.keep fun _ hp => hb.cell hp
theorem QusAt.tr {w w' : World} {B n : Nat} {A : Option Addr} {l : List Qu} (h : QusAt w B A n l) (hb : Below w.heap.size w w') (hB : B ≤ w.heap.size) : QusAt w' B A n l := h.below (hb.mono hB)
theorem QusAt.at_ {w : World} {B n : Nat} {A : Option Addr} {l : List Qu} (h : QusAt w B A n l) {k : Nat} (hk : k < n) :
    ∃ b off A' m c q, A = some ⟨b, off, none⟩ ∧ b < B ∧ l[k]? = some q ∧ (w.cell? ⟨b, off + k * 6, none⟩ = some (.int .i64 q.kind) ∧ w.cell? ⟨b, off + k * 6 + 1, none⟩ = some (.int .i64 q.box.lo.x) ∧ w.cell? ⟨b, off + k * 6 + 2, none⟩ = some (.int .i64 q.box.lo.y) ∧ w.cell? ⟨b, off + k * 6 + 3, none⟩ = some (.int .i64 q.box.hi.x) ∧ w.cell? ⟨b, off + k * 6 + 4, none⟩ = some (.int .i64 q.box.hi.y) ∧ w.cell? ⟨b, off + k * 6 + 5, none⟩ = some (.slice A' m c)) ∧ PtsAt w B A' m q.ring := by
  obtain ⟨b, off, e, hb, hc⟩ := h.2 (by omega)
  have hl : k < l.length := by rw [h.1]; exact hk
  obtain ⟨A', m, c, h0, h1, h2, h3, h4, h5, h6⟩ := hc k _ (List.getElem?_eq_getElem hl)
  exact ⟨b, off, A', m, c, _, e, hb, List.getElem?_eq_getElem hl, ⟨h0, h1, h2, h3, h4, h5⟩, h6⟩
end Go.Proofs.YtkfbkfcmdfpfjaaGreatDoor
set_option linter.unusedSimpArgs false
set_option linter.unusedVariables false
namespace Go.Proofs.YtkfbkfcmdfpfjaaGreatDoor
open Go.RowKit Pg
end Go.Proofs.YtkfbkfcmdfpfjaaGreatDoor
set_option linter.unusedSimpArgs false
set_option linter.unusedVariables false
namespace Go.Proofs.YtkfbkfcmdfpfjaaGreatDoor
open Go.RowKit Pg
end Go.Proofs.YtkfbkfcmdfpfjaaGreatDoor
