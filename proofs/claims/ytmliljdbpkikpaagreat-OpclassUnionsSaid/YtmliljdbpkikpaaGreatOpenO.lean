/-
  Arguments opened: lists of objects, lists of queries.
-/
import Derived.Test.YtmliljdbpkikpaaGreatOpenB
import Derived.Test.YtmliljdbpkikpaaGreatListsO
set_option linter.unusedSimpArgs false
set_option linter.unusedVariables false
set_option maxRecDepth 100000
namespace Go.Proofs.YtmliljdbpkikpaaGreat
open Go.RowKit Go.ChangeShapes Go.WideShapes Go.Deep Pg
theorem cObO : Tryz.prog.cellsOf 38 = 2 := by kernel_rfl
theorem cQuO : Tryz.prog.cellsOf 60 = 6 := by kernel_rfl
section
variable {H : Type} {enc : TypeId × Value → H} {W : World} {base : Nat} {spare : Nat → Bool} {held : Bool} {fuel : Nat} {cs : List Value} {x : DataW H × List MemPlace}
theorem open_obs (h : DataW.trod enc Tryz.prog W base spare held fuel 22 cs = some x) : ∃ (A : Option Addr) (n c : Nat) (l : List Ob), cs = [.slice A n c] ∧ ObsAt W W.heap.size A n l ∧ n ≤ 9223372036854775807 := by
  obtain ⟨A, n, c, l, rfl, ⟨h1, h2, h3⟩, _, hnc, hcm⟩ := open_list (α := Ob) (R := fun o cs => ∃ A n c, cs = [.int .i64 o.kind, .slice A n c] ∧ PtsAt W W.heap.size A n o.pts) Tryz.underlying22 cObO (by decide)
    (fun n cs' y ht => by
      obtain ⟨y0, y1, m, _, hl, h0, h1⟩ := trod_struct2 Tryz.underlying38 ht
      rw [cObO] at hl
      obtain ⟨c0, c1, rfl⟩ := list2 hl
      simp only [cInt, cPts] at h0 h1
      obtain ⟨k, e0⟩ := open_int1 h0
      obtain ⟨A, n, c, l, e1, hp⟩ := open_pts h1
      simp at e0 e1
      exact ⟨⟨k, l⟩, ⟨A, n, c, by rw [e0, e1], hp⟩, by simp⟩) h
  refine ⟨A, n, c, l, rfl, ⟨h1, fun hn => ?_⟩, by unfold maxLen at hcm; omega⟩
  obtain ⟨b, off, rfl, hb⟩ := h2 hn
  refine ⟨b, off, rfl, hb, fun k p hp => ?_⟩
  obtain ⟨cs, ⟨A', n', c', rfl, hp2⟩, hat⟩ := h3 b off k p rfl hp
  exact ⟨A', n', c', hat 0 _ rfl, hat 1 _ rfl, hp2⟩
theorem open_qus (h : DataW.trod enc Tryz.prog W base spare held fuel 23 cs = some x) : ∃ (A : Option Addr) (n c : Nat) (l : List Qu), cs = [.slice A n c] ∧ QusAt W W.heap.size A n l ∧ n ≤ 9223372036854775807 := by
  obtain ⟨A, n, c, l, rfl, ⟨h1, h2, h3⟩, _, hnc, hcm⟩ := open_list (α := Qu) (R := fun o cs => ∃ A n c, cs = [.int .i64 o.kind, .int .i64 o.box.lo.x, .int .i64 o.box.lo.y, .int .i64 o.box.hi.x, .int .i64 o.box.hi.y, .slice A n c] ∧ PtsAt W W.heap.size A n o.ring) Tryz.underlying23 cQuO (by decide)
    (fun n cs' y ht => by
      obtain ⟨xs, m, _, _, hl, hlen, hg⟩ := DataW.trod_struct Tryz.underlying60 ht
      obtain ⟨y0, y1, y2, rfl⟩ := list3 hlen
      rw [cQuO] at hl
      obtain ⟨c0, c1, c2, c3, c4, c5, rfl⟩ := list6 hl
      have h0 : DataW.trod enc Tryz.prog W base spare held m 3 (([c0, c1, c2, c3, c4, c5].drop 0).take (Tryz.prog.cellsOf 3)) = some y0 := hg 0 _ rfl
      have h1 : DataW.trod enc Tryz.prog W base spare held m 58 (([c0, c1, c2, c3, c4, c5].drop 1).take (Tryz.prog.cellsOf 58)) = some y1 := hg 1 _ rfl
      have h2 : DataW.trod enc Tryz.prog W base spare held m 24 (([c0, c1, c2, c3, c4, c5].drop 5).take (Tryz.prog.cellsOf 24)) = some y2 := hg 2 _ rfl
      rw [cInt] at h0
      rw [cBx] at h1
      rw [cPts] at h2
      obtain ⟨k, e0⟩ := open_int1 h0
      obtain ⟨b, e1⟩ := open_box h1
      obtain ⟨A, n, c, l, e2, hp⟩ := open_pts h2
      simp at e0 e1 e2
      exact ⟨⟨k, b, l⟩, ⟨A, n, c, by rw [e0, e1.1, e1.2.1, e1.2.2.1, e1.2.2.2, e2], hp⟩, by simp⟩) h
  refine ⟨A, n, c, l, rfl, ⟨h1, fun hn => ?_⟩, by unfold maxLen at hcm; omega⟩
  obtain ⟨b, off, rfl, hb⟩ := h2 hn
  refine ⟨b, off, rfl, hb, fun k p hp => ?_⟩
  obtain ⟨cs, ⟨A', n', c', rfl, hp2⟩, hat⟩ := h3 b off k p rfl hp
  exact ⟨A', n', c', hat 0 _ rfl, hat 1 _ rfl, hat 2 _ rfl, hat 3 _ rfl, hat 4 _ rfl, hat 5 _ rfl, hp2⟩
end
section
variable {H : Type} {enc : TypeId × Value → H} {W : World} {r : Reach} {b0 base : Nat} {spare : Nat → Bool} {held : Bool} {v : Value} {d : DataW H} {p : List MemPlace}
theorem open_obsV (hv : Value.okWide Tryz.prog W r b0 22 v) (h : DataW.Trod enc Tryz.prog W base spare held 22 v d p) :
    ∃ (A : Option Addr) (n c : Nat) (L : List Ob), v = .slice A n c ∧ ObsAt W W.heap.size A n L ∧ n ≤ 9223372036854775807 := by
  obtain ⟨fuel, hf⟩ := h
  obtain ⟨A, n, c, l, e, hp⟩ := open_obs hf
  obtain ⟨a', n', c', rfl⟩ := okWide_slice Tryz.underlying22 hv
  simp [Value.cells] at e
  exact ⟨A, n, c, l, by rw [e.1, e.2.1, e.2.2], hp⟩
theorem open_qusV (hv : Value.okWide Tryz.prog W r b0 23 v) (h : DataW.Trod enc Tryz.prog W base spare held 23 v d p) :
    ∃ (A : Option Addr) (n c : Nat) (L : List Qu), v = .slice A n c ∧ QusAt W W.heap.size A n L ∧ n ≤ 9223372036854775807 := by
  obtain ⟨fuel, hf⟩ := h
  obtain ⟨A, n, c, l, e, hp⟩ := open_qus hf
  obtain ⟨a', n', c', rfl⟩ := okWide_slice Tryz.underlying23 hv
  simp [Value.cells] at e
  exact ⟨A, n, c, l, by rw [e.1, e.2.1, e.2.2], hp⟩
end
end Go.Proofs.YtmliljdbpkikpaaGreat
