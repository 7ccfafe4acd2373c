/-
  A list of boxes as an argument, opened.
-/
import Derived.Test.YtmaogalgganhgaaOpenArg
import Derived.Test.YtmaogalgganhgaaPlane
set_option linter.unusedSimpArgs false
set_option linter.unusedVariables false
set_option maxRecDepth 100000
namespace Go.Proofs.Ytmaogalgganhgaa
open Go.RowKit Go.ChangeShapes Go.WideShapes Go.Deep Pg
section
variable {H : Type} {enc : TypeId × Value → H} {W : World} {r : Reach} {b0 base : Nat} {spare : Nat → Bool} {held : Bool} {fuel : Nat} {cs : List Value} {x : DataW H × List MemPlace} {v : Value} {d : DataW H} {p : List MemPlace}
theorem open_bxs (h : DataW.trod enc Try.prog W base spare held fuel 22 cs = some x) : ∃ (A : Option Addr) (n c : Nat) (l : List Bx), cs = [.slice A n c] ∧ BxsAt W W.heap.size A n l := by
  rcases open_slice Try.underlying22 h with ⟨h0, _⟩ | ⟨a, n, c, m, k, D, Pl, h0, _, hnc, _, hm, _, hi⟩
  · exact ⟨none, 0, 0, [], h0, rfl, fun h => absurd h (by omega)⟩
  · have hnm : n ≤ m := by rw [hm]; split <;> omega
    have key : ∀ i, i < n → ∃ p : Bx, W.cell? (a.add (i * 4)) = some (.int .i64 p.lo.x) ∧ W.cell? (a.add (i * 4 + 1)) = some (.int .i64 p.lo.y) ∧ W.cell? (a.add (i * 4 + 2)) = some (.int .i64 p.hi.x) ∧ W.cell? (a.add (i * 4 + 3)) = some (.int .i64 p.hi.y) := by
      intro i hin
      obtain ⟨cs', hc, ht⟩ := hi i (by omega)
      rw [cBx] at hc
      obtain ⟨p, e⟩ := open_box ht
      obtain ⟨_, _, hat⟩ := World.cells?_some hc
      have h0 := hat 0 (by omega)
      have h1 := hat 1 (by omega)
      have h2 := hat 2 (by omega)
      have h3 := hat 3 (by omega)
      rw [e] at h0 h1 h2 h3
      simp only [List.getElem?_cons_zero, List.getElem?_cons_succ] at h0 h1 h2 h3
      have ea : ∀ j, (a.add (i * 4 + j)) = ((a.add (i * 4)).add j) := fun j => by
        unfold Addr.add
        by_cases hz : i * 4 = 0
        · by_cases hj : j = 0 <;> simp [hz, hj]
        · by_cases hj : j = 0 <;> simp [hz, hj]; omega
      refine ⟨p, by simpa [Addr.add] using h0, ?_, ?_, ?_⟩
      · rw [ea, ← h1]
      · rw [ea, ← h2]
      · rw [ea, ← h3]
    have hpick : ∃ f : Nat → Bx, ∀ i, i < n → W.cell? (a.add (i * 4)) = some (.int .i64 (f i).lo.x) ∧ W.cell? (a.add (i * 4 + 1)) = some (.int .i64 (f i).lo.y) ∧ W.cell? (a.add (i * 4 + 2)) = some (.int .i64 (f i).hi.x) ∧ W.cell? (a.add (i * 4 + 3)) = some (.int .i64 (f i).hi.y) :=
      ⟨fun i => if h : i < n then Classical.choose (key i h) else bzero, fun i h => by simp only [dif_pos h]; exact Classical.choose_spec (key i h)⟩
    obtain ⟨f, hf⟩ := hpick
    refine ⟨some a, n, c, (List.range n).map f, h0, by simp, fun hn => ?_⟩
    obtain ⟨b, off, sp⟩ := a
    have hsp : sp = none := by
      have := World.cell?_spot (hf 0 hn).1
      simpa [Addr.add] using this
    subst hsp
    have hb : b < W.heap.size := by
      have := (hf 0 hn).1
      rcases Nat.lt_or_ge b W.heap.size with h | h
      · exact h
      · simp [Addr.add, World.cell?, Array.getElem?_eq_none h] at this
    refine ⟨b, off, rfl, hb, fun k p hp => ?_⟩
    have hk : k < n := by
      rcases Nat.lt_or_ge k n with h | h
      · exact h
      · rw [List.getElem?_eq_none (by simpa using h)] at hp; cases hp
    have ep : p = f k := by
      rw [List.getElem?_map, List.getElem?_range hk] at hp
      simpa using hp.symm
    subst ep
    obtain ⟨h1, h2, h3, h4⟩ := hf k hk
    have e : ∀ j, (⟨b, off, none⟩ : Addr).add (k * 4 + j) = ⟨b, off + k * 4 + j, none⟩ := fun j => by
      unfold Addr.add
      split
      · rename_i h; have : k * 4 = 0 ∧ j = 0 := by omega
        simp [this.1, this.2]
      · simp [Nat.add_assoc]
    rw [e 1] at h2
    rw [e 2] at h3
    rw [e 3] at h4
    have e0 := e 0
    rw [Nat.add_zero] at e0
    rw [e0] at h1
    exact ⟨h1, h2, h3, h4⟩
theorem open_bxsV (hv : Value.okWide Try.prog W r b0 22 v) (h : DataW.Trod enc Try.prog W base spare held 22 v d p) :
    ∃ (A : Option Addr) (n c : Nat) (l : List Bx), v = .slice A n c ∧ BxsAt W W.heap.size A n l := by
  obtain ⟨fuel, hf⟩ := h
  obtain ⟨A, n, c, l, e, hp⟩ := open_bxs hf
  obtain ⟨a', n', c', rfl⟩ := okWide_slice Try.underlying22 hv
  simp [Value.cells] at e
  exact ⟨A, n, c, l, by rw [e.1, e.2.1, e.2.2], hp⟩
end
end Go.Proofs.Ytmaogalgganhgaa
