/-
  Arguments opened, more: boxes with their numbers' bounds, rows of bytes.
-/
import Derived.Test.YtmaogalgganhgaaDoorOpenArg
import Derived.Test.YtmaogalgganhgaaDoorEncD
set_option linter.unusedSimpArgs false
set_option linter.unusedVariables false
set_option maxRecDepth 100000
namespace Go.Proofs.YtmaogalgganhgaaDoor
open Go.RowKit Go.ChangeShapes Go.WideShapes Go.Deep Pg

theorem wf_i64 {n : Int} (h : (Lit.int .i64 n).wf = true) : in64 n := by
  simp [Lit.wf, IntKind.min, IntKind.max, IntKind.signed, IntKind.bits] at h
  unfold in64
  omega
theorem wf_u8 {n : Int} (h : (Lit.int .u8 n).wf = true) : 0 ≤ n ∧ n < 256 := by
  simp [Lit.wf, IntKind.min, IntKind.max, IntKind.signed, IntKind.bits] at h
  omega
theorem cByte : Tryd.prog.cellsOf 5 = 1 := by kernel_rfl
section
variable {H : Type} {enc : TypeId × Value → H} {W : World} {base : Nat} {spare : Nat → Bool} {held : Bool} {fuel : Nat} {cs : List Value} {x : DataW H × List MemPlace}
theorem open_int1w (h : DataW.trod enc Tryd.prog W base spare held fuel 3 cs = some x) : ∃ a : Int, cs = [.int .i64 a] ∧ in64 a := by
  obtain ⟨a, e, _, hw⟩ := DataW.trod_int Tryd.underlying3 h
  exact ⟨a, e, wf_i64 hw⟩
theorem open_pointw (h : DataW.trod enc Tryd.prog W base spare held fuel 23 cs = some x) : ∃ p : Pt, cs = [.int .i64 p.x, .int .i64 p.y] ∧ in64 p.x ∧ in64 p.y := by
  obtain ⟨y0, y1, m, _, hl, h0, h1⟩ := trod_struct2 Tryd.underlying23 h
  rw [cPt] at hl
  obtain ⟨c0, c1, rfl⟩ := list2 hl
  focus
    simp only [cInt] at h0 h1
    obtain ⟨a, e0, w0⟩ := open_int1w h0
    obtain ⟨b, e1, w1⟩ := open_int1w h1
    simp at e0 e1
    exact ⟨⟨a, b⟩, by rw [e0, e1], w0, w1⟩
theorem open_boxw (h : DataW.trod enc Tryd.prog W base spare held fuel 25 cs = some x) : ∃ b : Bx, cs = [.int .i64 b.lo.x, .int .i64 b.lo.y, .int .i64 b.hi.x, .int .i64 b.hi.y] ∧ inBx b := by
  obtain ⟨y0, y1, m, _, hl, h0, h1⟩ := trod_struct2 Tryd.underlying25 h
  rw [cBx] at hl
  obtain ⟨c0, c1, c2, c3, rfl⟩ := list4 hl
  focus
    simp only [cPt] at h0 h1
    obtain ⟨p, e0, w0, w1⟩ := open_pointw h0
    obtain ⟨q, e1, w2, w3⟩ := open_pointw h1
    simp at e0 e1
    exact ⟨⟨p, q⟩, by rw [e0.1, e0.2, e1.1, e1.2], w0, w1, w2, w3⟩
/-- a row of bytes -/
theorem open_bys (h : DataW.trod enc Tryd.prog W base spare held fuel 26 cs = some x) : ∃ (A : Option Addr) (n c : Nat) (l : List Nat), cs = [.slice A n c] ∧ BysAt W W.heap.size A n l ∧ (∀ x ∈ l, x < 256) ∧ (A = none → c = 0) ∧ n ≤ c := by
  rcases open_slice Tryd.underlying26 h with ⟨h0, _⟩ | ⟨a, n, c, m, k, D, Pl, h0, _, hnc, _, hm, _, hi⟩
  · exact ⟨none, 0, 0, [], h0, ⟨rfl, fun h => absurd h (by omega)⟩, fun x hx => (by cases hx), fun _ => rfl, Nat.le_refl _⟩
  · have hnm : n ≤ m := by rw [hm]; split <;> omega
    have key : ∀ i, i < n → ∃ p : Nat, p < 256 ∧ W.cell? (a.add i) = some (.int .u8 (p : Int)) := by
      intro i hin
      obtain ⟨cs', hc, ht⟩ := hi i (by omega)
      rw [cByte] at hc
      obtain ⟨z, e, _, hw⟩ := DataW.trod_int Tryd.underlying5 ht
      obtain ⟨w0, w1⟩ := wf_u8 hw
      obtain ⟨_, _, hat⟩ := World.cells?_some hc
      have h0 := hat 0 (by omega)
      rw [e] at h0
      simp only [List.getElem?_cons_zero, Nat.mul_one] at h0
      refine ⟨z.toNat, by omega, ?_⟩
      rw [show ((z.toNat : Nat) : Int) = z by omega]
      simpa [Addr.add] using h0
    have hpick : ∃ f : Nat → Nat, ∀ i, i < n → f i < 256 ∧ W.cell? (a.add i) = some (.int .u8 ((f i : Nat) : Int)) :=
      ⟨fun i => if h : i < n then Classical.choose (key i h) else 0, fun i h => by simp only [dif_pos h]; exact Classical.choose_spec (key i h)⟩
    obtain ⟨f, hf⟩ := hpick
    refine ⟨some a, n, c, (List.range n).map f, h0, ⟨by simp, fun hn => ?_⟩, fun x hx => ?_, (fun e => by cases e), hnc⟩
    · obtain ⟨b, off, sp⟩ := a
      have hsp : sp = none := by
        have := World.cell?_spot (hf 0 hn).2
        simpa [Addr.add] using this
      subst hsp
      have hb : b < W.heap.size := by
        have := (hf 0 hn).2
        rcases Nat.lt_or_ge b W.heap.size with h | h
        · exact h
        · simp [Addr.add, World.cell?, Array.getElem?_eq_none h] at this
      refine ⟨b, off, rfl, hb, fun k p hp => ?_⟩
      have hk : k < n := by
        rcases Nat.lt_or_ge k n with h | h
        · exact h
        · rw [List.getElem?_eq_none (by simpa using h)] at hp; cases hp
      have ep : p = f k := by
        rw [List.getElem?_map, List.getElem?_range hk] at hp
        simpa using hp.symm
      subst ep
      have h1 := (hf k hk).2
      have e1 : (⟨b, off, none⟩ : Addr).add k = ⟨b, off + k, none⟩ := by
        unfold Addr.add
        split <;> simp_all
      rw [e1] at h1
      exact h1
    · rw [List.mem_map] at hx
      obtain ⟨i, hi2, rfl⟩ := hx
      exact (hf i (List.mem_range.1 hi2)).1
end
section
variable {H : Type} {enc : TypeId × Value → H} {W : World} {r : Reach} {b0 base : Nat} {spare : Nat → Bool} {held : Bool} {v : Value} {d : DataW H} {p : List MemPlace}
theorem open_boxVw (hv : Value.okWide Tryd.prog W r b0 25 v) (h : DataW.Trod enc Tryd.prog W base spare held 25 v d p) :
    ∃ b : Bx, v = .agg #[.int .i64 b.lo.x, .int .i64 b.lo.y, .int .i64 b.hi.x, .int .i64 b.hi.y] ∧ inBx b := by
  obtain ⟨cs, rfl, hsz⟩ := okWide_struct Tryd.underlying25 hv
  obtain ⟨l⟩ := cs
  rw [cBx] at hsz
  obtain ⟨c0, c1, c2, c3, rfl⟩ := list4 (by simpa using hsz)
  focus
    obtain ⟨fuel, hf⟩ := h
    obtain ⟨q, e, hq⟩ := open_boxw hf
    simp [Value.cells] at e
    exact ⟨q, by rw [e.1, e.2.1, e.2.2.1, e.2.2.2], hq⟩
theorem open_bysV (hv : Value.okWide Tryd.prog W r b0 26 v) (h : DataW.Trod enc Tryd.prog W base spare held 26 v d p) :
    ∃ (A : Option Addr) (n c : Nat) (l : List Nat), v = .slice A n c ∧ BysAt W W.heap.size A n l ∧ (∀ x ∈ l, x < 256) ∧ (A = none → c = 0) ∧ n ≤ c := by
  obtain ⟨fuel, hf⟩ := h
  obtain ⟨A, n, c, l, e, hp⟩ := open_bys hf
  obtain ⟨a', n', c', rfl⟩ := okWide_slice Tryd.underlying26 hv
  simp [Value.cells] at e
  exact ⟨A, n, c, l, by rw [e.1, e.2.1, e.2.2], hp⟩
end
end Go.Proofs.YtmaogalgganhgaaDoor
