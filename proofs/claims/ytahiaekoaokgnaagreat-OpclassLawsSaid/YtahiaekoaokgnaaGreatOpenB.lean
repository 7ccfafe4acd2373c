/-
  Arguments opened, more: boxes with their numbers' bounds, rows of bytes.
  A list as an argument, opened, whatever its elements; rows of bytes.
  Arguments opened: lists of objects, lists of queries.
-/
import Derived.Test.YtahiaekoaokgnaaGreatOpenArg
import Derived.Test.YtahiaekoaokgnaaGreatEncD
import Derived.Test.YtahiaekoaokgnaaGreatPlainCov
set_option linter.unusedSimpArgs false
set_option linter.unusedVariables false
set_option maxRecDepth 100000
namespace Go.Proofs.YtahiaekoaokgnaaGreat
open Go.RowKit Go.ChangeShapes Go.WideShapes Go.Deep Pg

section
variable {H : Type} {enc : TypeId × Value → H} {W : World} {base : Nat} {spare : Nat → Bool} {held : Bool} {fuel : Nat} {cs : List Value} {x : DataW H × List MemPlace}
end
section
variable {H : Type} {enc : TypeId × Value → H} {W : World} {r : Reach} {b0 base : Nat} {spare : Nat → Bool} {held : Bool} {v : Value} {d : DataW H} {p : List MemPlace}
end
end Go.Proofs.YtahiaekoaokgnaaGreat
set_option linter.unusedSimpArgs false
set_option linter.unusedVariables false
set_option maxRecDepth 100000
namespace Go.Proofs.YtahiaekoaokgnaaGreat
open Go.RowKit Go.ChangeShapes Go.WideShapes Go.Deep Pg
/-- a list of elements of sz cells each; R: what an element's cells hold -/
def ListAt {α : Type} (R : α → List Value → Prop) (sz : Nat) (w : World) (B : Nat) (A : Option Addr) (n : Nat) (l : List α) : Prop :=
  l.length = n ∧ (0 < n → ∃ b off, A = some ⟨b, off, none⟩ ∧ b < B) ∧ ∀ (b off k : Nat) (p : α), A = some ⟨b, off, none⟩ → l[k]? = some p → ∃ cs, R p cs ∧ ∀ (j : Nat) (v : Value), cs[j]? = some v → w.cell? ⟨b, off + k * sz + j, none⟩ = some v
section
variable {H : Type} {enc : TypeId × Value → H} {W : World} {base : Nat} {spare : Nat → Bool} {held : Bool} {fuel : Nat} {cs : List Value} {x : DataW H × List MemPlace}
theorem open_list {α : Type} {P : Program} {R : α → List Value → Prop} {t e : TypeId} {sz : Nat} (ht : P.underlying t = some (.slice e)) (hc : P.cellsOf e = sz) (hsz : 0 < sz)
    (hR : ∀ (n : Nat) (cs' : List Value) (y : DataW H × List MemPlace), DataW.trod enc P W base spare held n e cs' = some y → ∃ p : α, R p cs' ∧ 0 < cs'.length)
    (h : DataW.trod enc P W base spare held fuel t cs = some x) :
    ∃ (A : Option Addr) (n c : Nat) (l : List α), cs = [.slice A n c] ∧ ListAt R sz W W.heap.size A n l ∧ (A = none → c = 0) ∧ n ≤ c ∧ c ≤ maxLen := by
  rcases open_slice ht h with ⟨h0, _⟩ | ⟨a, n, c, m, k, D, Pl, h0, _, hnc, hcm, hm, _, hi⟩
  · exact ⟨none, 0, 0, [], h0, ⟨rfl, fun h => absurd h (by omega), fun b off k p e => by cases e⟩, fun _ => rfl, Nat.le_refl _, Nat.zero_le _⟩
  · have hnm : n ≤ m := by rw [hm]; split <;> omega
    rw [hc] at hi
    have key : ∀ i, i < n → ∃ p : α, ∃ cs', R p cs' ∧ 0 < cs'.length ∧ ∀ (j : Nat) (v : Value), cs'[j]? = some v → W.cell? ((a.add (i * sz)).add j) = some v := by
      intro i hin
      obtain ⟨cs', hcs, ht⟩ := hi i (by omega)
      obtain ⟨p, hp, hl⟩ := hR _ _ _ ht
      obtain ⟨h1, h2, hat⟩ := World.cells?_some hcs
      refine ⟨p, cs', hp, hl, fun j v hj => ?_⟩
      have hjl : j < cs'.length := by
        rcases Nat.lt_or_ge j cs'.length with h | h
        · exact h
        · rw [List.getElem?_eq_none h] at hj; cases hj
      rw [← hj]
      exact hat j (by omega)
    have hlen : ((List.finRange n).map fun i => Classical.choose (key i.val i.isLt)).length = n := by simp
    have hget : ∀ k (hk : k < n), ((List.finRange n).map fun i => Classical.choose (key i.val i.isLt))[k]? = some (Classical.choose (key k hk)) := fun k hk => by
      rw [List.getElem?_map, List.getElem?_eq_getElem (by simpa using hk)]
      simp
    refine ⟨some a, n, c, (List.finRange n).map fun i => Classical.choose (key i.val i.isLt), h0, ⟨hlen, fun hn => ?_, fun b off k p hA hp => ?_⟩, (fun e => by cases e), hnc, hcm⟩
    · obtain ⟨cs', _, hl, hat⟩ := Classical.choose_spec (key 0 hn)
      obtain ⟨b, off, sp⟩ := a
      have h1 := hat 0 _ (List.getElem?_eq_getElem hl)
      have hsp : sp = none := by
        have := World.cell?_spot h1
        simpa [Addr.add] using this
      subst hsp
      refine ⟨b, off, rfl, ?_⟩
      rcases Nat.lt_or_ge b W.heap.size with h | h
      · exact h
      · simp [Addr.add, World.cell?, Array.getElem?_eq_none h] at h1
    · injection hA with hA
      subst hA
      have hk : k < n := by
        rcases Nat.lt_or_ge k n with h | h
        · exact h
        · rw [List.getElem?_eq_none (by omega)] at hp; cases hp
      rw [hget k hk] at hp
      injection hp with hp
      subst hp
      obtain ⟨cs', hr, _, hat⟩ := Classical.choose_spec (key k hk)
      refine ⟨cs', hr, fun j v hj => ?_⟩
      have := hat j v hj
      have e : ((⟨b, off, none⟩ : Addr).add (k * sz)).add j = ⟨b, off + k * sz + j, none⟩ := by
        unfold Addr.add
        split <;> split <;> simp_all
      rw [e] at this
      exact this
end
section
variable {H : Type} {enc : TypeId × Value → H} {W : World} {r : Reach} {b0 base : Nat} {spare : Nat → Bool} {held : Bool} {v : Value} {d : DataW H} {p : List MemPlace}
end
end Go.Proofs.YtahiaekoaokgnaaGreat
set_option linter.unusedSimpArgs false
set_option linter.unusedVariables false
set_option maxRecDepth 100000
namespace Go.Proofs.YtahiaekoaokgnaaGreat
open Go.RowKit Go.ChangeShapes Go.WideShapes Go.Deep Pg
theorem cObO : Tryz.prog.cellsOf 34 = 2 := by kernel_rfl
theorem cQuO : Tryz.prog.cellsOf 56 = 6 := by kernel_rfl
section
variable {H : Type} {enc : TypeId × Value → H} {W : World} {base : Nat} {spare : Nat → Bool} {held : Bool} {fuel : Nat} {cs : List Value} {x : DataW H × List MemPlace}
theorem open_qus (h : DataW.trod enc Tryz.prog W base spare held fuel 25 cs = some x) : ∃ (A : Option Addr) (n c : Nat) (l : List Qu), cs = [.slice A n c] ∧ QusAt W W.heap.size A n l ∧ n ≤ 9223372036854775807 := by
  obtain ⟨A, n, c, l, rfl, ⟨h1, h2, h3⟩, _, hnc, hcm⟩ := open_list (α := Qu) (R := fun o cs => ∃ A n c, cs = [.int .i64 o.kind, .int .i64 o.box.lo.x, .int .i64 o.box.lo.y, .int .i64 o.box.hi.x, .int .i64 o.box.hi.y, .slice A n c] ∧ PtsAt W W.heap.size A n o.ring) Tryz.underlying25 cQuO (by decide)
    (fun n cs' y ht => by
      obtain ⟨xs, m, _, _, hl, hlen, hg⟩ := DataW.trod_struct Tryz.underlying56 ht
      obtain ⟨y0, y1, y2, rfl⟩ := list3 hlen
      rw [cQuO] at hl
      obtain ⟨c0, c1, c2, c3, c4, c5, rfl⟩ := list6 hl
      have h0 : DataW.trod enc Tryz.prog W base spare held m 3 (([c0, c1, c2, c3, c4, c5].drop 0).take (Tryz.prog.cellsOf 3)) = some y0 := hg 0 _ rfl
      have h1 : DataW.trod enc Tryz.prog W base spare held m 54 (([c0, c1, c2, c3, c4, c5].drop 1).take (Tryz.prog.cellsOf 54)) = some y1 := hg 1 _ rfl
      have h2 : DataW.trod enc Tryz.prog W base spare held m 26 (([c0, c1, c2, c3, c4, c5].drop 5).take (Tryz.prog.cellsOf 26)) = some y2 := hg 2 _ rfl
      rw [cInt] at h0
      rw [cBx] at h1
      rw [cPts] at h2
      obtain ⟨k, e0⟩ := open_int1 h0
      obtain ⟨b, e1⟩ := open_box h1
      obtain ⟨A, n, c, l, e2, hp⟩ := open_pts h2
      simp at e0 e1 e2
      exact ⟨⟨k, b, l⟩, ⟨A, n, c, by rw [e0, e1.1, e1.2.1, e1.2.2.1, e1.2.2.2, e2], hp⟩, by simp⟩) h
  refine ⟨A, n, c, l, rfl, ⟨h1, fun hn => ?_⟩, by unfold maxLen at hcm; omega⟩
  obtain ⟨b, off, rfl, hb⟩ := h2 hn
  refine ⟨b, off, rfl, hb, fun k p hp => ?_⟩
  obtain ⟨cs, ⟨A', n', c', rfl, hp2⟩, hat⟩ := h3 b off k p rfl hp
  exact ⟨A', n', c', hat 0 _ rfl, hat 1 _ rfl, hat 2 _ rfl, hat 3 _ rfl, hat 4 _ rfl, hat 5 _ rfl, hp2⟩
end
section
variable {H : Type} {enc : TypeId × Value → H} {W : World} {r : Reach} {b0 base : Nat} {spare : Nat → Bool} {held : Bool} {v : Value} {d : DataW H} {p : List MemPlace}
theorem open_qusV (hv : Value.okWide Tryz.prog W r b0 25 v) (h : DataW.Trod enc Tryz.prog W base spare held 25 v d p) :
    ∃ (A : Option Addr) (n c : Nat) (L : List Qu), v = .slice A n c ∧ QusAt W W.heap.size A n L ∧ n ≤ 9223372036854775807 := by
  obtain ⟨fuel, hf⟩ := h
  obtain ⟨A, n, c, l, e, hp⟩ := open_qus hf
  obtain ⟨a', n', c', rfl⟩ := okWide_slice Tryz.underlying25 hv
  simp [Value.cells] at e
  exact ⟨A, n, c, l, by rw [e.1, e.2.1, e.2.2], hp⟩
end
end Go.Proofs.YtahiaekoaokgnaaGreat
