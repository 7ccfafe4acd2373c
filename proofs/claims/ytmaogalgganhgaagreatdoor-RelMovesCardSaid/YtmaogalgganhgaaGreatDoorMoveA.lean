/-
  What the walk of RelMoves needs: its closure; an own row of points.
-/
import Derived.Test.YtmaogalgganhgaaGreatDoorLexS
import Derived.Test.YtmaogalgganhgaaGreatDoorDist4
import Derived.Test.YtmaogalgganhgaaGreatDoorPlainMove
set_option linter.unusedSimpArgs false
set_option linter.unusedVariables false
namespace Go.Proofs.YtmaogalgganhgaaGreatDoor
open Go.RowKit Pg

def pcells (l : List Pt) : List Value := l.flatMap fun p => [.int .i64 p.x, .int .i64 p.y]
theorem pcells_snoc (l : List Pt) (p : Pt) : pcells (l ++ [p]) = pcells l ++ [.int .i64 p.x, .int .i64 p.y] := by simp [pcells]
theorem pcells_at (l : List Pt) : ∀ (k : Nat) (b : Pt), l[k]? = some b → (pcells l)[k * 2]? = some (.int .i64 b.x) ∧ (pcells l)[k * 2 + 1]? = some (.int .i64 b.y) := by
  induction l with
  | nil => intro k b h; simp at h
  | cons c r ih =>
    intro k b h
    cases k with
    | zero =>
      simp at h
      subst h
      simp [pcells]
    | succ k =>
      have := ih k b (by simpa using h)
      simp only [pcells, List.flatMap_cons] at this ⊢
      rw [List.getElem?_append_right (by simp; omega), List.getElem?_append_right (by simp; omega)]
      simp only [List.length_cons, List.length_nil]
      rw [show (k + 1) * 2 - (0 + 1 + 1) = k * 2 by omega, show (k + 1) * 2 + 1 - (0 + 1 + 1) = k * 2 + 1 by omega]
      exact this
theorem pts_of_own {w : World} {base : Nat} {e : TypeId} {v : Value} {n : Nat} {l : List Pt} (h : w.ownsRow base e 2 v n (pcells l)) (hl : l.length = n) :
    ∃ A c, v = .slice A n c ∧ PtsAt w w.heap.size A n l := by
  obtain ⟨h1, ⟨rfl, rfl⟩ | ⟨g, cap, cur, rfl, hg, hh, hc⟩⟩ := h
  · exact ⟨none, 0, rfl, hl, fun h => absurd h (by omega)⟩
  · refine ⟨_, cap, rfl, hl, fun hn => ⟨g, 0, rfl, lt_of_block hh, fun k p hp => ?_⟩⟩
    have hown : w.ownsRow base e 2 (.slice (some ⟨g, 0, none⟩) n cap) n (pcells l) := ⟨h1, .inr ⟨g, cap, cur, rfl, hg, hh, hc⟩⟩
    have hk : k < n := by
      rw [← hl]
      rcases Nat.lt_or_ge k l.length with h | h
      · exact h
      · rw [List.getElem?_eq_none h] at hp; cases hp
    have := pcells_at l k p hp
    simp only [Nat.zero_add]
    rw [hown.cellAt (k * 2) (by omega), hown.cellAt (k * 2 + 1) (by omega)]
    exact this

set_option maxHeartbeats 1000000 in
set_option maxRecDepth 20000 in
theorem up_any (x y d : Int) (g : Nat) (w : World) (hg : Blk w g 3 #[.int .i64 d]) :
    Calls Tryz.prog 12 #[ptV x y, .pointer (some ⟨g, 0, none⟩)] w (Ret w (ptV x (IntKind.i64.wrap (y + d)))) := by
  have cg := hg.cell
  have lg := hg.lt
  obtain ⟨z, ez⟩ : ∃ z, IntKind.i64.wrap (y + d) = z := ⟨_, rfl⟩
  rw [ez]
  go_enter Tryz.func12, Tryz.ntmps12
  go_wp2
  refine post_gen2 (R := fun w2 => Blk w2 (w.heap.size + 1) 26 #[.int .i64 x, .int .i64 z] ∧ Below w.heap.size w w2) ⟨?_, (by repeat (first | with_reducible exact Below.refl _ _ | with_reducible assumption | with_reducible refine al ?_ _ | with_reducible refine Below.drew ?_ | with_reducible refine Below.setCell ?_ (by first | (simp; done) | (simp; omega)) _ | with_reducible refine tr ?_ (by with_reducible assumption)))⟩ ?_
  · repeat (first | with_reducible exact two_put (x := .int .i64 0) (y := .int .i64 0) (by repeat (first | with_reducible assumption | with_reducible exact Blk.new (by simp) rfl | with_reducible refine Blk.alloc ?_ _ | with_reducible refine Blk.drew ?_ | with_reducible refine Blk.far ?_ (by simp; omega) _ | with_reducible refine Blk.tr ?_ (by with_reducible assumption))) | (with_reducible refine Blk.new ?_ rfl; focus (simp; done)) | with_reducible refine Blk.alloc ?_ _ | with_reducible refine Blk.drew ?_)
  rintro w2 ⟨HR, hb2⟩
  have r0 := HR.cell 0
  have r1 := HR.cell 1
  simp only [List.getElem?_toArray, List.getElem?_cons_zero, List.getElem?_cons_succ] at r0 r1
  exact bodyPost_ret (v := ptV x z) (by simp [results, Tryz.results12, go_sem, r0, r1]) rfl ⟨rfl, hb2⟩
/-- a point moved, as the program moves it -/
def upW (d : Int) (p : Pt) : Pt := ⟨p.x, IntKind.i64.wrap (p.y + d)⟩
theorem Tryz.infoPoint : (Tryz.prog.info? 26).map (fun i => (i.zero, i.size, i.bytes)) = some (some (.agg #[.int .i64 0, .int .i64 0]), 2, 16) := by kernel_rfl
theorem two_at2 {w : World} {x y : Value} {t : TypeId} : ∀ (j : Nat) (v : Value), [x, y][j]? = some v → (w.alloc (.cells #[x, y] t)).cell? ((⟨w.heap.size, 0, none⟩ : Addr).add j) = some v := by
  intro j v hj
  match j, hj with
  | 0, hj => simp at hj; subst hj; simp [Addr.add]
  | 1, hj => simp at hj; subst hj; simp [Addr.add]
theorem two_one2 {x y : Int} : ∀ v ∈ [Value.int .i64 x, .int .i64 y], v.oneCell' = true := by
  intro v hv
  simp only [List.mem_cons, List.not_mem_nil, or_false] at hv
  rcases hv with rfl | rfl <;> rfl
end Go.Proofs.YtmaogalgganhgaaGreatDoor
