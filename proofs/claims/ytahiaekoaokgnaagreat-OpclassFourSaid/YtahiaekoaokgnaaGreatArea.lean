/-
  Contracts: wide.Sub; a box's area, in the program and in the reference; how much it grows.
-/
import Derived.Test.YtahiaekoaokgnaaGreatWide
import Derived.Test.YtahiaekoaokgnaaGreatUnion
import Derived.Test.YtahiaekoaokgnaaGreatRef6
import Derived.Test.YtahiaekoaokgnaaGreatUAll
import Derived.Test.YtahiaekoaokgnaaGreatRel1
import Derived.Test.YtahiaekoaokgnaaGreatLex
import Derived.Shelf.Spec.BitsCarry
set_option linter.unusedSimpArgs false
set_option linter.unusedVariables false
namespace Go.Proofs.YtahiaekoaokgnaaGreat
open Go.RowKit Pg

def areaN (b : Bx) : Nat := if okBx b then (b.hi.x - b.lo.x).toNat * (b.hi.y - b.lo.y).toNat else 0
theorem okBx_sides {b : Bx} (h : okBx b = true) : 0 ≤ b.hi.x - b.lo.x ∧ b.hi.x - b.lo.x ≤ 2147483646 ∧ 0 ≤ b.hi.y - b.lo.y ∧ b.hi.y - b.lo.y ≤ 2147483646 := by
  obtain ⟨⟨h1, h2⟩, h3, h4⟩ := (Pg.okBx_iff _).1 h
  rw [Pg.okPt_iff] at h1 h2
  omega
theorem areaN_lt (b : Bx) : areaN b ≤ 4611686009837453316 := by
  unfold areaN
  split
  · rename_i h
    obtain ⟨h1, h2, h3, h4⟩ := okBx_sides h
    exact Nat.le_trans (Nat.mul_le_mul (show (b.hi.x - b.lo.x).toNat ≤ 2147483646 by omega) (show (b.hi.y - b.lo.y).toNat ≤ 2147483646 by omega)) (by decide)
  · omega

def growN (a b : Bx) : Nat := areaN (union [a, b]).1 - areaN a
theorem area_le {a u : Bx} (hu : okBx u = true) (ha : okBx a = true) (h : inB u a) : areaN a ≤ areaN u := by
  unfold areaN
  rw [if_pos ha, if_pos hu]
  unfold inB at h
  obtain ⟨a1, a2, a3, a4⟩ := okBx_sides ha
  exact Nat.mul_le_mul (by omega) (by omega)
theorem punion2 (a b : Bx) (g : Nat) (w : World) (ha : ckBox a = 0) (hb : ckBox b = 0) (hg : Blk w g 54 #[.int .i64 a.lo.x, .int .i64 a.lo.y, .int .i64 a.hi.x, .int .i64 a.hi.y, .int .i64 b.lo.x, .int .i64 b.lo.y, .int .i64 b.hi.x, .int .i64 b.hi.y]) :
    Calls Tryz.prog 142 #[.slice (some ⟨g, 0, none⟩) 2 2] w (Ret w (.tuple #[bxW (union [a, b]).1, .nilIface])) := by
  have h := union_any w.heap.size 2 2 _ [a, b] w (bxsAt_block [a, b] hg (lt_of_block hg) rfl (by intro k hk; match k, hk with | 0, _ => exact ⟨rfl, rfl, rfl, rfl⟩ | 1, _ => exact ⟨rfl, rfl, rfl, rfl⟩)) (Nat.le_refl _) (by decide)
  rw [(union2 ha hb).1] at h
  exact h

theorem runionG (a b : Bx) (g : Nat) (w : World) (ha : ckBox a = 0) (hb : ckBox b = 0) (hg : Blk w g 54 #[.int .i64 a.lo.x, .int .i64 a.lo.y, .int .i64 a.hi.x, .int .i64 a.hi.y, .int .i64 b.lo.x, .int .i64 b.lo.y, .int .i64 b.hi.x, .int .i64 b.hi.y]) :
    Calls Tryz.prog 66 #[.slice (some ⟨g, 0, none⟩) 2 2] w (Ret w (.tuple #[bxW (union [a, b]).1, .int .i64 0])) := by
  have h := runion_any w.heap.size 2 2 _ [a, b] w (bxsAt_block [a, b] hg (lt_of_block hg) rfl (by intro k hk; match k, hk with | 0, _ => exact ⟨rfl, rfl, rfl, rfl⟩ | 1, _ => exact ⟨rfl, rfl, rfl, rfl⟩)) (Nat.le_refl _) (by decide)
  rw [(union2 ha hb).1] at h
  exact h

end Go.Proofs.YtahiaekoaokgnaaGreat
