/-
  What the statements of chapter 6 share: awake, small.
-/
import Derived.Test.YtmaogalgganhgaaDoorAlike
import Derived.Test.YtmaogalgganhgaaDoorRel5
import Derived.Test.YtmaogalgganhgaaDoorPlain7
set_option linter.unusedSimpArgs false
set_option linter.unusedVariables false
namespace Go.Proofs.YtmaogalgganhgaaDoor
open Go.RowKit Pg

theorem ptsNil {w : World} {B : Nat} : PtsAt w B none 0 [] := ⟨rfl, fun h => absurd h (by omega)⟩
theorem pts3 {w : World} {g : Nat} {p q r : Pt} {t : TypeId} (h : Blk w g t #[.int .i64 p.x, .int .i64 p.y, .int .i64 q.x, .int .i64 q.y, .int .i64 r.x, .int .i64 r.y]) : PtsAt w w.heap.size (some ⟨g, 0, none⟩) 3 [p, q, r] :=
  ⟨rfl, fun _ => ⟨g, 0, rfl, h.lt, fun k s hs => by
    match k, hs with
    | 0, hs =>
      simp at hs
      subst hs
      exact ⟨by rw [h.cell]; rfl, by rw [h.cell]; rfl⟩
    | 1, hs =>
      simp at hs
      subst hs
      exact ⟨by rw [h.cell]; rfl, by rw [h.cell]; rfl⟩
    | 2, hs =>
      simp at hs
      subst hs
      exact ⟨by rw [h.cell]; rfl, by rw [h.cell]; rfl⟩⟩⟩
def tri : List Pt := [⟨0, 0⟩, ⟨4, 0⟩, ⟨0, 4⟩]
theorem ErrW.zero {w : World} {v : Value} {s : ByteArray} {id : Int} (h : ErrW w v 0 s id) : v = .nilIface := by
  rcases h with ⟨_, h⟩ | ⟨h, _⟩
  · exact h
  · exact absurd rfl h
theorem tri_ck : ckOb ⟨4, tri⟩ = 0 := by decide +kernel
theorem tri_match : matchS ⟨4, tri⟩ ⟨3, ⟨⟨1, 1⟩, ⟨0, 0⟩⟩, []⟩ = true := by decide +kernel
theorem nine_ck : ckOb ⟨9, []⟩ = 5 := by decide +kernel

end Go.Proofs.YtmaogalgganhgaaDoor
