/-
  Contracts of the references of chapters 5 and 6: RingBox, Bounds.
  Contracts of the references of chapter 6: Touch, Rings.
-/
import Derived.Test.YtahiaekoaokgnaaGreatRef8A
import Derived.Test.YtahiaekoaokgnaaGreatRefRB
import Derived.Test.YtahiaekoaokgnaaGreatRing
import Derived.Test.YtahiaekoaokgnaaGreatRel1
import Derived.Test.YtahiaekoaokgnaaGreatLex
import Derived.StillTailTactics
import Derived.Outline
import Derived.Test.YtahiaekoaokgnaaGreatRel8
import Derived.Test.YtahiaekoaokgnaaGreatPlane
import Derived.Test.YtahiaekoaokgnaaGreatRef6
import Derived.Test.YtahiaekoaokgnaaGreatPlain1
set_option linter.unusedSimpArgs false
set_option linter.unusedVariables false
namespace Go.Proofs.YtahiaekoaokgnaaGreat
open Go.RowKit Pg

theorem isBox_of {k : Int} {l : List Pt} (ho : ckOb ⟨k, l⟩ = 0) (hk : ¬ k = 4) : isBox ⟨k, l⟩ = true := by
  rcases bounds_k ho with h | h | h | h
  · subst h; rfl
  · subst h; rfl
  · subst h; rfl
  · exact absurd h hk
theorem bounds_of {k : Int} {l : List Pt} (ho : ckOb ⟨k, l⟩ = 0) (hk : ¬ k = 4) : boundsS ⟨k, l⟩ = obBox ⟨k, l⟩ := by
  unfold boundsS
  rw [isBox_of ho hk]
  rfl
theorem ring_of4 {l : List Pt} (ho : ckOb ⟨4, l⟩ = 0) : ckRing l = 0 := (ck_lens ho).2.2.2 rfl
end Go.Proofs.YtahiaekoaokgnaaGreat
