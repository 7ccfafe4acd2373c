/-
  gist: no tree.
-/
import Derived.Test.YtkfbkfcmdfpfjaaGreatDoorSGisB
import Derived.Test.YtkfbkfcmdfpfjaaGreatDoorSErrX
set_option linter.unusedSimpArgs false
set_option linter.unusedVariables false
namespace Go.Proofs.YtkfbkfcmdfpfjaaGreatDoor
open Go Go.RowKit Pg
theorem lenNil_any (w : World) : Calls Tryz.prog 19 #[.pointer none] w (Ret w (.int .i64 0)) := by
  have HG := Lib.hid gone_nil
  go_enter Tryz.func19, Tryz.ntmps19
  go_wp2_with (go_at_call 32; (refine (HG.out _).mono ?_); rintro e w1 ⟨rfl, hb1⟩; obtain ⟨hc1, hf1⟩ := bcell hb1; have hz1 := hb1.size; (try simp at hz1))
  go_ret
  exact ⟨rfl, bel⟩
set_option maxRecDepth 20000 in
theorem nearestNil_any (x y k : Int) (w : World) : Calls Tryz.prog 23 #[.pointer none, ptV x y, .int .i64 k] w (Ret w (.slice none 0 0)) := by
  have HG := Lib.hid gone_nil
  go_enter Tryz.func23, Tryz.ntmps23
  go_wp2_with (go_at_call 32; (refine (HG.out _).mono ?_); rintro e w1 ⟨rfl, hb1⟩; obtain ⟨hc1, hf1⟩ := bcell hb1; have hz1 := hb1.size; (try simp at hz1))
  go_ret
  exact ⟨rfl, bel⟩
end Go.Proofs.YtkfbkfcmdfpfjaaGreatDoor
