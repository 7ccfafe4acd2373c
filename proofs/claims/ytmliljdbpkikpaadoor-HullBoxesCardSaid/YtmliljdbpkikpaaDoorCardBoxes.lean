/-
  The statement HullBoxes: for every input that can be read the law returns true, and its arguments read behind the call as they read before; errors.errorType is laid by the program's text (the card ties it).
-/
import Derived.Test.YtmliljdbpkikpaaDoorLawBoxes
import Derived.Test.YtmliljdbpkikpaaDoorOpenP
import Derived.Test.YtmliljdbpkikpaaDoorLaid
import Derived.Test.YtmliljdbpkikpaaDoorCards
import Derived.Test.YtmliljdbpkikpaaDoorTie
import Derived.SevenTiedAt
set_option linter.unusedSimpArgs false
set_option linter.unusedVariables false
namespace Go.Proofs.YtmliljdbpkikpaaDoor
open Go.ChangeShapes Go.WideShapes Go.RowKit Pg

set_option maxRecDepth 100000 in
theorem hullBoxes_contract (H : Type) (enc : TypeId × Value → H) (W : World) (args : Array Value) (ds gs : List (DataW H)) (before : List MemPlace)
    (hval : ∀ (j : Nat) t v, Tryd.f3.params[j]? = some t → args[j]? = some v → ∃ base, Value.okWide Tryd.prog W .any base t v)
    (hW : DataW.Whole enc Tryd.prog Tryd.f3.params.toList Rows.hullBoxesSpec.vars false W args.toList ds gs before) (hL : laidMetH Tryd.prog Rows.hullBoxesRow.laid W) :
    Calls Tryd.prog 3 args W fun e W' => ∃ v, e = .returned v ∧ Rows.hullBoxesSpec.post enc Tryd.prog Tryd.f3 false true false false W args v W' := by
  have hW' := hW
  obtain ⟨p, q, hA0, hV, rfl, hfz, hnd⟩ := hW
  have hA : DataW.TrodAll enc Tryd.prog W 0 (fun _ => true) true Tryd.f3.params.toList args.toList ds p := hA0
  have hV : DataW.TrodVars enc Tryd.prog W (fun _ => true) [] gs q := hV
  obtain ⟨rfl, rfl⟩ := trodVars_none hV
  rw [Tryd.params3] at hA hval
  obtain ⟨v0, vs0, d0, ds0, p0, q0, hargs0, rfl, rfl, h0, r0⟩ := trodAll_cons hA
  obtain ⟨v1, vs1, d1, ds1, p1, q1, hargs1, rfl, rfl, h1, r1⟩ := trodAll_cons r0
  obtain ⟨rfl, rfl, rfl⟩ := trodAll_nil r1
  subst hargs1
  obtain ⟨args⟩ := args
  simp only at hargs0
  subst hargs0
  obtain ⟨b0, hv0⟩ := hval 0 _ v0 rfl rfl
  obtain ⟨A0, n0, c0, l0, rfl, hl0, hc0⟩ := open_ptsVc hv0 h0
  obtain ⟨b1, hv1⟩ := hval 1 _ v1 rfl rfl
  obtain ⟨x1, rfl⟩ := open_pointV hv1 h1
  have hT := errT_of_laid hL
  refine (hullBoxes_walk W.heap.size n0 c0 x1 A0 l0 W hl0 (Nat.le_refl _) hc0 hT).mono fun e W' ⟨he, hb⟩ => ?_
  subst he
  exact ⟨_, rfl, law_post laidOutK (by kernel_rfl) (by kernel_rfl) Tryd.underlying4 rfl (by rfl) hW' hb⟩

set_option maxRecDepth 100000 in
theorem hullBoxes_lifted (os : Os) (started : os.Started) (H : Type) (enc : TypeId × Value → H) :
    ReturnsInHanded {} Tryd.checked os 3 .any (fun w args => (Rows.hullBoxesSpec.pre enc Tryd.prog Tryd.f3 [] false w args ∧ laidMetH Tryd.prog Rows.hullBoxesRow.laid w) ∧ sizedMet enc Tryd.prog Tryd.f3 (OpenSpec.ofChange Rows.hullBoxesSpec) false w args)
      (Rows.hullBoxesSpec.post enc Tryd.prog Tryd.f3 false true false false) := by
  refine returnsInHanded_of_change_and (C := Tryd.checked) (X := fun w _ => laidMetH Tryd.prog Rows.hullBoxesRow.laid w) (fun _ _ _ hh h => h.of_heap hh) ownK started (by kernel_rfl) Tryd.func3
    (ChangeSpec.witness_at (enc := enc) (C := Tryd.checked) (os := os) (X := fun w _ => laidMetH Tryd.prog Rows.hullBoxesRow.laid w) false (laidWorld os) #[.slice none 0 0, .agg #[.int .i64 0, .int .i64 0]] 8 rfl (by kernel_rfl) (by kernel_rfl) (by kernel_rfl) (by kernel_rfl) (by kernel_rfl) (laidWorld_met os _)) ?_
  intro W base args ds gs before hval hW _ _ hL _
  exact hullBoxes_contract H enc W args ds gs before (fun j t v h1 h2 => ⟨_, hval j t v h1 h2⟩) hW hL

theorem hullBoxes_said : Rows.HullBoxesSaid :=
  OpenClaim.holds_of_wide 3 Tryd.f3 rfl rfl rfl rfl rfl rfl rfl ⟨rfl, rfl, rfl, rfl, rfl⟩ rfl rfl rfl rfl rfl (by kernel_rfl) Tryd.func3 (by kernel_rfl)
    (of_decide_eq_true (by kernel_rfl)) (by unfold Func.isWrapper; rw [if_neg (of_decide_eq_false (by kernel_rfl))]; exact ⟨rfl, rfl⟩)
    (fun os started H enc _ => hullBoxes_lifted os started H enc)

theorem hullBoxes_plain (f : FuncId) (fn : Func) (hf : Tryd.pinned.checked.prog.funcNamed "pergola/pergolalaw21.HullBoxes" = some f) (hfn : Tryd.pinned.checked.prog.funcs[f]? = some fn) :
    true = Tryd.pinned.checked.prog.looks [] ∧ ∀ (j : Nat) t, fn.params[j]? = some t → Tryd.pinned.checked.prog.wantsStandIn t = false := by
  obtain rfl : f = 3 := Option.some.inj ((show Tryd.prog.funcNamed "pergola/pergolalaw21.HullBoxes" = some 3 by kernel_rfl).symm.trans hf) |>.symm
  obtain rfl : fn = Tryd.f3 := (Option.some.inj (Tryd.func3.symm.trans hfn)).symm
  refine ⟨by kernel_rfl, fun j t ht => ?_⟩
  rw [Tryd.params3] at ht
  have hm := Array.mem_of_getElem? ht
  simp at hm
  rcases hm with rfl | rfl
  · exact (show Tryd.prog.wantsStandIn 22 = false by kernel_rfl)
  · exact (show Tryd.prog.wantsStandIn 24 = false by kernel_rfl)

/-- THE CARD -/
theorem hullBoxes_card : Rows.HullBoxesCardSaid :=
  Claim7.holds_tied_plain_at .later [] _ _ _ _ hullBoxes_said (fun _ h => by cases h) (by kernel_rfl) (fun _ h => by cases h) hullBoxes_row_tie rfl ⟨rfl, rfl⟩ (by kernel_rfl) rfl hullBoxes_plain (by kernel_rfl)
#print axioms hullBoxes_card
end Go.Proofs.YtmliljdbpkikpaaDoor
