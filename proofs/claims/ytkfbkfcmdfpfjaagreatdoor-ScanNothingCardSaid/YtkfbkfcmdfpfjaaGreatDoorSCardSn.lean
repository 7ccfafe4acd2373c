/-
  The statement ScanNothing: for every input that can be read the law returns true, and its arguments read behind the call as they read before; errors.errorType is laid by the program's text (the card ties it).
-/
import Derived.Test.YtkfbkfcmdfpfjaaGreatDoorSLawSn
import Derived.Test.YtkfbkfcmdfpfjaaGreatDoorSLaid
import Derived.Test.YtkfbkfcmdfpfjaaGreatDoorCards
import Derived.Test.YtkfbkfcmdfpfjaaGreatDoorTie
import Derived.SevenTiedAt
set_option linter.unusedSimpArgs false
set_option linter.unusedVariables false
namespace Go.Proofs.YtkfbkfcmdfpfjaaGreatDoor
open Go.ChangeShapes Go.WideShapes Go.RowKit Pg

set_option maxRecDepth 100000 in
theorem scanNothing_contract (H : Type) (enc : TypeId × Value → H) (W : World) (args : Array Value) (ds gs : List (DataW H)) (before : List MemPlace)
    (hval : ∀ (j : Nat) t v, Tryz.f3.params[j]? = some t → args[j]? = some v → ∃ base, Value.okWide Tryz.prog W .any base t v)
    (hW : DataW.Whole enc Tryz.prog Tryz.f3.params.toList Rows.scanNothingSpec.vars false W args.toList ds gs before) (hL : laidMetH Tryz.prog Rows.scanNothingRow.laid W) :
    Calls Tryz.prog 3 args W fun e W' => ∃ v, e = .returned v ∧ Rows.scanNothingSpec.post enc Tryz.prog Tryz.f3 false true false false W args v W' := by
  have hW' := hW
  obtain ⟨p, q, hA0, hV, rfl, hfz, hnd⟩ := hW
  have hA : DataW.TrodAll enc Tryz.prog W 0 (fun _ => true) true Tryz.f3.params.toList args.toList ds p := hA0
  have hV : DataW.TrodVars enc Tryz.prog W (fun _ => true) [] gs q := hV
  obtain ⟨rfl, rfl⟩ := trodVars_none hV
  rw [Tryz.params3] at hA hval
  obtain ⟨v0, vs0, d0, ds0, p0, q0, hargs0, rfl, rfl, h0, r0⟩ := trodAll_cons hA
  obtain ⟨rfl, rfl, rfl⟩ := trodAll_nil r0
  obtain ⟨args⟩ := args
  simp only at hargs0
  subst hargs0
  obtain ⟨b0, hv0⟩ := hval 0 _ v0 rfl rfl
  obtain ⟨x0, rfl, rfl, rfl, hw0⟩ := open_int Tryz.underlying3 hv0 h0
  have hT := errT_of_laid hL
  refine (scanNothing_walk x0 W hT).mono fun e W' ⟨he, hb⟩ => ?_
  subst he
  exact ⟨_, rfl, law_post laidOutK (by kernel_rfl) (by kernel_rfl) Tryz.underlying4 rfl (by rfl) hW' hb⟩

set_option maxRecDepth 100000 in
theorem scanNothing_lifted (os : Os) (started : os.Started) (H : Type) (enc : TypeId × Value → H) :
    ReturnsInHanded {} Tryz.checked os 3 .any (fun w args => (Rows.scanNothingSpec.pre enc Tryz.prog Tryz.f3 [] false w args ∧ laidMetH Tryz.prog Rows.scanNothingRow.laid w) ∧ sizedMet enc Tryz.prog Tryz.f3 (OpenSpec.ofChange Rows.scanNothingSpec) false w args)
      (Rows.scanNothingSpec.post enc Tryz.prog Tryz.f3 false true false false) := by
  refine returnsInHanded_of_change_and (C := Tryz.checked) (X := fun w _ => laidMetH Tryz.prog Rows.scanNothingRow.laid w) (fun _ _ _ hh h => h.of_heap hh) ownK started (by kernel_rfl) Tryz.func3
    (ChangeSpec.witness_at (enc := enc) (C := Tryz.checked) (os := os) (X := fun w _ => laidMetH Tryz.prog Rows.scanNothingRow.laid w) false (laidWorld os) #[.int .i64 0] 8 rfl (by kernel_rfl) (by kernel_rfl) (by kernel_rfl) (by kernel_rfl) (by kernel_rfl) (laidWorld_met os _)) ?_
  intro W base args ds gs before hval hW _ _ hL _
  exact scanNothing_contract H enc W args ds gs before (fun j t v h1 h2 => ⟨_, hval j t v h1 h2⟩) hW hL

theorem scanNothing_said : Rows.ScanNothingSaid :=
  OpenClaim.holds_of_wide 3 Tryz.f3 rfl rfl rfl rfl rfl rfl rfl ⟨rfl, rfl, rfl, rfl, rfl⟩ rfl rfl rfl rfl rfl (by kernel_rfl) Tryz.func3 (by kernel_rfl)
    (of_decide_eq_true (by kernel_rfl)) (by unfold Func.isWrapper; rw [if_neg (of_decide_eq_false (by kernel_rfl))]; exact ⟨rfl, rfl⟩)
    (fun os started H enc _ => scanNothing_lifted os started H enc)

theorem scanNothing_plain (f : FuncId) (fn : Func) (hf : Tryz.pinned.checked.prog.funcNamed "pergola/pergolalaw18.ScanNothing" = some f) (hfn : Tryz.pinned.checked.prog.funcs[f]? = some fn) :
    true = Tryz.pinned.checked.prog.looks [] ∧ ∀ (j : Nat) t, fn.params[j]? = some t → Tryz.pinned.checked.prog.wantsStandIn t = false := by
  obtain rfl : f = 3 := Option.some.inj ((show Tryz.prog.funcNamed "pergola/pergolalaw18.ScanNothing" = some 3 by kernel_rfl).symm.trans hf) |>.symm
  obtain rfl : fn = Tryz.f3 := (Option.some.inj (Tryz.func3.symm.trans hfn)).symm
  refine ⟨by kernel_rfl, fun j t ht => ?_⟩
  rw [Tryz.params3] at ht
  have hm := Array.mem_of_getElem? ht
  simp at hm
  subst hm
  exact (show Tryz.prog.wantsStandIn 3 = false by kernel_rfl)

theorem scanNothing_card : Rows.ScanNothingCardSaid :=
  Claim7.holds_tied_plain_at .later [] _ _ _ _ scanNothing_said (fun _ h => by cases h) (by kernel_rfl) (fun _ h => by cases h) scanNothing_row_tie rfl ⟨rfl, rfl⟩ (by kernel_rfl) rfl scanNothing_plain (by kernel_rfl)
#print axioms scanNothing_card
end Go.Proofs.YtkfbkfcmdfpfjaaGreatDoor
