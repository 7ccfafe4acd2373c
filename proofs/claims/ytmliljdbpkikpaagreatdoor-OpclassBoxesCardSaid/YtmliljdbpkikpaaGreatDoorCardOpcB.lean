/-
  The statement OpclassBoxes: for every input that can be read the law returns true, and its arguments read behind the call as they read before; errors.errorType is laid by the program's text (the card ties it).
-/
import Derived.Test.YtmliljdbpkikpaaGreatDoorLawOpcB
import Derived.Test.YtmliljdbpkikpaaGreatDoorOpenB
import Derived.Test.YtmliljdbpkikpaaGreatDoorLaid
import Derived.Test.YtmliljdbpkikpaaGreatDoorCards
import Derived.Test.YtmliljdbpkikpaaGreatDoorTie
import Derived.SevenTiedAt
set_option linter.unusedSimpArgs false
set_option linter.unusedVariables false
namespace Go.Proofs.YtmliljdbpkikpaaGreatDoor
open Go.ChangeShapes Go.WideShapes Go.RowKit Pg

set_option maxRecDepth 100000 in
theorem opclassBoxes_contract (H : Type) (enc : TypeId × Value → H) (W : World) (args : Array Value) (ds gs : List (DataW H)) (before : List MemPlace)
    (hval : ∀ (j : Nat) t v, Tryz.f4.params[j]? = some t → args[j]? = some v → ∃ base, Value.okWide Tryz.prog W .any base t v)
    (hW : DataW.Whole enc Tryz.prog Tryz.f4.params.toList Rows.opclassBoxesSpec.vars false W args.toList ds gs before) (hL : laidMetH Tryz.prog Rows.opclassBoxesRow.laid W) :
    Calls Tryz.prog 4 args W fun e W' => ∃ v, e = .returned v ∧ Rows.opclassBoxesSpec.post enc Tryz.prog Tryz.f4 false true false false W args v W' := by
  have hW' := hW
  obtain ⟨p, q, hA0, hV, rfl, hfz, hnd⟩ := hW
  have hA : DataW.TrodAll enc Tryz.prog W 0 (fun _ => true) true Tryz.f4.params.toList args.toList ds p := hA0
  have hV : DataW.TrodVars enc Tryz.prog W (fun _ => true) [] gs q := hV
  obtain ⟨rfl, rfl⟩ := trodVars_none hV
  rw [Tryz.params4] at hA hval
  obtain ⟨v0, vs0, d0, ds0, p0, q0, hargs0, rfl, rfl, h0, r0⟩ := trodAll_cons hA
  obtain ⟨v1, vs1, d1, ds1, p1, q1, hargs1, rfl, rfl, h1, r1⟩ := trodAll_cons r0
  obtain ⟨v2, vs2, d2, ds2, p2, q2, hargs2, rfl, rfl, h2, r2⟩ := trodAll_cons r1
  obtain ⟨v3, vs3, d3, ds3, p3, q3, hargs3, rfl, rfl, h3, r3⟩ := trodAll_cons r2
  obtain ⟨v4, vs4, d4, ds4, p4, q4, hargs4, rfl, rfl, h4, r4⟩ := trodAll_cons r3
  obtain ⟨rfl, rfl, rfl⟩ := trodAll_nil r4
  subst hargs4
  subst hargs3
  subst hargs2
  subst hargs1
  obtain ⟨args⟩ := args
  simp only at hargs0
  subst hargs0
  obtain ⟨b0, hv0⟩ := hval 0 _ v0 rfl rfl
  obtain ⟨x0, rfl, rfl, rfl, hw0⟩ := open_int Tryz.underlying3 hv0 h0
  obtain ⟨b1, hv1⟩ := hval 1 _ v1 rfl rfl
  obtain ⟨k1, A1, n1, c1, l1, rfl, hl1⟩ := open_obj hv1 h1
  obtain ⟨b2, hv2⟩ := hval 2 _ v2 rfl rfl
  obtain ⟨A2, n2, c2, l2, rfl, hl2, hc2, hm2⟩ := open_rbsV hv2 h2
  obtain ⟨b3, hv3⟩ := hval 3 _ v3 rfl rfl
  obtain ⟨k3, x3, A3, n3, c3, l3, rfl, hl3⟩ := open_query hv3 h3
  obtain ⟨b4, hv4⟩ := hval 4 _ v4 rfl rfl
  obtain ⟨x4, rfl⟩ := open_pointV hv4 h4
  have hT := errT_of_laid hL
  refine (opclassBoxes_walk W.heap.size n1 c1 n2 c2 n3 c3 x0 k1 k3 x3 x4.x x4.y A1 A2 A3 l1 l2 l3 W hl1 hl2 hc2 hl3 (Nat.le_refl _) hT).mono fun e W' ⟨he, hb⟩ => ?_
  subst he
  exact ⟨_, rfl, law_post laidOutK (by kernel_rfl) (by kernel_rfl) Tryz.underlying4 rfl (by rfl) hW' hb⟩

set_option maxRecDepth 100000 in
theorem opclassBoxes_lifted (os : Os) (started : os.Started) (H : Type) (enc : TypeId × Value → H) :
    ReturnsInHanded {} Tryz.checked os 4 .any (fun w args => (Rows.opclassBoxesSpec.pre enc Tryz.prog Tryz.f4 [] false w args ∧ laidMetH Tryz.prog Rows.opclassBoxesRow.laid w) ∧ sizedMet enc Tryz.prog Tryz.f4 (OpenSpec.ofChange Rows.opclassBoxesSpec) false w args)
      (Rows.opclassBoxesSpec.post enc Tryz.prog Tryz.f4 false true false false) := by
  refine returnsInHanded_of_change_and (C := Tryz.checked) (X := fun w _ => laidMetH Tryz.prog Rows.opclassBoxesRow.laid w) (fun _ _ _ hh h => h.of_heap hh) ownK started (by kernel_rfl) Tryz.func4
    (ChangeSpec.witness_at (enc := enc) (C := Tryz.checked) (os := os) (X := fun w _ => laidMetH Tryz.prog Rows.opclassBoxesRow.laid w) false (laidWorld os) #[.int .i64 0, .agg #[.int .i64 0, .slice none 0 0], .slice none 0 0, .agg #[.int .i64 0, .int .i64 0, .int .i64 0, .int .i64 0, .int .i64 0, .slice none 0 0], .agg #[.int .i64 0, .int .i64 0]] 8 rfl (by kernel_rfl) (by kernel_rfl) (by kernel_rfl) (by kernel_rfl) (by kernel_rfl) (laidWorld_met os _)) ?_
  intro W base args ds gs before hval hW _ _ hL _
  exact opclassBoxes_contract H enc W args ds gs before (fun j t v h1 h2 => ⟨_, hval j t v h1 h2⟩) hW hL

theorem opclassBoxes_said : Rows.OpclassBoxesSaid :=
  OpenClaim.holds_of_wide 4 Tryz.f4 rfl rfl rfl rfl rfl rfl rfl ⟨rfl, rfl, rfl, rfl, rfl⟩ rfl rfl rfl rfl rfl (by kernel_rfl) Tryz.func4 (by kernel_rfl)
    (of_decide_eq_true (by kernel_rfl)) (by unfold Func.isWrapper; rw [if_neg (of_decide_eq_false (by kernel_rfl))]; exact ⟨rfl, rfl⟩)
    (fun os started H enc _ => opclassBoxes_lifted os started H enc)

theorem opclassBoxes_plain (f : FuncId) (fn : Func) (hf : Tryz.pinned.checked.prog.funcNamed "pergola/pergolalaw16.OpclassBoxes" = some f) (hfn : Tryz.pinned.checked.prog.funcs[f]? = some fn) :
    true = Tryz.pinned.checked.prog.looks [] ∧ ∀ (j : Nat) t, fn.params[j]? = some t → Tryz.pinned.checked.prog.wantsStandIn t = false := by
  obtain rfl : f = 4 := Option.some.inj ((show Tryz.prog.funcNamed "pergola/pergolalaw16.OpclassBoxes" = some 4 by kernel_rfl).symm.trans hf) |>.symm
  obtain rfl : fn = Tryz.f4 := (Option.some.inj (Tryz.func4.symm.trans hfn)).symm
  refine ⟨by kernel_rfl, fun j t ht => ?_⟩
  rw [Tryz.params4] at ht
  have hm := Array.mem_of_getElem? ht
  simp at hm
  rcases hm with rfl | rfl | rfl | rfl | rfl
  · exact (show Tryz.prog.wantsStandIn 3 = false by kernel_rfl)
  · exact (show Tryz.prog.wantsStandIn 39 = false by kernel_rfl)
  · exact (show Tryz.prog.wantsStandIn 40 = false by kernel_rfl)
  · exact (show Tryz.prog.wantsStandIn 44 = false by kernel_rfl)
  · exact (show Tryz.prog.wantsStandIn 35 = false by kernel_rfl)

/-- THE CARD -/
theorem opclassBoxes_card : Rows.OpclassBoxesCardSaid :=
  Claim7.holds_tied_plain_at .later [] _ _ _ _ opclassBoxes_said (fun _ h => by cases h) (by kernel_rfl) (fun _ h => by cases h) opclassBoxes_row_tie rfl ⟨rfl, rfl⟩ (by kernel_rfl) rfl opclassBoxes_plain (by kernel_rfl)
#print axioms opclassBoxes_card
end Go.Proofs.YtmliljdbpkikpaaGreatDoor
