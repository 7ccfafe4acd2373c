/-
  The statement JoinChain: for every input that can be read the law returns true, and its arguments read behind the call as they read before.
-/
import Derived.Test.YtcbjmcnebmhgpaaGreatKLawCh
import Derived.Test.YtcbjmcnebmhgpaaGreatKItmO
import Derived.Test.YtcbjmcnebmhgpaaGreatKEncK
import Derived.Test.YtcbjmcnebmhgpaaGreatKLawsC
import Derived.Test.YtcbjmcnebmhgpaaGreatKMadJ
import Derived.ProofKit
import Derived.SizedLaws
set_option linter.unusedVariables false
set_option linter.unusedSimpArgs false
set_option maxRecDepth 100000
namespace Go.Proofs.YtcbjmcnebmhgpaaGreat
open Go.ChangeShapes Go.WideShapes Go.ChangeAt Go.RowKit Pg
theorem Tryz.ownS : ownKnob Tryz.prog.godebug = none := by kernel_rfl
theorem Tryz.laidOutS : laidOutB Tryz.prog = true := by kernel_rfl
theorem joinChain_contract (H : Type) (enc : TypeId × Value → H) (W : World) (args : Array Value) (ds gs : List (DataW H)) (before : List MemPlace)
 (hval : ∀ (j : Nat) t v,Tryz.f6.params[j]? = some t → args[j]? = some v → ∃ base,Value.okWide Tryz.prog W .any base t v)
 (hW : DataW.Whole enc Tryz.prog Tryz.f6.params.toList Rows.joinChainSpec.vars false W args.toList ds gs before) :
 Calls Tryz.prog 6 args W fun e W' => ∃ v,e = .returned v ∧ Rows.joinChainSpec.post enc Tryz.prog Tryz.f6 false true false false W args v W' := by
 have hW' := hW;obtain ⟨p,q,hA0,hV,rfl,hfz,hnd⟩ := hW;have hA : DataW.TrodAll enc Tryz.prog W 0 (fun _ => true) true Tryz.f6.params.toList args.toList ds p := hA0
 have hV : DataW.TrodVars enc Tryz.prog W (fun _ => true) [] gs q := hV
 obtain ⟨rfl,rfl⟩ := trodVars_none hV;rw [Tryz.params6] at hA hval;obtain ⟨v0,vs0,d0,ds0,p0,q0,hargs0,rfl,rfl,h0,r0⟩ := trodAll_cons hA;obtain ⟨v1,vs1,d1,ds1,p1,q1,hargs1,rfl,rfl,h1,r1⟩ := trodAll_cons r0;obtain ⟨rfl,rfl,rfl⟩ := trodAll_nil r1;subst hargs1;obtain ⟨args⟩ := args
 simp only at hargs0
 subst hargs0;obtain ⟨b0,hv0⟩ := hval 0 _ v0 rfl rfl;obtain ⟨x0,rfl,rfl,rfl,hw0⟩ := open_int Tryz.underlying3 hv0 h0;obtain ⟨b1,hv1⟩ := hval 1 _ v1 rfl rfl;obtain ⟨x1,rfl,rfl,rfl,hw1⟩ := open_int Tryz.underlying3 hv1 h1;refine (joinChain_walk x0 x1 W).mono fun e W' ⟨he,hb⟩ => ?_
 subst he;exact ⟨_,rfl,law_post Tryz.laidOutS (by kernel_rfl) (by kernel_rfl) Tryz.underlying4 rfl (by rfl) hW' hb⟩
theorem joinChain_lifted (os : Os) (started : os.Started) (H : Type) (enc : TypeId × Value → H) :
 ReturnsInHanded {} Tryz.checked os 6 .any (Rows.joinChainSpec.pre6 enc Tryz.prog Tryz.f6 Rows.joinChainRow.domain false) (Rows.joinChainSpec.post enc Tryz.prog Tryz.f6 false true false false) := by
 refine returnsInHanded_of_change (C := Tryz.checked) Tryz.ownS started (by kernel_rfl) Tryz.func6
  (ChangeSpec.witness6 (enc := enc) (C := Tryz.checked) false ⟨#[], #[.int .i64 0, .int .i64 0], []⟩ 8 (by kernel_rfl) (by kernel_rfl) (by kernel_rfl) (by kernel_rfl)) ?_
 intro W base args ds gs before hval hW _ _;exact joinChain_contract H enc W args ds gs before (fun j t v h1 h2 => ⟨_,hval j t v h1 h2⟩) hW
theorem joinChain_holds : Rows.JoinChainSaid :=
 OpenClaim.holds_of_wide 6 Tryz.f6 rfl rfl rfl rfl rfl rfl rfl ⟨rfl,rfl,rfl,rfl,rfl⟩ rfl rfl rfl rfl rfl (by kernel_rfl) Tryz.func6 (by kernel_rfl)
  (of_decide_eq_true (by kernel_rfl)) (by unfold Func.isWrapper;rw [if_neg (of_decide_eq_false (by kernel_rfl))];exact ⟨rfl,rfl⟩)
  (fun os started H enc _ => joinChain_lifted os started H enc)
#print axioms joinChain_holds
end Go.Proofs.YtcbjmcnebmhgpaaGreat
