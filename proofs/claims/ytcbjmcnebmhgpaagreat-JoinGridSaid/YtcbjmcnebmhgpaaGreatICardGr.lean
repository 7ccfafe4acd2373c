/-
  The statement JoinGrid: for every input that can be read the law returns true, and its arguments read behind the call as they read before.
-/
import Derived.Test.YtcbjmcnebmhgpaaGreatILawGr
import Derived.Test.YtcbjmcnebmhgpaaGreatIItmO
import Derived.Test.YtcbjmcnebmhgpaaGreatIEncK
import Derived.Test.YtcbjmcnebmhgpaaGreatILawsC
import Derived.Test.YtcbjmcnebmhgpaaGreatIMadJ
import Derived.ProofKit
import Derived.SizedLaws
set_option linter.unusedVariables false
set_option linter.unusedSimpArgs false
set_option maxRecDepth 100000
namespace Go.Proofs.YtcbjmcnebmhgpaaGreat
open Go.ChangeShapes Go.WideShapes Go.ChangeAt Go.RowKit Pg
theorem Tryz.ownS : ownKnob Tryz.prog.godebug = none := by kernel_rfl
theorem Tryz.laidOutS : laidOutB Tryz.prog = true := by kernel_rfl
theorem joinGrid_contract (H : Type) (enc : TypeId × Value → H) (W : World) (args : Array Value) (ds gs : List (DataW H)) (before : List MemPlace)
 (hval : ∀ (j : Nat) t v,Tryz.f5.params[j]? = some t → args[j]? = some v → ∃ base,Value.okWide Tryz.prog W .any base t v)
 (hW : DataW.Whole enc Tryz.prog Tryz.f5.params.toList Rows.joinGridSpec.vars false W args.toList ds gs before) :
 Calls Tryz.prog 5 args W fun e W' => ∃ v,e = .returned v ∧ Rows.joinGridSpec.post enc Tryz.prog Tryz.f5 false true false false W args v W' := by
 have hW' := hW;obtain ⟨p,q,hA0,hV,rfl,hfz,hnd⟩ := hW;have hA : DataW.TrodAll enc Tryz.prog W 0 (fun _ => true) true Tryz.f5.params.toList args.toList ds p := hA0
 have hV : DataW.TrodVars enc Tryz.prog W (fun _ => true) [] gs q := hV
 obtain ⟨rfl,rfl⟩ := trodVars_none hV;rw [Tryz.params5] at hA hval;obtain ⟨v0,vs0,d0,ds0,p0,q0,hargs0,rfl,rfl,h0,r0⟩ := trodAll_cons hA;obtain ⟨v1,vs1,d1,ds1,p1,q1,hargs1,rfl,rfl,h1,r1⟩ := trodAll_cons r0;obtain ⟨v2,vs2,d2,ds2,p2,q2,hargs2,rfl,rfl,h2,r2⟩ := trodAll_cons r1;obtain ⟨rfl,rfl,rfl⟩ := trodAll_nil r2;subst hargs2;subst hargs1;obtain ⟨args⟩ := args
 simp only at hargs0
 subst hargs0;obtain ⟨b0,hv0⟩ := hval 0 _ v0 rfl rfl;obtain ⟨x0,rfl,rfl,rfl,hw0⟩ := open_int Tryz.underlying3 hv0 h0;obtain ⟨b1,hv1⟩ := hval 1 _ v1 rfl rfl;obtain ⟨x1,rfl,rfl,rfl,hw1⟩ := open_int Tryz.underlying3 hv1 h1;obtain ⟨b2,hv2⟩ := hval 2 _ v2 rfl rfl;obtain ⟨x2,rfl,rfl,rfl⟩ := open_bool Tryz.underlying4 hv2 h2;refine (joinGrid_walk x0 x1 x2 W).mono fun e W' ⟨he,hb⟩ => ?_
 subst he;exact ⟨_,rfl,law_post Tryz.laidOutS (by kernel_rfl) (by kernel_rfl) Tryz.underlying4 rfl (by rfl) hW' hb⟩
theorem joinGrid_lifted (os : Os) (started : os.Started) (H : Type) (enc : TypeId × Value → H) :
 ReturnsInHanded {} Tryz.checked os 5 .any (Rows.joinGridSpec.pre6 enc Tryz.prog Tryz.f5 Rows.joinGridRow.domain false) (Rows.joinGridSpec.post enc Tryz.prog Tryz.f5 false true false false) := by
 refine returnsInHanded_of_change (C := Tryz.checked) Tryz.ownS started (by kernel_rfl) Tryz.func5
  (ChangeSpec.witness6 (enc := enc) (C := Tryz.checked) false ⟨#[], #[.int .i64 0, .int .i64 0, .bool false], []⟩ 8 (by kernel_rfl) (by kernel_rfl) (by kernel_rfl) (by kernel_rfl)) ?_
 intro W base args ds gs before hval hW _ _;exact joinGrid_contract H enc W args ds gs before (fun j t v h1 h2 => ⟨_,hval j t v h1 h2⟩) hW
theorem joinGrid_holds : Rows.JoinGridSaid :=
 OpenClaim.holds_of_wide 5 Tryz.f5 rfl rfl rfl rfl rfl rfl rfl ⟨rfl,rfl,rfl,rfl,rfl⟩ rfl rfl rfl rfl rfl (by kernel_rfl) Tryz.func5 (by kernel_rfl)
  (of_decide_eq_true (by kernel_rfl)) (by unfold Func.isWrapper;rw [if_neg (of_decide_eq_false (by kernel_rfl))];exact ⟨rfl,rfl⟩)
  (fun os started H enc _ => joinGrid_lifted os started H enc)
#print axioms joinGrid_holds
end Go.Proofs.YtcbjmcnebmhgpaaGreat
