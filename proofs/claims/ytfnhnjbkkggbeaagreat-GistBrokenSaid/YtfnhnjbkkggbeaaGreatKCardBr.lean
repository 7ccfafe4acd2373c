/-The statement GistBroken: for every input that can be read the law returns true, and its arguments read behind the call as they read before.-/
import Derived.Test.YtfnhnjbkkggbeaaGreatKLawBr
import Derived.Test.YtfnhnjbkkggbeaaGreatKStpO
import Derived.ProofKit
import Derived.SizedLaws
set_option linter.unusedVariables false
set_option linter.unusedSimpArgs false
set_option maxRecDepth 100000
namespace Go.Proofs.YtfnhnjbkkggbeaaGreat
open Go.ChangeShapes Go.WideShapes Go.ChangeAt Go.RowKit Pg
theorem Tryz.ownSBr:ownKnob Tryz.prog.godebug=none:=by kernel_rfl
theorem Tryz.laidOutSBr:laidOutB Tryz.prog=true:=by kernel_rfl
theorem qhd (H:Type) (enc:TypeId×Value->H) (W:World) (args:Array Value) (ds gs:List (DataW H)) (before:List MemPlace)
 (hval:∀(j:Nat) t v,Tryz.f4.params[j]? =some t->args[j]? =some v->∃base,Value.okWide Tryz.prog W .any base t v)
 (hW:DataW.Whole enc Tryz.prog Tryz.f4.params.toList Rows.gistBrokenSpec.vars false W args.toList ds gs before):
 C9 4 args W fun e W' =>∃v,e=.returned v/\Rows.gistBrokenSpec.post enc Tryz.prog Tryz.f4 false true false false W args v W' :=by
 have hW' :=hW;obtain⟨p,q,hA0,hV,rfl,hfz,hnd⟩:=hW;have hA:DataW.TrodAll enc Tryz.prog W 0 (fun _=>true) true Tryz.f4.params.toList args.toList ds p:=hA0
 have hV:DataW.TrodVars enc Tryz.prog W (fun _=>true) [] gs q:=hV
 obtain⟨rfl,rfl⟩:=trodVars_none hV;rw [Tryz.params4] at hA hval;obtain⟨v0,vs0,d0,ds0,p0,q0,hargs0,rfl,rfl,h0,r0⟩:=trodAll_cons hA;obtain⟨v1,vs1,d1,ds1,p1,q1,hargs1,rfl,rfl,h1,r1⟩:=trodAll_cons r0;obtain⟨v2,vs2,d2,ds2,p2,q2,hargs2,rfl,rfl,h2,r2⟩:=trodAll_cons r1;obtain⟨v3,vs3,d3,ds3,p3,q3,hargs3,rfl,rfl,h3,r3⟩:=trodAll_cons r2;obtain⟨rfl,rfl,rfl⟩:=trodAll_nil r3;subst hargs3;subst hargs2;subst hargs1;obtain⟨args⟩:=args
 simp only at hargs0
 subst hargs0;obtain⟨b0,hv0⟩:=hval 0 _ v0 rfl rfl;obtain⟨kd,bi,one,brk,rfl⟩:=qtp hv0 h0;obtain⟨b1,hv1⟩:=hval 1 _ v1 rfl rfl;obtain⟨A1,n1,c1,l1,rfl,hl1,hn1,hid1⟩:=qtn hv1 h1;obtain⟨b2,hv2⟩:=hval 2 _ v2 rfl rfl;obtain⟨A2,n2,c2,l2,rfl,hl2,hn2⟩:=qwc hv2 h2;obtain⟨b3,hv3⟩:=hval 3 _ v3 rfl rfl;obtain⟨A3,n3,c3,l3,rfl,hl3⟩:=qwd hv3 h3;refine(gistBroken_walk n1 c1 n2 c2 n3 c3 A1 A2 A3 kd bi brk one l1 l2 l3 W hl1 hl2 hl3 hn1 hn2 hid1).mono fun e W' ⟨he,hb⟩=> ?_
 subst he;exact⟨_,rfl,qzq Tryz.laidOutSBr kr kr Tryz.underlying4 rfl (by rfl) hW' hb⟩
theorem qir (os:Os) (started:os.Started) (H:Type) (enc:TypeId×Value->H):
 ReturnsInHanded {} Tryz.checked os 4 .any (Rows.gistBrokenSpec.pre6 enc Tryz.prog Tryz.f4 Rows.gistBrokenRow.domain false) (Rows.gistBrokenSpec.post enc Tryz.prog Tryz.f4 false true false false):=by
 refine returnsInHanded_of_change (C:=Tryz.checked) Tryz.ownSBr started kr Tryz.func4
  (ChangeSpec.witness6 (enc:=enc) (C:=Tryz.checked) false ⟨#[], #[.agg #[.int .i64 0,.int .i64 0,.bool false,.int .i64 0],.slice none 0 0,.slice none 0 0,.slice none 0 0], []⟩ 8 kr kr kr kr) ?_
 intro W base args ds gs before hval hW _ _;exact qhd H enc W args ds gs before (fun j t v h1 h2=>⟨_,hval j t v h1 h2⟩) hW
theorem gistBroken_holds:Rows.GistBrokenSaid:=
 OpenClaim.holds_of_wide 4 Tryz.f4 rfl rfl rfl rfl rfl rfl rfl ⟨rfl,rfl,rfl,rfl,rfl⟩ rfl rfl rfl rfl rfl kr Tryz.func4 kr
  (of_decide_eq_true kr) (by unfold Func.isWrapper;rw [if_neg (of_decide_eq_false kr)];exact⟨rfl,rfl⟩)
  (fun os started H enc _=>qir os started H enc)
#print axioms gistBroken_holds
end Go.Proofs.YtfnhnjbkkggbeaaGreat
