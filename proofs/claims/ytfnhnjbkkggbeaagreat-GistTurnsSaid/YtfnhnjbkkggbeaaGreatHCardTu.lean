/-The statement GistTurns: for every input that can be read the law returns true, and its arguments read behind the call as they read before.-/
import Derived.Test.YtfnhnjbkkggbeaaGreatHLawTu
import Derived.Test.YtfnhnjbkkggbeaaGreatHStpO
import Derived.ProofKit
import Derived.SizedLaws
set_option linter.unusedVariables false
set_option linter.unusedSimpArgs false
set_option maxRecDepth 100000
namespace Go.Proofs.YtfnhnjbkkggbeaaGreat
open Go.ChangeShapes Go.WideShapes Go.ChangeAt Go.RowKit Pg
theorem Tryz.ownSTu:ownKnob Tryz.prog.godebug=none:=by kernel_rfl
theorem Tryz.laidOutSTu:laidOutB Tryz.prog=true:=by kernel_rfl
theorem qi6 (H:Type) (enc:TypeId×Value->H) (W:World) (args:Array Value) (ds gs:List (DataW H)) (before:List MemPlace)
 (hval:∀(j:Nat) t v,Tryz.f3.params[j]? =some t->args[j]? =some v->∃base,Value.okWide Tryz.prog W .any base t v)
 (hW:DataW.Whole enc Tryz.prog Tryz.f3.params.toList Rows.gistTurnsSpec.vars false W args.toList ds gs before):
 C9 3 args W fun e W' =>∃v,e=.returned v/\Rows.gistTurnsSpec.post enc Tryz.prog Tryz.f3 false true false false W args v W' :=by
 have hW' :=hW;obtain⟨p,q,hA0,hV,rfl,hfz,hnd⟩:=hW;have hA:DataW.TrodAll enc Tryz.prog W 0 (fun _=>true) true Tryz.f3.params.toList args.toList ds p:=hA0
 have hV:DataW.TrodVars enc Tryz.prog W (fun _=>true) [] gs q:=hV
 obtain⟨rfl,rfl⟩:=trodVars_none hV;rw [Tryz.params3] at hA hval;obtain⟨v0,vs0,d0,ds0,p0,q0,hargs0,rfl,rfl,h0,r0⟩:=trodAll_cons hA;obtain⟨v1,vs1,d1,ds1,p1,q1,hargs1,rfl,rfl,h1,r1⟩:=trodAll_cons r0;obtain⟨v2,vs2,d2,ds2,p2,q2,hargs2,rfl,rfl,h2,r2⟩:=trodAll_cons r1;obtain⟨v3,vs3,d3,ds3,p3,q3,hargs3,rfl,rfl,h3,r3⟩:=trodAll_cons r2;obtain⟨v4,vs4,d4,ds4,p4,q4,hargs4,rfl,rfl,h4,r4⟩:=trodAll_cons r3;obtain⟨rfl,rfl,rfl⟩:=trodAll_nil r4;subst hargs4;subst hargs3;subst hargs2;subst hargs1;obtain⟨args⟩:=args
 simp only at hargs0
 subst hargs0;obtain⟨b0,hv0⟩:=hval 0 _ v0 rfl rfl;obtain⟨A0,n0,c0,l0,rfl,hl0,hn0,hnc0,hac0⟩:=qsf hv0 h0;obtain⟨b1,hv1⟩:=hval 1 _ v1 rfl rfl;obtain⟨x1,rfl,rfl,rfl,hw1⟩:=open_int Tryz.underlying3 hv1 h1;obtain⟨b2,hv2⟩:=hval 2 _ v2 rfl rfl;obtain⟨x2,rfl,rfl,rfl,hw2⟩:=open_int Tryz.underlying3 hv2 h2;obtain⟨b3,hv3⟩:=hval 3 _ v3 rfl rfl;obtain⟨A3,n3,c3,l3,rfl,hl3,hn3⟩:=qyz hv3 h3;obtain⟨b4,hv4⟩:=hval 4 _ v4 rfl rfl;obtain⟨A4,n4,c4,l4,rfl,hl4⟩:=qy0 hv4 h4;refine(gistTurns_walk n0 c0 n3 c3 n4 c4 A0 A3 A4 x1 x2 l0 l3 l4 W hl0 hn0 hnc0 hac0 hl3 hl4 hn3).mono fun e W' ⟨he,hb⟩=> ?_
 subst he;exact⟨_,rfl,q20 Tryz.laidOutSTu kr kr Tryz.underlying4 rfl (by rfl) hW' hb⟩
theorem qkg (os:Os) (started:os.Started) (H:Type) (enc:TypeId×Value->H):
 ReturnsInHanded {} Tryz.checked os 3 .any (Rows.gistTurnsSpec.pre6 enc Tryz.prog Tryz.f3 Rows.gistTurnsRow.domain false) (Rows.gistTurnsSpec.post enc Tryz.prog Tryz.f3 false true false false):=by
 refine returnsInHanded_of_change (C:=Tryz.checked) Tryz.ownSTu started kr Tryz.func3
  (ChangeSpec.witness6 (enc:=enc) (C:=Tryz.checked) false ⟨#[], #[.slice none 0 0,.int .i64 0,.int .i64 0,.slice none 0 0,.slice none 0 0], []⟩ 8 kr kr kr kr) ?_
 intro W base args ds gs before hval hW _ _;exact qi6 H enc W args ds gs before (fun j t v h1 h2=>⟨_,hval j t v h1 h2⟩) hW
theorem gistTurns_holds:Rows.GistTurnsSaid:=
 OpenClaim.holds_of_wide 3 Tryz.f3 rfl rfl rfl rfl rfl rfl rfl ⟨rfl,rfl,rfl,rfl,rfl⟩ rfl rfl rfl rfl rfl kr Tryz.func3 kr
  (of_decide_eq_true kr) (by unfold Func.isWrapper;rw [if_neg (of_decide_eq_false kr)];exact⟨rfl,rfl⟩)
  (fun os started H enc _=>qkg os started H enc)
#print axioms gistTurns_holds
end Go.Proofs.YtfnhnjbkkggbeaaGreat
