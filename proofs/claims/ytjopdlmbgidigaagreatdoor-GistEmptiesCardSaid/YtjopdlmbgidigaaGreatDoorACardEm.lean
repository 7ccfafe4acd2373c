/-The statement GistEmpties-/
import Derived.Test.YtjopdlmbgidigaaGreatDoorALawEm
import Derived.Test.YtjopdlmbgidigaaGreatDoorALaid
import Derived.Test.YtjopdlmbgidigaaGreatDoorCards
import Derived.Test.YtjopdlmbgidigaaGreatDoorTie
import Derived.SevenTiedAt
set_option linter.unusedVariables false
set_option linter.unusedSimpArgs false
set_option maxRecDepth 100000
namespace Go.Proofs.YtjopdlmbgidigaaGreatDoor
open Go.ChangeShapes Go.WideShapes Go.RowKit Pg
theorem qhw (H:Type) (enc:TypeId×Value->H) (W:World) (args:Array Value) (ds gs:List (DataW H)) (before:List MemPlace)
 (hval:∀(j:Nat) t v,Tryz.f4.params[j]? =some t->args[j]? =some v->∃base,Value.okWide Tryz.prog W .any base t v)
 (hW:DataW.Whole enc Tryz.prog Tryz.f4.params.toList Rows.gistEmptiesSpec.vars false W args.toList ds gs before) (hL:laidMetH Tryz.prog Rows.gistEmptiesRow.laid W):
 C9 4 args W fun e W' =>∃v,e=.returned v/\Rows.gistEmptiesSpec.post enc Tryz.prog Tryz.f4 false true false false W args v W' :=by
 have hW' :=hW;obtain⟨p,q,hA0,hV,rfl,hfz,hnd⟩:=hW;have hA:DataW.TrodAll enc Tryz.prog W 0 (fun _=>true) true Tryz.f4.params.toList args.toList ds p:=hA0
 have hV:DataW.TrodVars enc Tryz.prog W (fun _=>true) [] gs q:=hV
 obtain⟨rfl,rfl⟩:=trodVars_none hV;rw [Tryz.params4] at hA hval;obtain⟨v0,vs0,d0,ds0,p0,q0,hargs0,rfl,rfl,h0,r0⟩:=trodAll_cons hA;obtain⟨v1,vs1,d1,ds1,p1,q1,hargs1,rfl,rfl,h1,r1⟩:=trodAll_cons r0;obtain⟨v2,vs2,d2,ds2,p2,q2,hargs2,rfl,rfl,h2,r2⟩:=trodAll_cons r1;obtain⟨rfl,rfl,rfl⟩:=trodAll_nil r2;subst hargs2;subst hargs1;obtain⟨args⟩:=args
 simp only at hargs0
 subst hargs0;obtain⟨b0,hv0⟩:=hval 0 _ v0 rfl rfl;obtain⟨x0,rfl,rfl,rfl,hw0⟩:=open_int Tryz.underlying3 hv0 h0;obtain⟨b1,hv1⟩:=hval 1 _ v1 rfl rfl;obtain⟨x1,rfl,rfl,rfl,hw1⟩:=open_int Tryz.underlying3 hv1 h1;obtain⟨b2,hv2⟩:=hval 2 _ v2 rfl rfl;obtain⟨x2,rfl,rfl,rfl,hw2⟩:=open_int Tryz.underlying3 hv2 h2;have hT:=qkb hL;refine(gistEmpties_walk x0 x1 x2 W hT).mono fun e W' ⟨he,hb⟩=> ?_
 subst he;exact⟨_,rfl,qup quq kr kr Tryz.underlying4 rfl (by rfl) hW' hb⟩
theorem qi8 (os:Os) (started:os.Started) (H:Type) (enc:TypeId×Value->H):
 ReturnsInHanded {} Tryz.checked os 4 .any (fun w args=>(Rows.gistEmptiesSpec.pre enc Tryz.prog Tryz.f4 [] false w args/\laidMetH Tryz.prog Rows.gistEmptiesRow.laid w)/\sizedMet enc Tryz.prog Tryz.f4 (OpenSpec.ofChange Rows.gistEmptiesSpec) false w args)
  (Rows.gistEmptiesSpec.post enc Tryz.prog Tryz.f4 false true false false):=by
 refine returnsInHanded_of_change_and (C:=Tryz.checked) (X:=fun w _=>laidMetH Tryz.prog Rows.gistEmptiesRow.laid w) (fun _ _ _ hh h=>h.of_heap hh) ownK started kr Tryz.func4
  (ChangeSpec.witness_at (enc:=enc) (C:=Tryz.checked) (os:=os) (X:=fun w _=>laidMetH Tryz.prog Rows.gistEmptiesRow.laid w) false (laidWorld os) #[.int .i64 0,.int .i64 0,.int .i64 0] 8 rfl kr kr kr kr kr (qi3 os _)) ?_
 intro W base args ds gs before hval hW _ _ hL _;exact qhw H enc W args ds gs before (fun j t v h1 h2=>⟨_,hval j t v h1 h2⟩) hW hL
theorem qkj:Rows.GistEmptiesSaid:=
 OpenClaim.holds_of_wide 4 Tryz.f4 rfl rfl rfl rfl rfl rfl rfl ⟨rfl,rfl,rfl,rfl,rfl⟩ rfl rfl rfl rfl rfl kr Tryz.func4 kr
  (of_decide_eq_true kr) (by unfold Func.isWrapper;rw [if_neg (of_decide_eq_false kr)];exact⟨rfl,rfl⟩)
  (fun os started H enc _=>qi8 os started H enc)
theorem qjx (f : FuncId) (fn : Func) (hf : Tryz.pinned.checked.prog.funcNamed "pergola/pergolalaw17.GistEmpties" = some f) (hfn : Tryz.pinned.checked.prog.funcs[f]? = some fn) :
 true=Tryz.pinned.checked.prog.looks []/\∀(j:Nat) t,fn.params[j]? =some t->Tryz.pinned.checked.prog.wantsStandIn t=false:=by
 obtain rfl : f = 4 := zjx ((show Tryz.prog.funcNamed "pergola/pergolalaw17.GistEmpties" = some 4 by kernel_rfl).symm.trans hf) |>.symm
 obtain rfl:fn=Tryz.f4:=(zjx (Tryz.func4.symm.trans hfn)).symm;refine⟨by kernel_rfl,fun j t ht=> ?_⟩
 rw [Tryz.params4] at ht;have hm:=Array.mem_of_getElem? ht
 simp at hm
 subst hm;exact(show Tryz.prog.wantsStandIn 3=false by kernel_rfl)
theorem gistEmpties_card:Rows.GistEmptiesCardSaid:=
 Claim7.holds_tied_plain_at .later [] _ _ _ _ qkj (fun _ h=>by cases h) kr (fun _ h=>by cases h) gistEmpties_row_tie rfl ⟨rfl,rfl⟩ kr rfl qjx kr
#print axioms gistEmpties_card
end Go.Proofs.YtjopdlmbgidigaaGreatDoor
