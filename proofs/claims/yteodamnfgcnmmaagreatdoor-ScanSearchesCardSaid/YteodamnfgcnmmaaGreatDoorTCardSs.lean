/-What the listed variable errors.errorType gives a walk;a world that meets the condition.-/
import Derived.Test.YteodamnfgcnmmaaGreatDoorTStsO
import Derived.ChangeVars
import Derived.JoinedOf
import Derived.RowKit
import Derived.LaidLaws
import Derived.LaidHandle
import Derived.Stop.Joined
import Derived.Test.YteodamnfgcnmmaaGreatDoorCards
import Derived.Test.YteodamnfgcnmmaaGreatDoorTie
import Derived.SevenTiedAt
set_option linter.unusedVariables false
set_option linter.unusedSimpArgs false
set_option maxRecDepth 100000
namespace Go.Proofs.YteodamnfgcnmmaaGreatDoor
open Go.ChangeShapes Go.WideShapes Go.RowKit Pg
theorem ownK:ownKnob Tryz.prog.godebug=none:=by kernel_rfl
theorem q2g:laidOutB Tryz.prog=true:=by kernel_rfl
theorem etK : Tryz.prog.globalNamed "errors.errorType" = some 0 := by kernel_rfl
theorem rtK : (Tryz.prog.cutTypes.find? (·.1 == "internal/reflectlite.rtype")).map (·.2) = some 191 := by kernel_rfl
theorem q4m:((List.range 354).filter fun t=>Tryz.prog.rowNamed t [101,114,114,111,114])= [34]:=by kernel_rfl
theorem q7m:Tryz.prog.types.size=354:=by kernel_rfl
theorem qqv {W : World} (h : laidMetH Tryz.prog [("errors.errorType",Rows.laid_errors_errorType)] W) : ErrT W := by
 have h' : laidMet Tryz.prog [] W /\ handlesMet Tryz.prog [("errors.errorType",Rows.laid_errors_errorType)] W := h;obtain ⟨name,u,ty,e1,e2,e3,e4,e5⟩ := h'.2 _ (zhx.2 rfl);have en : name = [101,114,114,111,114] := (zjx e1).symm;subst en;obtain rfl := zjx (rtK.symm.trans e2);have hm : ty ∈ (List.range 354).filter fun t => Tryz.prog.rowNamed t [101,114,114,111,114] := List.mem_filter.2 ⟨List.mem_range.2 (by rw [<- q7m];exact e3),e4⟩
 rw [q4m] at hm;obtain rfl:=zhx.1 hm;have hh:typeHandle Tryz.prog 34=.pointer (some ⟨3,34,none⟩):=by kernel_rfl
 rw [hh] at e5;unfold ErrT
 simpa using World.var?_cell etK e5 0
noncomputable def laidWorld (os:Os):World:=
 let w0:=World.holding Tryz.prog os ⟨#[],#[],[]⟩
 {w0 with heap:=w0.heap.modify 0 fun
  | .cells _ t frozen=> .cells #[.iface 191 (.agg #[.pointer (some ⟨3,34,none⟩)])] t frozen
  | o=>o}
theorem qoh (os : Os) (args : Array Value) : laidMetH Tryz.prog [("errors.errorType",Rows.laid_errors_errorType)] ((laidWorld os).forCall (fun _ _ => 0) ⟨#[],args,[]⟩).memory :=
 laidMetH_of_parts (laidMet_nil _ _) kr
theorem qg3 (H:Type) (enc:TypeId×Value->H) (W:World) (args:Array Value) (ds gs:List (DataW H)) (before:List MemPlace)
 (hval:∀(j:Nat) t v,Tryz.f4.params[j]? =some t->args[j]? =some v->∃base,Value.okWide Tryz.prog W .any base t v)
 (hW:DataW.Whole enc Tryz.prog Tryz.f4.params.toList Rows.scanSearchesSpec.vars false W args.toList ds gs before) (hL:laidMetH Tryz.prog Rows.scanSearchesRow.laid W):
 C9 4 args W fun e W' =>∃v,e=.returned v/\Rows.scanSearchesSpec.post enc Tryz.prog Tryz.f4 false true false false W args v W' :=by
 have hW' :=hW;obtain⟨p,q,hA0,hV,rfl,hfz,hnd⟩:=hW;have hA:DataW.TrodAll enc Tryz.prog W 0 (fun _=>true) true Tryz.f4.params.toList args.toList ds p:=hA0
 have hV:DataW.TrodVars enc Tryz.prog W (fun _=>true) [] gs q:=hV
 obtain⟨rfl,rfl⟩:=trodVars_none hV;rw [Tryz.params4] at hA hval;obtain⟨v0,vs0,d0,ds0,p0,q0,hargs0,rfl,rfl,h0,r0⟩:=trodAll_cons hA;obtain⟨v1,vs1,d1,ds1,p1,q1,hargs1,rfl,rfl,h1,r1⟩:=trodAll_cons r0;obtain⟨v2,vs2,d2,ds2,p2,q2,hargs2,rfl,rfl,h2,r2⟩:=trodAll_cons r1;obtain⟨rfl,rfl,rfl⟩:=trodAll_nil r2;subst hargs2;subst hargs1;obtain⟨args⟩:=args
 simp only at hargs0
 subst hargs0;obtain⟨b0,hv0⟩:=hval 0 _ v0 rfl rfl;obtain⟨A0,n0,c0,l0,rfl,hl0,hn0⟩:=qvx hv0 h0;obtain⟨b1,hv1⟩:=hval 1 _ v1 rfl rfl;obtain⟨q1',A1,n1,c1,rfl,hr1,hn1⟩:=qr4 hv1 h1;obtain⟨b2,hv2⟩:=hval 2 _ v2 rfl rfl;obtain⟨A2,n2,c2,l2,rfl,hl2,hn2,h64⟩:=qyr hv2 h2;have hT:=qqv hL;refine(scanSearches_walk n0 c0 n2 c2 n1 c1 A0 A2 A1 l0 l2 q1' W hl0 hn0 hr1 hn1 hl2 hn2 h64 hT).mono fun e W' ⟨he,hb⟩=> ?_
 subst he;exact⟨_,rfl,q2f q2g kr kr Tryz.underlying4 rfl (by rfl) hW' hb⟩
theorem qh8 (os:Os) (started:os.Started) (H:Type) (enc:TypeId×Value->H):
 ReturnsInHanded {} Tryz.checked os 4 .any (fun w args=>(Rows.scanSearchesSpec.pre enc Tryz.prog Tryz.f4 [] false w args/\laidMetH Tryz.prog Rows.scanSearchesRow.laid w)/\sizedMet enc Tryz.prog Tryz.f4 (OpenSpec.ofChange Rows.scanSearchesSpec) false w args)
  (Rows.scanSearchesSpec.post enc Tryz.prog Tryz.f4 false true false false):=by
 refine returnsInHanded_of_change_and (C:=Tryz.checked) (X:=fun w _=>laidMetH Tryz.prog Rows.scanSearchesRow.laid w) (fun _ _ _ hh h=>h.of_heap hh) ownK started kr Tryz.func4
  (ChangeSpec.witness_at (enc:=enc) (C:=Tryz.checked) (os:=os) (X:=fun w _=>laidMetH Tryz.prog Rows.scanSearchesRow.laid w) false (laidWorld os) #[.slice none 0 0,.agg #[.int .i64 0,.int .i64 0,.int .i64 0,.int .i64 0,.int .i64 0,.slice none 0 0],.slice none 0 0] 8 rfl kr kr kr kr kr (qoh os _)) ?_
 intro W base args ds gs before hval hW _ _ hL _;exact qg3 H enc W args ds gs before (fun j t v h1 h2=>⟨_,hval j t v h1 h2⟩) hW hL
theorem qji:Rows.ScanSearchesSaid:=
 OpenClaim.holds_of_wide 4 Tryz.f4 rfl rfl rfl rfl rfl rfl rfl ⟨rfl,rfl,rfl,rfl,rfl⟩ rfl rfl rfl rfl rfl kr Tryz.func4 kr
  (of_decide_eq_true kr) (by unfold Func.isWrapper;rw [if_neg (of_decide_eq_false kr)];exact⟨rfl,rfl⟩)
  (fun os started H enc _=>qh8 os started H enc)
theorem qip (f : FuncId) (fn : Func) (hf : Tryz.pinned.checked.prog.funcNamed "pergola/pergolalaw18.ScanSearches" = some f) (hfn : Tryz.pinned.checked.prog.funcs[f]? = some fn) :
 true=Tryz.pinned.checked.prog.looks []/\∀(j:Nat) t,fn.params[j]? =some t->Tryz.pinned.checked.prog.wantsStandIn t=false:=by
 obtain rfl : f = 4 := zjx ((show Tryz.prog.funcNamed "pergola/pergolalaw18.ScanSearches" = some 4 by kernel_rfl).symm.trans hf) |>.symm
 obtain rfl:fn=Tryz.f4:=(zjx (Tryz.func4.symm.trans hfn)).symm;refine⟨by kernel_rfl,fun j t ht=> ?_⟩
 rw [Tryz.params4] at ht;have hm:=Array.mem_of_getElem? ht
 simp at hm
 rcases hm with rfl|rfl|rfl
 · exact(show Tryz.prog.wantsStandIn 22=false by kernel_rfl)
 · exact(show Tryz.prog.wantsStandIn 49=false by kernel_rfl)
 · exact(show Tryz.prog.wantsStandIn 25=false by kernel_rfl)
theorem scanSearches_card:Rows.ScanSearchesCardSaid:=
 Claim7.holds_tied_plain_at .later [] _ _ _ _ qji (fun _ h=>by cases h) kr (fun _ h=>by cases h) scanSearches_row_tie rfl ⟨rfl,rfl⟩ kr rfl qip kr
#print axioms scanSearches_card
end Go.Proofs.YteodamnfgcnmmaaGreatDoor
