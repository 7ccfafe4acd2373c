/-What the listed variable errors.errorType gives a walk;a world that me-/
import Derived.Test.YtjopdlmbgidigaaGreatDoorAItmO
import Derived.ChangeVars
import Derived.JoinedOf
import Derived.RowKit
import Derived.LaidLaws
import Derived.LaidHandle
import Derived.Stop.Joined
set_option linter.unusedVariables false
set_option linter.unusedSimpArgs false
namespace Go.Proofs.YtjopdlmbgidigaaGreatDoor
open Go.ChangeShapes Go.WideShapes Go.RowKit Pg
theorem ownK:ownKnob Tryz.prog.godebug=none:=by kernel_rfl
theorem quq:laidOutB Tryz.prog=true:=by kernel_rfl
theorem etK : Tryz.prog.globalNamed "errors.errorType" = some 0 := by kernel_rfl
theorem rtK : (Tryz.prog.cutTypes.find? (·.1 == "internal/reflectlite.rtype")).map (·.2) = some 171 := by kernel_rfl
theorem q43:((List.range 349).filter fun t=>Tryz.prog.rowNamed t [101,114,114,111,114])= [30]:=by kernel_rfl
theorem q74:Tryz.prog.types.size=349:=by kernel_rfl
theorem qkb {W : World} (h : laidMetH Tryz.prog [("errors.errorType",Rows.laid_errors_errorType)] W) : ErrT W := by
 have h' : laidMet Tryz.prog [] W /\ handlesMet Tryz.prog [("errors.errorType",Rows.laid_errors_errorType)] W := h;obtain ⟨name,u,ty,e1,e2,e3,e4,e5⟩ := h'.2 _ (zhx.2 rfl);have en : name = [101,114,114,111,114] := (zjx e1).symm;subst en;obtain rfl := zjx (rtK.symm.trans e2);have hm : ty ∈ (List.range 349).filter fun t => Tryz.prog.rowNamed t [101,114,114,111,114] := List.mem_filter.2 ⟨List.mem_range.2 (by rw [<- q74];exact e3),e4⟩
 rw [q43] at hm;obtain rfl:=zhx.1 hm;have hh:typeHandle Tryz.prog 30=.pointer (some ⟨3,30,none⟩):=by kernel_rfl
 rw [hh] at e5;unfold ErrT
 simpa using World.var?_cell etK e5 0
noncomputable def laidWorld (os:Os):World:=
 let w0:=World.holding Tryz.prog os ⟨#[],#[],[]⟩
 {w0 with heap:=w0.heap.modify 0 fun
  | .cells _ t frozen=> .cells #[.iface 171 (.agg #[.pointer (some ⟨3,30,none⟩)])] t frozen
  | o=>o}
theorem qi3 (os : Os) (args : Array Value) : laidMetH Tryz.prog [("errors.errorType",Rows.laid_errors_errorType)] ((laidWorld os).forCall (fun _ _ => 0) ⟨#[],args,[]⟩).memory :=
 laidMetH_of_parts (laidMet_nil _ _) kr
end Go.Proofs.YtjopdlmbgidigaaGreatDoor
