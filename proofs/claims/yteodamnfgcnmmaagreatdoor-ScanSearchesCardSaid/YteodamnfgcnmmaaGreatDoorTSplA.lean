/-The split's comparison: its closure's contract.-/
import Derived.Test.YteodamnfgcnmmaaGreatDoorTBits1
import Derived.Test.YteodamnfgcnmmaaGreatDoorTEncK
import Derived.Deep.OwnRows
set_option linter.unusedVariables false
set_option linter.unusedSimpArgs false
set_option maxHeartbeats 1000000
namespace Go.Proofs.YteodamnfgcnmmaaGreatDoor
open Go.RowKit Pg
def or3 (x y z:Int):Int:=if x=0 then(if y=0 then z else y) else x
theorem q4k (g:Nat) (t:TypeId) (x y z:Int) (w:World) (h:Blk w g t #[.int .i64 x,.int .i64 y,.int .i64 z]):
 C9 128 #[.slice (some ⟨g,0,none⟩) 3 3] w fun e w' =>e=.returned (.int .i64 (or3 x y z))/\w=w' :=by
 obtain⟨c0,c1,c2⟩:=ce3 h
 by_cases hx:x=0
 · subst hx
   by_cases hy:y=0
   · subst hy
     by_cases hz:z=0
     · subst hz
       go_enter Tryz.func128,Tryz.ntmps128
       go_wp2;refine wp_loop_rounds 4 ?_
       rw [rounds_succ]
       go_wp2
       rw [rounds_succ]
       go_wp2
       rw [rounds_succ]
       go_wp2
       rw [rounds_succ]
       go_wp2;go_ret;exact⟨by simp [or3],rfl⟩
     · have hb:(z==0)=false:=by simpa using hz
       go_enter Tryz.func128,Tryz.ntmps128
       go_wp2;refine wp_loop_rounds 3 ?_
       rw [rounds_succ]
       go_wp2
       rw [rounds_succ]
       go_wp2
       rw [rounds_succ]
       go_wp2;go_ret;exact⟨by simp [or3],rfl⟩
   · have hb:(y==0)=false:=by simpa using hy
     go_enter Tryz.func128,Tryz.ntmps128
     go_wp2;refine wp_loop_rounds 2 ?_
     rw [rounds_succ]
     go_wp2
     rw [rounds_succ]
     go_wp2;go_ret;exact⟨by simp [or3,hy],rfl⟩
 · have hb:(x==0)=false:=by simpa using hx
   go_enter Tryz.func128,Tryz.ntmps128
   go_wp2;refine wp_loop_rounds 1 ?_
   rw [rounds_succ]
   go_wp2;go_ret;exact⟨by simp [or3,hx],rfl⟩
theorem q03 {b:Bx} (h:okBx b=true\/b=qc8):(-1073741824<=b.lo.x/\b.lo.x<=1073741824)/\(-1073741824<=b.lo.y/\b.lo.y<=1073741824)/\(-1073741824<=b.hi.x/\b.hi.x<=1073741824)/\(-1073741824<=b.hi.y/\b.hi.y<=1073741824):=by
 rcases h with h|rfl
 · have hp:okPt b.lo=true/\okPt b.hi=true:=by
    unfold okBx qa2 at h
    cases h1:okPt b.lo<;>cases h2:okPt b.hi<;>simp [h1,h2] at h ⊢
   obtain⟨h1,h2⟩:=hp
   simp [okPt,farB] at h1 h2
   omega
 · decide
end Go.Proofs.YteodamnfgcnmmaaGreatDoor
namespace Pg
open Go Go.RowKit
def co (b:Bx) (r:Nat):Int:=match r with|0=>b.lo.x|1=>b.lo.y|2=>b.hi.x|_=>b.hi.y
def ocl (s:Nat->Bool) (n:Nat):List Value:=(List.range n).map fun j=> .bool (s j)
theorem qyy {s:Nat->Bool} {n k:Nat} (hk:k<n):(ocl s n).toArray.setIfInBounds k (.bool true)=(ocl (fun j=>s j||decide (j=k)) n).toArray:=by
 apply Array.ext_getElem?
 intro j
 simp only [Array.getElem?_setIfInBounds,List.size_toArray,lta]
 by_cases hj:j<n
 · by_cases e:k=j
   · subst e
     simp [ocl,hj]
   · have e2:¬ j=k:=fun h=>e h.symm
     simp [ocl,hj,e,e2]
 · have e:¬ k=j:=oQ
   simp [ocl,hj,e]
theorem q2c (n:Nat):madeCells #[Value.bool false] n=(ocl (fun _=>false) n).toArray:=by
 apply Array.ext_getElem?
 intro j
 by_cases hj:j<n
 · simp [madeCells,ocl,hj,Nat.mod_one]
 · simp [madeCells,ocl,hj]
def boxK (l:List Nat):Bx:=(qbt l).getD qc8
end Pg
namespace Go.Proofs.YteodamnfgcnmmaaGreatDoor
open Go.RowKit Pg
theorem Tryz.infoB:(Tryz.prog.info? 4).map (fun i=>(i.zero,i.size,i.bytes))=some (some (.bool false),1,1):=by kernel_rfl
theorem q3j (n:Nat) (hn:n<=1000000) (w:World):(Instr.makeSlice 272 (.int .i64 (n:Int)) (.int .i64 (n:Int))).run Tryz.prog w=.ok (.slice (some ⟨w.heap.size,0,none⟩) n n) (w.alloc (.cells (ocl (fun _=>false) n).toArray 4)):=by
 rw [<-q2c]
 exact run_make_row' _ _ (.bool false) 1 Tryz.underlying272 Tryz.infoB rfl .i64 .i64 n oQ oQ w
theorem qu4 (l:List Nat):∃q,qef l=.tuple #[bxV (boxK l).lo.x (boxK l).lo.y (boxK l).hi.x (boxK l).hi.y,.bool q]:=by
 unfold qef boxK
 cases qbt l with
 | none=>exact ⟨false,rfl⟩
 | some b=>exact ⟨true,rfl⟩
theorem q5j {l:List Nat} (h:∀x∈l,x<256):okBx (boxK l)=true\/boxK l=qc8:=by
 unfold boxK
 cases e:qbt l with
 | none=>exact .inr rfl
 | some b=>exact .inl (qxo h e).1
end Go.Proofs.YteodamnfgcnmmaaGreatDoor
