/-The split's comparison: its closure's contract.-/
import Derived.Test.YteodamnfgcnmmaaGreatREncK
import Derived.Test.YteodamnfgcnmmaaGreatChecked
import Derived.Lib.Strings
import Derived.Lib.Slices
import Derived.Lib.Small
import Derived.Lib.Walk
import Derived.Lib.BitFns
import Derived.Lib.ItoaNum
import Derived.Deep.OwnRows
set_option linter.unusedVariables false
set_option linter.unusedSimpArgs false
namespace Go.Proofs.YteodamnfgcnmmaaGreat
open Go.RowKit Pg
theorem qtd {b:Bx} (h:okBx b=true\/b=qbz):(-1073741824<=b.lo.x/\b.lo.x<=1073741824)/\(-1073741824<=b.lo.y/\b.lo.y<=1073741824)/\(-1073741824<=b.hi.x/\b.hi.x<=1073741824)/\(-1073741824<=b.hi.y/\b.hi.y<=1073741824):=by
 rcases h with h|rfl
 · have hp:okPt b.lo=true/\okPt b.hi=true:=by
    unfold okBx qaz at h
    cases h1:okPt b.lo<;>cases h2:okPt b.hi<;>simp [h1,h2] at h ⊢
   obtain⟨h1,h2⟩:=hp
   simp [okPt,farB] at h1 h2
   omega
 · decide
end Go.Proofs.YteodamnfgcnmmaaGreat
namespace Pg
open Go Go.RowKit
def co (b:Bx) (r:Nat):Int:=match r with|0=>b.lo.x|1=>b.lo.y|2=>b.hi.x|_=>b.hi.y
def bcl (f:Nat->Bx) (n:Nat):List Value:=(List.range (n*4)).map fun j=> .int .i64 (co (f (j/4)) (j%4))
def updB (f:Nat->Bx) (k:Nat) (b:Bx):Nat->Bx:=fun j=>if j=k then b else f j
theorem qfs {f:Nat->Bx} {n j:Nat} (h:j<n*4):(bcl f n)[j]? =some (.int .i64 (co (f (j/4)) (j%4))):=by simp [bcl,h]
theorem qv4 {f:Nat->Bx} {n k:Nat} (b:Bx) (hk:k<n):
 (((((bcl f n).toArray.setIfInBounds (k*4) (.int .i64 b.lo.x)).setIfInBounds (k*4+1) (.int .i64 b.lo.y)).setIfInBounds (k*4+2) (.int .i64 b.hi.x)).setIfInBounds (k*4+3) (.int .i64 b.hi.y))=(bcl (updB f k b) n).toArray:=by
 apply Array.ext_getElem?
 intro j
 simp only [Array.getElem?_setIfInBounds,Array.size_setIfInBounds,List.size_toArray,lta]
 have hl:(bcl f n).length=n*4:=by simp [bcl]
 simp only [hl]
 by_cases hj:j<n*4
 · rw [qfs hj,qfs hj]
   by_cases e0:k*4+3=j
   · subst e0
     rw [if_pos rfl,if_pos oQ,show (k*4+3)/4=k by omega,show (k*4+3)%4=3 by omega]
     simp [updB,co]
   · rw [if_neg e0]
     by_cases e1:k*4+2=j
     · subst e1
       rw [if_pos rfl,if_pos oQ,show (k*4+2)/4=k by omega,show (k*4+2)%4=2 by omega]
       simp [updB,co]
     · rw [if_neg e1]
       by_cases e2:k*4+1=j
       · subst e2
         rw [if_pos rfl,if_pos oQ,show (k*4+1)/4=k by omega,show (k*4+1)%4=1 by omega]
         simp [updB,co]
       · rw [if_neg e2]
         by_cases e3:k*4=j
         · subst e3
           rw [if_pos rfl,if_pos oQ,show (k*4)/4=k by omega,show (k*4)%4=0 by omega]
           simp [updB,co]
         · rw [if_neg e3]
           have:j/4≠k:=oQ
           simp [updB,this]
 · have h0:(bcl f n)[j]? =none:=zoy (by rw [hl];omega)
   have h1:(bcl (updB f k b) n)[j]? =none:=zoy (by simp [bcl];omega)
   rw [h0,h1]
   repeat' split
   all_goals first|rfl|(exfalso;omega)
def ocl (s:Nat->Bool) (n:Nat):List Value:=(List.range n).map fun j=> .bool (s j)
theorem qrv {s:Nat->Bool} {n k:Nat} (hk:k<n):(ocl s n).toArray.setIfInBounds k (.bool true)=(ocl (fun j=>s j||decide (j=k)) n).toArray:=by
 apply Array.ext_getElem?
 intro j
 simp only [Array.getElem?_setIfInBounds,List.size_toArray,lta]
 by_cases hj:j<n
 · by_cases e:k=j
   · subst e
     simp [ocl,hj]
   · have e2:¬ j=k:=fun h=>e h.symm
     simp [ocl,hj,e,e2]
 · have e:¬ k=j:=oQ
   simp [ocl,hj,e]
theorem qt8 (n:Nat):madeCells #[Value.int .i64 0,.int .i64 0,.int .i64 0,.int .i64 0] (n*4)=(bcl (fun _=>qbz) n).toArray:=by
 apply Array.ext_getElem?
 intro j
 by_cases hj:j<n*4
 · have hm:j%4=0\/j%4=1\/j%4=2\/j%4=3:=oQ
   rw [List.getElem?_toArray (xs:=bcl _ n),qfs hj]
   rcases hm with h|h|h|h<;>simp [madeCells,hj,h,co,qbz]
 · simp [madeCells,bcl,hj]
theorem qt7 (n:Nat):madeCells #[Value.bool false] n=(ocl (fun _=>false) n).toArray:=by
 apply Array.ext_getElem?
 intro j
 by_cases hj:j<n
 · simp [madeCells,ocl,hj,Nat.mod_one]
 · simp [madeCells,ocl,hj]
def boxK (l:List Nat):Bx:=(qbx l).getD qbz
end Pg
namespace Go.Proofs.YteodamnfgcnmmaaGreat
open Go.RowKit Pg
theorem Tryz.infoBx:(Tryz.prog.info? 77).map (fun i=>(i.zero,i.size,i.bytes))=some (some (bxV 0 0 0 0),4,32):=by kernel_rfl
theorem Tryz.infoB:(Tryz.prog.info? 4).map (fun i=>(i.zero,i.size,i.bytes))=some (some (.bool false),1,1):=by kernel_rfl
theorem qvr (n:Nat) (hn:n<=1000000) (w:World):(Instr.makeSlice 75 (.int .i64 (n:Int)) (.int .i64 (n:Int))).run Tryz.prog w=.ok (.slice (some ⟨w.heap.size,0,none⟩) n n) (w.alloc (.cells (bcl (fun _=>qbz) n).toArray 77)):=by
 obtain⟨i0,hi,iz0,iz1,iz2⟩:=info_parts Tryz.infoBx;have h:=run_make (P:=Tryz.prog) w 75 77 i0 (bxV 0 0 0 0) Tryz.underlying75 hi iz0 .i64 .i64 (n:Int) (n:Int) oQ oQ (by rw [iz2];omega) oQ
 rw [iz1] at h
 rw [<-qt8]
 exact h
theorem qu0 (n:Nat) (hn:n<=1000000) (w:World):(Instr.makeSlice 88 (.int .i64 (n:Int)) (.int .i64 (n:Int))).run Tryz.prog w=.ok (.slice (some ⟨w.heap.size,0,none⟩) n n) (w.alloc (.cells (ocl (fun _=>false) n).toArray 4)):=by
 rw [<-qt7]
 exact run_make_row' _ _ (.bool false) 1 Tryz.underlying88 Tryz.infoB rfl .i64 .i64 n oQ oQ w
theorem qpd (l:List Nat):∃q,qdi l=.tuple #[bxV (boxK l).lo.x (boxK l).lo.y (boxK l).hi.x (boxK l).hi.y,.bool q]:=by
 unfold qdi boxK
 cases qbx l with
 | none=>exact ⟨false,rfl⟩
 | some b=>exact ⟨true,rfl⟩
theorem qv2 {l:List Nat} (h:∀x∈l,x<256):okBx (boxK l)=true\/boxK l=qbz:=by
 unfold boxK
 cases e:qbx l with
 | none=>exact .inr rfl
 | some b=>exact .inl (qqv h e).1
end Go.Proofs.YteodamnfgcnmmaaGreat
