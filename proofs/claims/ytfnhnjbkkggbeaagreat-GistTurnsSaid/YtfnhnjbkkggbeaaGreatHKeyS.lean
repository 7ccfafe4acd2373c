/-slices.Sorted(maps.Keys(m)) of a map of numbers-/
import Derived.Test.YtfnhnjbkkggbeaaGreatHSrtK
import Derived.Test.YtfnhnjbkkggbeaaGreatHGisB
import Derived.Shelf.AbstractIn
import Derived.RangeFuncBox
import Derived.RangeFuncLeaves
set_option linter.unusedVariables false
set_option linter.unusedSimpArgs false
namespace Go.Proofs.YtfnhnjbkkggbeaaGreat
open Go Go.RowKit Go.Maps Go.Sort Go.Shelf Go.Proofs Pg
theorem q6h (m:Nat):AnyZI.SortsIn Tryz.prog Tryz.sortedV_ren Fence.wide m:=
 ⟨fun blk off cap ss W hH hblk hsz=>callsIn_wide.2 (AnyM.slices_Sort_int Tryz.sortV blk off cap ss W hH hblk hsz),
  fun p cap W=>callsIn_wide.2 (AnyM.slices_Sort_int_none Tryz.sortV p cap W)⟩
theorem qst (V:List (Int×Value)):intKeys (toD V)=V.map (·.1):=by
 show (V.map fun p=>(Lit.int .i64 p.1,(DataW.held p.2:DataW Value))).map (fun p=>Go.intOf p.1)=_
 rw [List.map_map]
 rfl
theorem qrr {ss:List Int} {V:List (Int×Value)} (hp:ss.Perm (V.map (·.1))) (hr:qcq V):ss.mergeSort (fun x y=>decide (x<=y))=V.map (·.1):=by
 have h1:(ss.mergeSort (fun x y=>decide (x<=y))).Pairwise (fun x y=>decide (x<=y)=true):=List.pairwise_mergeSort (fun a b c h1 h2=>by simp only [decide_eq_true_eq] at*;omega) (fun a b=>by simp only [Bool.or_eq_true,decide_eq_true_eq];omega) ss
 have h2:(V.map (·.1)).Pairwise (fun x y=>decide (x<=y)=true):=by
  rw [List.pairwise_map]
  exact List.Pairwise.imp (fun h=>by simp only [decide_eq_true_eq];omega) hr
 exact List.Perm.eq_of_pairwise (fun a b _ _ h1 h2=>by simp only [decide_eq_true_eq] at*;omega) h1 h2 ((List.mergeSort_perm ss _).trans hp)
theorem qzu (mb:Option Nat) (w:World):C9 39 #[.map mb] w fun e w' =>∃Bm,e=.returned (.func (.func 68) #[] #[.pointer (some ⟨Bm,0,none⟩)])/\Bm<w'.heap.size/\w'.cell? ⟨Bm,0,none⟩=some (.map mb)/\Below w.heap.size w w' :=by
 refine((callsIn_wide (n:=5)).1 (AnyZI.keys_in Tryz.keysM Fence.wide 5 trivial rfl mb w)).mono ?_;rintro e w' ⟨rfl,rfl⟩;have h:Blk (w.alloc (.cells #[.map mb] (Tryz.keysM_ren.t 23))) w.heap.size (Tryz.keysM_ren.t 23) #[.map mb]:=Blk.new sI rfl
 exact⟨w.heap.size,rfl,h.lt,(h.cell 0).trans rfl,bel⟩
theorem qrt (Bm mb:Nat) (V:List (Int×Value)) (w:World) (hm:qbk w Tryz.prog 3 mb V) (hV:V.length<=1000000) (hr:qcq V) (hBm:Bm<w.heap.size) (h1:w.cell? ⟨Bm,0,none⟩=some (.map (some mb))):
 C9 29 #[.func (.func 68) #[] #[.pointer (some ⟨Bm,0,none⟩)]] w fun e w' =>∃v',e=.returned v' /\w'.ownsRow w.heap.size 3 1 v' V.length ((V.map (·.1)).map fun i=> .int .i64 i)/\Below w.heap.size w w' :=by
 refine((callsIn_wide (n:=5)).1 (AnyZI.sorted_in Tryz.sortedV Fence.wide 5 trivial trivial trivial trivial rfl oQ (q6h _) (enters_of Tryz.func54 kr rfl) 68 #[.pointer (some ⟨Bm,0,none⟩)] trivial (enters_of Tryz.func68 kr rfl) (fun ss=>ss.Perm (intKeys (toD V))) (Maps.size (toD V)) (by rw [qf7];unfold maxLen;omega) (by rw [qf7];omega) w
  (AnyZI.keys_gives (P:=Tryz.prog) (ρ:=Tryz.keysM_ren) {Tryz.keysM with} Fence.wide 2 trivial rfl oQ Bm mb V.length (toD V) w hBm h1 hm))).mono ?_
 rintro e w' ⟨v,ss,rfl,hp,hrow,_,hb⟩;rw [qst] at hp;have hl:ss.length=V.length:=by rw [hp.length_eq,zyy]
 rw [qrr hp hr,hl] at hrow;exact⟨v,rfl,hrow,hb⟩
end Go.Proofs.YtfnhnjbkkggbeaaGreat
