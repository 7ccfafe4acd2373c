/-slices.Sorted(slices.Values(s)) of a row of numbers-/
import Derived.Test.YteodamnfgcnmmaaGreatDoorTSrtV
import Derived.Test.YteodamnfgcnmmaaGreatDoorTWords
import Derived.Shelf.AbstractIn
import Derived.RangeFuncBox
import Derived.RangeFuncLeaves
import Derived.OwnWalkIn
import Derived.TacticsInMore
import Derived.RegionIn
import Derived.LoopNIn
import Derived.LoopIn
set_option linter.unusedVariables false
set_option linter.unusedSimpArgs false
set_option maxHeartbeats 2000000
set_option maxRecDepth 100000
namespace Go.Proofs.YteodamnfgcnmmaaGreatDoor
open Go Go.RowKit Go.Maps Go.Sort Go.Shelf Go.Proofs
attribute [local go_sem] Oper.semAt_some
def qre (F:Fence) (n:Nat) (g:Nat) (lb:Array Value) (S:List Int->Prop) (N:Nat) (w:World):Prop:=
 ∀(l:Nat) (J:List Int->World->Prop) (W:World),Below w.heap.size w W->AbidesFrom W.heap.size J->(∀s W',J s W' ->Below w.heap.size w W')->
  (∀pre x W1,J pre W1->pre.length<N->YieldAt F (n-1) Tryz.prog l #[encZ x] W1 fun e W' =>e=.returned (.bool true)/\J (pre++ [x]) W' /\KeepsWalks W1 W')->
  J [] W->
  CallsIn F n Tryz.prog g (#[.func (.yield l) #[] #[]]++lb) W fun e W' =>(∃v,e=.returned v)/\∃xs,S xs/\J xs W'
theorem qu3 (F:Fence) (n:Nat) (hF:F.fn 121) (hro:F.round=none) (hn:1<=n) (Bs b len cap:Nat) (zs:List Int) (hz:zs.length=len) (hl:len<=1000000) (w:World) (hb:b<w.heap.size) (hBs:Bs<w.heap.size)
 (h1:w.cell? ⟨Bs,0,none⟩=some (.slice (some ⟨b,0,none⟩) len cap)) (hc:∀j z,zs[j]? =some z->w.cell? ⟨b,j,none⟩=some (.int .i64 z)):
 qre F n 121 #[.pointer (some ⟨Bs,0,none⟩)] (fun ss=>ss=zs) len w:=by
 intro l J W hW hJ hJB hY h0;have hB1:=(hW.cell (p:=⟨Bs,0,none⟩) hBs).trans h1;refine callsIn_of_wp Tryz.func121 rfl hF ?_ hro
 simp only [Tryz.ntmps121,List.size_toArray,zax,List.length_nil,Nat.reduceAdd,Nat.reduceSub,Array.replicate_succ,Array.replicate_zero,List.push_toArray,List.append_toArray,List.nil_append,List.cons_append]
 gi_wp2
 gi_loopw [7] (fun i wr=>∃k:Nat,k<=len/\i=.int .i64 k/\J (zs.take k) wr) (fun i _=>len-(Go.RowKit.intOf i).toNat)
 case atStart=>exact ⟨0,zly _,rfl,h0⟩
 case round=>
  obtain⟨k,hk,rfl,hJs⟩:=hrel
  by_cases hlt:k<len
  · obtain⟨z,hzk⟩:∃z,zs[k]? =some z:=⟨zs[k]'oQ,zby _⟩
    have hcx:=((hJB _ _ hJs).cell (p:=⟨b,k,none⟩) hb).trans (hc k z hzk);have htk:zs.take (k+1)=zs.take k++ [z]:=by rw [zwy,hzk];rfl
    obtain⟨fn,tmps,assign,body,hy,hR⟩:=hY _ z wr hJs (by rw [List.length_take];omega)
    have HTK:=hdQ htk;have hltI:(k:Int)<(len:Int):=oQ
    clear htk hzk;unfold encZ at hy
    gi_wp2
    refine hR.mono ?_;rintro e W3 ⟨rfl,hJ3,hk3⟩
    gi_wp2
    go_roundw
    case rel=>exact ⟨k+1,by omega,by go_num,by rw [HTK.out];exact hJ3⟩
    case measure=>simp [Go.RowKit.intOf];omega
  · obtain rfl:k=len:=oQ
    rw [zmy oQ] at hJs
    gi_wp2
    go_end0
    exact⟨⟨_,rfl⟩,_,rfl,hJs⟩
theorem qrh (F:Fence) (n:Nat) (hF:F.fn 121) (hro:F.round=none) (Bs:Nat) (w:World) (hBs:Bs<w.heap.size)
 (h1:w.cell? ⟨Bs,0,none⟩=some (.slice none 0 0)):qre F n 121 #[.pointer (some ⟨Bs,0,none⟩)] (fun ss=>ss= []) 0 w:=by
 intro l J W hW hJ hJB hY h0;have hB1:=(hW.cell (p:=⟨Bs,0,none⟩) hBs).trans h1;refine callsIn_of_wp Tryz.func121 rfl hF ?_ hro
 simp only [Tryz.ntmps121,List.size_toArray,zax,List.length_nil,Nat.reduceAdd,Nat.reduceSub,Array.replicate_succ,Array.replicate_zero,List.push_toArray,List.append_toArray,List.nil_append,List.cons_append]
 gi_wp2
 gi_loopw [7] (fun i wr=>i=.int .i64 0/\J [] wr) (fun _ _=>0)
 case atStart=>exact ⟨rfl,h0⟩
 case round=>
  obtain⟨rfl,hJs⟩:=hrel
  gi_wp2
  go_end0
  exact⟨⟨_,rfl⟩,[],rfl,hJs⟩
theorem qo5 (F:Fence) (n:Nat) (hF:F.fn 159) (hro:F.round=none) (hn:2<=n) (g:Nat) (lb:Array Value) (hFg:F.fn g) (eg:∀args w,(callFunc g args).run Tryz.prog w=.ok (.enter g args) w)
 (S:List Int->Prop) (N:Nat) (hN:N<=maxLen) (hNb:N*8<=140737488355328) (w:World) (hseq:qre F (n-1) g lb S N w):
 CallsIn F n Tryz.prog 159 #[.slice none 0 0,.func (.func g) #[] lb] w fun e w' =>∃(v:Value) (ss:List Int),e=.returned v/\S ss/\w'.ownsRow w.heap.size 3 1 v ss.length (ss.map encZ)/\(v=.slice none 0 0↔ss= [])/\Below w.heap.size w w' :=by
 have h1:1<=n:=oQ
 refine callsIn_of_wp_marks Tryz.func159 rfl hF ?_ hro
 simp only [Tryz.ntmps159,List.size_toArray,zax,List.length_nil,Nat.reduceAdd,Nat.reduceSub,Array.replicate_succ,Array.replicate_zero,List.push_toArray,List.append_toArray,List.nil_append,List.cons_append]
 gi_wp2
 refine wpIn_rangeFunc ?_;intro fn hfn
 rw [hro]
 obtain⟨W0,hW0⟩:∃W0,w.alloc (.cells #[.slice none 0 0] 52)=W0:=⟨_,rfl⟩;have hs0:W0.heap.size=w.heap.size+1:=by rw [<-hW0];simp
 have hv0:W0.heap[w.heap.size]? =some (.cells #[.slice none 0 0] 52 (0,0)):=by rw [<-hW0];exact World.alloc_heap_new w _
 have hb0:Below w.heap.size w W0:=by rw [<-hW0];exact(Below.refl _ w).alloc (zhy _) _
 rw [hW0]
 obtain⟨W1,hW1⟩:∃W1,(W0.alloc (.deferred (some []))).alloc (.loop (AnyZI.apRec Tryz.sortedV_ren fn (.func (.func g) #[] lb) w.heap.size W0.heap.size .ready none))=W1:=⟨_,rfl⟩
 have hold:∀k,k<W0.heap.size->W1.heap[k]? =W0.heap[k]? :=fun k hk=>by
  rw [<-hW1];exact(Below.heap_alloc _ _ k (by simp;omega)).trans (Below.heap_alloc _ _ k hk)
 have hb1:Below w.heap.size w W1:=by rw [<-hW1];exact(hb0.alloc hb0.size _).alloc (by have:=hb0.size;simp;omega) _
 have hs1:W1.heap.size=W0.heap.size+2:=by rw [<-hW1];simp
 have hM:AnyZI.ApAt Tryz.sortedV_ren w fn (.func (.func g) #[] lb) w.heap.size (W0.heap.size+1) W0.heap.size [] W1:=
  ⟨⟨_,(hold w.heap.size oQ).trans hv0,⟨rfl,.inl ⟨rfl,rfl⟩⟩,by simp⟩,
   by rw [<-hW1];have:=World.alloc_heap_new (W0.alloc (.deferred (some []))) (.loop (AnyZI.apRec Tryz.sortedV_ren fn (.func (.func g) #[] lb) w.heap.size W0.heap.size .ready none));rwa [World.size_alloc] at this,
   by rw [<-hW1];exact(Below.heap_alloc _ _ _ sI).trans (World.alloc_heap_new W0 _),hb1⟩
 refine⟨W0.heap.size+1,[{target:=.collected W0.heap.size,args:= #[]}],W1,{target:=.fn (.func g) lb,args:= #[.func (.yield (W0.heap.size+1)) #[] #[]]},W1,g,
  #[.func (.yield (W0.heap.size+1)) #[] #[]]++lb,W1, ?_, ?_, ?_, ?_,fun _=>h1, ?_⟩
 · rw [<-hW1];exact run_enterLoop_outer _ _ _ _ _
 · simp [resolve,go_sem]
 · intro f' hf';simp [Target.leads] at hf';subst hf';exact hFg
 · simp [invoke,go_sem,eg]
 · refine(hseq (W0.heap.size+1) (AnyZI.ApAt Tryz.sortedV_ren w fn (.func (.func g) #[] lb) w.heap.size (W0.heap.size+1) W0.heap.size) W1 hb1 (AnyZI.ap_abides Tryz.sortedV_ren _ _ _ _ _ _ _ hb1.size) (fun s W' h=>h.below)
    (fun pre x W hJ hl=>AnyZI.apYield (ρ:=Tryz.sortedV_ren) {Tryz.sortedV with} F (n-1-1) w fn hfn _ w.heap.size (W0.heap.size+1) W0.heap.size oQ oQ oQ (zhy _) oQ N hN hNb pre x W hJ hl) hM).mono ?_
   rintro e W2 ⟨⟨v0,rfl⟩,ss,hS,h2⟩;obtain⟨v,hv,hrow,hnil⟩:=h2.box;have hend:=run_endLoop (P:=Tryz.prog) h2.L (by simp [AnyZI.apRec])
   obtain⟨W3,hW3⟩:∃W3,W2.putObj (W0.heap.size+1) (.loop {AnyZI.apRec Tryz.sortedV_ren fn (.func (.func g) #[] lb) w.heap.size W0.heap.size .ready none with state:=.exhausted})=W3:=⟨_,rfl⟩
   rw [hW3] at hend;have hg3:W2.grownBy W3 (some (W0.heap.size+1)):=by rw [<-hW3];exact grownBy_putObj_a _ _ _
   have hv3:W3.heap[w.heap.size]? =some (.cells #[v] 52 (0,0)):=by rw [<-hW3];exact(World.putObj_heap_other oQ).trans hv
   have hK3:W3.heap[W0.heap.size]? =some (.deferred (some [])):=by rw [<-hW3];exact(World.putObj_heap_other oQ).trans h2.K
   have hrow' :W2.ownsRow w.heap.size 3 1 v ss.length (ss.map encZ):=hrow;have hrow3:=hrow'.kept hg3 (ownsRow_ne_a hrow' h2.L (fun cur e=>by cases e))
   have hb3:Below w.heap.size w W3:=h2.below.grown hg3 h2.below.size (fun k e=>by cases e;omega)
   obtain⟨hc3,hf3⟩:=cell_of_box_a hv3;clear hW3;refine⟨none,W3,hend,?_⟩
   gi_wp2
   rw [<-hs0]
   refine⟨by simp,.inl ⟨_,_,rfl,run_takeDeferred hK3,?_⟩⟩
   exact⟨_,results_tmp rfl _ _ _,v,ss,rfl,hS,hrow3.kept (grownBy_putObj_a _ _ _) (ownsRow_ne_a hrow3 hK3 (fun cur e=>by cases e)),hnil,hb3.grown (grownBy_putObj_a _ _ _) hb3.size (fun k e=>by cases e;omega)⟩
theorem qs0 (F:Fence) (n:Nat) (hF8:F.fn 119) (hF:F.fn 159) (hro:F.round=none) (hn:3<=n) (g:Nat) (lb:Array Value) (hFg:F.fn g) (eg:∀args w,(callFunc g args).run Tryz.prog w=.ok (.enter g args) w)
 (S:List Int->Prop) (N:Nat) (hN:N<=maxLen) (hNb:N*8<=140737488355328) (w:World) (hseq:qre F (n-1-1) g lb S N w):
 CallsIn F n Tryz.prog 119 #[.func (.func g) #[] lb] w fun e w' =>∃(v:Value) (ss:List Int),e=.returned v/\S ss/\w'.ownsRow w.heap.size 3 1 v ss.length (ss.map encZ)/\(v=.slice none 0 0↔ss= [])/\Below w.heap.size w w' :=by
 have h1:1<=n:=oQ
 have e11:∀args w,(callFunc 159 args).run Tryz.prog w=.ok (.enter 159 args) w:=enters_of Tryz.func159 (by kernel_rfl) rfl
 refine callsIn_of_wp Tryz.func119 rfl hF8 ?_ hro
 simp only [Tryz.ntmps119,List.size_toArray,zax,List.length_nil,Nat.reduceAdd,Nat.reduceSub,Array.replicate_succ,Array.replicate_zero,List.push_toArray,List.append_toArray,List.nil_append,List.cons_append]
 gi_wp2_with (gi_at_call 159;refine(qo5 F (n-1) hF hro oQ g lb hFg eg S N hN hNb _ hseq).mono ?_;rintro e w' ⟨v,ss,rfl,hS,hrow,hnil,hb⟩)
 go_ret;exact⟨v,ss,rfl,hS,hrow,hnil,hb⟩
def qnv (l:List Int):List Int:=l.mergeSort fun x y=>decide (x<=y)
theorem qve (F:Fence) (n:Nat) (hF6:F.fn 75) (hF8:F.fn 119) (hF9:F.fn 120) (hF:F.fn 159) (hro:F.round=none) (hn:4<=n) (hsort:AnyZI.SortsIn Tryz.prog Tryz.sortedV_ren F (n-1)) (g:Nat) (lb:Array Value) (hFg:F.fn g) (eg:∀args w,(callFunc g args).run Tryz.prog w=.ok (.enter g args) w)
 (zs:List Int) (hz:zs.length<=1000000) (w:World) (hseq:qre F (n-1-1-1) g lb (fun ss=>ss=zs) zs.length w):
 CallsIn F n Tryz.prog 75 #[.func (.func g) #[] lb] w fun e w' =>∃v:Value,e=.returned v/\w'.ownsRow w.heap.size 3 1 v zs.length ((qnv zs).map encZ)/\Below w.heap.size w w' :=by
 have h1:1<=n:=oQ
 have hN:zs.length<=maxLen:=by unfold maxLen;omega
 have e8:∀args w,(callFunc 119 args).run Tryz.prog w=.ok (.enter 119 args) w:=enters_of Tryz.func119 (by kernel_rfl) rfl
 have e9:∀args w,(callFunc 120 args).run Tryz.prog w=.ok (.enter 120 args) w:=enters_of Tryz.func120 (by kernel_rfl) rfl
 refine callsIn_of_wp Tryz.func75 rfl hF6 ?_ hro
 simp only [Tryz.ntmps75,List.size_toArray,zax,List.length_nil,Nat.reduceAdd,Nat.reduceSub,Array.replicate_succ,Array.replicate_zero,List.push_toArray,List.append_toArray,List.nil_append,List.cons_append]
 gi_wp2_with (gi_at_call 119;refine(qs0 F (n-1) hF8 hF hro oQ g lb hFg eg _ zs.length hN oQ _ hseq).mono ?_;rintro e W ⟨v,ss,rfl,rfl,hrow,hnil,hb⟩)
 rcases hrow.2 with ⟨rfl,hz0⟩|⟨gb,cap,cur,rfl,hbase,hgb,r1,r2,r3,r4⟩
 · have hss:ss= []:=zbx hz0
   subst hss;have hS0:∀W,CallsIn F (n-1) Tryz.prog 120 #[.slice none 0 0] W fun e w' =>e=.returned (.tuple #[])/\w' =W:=fun W=>hsort.2 none 0 W
   gi_wp2_with (gi_at_call 120;refine(hS0 W).mono ?_;rintro e w' ⟨rfl,rfl⟩)
   go_ret;exact⟨.slice none 0 0,rfl,by simpa [qnv] using hrow,hb⟩
 · have hH:Holds encZ W gb 0 ss.toArray:=holds_of_block_i hgb (by simpa using r4)
   have hgl:gb<W.heap.size:=(zqy.1 hgb).1;have hsz:ss.length<4611686018427387904:=oQ
   have cS:CallsIn F (n-1) Tryz.prog 120 #[.slice (some ⟨gb,0,none⟩) ss.length cap] W _:=hsort.1 gb 0 cap ss W hH hgl hsz
   gi_wp2_with (gi_at_call 120;refine cS.mono ?_;rintro e w' ⟨rfl,nn,os,rfl⟩)
   go_ret;exact⟨_,rfl,ownsRow_sorted_i sI hbase hgb r1 r2 r3,hb.grown (grownBy_sorted_i _) hb.size (fun j hj=>by cases hj;exact hbase)⟩
theorem q5z (m:Nat):AnyZI.SortsIn Tryz.prog Tryz.sortedV_ren Fence.wide m:=
 ⟨fun blk off cap ss W hH hblk hsz=>callsIn_wide.2 (AnyM.slices_Sort_int Tryz.sortV blk off cap ss W hH hblk hsz),
  fun p cap W=>callsIn_wide.2 (AnyM.slices_Sort_int_none Tryz.sortV p cap W)⟩
theorem qrn (base Bs:Nat) (v:Value) (zs:List Int) (hz:zs.length<=1000000) (w:World) (hrow:w.ownsRow base 3 1 v zs.length (zs.map encZ)) (hBs:Bs<w.heap.size) (h1:w.cell? ⟨Bs,0,none⟩=some v):
 C9 75 #[.func (.func 121) #[] #[.pointer (some ⟨Bs,0,none⟩)]] w fun e w' =>∃v',e=.returned v' /\w'.ownsRow w.heap.size 3 1 v' zs.length ((qnv zs).map encZ)/\Below w.heap.size w w' :=by
 refine(callsIn_wide (n:=5)).1 ?_;refine qve Fence.wide 5 trivial trivial trivial trivial rfl oQ (q5z _) 121 #[.pointer (some ⟨Bs,0,none⟩)] trivial (enters_of Tryz.func121 (by kernel_rfl) rfl) zs hz w ?_
 rcases hrow.2 with ⟨rfl,h0⟩|⟨g,cap,cur,rfl,hbase,hg,r1,r2,r3,r4⟩
 · have hz0:zs= []:=zbx h0
   subst hz0;exact qrh Fence.wide 2 trivial rfl Bs w hBs h1
 · refine qu3 Fence.wide 2 trivial rfl oQ Bs g zs.length cap zs rfl hz w (zqy.1 hg).1 hBs h1 fun j z hj=> ?_
   have hjl:=(zsy.1 hj).1
   rw [hrow.cellAt j oQ,zpx,hj]
   rfl
end Go.Proofs.YteodamnfgcnmmaaGreatDoor
