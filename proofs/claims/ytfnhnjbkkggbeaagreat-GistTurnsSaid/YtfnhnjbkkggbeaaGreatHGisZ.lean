/-slices.Sorted(slices.Values(s)) of a row of numbers-/
import Derived.Test.YtfnhnjbkkggbeaaGreatHSrtK
import Derived.Test.YtfnhnjbkkggbeaaGreatHGisY
import Derived.Shelf.AbstractIn
import Derived.RangeFuncBox
import Derived.RangeFuncLeaves
import Derived.OwnWalkIn
import Derived.TacticsInMore
import Derived.RegionIn
import Derived.LoopNIn
import Derived.LoopIn
set_option linter.unusedVariables false
set_option linter.unusedSimpArgs false
set_option maxHeartbeats 2000000
set_option maxRecDepth 100000
namespace Go.Proofs.YtfnhnjbkkggbeaaGreat
open Go Go.RowKit Go.Maps Go.Sort Go.Shelf Go.Proofs Pg
attribute [local go_sem] Oper.semAt_some
def qrh (F:Fence) (n:Nat) (g:Nat) (lb:Array Value) (S:List Int->Prop) (N:Nat) (w:World):Prop:=
 ∀(l:Nat) (J:List Int->World->Prop) (W:World),Below w.heap.size w W->AbidesFrom W.heap.size J->(∀s W',J s W' ->Below w.heap.size w W')->
  (∀pre x W1,J pre W1->pre.length<N->YieldAt F (n-1) Tryz.prog l #[encZ x] W1 fun e W' =>e=.returned (.bool true)/\J (pre++ [x]) W' /\KeepsWalks W1 W')->
  J [] W->
  CallsIn F n Tryz.prog g (#[.func (.yield l) #[] #[]]++lb) W fun e W' =>(∃v,e=.returned v)/\∃xs,S xs/\J xs W'
theorem qve (F:Fence) (n:Nat) (hF:F.fn 55) (hro:F.round=none) (hn:1<=n) (Bs b len cap:Nat) (zs:List Int) (hz:zs.length=len) (hl:len<=1000000) (w:World) (hb:b<w.heap.size) (hBs:Bs<w.heap.size)
 (h1:w.cell? ⟨Bs,0,none⟩=some (.slice (some ⟨b,0,none⟩) len cap)) (hc:∀j z,zs[j]? =some z->w.cell? ⟨b,j,none⟩=some (.int .i64 z)):
 qrh F n 55 #[.pointer (some ⟨Bs,0,none⟩)] (fun ss=>ss=zs) len w:=by
 intro l J W hW hJ hJB hY h0;have hB1:=(hW.cell (p:=⟨Bs,0,none⟩) hBs).trans h1;refine callsIn_of_wp Tryz.func55 rfl hF ?_ hro
 simp only [Tryz.ntmps55,List.size_toArray,zax,List.length_nil,Nat.reduceAdd,Nat.reduceSub,Array.replicate_succ,Array.replicate_zero,List.push_toArray,List.append_toArray,List.nil_append,List.cons_append]
 gi_wp2
 gi_loopw [7] (fun i wr=>∃k:Nat,k<=len/\i=.int .i64 k/\J (zs.take k) wr) (fun i _=>len-(Go.RowKit.intOf i).toNat)
 case atStart=>exact ⟨0,zly _,rfl,h0⟩
 case round=>
  obtain⟨k,hk,rfl,hJs⟩:=hrel
  by_cases hlt:k<len
  · obtain⟨z,hzk⟩:∃z,zs[k]? =some z:=⟨zs[k]'oQ,zby _⟩
    have hcx:=((hJB _ _ hJs).cell (p:=⟨b,k,none⟩) hb).trans (hc k z hzk);have htk:zs.take (k+1)=zs.take k++ [z]:=by rw [zwy,hzk];rfl
    obtain⟨fn,tmps,assign,body,hy,hR⟩:=hY _ z wr hJs (by rw [List.length_take];omega)
    have HTK:=hdQ htk;have hltI:(k:Int)<(len:Int):=oQ
    clear htk hzk;unfold encZ at hy
    gi_wp2
    refine hR.mono ?_;rintro e W3 ⟨rfl,hJ3,hk3⟩
    gi_wp2
    go_roundw
    case rel=>exact ⟨k+1,by omega,by go_num,by rw [HTK.out];exact hJ3⟩
    case measure=>simp [Go.RowKit.intOf];omega
  · obtain rfl:k=len:=oQ
    rw [zmy oQ] at hJs
    gi_wp2
    go_end0
    exact⟨⟨_,rfl⟩,_,rfl,hJs⟩
theorem qrk (F:Fence) (n:Nat) (hF:F.fn 55) (hro:F.round=none) (Bs:Nat) (w:World) (hBs:Bs<w.heap.size)
 (h1:w.cell? ⟨Bs,0,none⟩=some (.slice none 0 0)):qrh F n 55 #[.pointer (some ⟨Bs,0,none⟩)] (fun ss=>ss= []) 0 w:=by
 intro l J W hW hJ hJB hY h0;have hB1:=(hW.cell (p:=⟨Bs,0,none⟩) hBs).trans h1;refine callsIn_of_wp Tryz.func55 rfl hF ?_ hro
 simp only [Tryz.ntmps55,List.size_toArray,zax,List.length_nil,Nat.reduceAdd,Nat.reduceSub,Array.replicate_succ,Array.replicate_zero,List.push_toArray,List.append_toArray,List.nil_append,List.cons_append]
 gi_wp2
 gi_loopw [7] (fun i wr=>i=.int .i64 0/\J [] wr) (fun _ _=>0)
 case atStart=>exact ⟨rfl,h0⟩
 case round=>
  obtain⟨rfl,hJs⟩:=hrel
  gi_wp2
  go_end0
  exact⟨⟨_,rfl⟩,[],rfl,hJs⟩
theorem qpa (F:Fence) (n:Nat) (hF:F.fn 79) (hro:F.round=none) (hn:2<=n) (g:Nat) (lb:Array Value) (hFg:F.fn g) (eg:∀args w,(callFunc g args).run Tryz.prog w=.ok (.enter g args) w)
 (S:List Int->Prop) (N:Nat) (hN:N<=maxLen) (hNb:N*8<=140737488355328) (w:World) (hseq:qrh F (n-1) g lb S N w):
 CallsIn F n Tryz.prog 79 #[.slice none 0 0,.func (.func g) #[] lb] w fun e w' =>∃(v:Value) (ss:List Int),e=.returned v/\S ss/\w'.ownsRow w.heap.size 3 1 v ss.length (ss.map encZ)/\(v=.slice none 0 0↔ss= [])/\Below w.heap.size w w' :=by
 have h1:1<=n:=oQ
 refine callsIn_of_wp_marks Tryz.func79 rfl hF ?_ hro
 simp only [Tryz.ntmps79,List.size_toArray,zax,List.length_nil,Nat.reduceAdd,Nat.reduceSub,Array.replicate_succ,Array.replicate_zero,List.push_toArray,List.append_toArray,List.nil_append,List.cons_append]
 gi_wp2
 refine wpIn_rangeFunc ?_;intro fn hfn
 rw [hro]
 obtain⟨W0,hW0⟩:∃W0,w.alloc (.cells #[.slice none 0 0] 43)=W0:=⟨_,rfl⟩;have hs0:W0.heap.size=w.heap.size+1:=by rw [<-hW0];simp
 have hv0:W0.heap[w.heap.size]? =some (.cells #[.slice none 0 0] 43 (0,0)):=by rw [<-hW0];exact World.alloc_heap_new w _
 have hb0:Below w.heap.size w W0:=by rw [<-hW0];exact(Below.refl _ w).alloc (zhy _) _
 rw [hW0]
 obtain⟨W1,hW1⟩:∃W1,(W0.alloc (.deferred (some []))).alloc (.loop (AnyZI.apRec Tryz.sortedV_ren fn (.func (.func g) #[] lb) w.heap.size W0.heap.size .ready none))=W1:=⟨_,rfl⟩
 have hold:∀k,k<W0.heap.size->W1.heap[k]? =W0.heap[k]? :=fun k hk=>by
  rw [<-hW1];exact(Below.heap_alloc _ _ k (by simp;omega)).trans (Below.heap_alloc _ _ k hk)
 have hb1:Below w.heap.size w W1:=by rw [<-hW1];exact(hb0.alloc hb0.size _).alloc (by have:=hb0.size;simp;omega) _
 have hs1:W1.heap.size=W0.heap.size+2:=by rw [<-hW1];simp
 have hM:AnyZI.ApAt Tryz.sortedV_ren w fn (.func (.func g) #[] lb) w.heap.size (W0.heap.size+1) W0.heap.size [] W1:=
  ⟨⟨_,(hold w.heap.size oQ).trans hv0,⟨rfl,.inl ⟨rfl,rfl⟩⟩,by simp⟩,
   by rw [<-hW1];have:=World.alloc_heap_new (W0.alloc (.deferred (some []))) (.loop (AnyZI.apRec Tryz.sortedV_ren fn (.func (.func g) #[] lb) w.heap.size W0.heap.size .ready none));rwa [World.size_alloc] at this,
   by rw [<-hW1];exact(Below.heap_alloc _ _ _ sI).trans (World.alloc_heap_new W0 _),hb1⟩
 refine⟨W0.heap.size+1,[{target:=.collected W0.heap.size,args:= #[]}],W1,{target:=.fn (.func g) lb,args:= #[.func (.yield (W0.heap.size+1)) #[] #[]]},W1,g,
  #[.func (.yield (W0.heap.size+1)) #[] #[]]++lb,W1, ?_, ?_, ?_, ?_,fun _=>h1, ?_⟩
 · rw [<-hW1];exact run_enterLoop_outer _ _ _ _ _
 · simp [resolve,go_sem]
 · intro f' hf';simp [Target.leads] at hf';subst hf';exact hFg
 · simp [invoke,go_sem,eg]
 · refine(hseq (W0.heap.size+1) (AnyZI.ApAt Tryz.sortedV_ren w fn (.func (.func g) #[] lb) w.heap.size (W0.heap.size+1) W0.heap.size) W1 hb1 (AnyZI.ap_abides Tryz.sortedV_ren _ _ _ _ _ _ _ hb1.size) (fun s W' h=>h.below)
    (fun pre x W hJ hl=>AnyZI.apYield (ρ:=Tryz.sortedV_ren) {Tryz.sortedV with} F (n-1-1) w fn hfn _ w.heap.size (W0.heap.size+1) W0.heap.size oQ oQ oQ (zhy _) oQ N hN hNb pre x W hJ hl) hM).mono ?_
   rintro e W2 ⟨⟨v0,rfl⟩,ss,hS,h2⟩;obtain⟨v,hv,hrow,hnil⟩:=h2.box;have hend:=run_endLoop (P:=Tryz.prog) h2.L (by simp [AnyZI.apRec])
   obtain⟨W3,hW3⟩:∃W3,W2.putObj (W0.heap.size+1) (.loop {AnyZI.apRec Tryz.sortedV_ren fn (.func (.func g) #[] lb) w.heap.size W0.heap.size .ready none with state:=.exhausted})=W3:=⟨_,rfl⟩
   rw [hW3] at hend;have hg3:W2.grownBy W3 (some (W0.heap.size+1)):=by rw [<-hW3];exact grownBy_putObj_a _ _ _
   have hv3:W3.heap[w.heap.size]? =some (.cells #[v] 43 (0,0)):=by rw [<-hW3];exact(World.putObj_heap_other oQ).trans hv
   have hK3:W3.heap[W0.heap.size]? =some (.deferred (some [])):=by rw [<-hW3];exact(World.putObj_heap_other oQ).trans h2.K
   have hrow' :W2.ownsRow w.heap.size 3 1 v ss.length (ss.map encZ):=hrow;have hrow3:=hrow'.kept hg3 (ownsRow_ne_a hrow' h2.L (fun cur e=>by cases e))
   have hb3:Below w.heap.size w W3:=h2.below.grown hg3 h2.below.size (fun k e=>by cases e;omega)
   obtain⟨hc3,hf3⟩:=cell_of_box_a hv3;clear hW3;refine⟨none,W3,hend,?_⟩
   gi_wp2
   rw [<-hs0]
   refine⟨by simp,.inl ⟨_,_,rfl,run_takeDeferred hK3,?_⟩⟩
   exact⟨_,results_tmp rfl _ _ _,v,ss,rfl,hS,hrow3.kept (grownBy_putObj_a _ _ _) (ownsRow_ne_a hrow3 hK3 (fun cur e=>by cases e)),hnil,hb3.grown (grownBy_putObj_a _ _ _) hb3.size (fun k e=>by cases e;omega)⟩
theorem qs8 (F:Fence) (n:Nat) (hF8:F.fn 53) (hF:F.fn 79) (hro:F.round=none) (hn:3<=n) (g:Nat) (lb:Array Value) (hFg:F.fn g) (eg:∀args w,(callFunc g args).run Tryz.prog w=.ok (.enter g args) w)
 (S:List Int->Prop) (N:Nat) (hN:N<=maxLen) (hNb:N*8<=140737488355328) (w:World) (hseq:qrh F (n-1-1) g lb S N w):
 CallsIn F n Tryz.prog 53 #[.func (.func g) #[] lb] w fun e w' =>∃(v:Value) (ss:List Int),e=.returned v/\S ss/\w'.ownsRow w.heap.size 3 1 v ss.length (ss.map encZ)/\(v=.slice none 0 0↔ss= [])/\Below w.heap.size w w' :=by
 have h1:1<=n:=oQ
 have e11:∀args w,(callFunc 79 args).run Tryz.prog w=.ok (.enter 79 args) w:=enters_of Tryz.func79 kr rfl
 refine callsIn_of_wp Tryz.func53 rfl hF8 ?_ hro
 simp only [Tryz.ntmps53,List.size_toArray,zax,List.length_nil,Nat.reduceAdd,Nat.reduceSub,Array.replicate_succ,Array.replicate_zero,List.push_toArray,List.append_toArray,List.nil_append,List.cons_append]
 gi_wp2_with (gi_at_call 79;refine(qpa F (n-1) hF hro oQ g lb hFg eg S N hN hNb _ hseq).mono ?_;rintro e w' ⟨v,ss,rfl,hS,hrow,hnil,hb⟩)
 go_ret;exact⟨v,ss,rfl,hS,hrow,hnil,hb⟩
def qkc (l:List Int):List Int:=l.mergeSort fun x y=>decide (x<=y)
theorem qvq (F:Fence) (n:Nat) (hF6:F.fn 29) (hF8:F.fn 53) (hF9:F.fn 54) (hF:F.fn 79) (hro:F.round=none) (hn:4<=n) (hsort:AnyZI.SortsIn Tryz.prog Tryz.sortedV_ren F (n-1)) (g:Nat) (lb:Array Value) (hFg:F.fn g) (eg:∀args w,(callFunc g args).run Tryz.prog w=.ok (.enter g args) w)
 (zs:List Int) (hz:zs.length<=1000000) (w:World) (hseq:qrh F (n-1-1-1) g lb (fun ss=>ss=zs) zs.length w):
 CallsIn F n Tryz.prog 29 #[.func (.func g) #[] lb] w fun e w' =>∃v:Value,e=.returned v/\w'.ownsRow w.heap.size 3 1 v zs.length ((qkc zs).map encZ)/\Below w.heap.size w w' :=by
 have h1:1<=n:=oQ
 have hN:zs.length<=maxLen:=by unfold maxLen;omega
 have e8:∀args w,(callFunc 53 args).run Tryz.prog w=.ok (.enter 53 args) w:=enters_of Tryz.func53 kr rfl
 have e9:∀args w,(callFunc 54 args).run Tryz.prog w=.ok (.enter 54 args) w:=enters_of Tryz.func54 kr rfl
 refine callsIn_of_wp Tryz.func29 rfl hF6 ?_ hro
 simp only [Tryz.ntmps29,List.size_toArray,zax,List.length_nil,Nat.reduceAdd,Nat.reduceSub,Array.replicate_succ,Array.replicate_zero,List.push_toArray,List.append_toArray,List.nil_append,List.cons_append]
 gi_wp2_with (gi_at_call 53;refine(qs8 F (n-1) hF8 hF hro oQ g lb hFg eg _ zs.length hN oQ _ hseq).mono ?_;rintro e W ⟨v,ss,rfl,rfl,hrow,hnil,hb⟩)
 rcases hrow.2 with ⟨rfl,hz0⟩|⟨gb,cap,cur,rfl,hbase,hgb,r1,r2,r3,r4⟩
 · have hss:ss= []:=zbx hz0
   subst hss;have hS0:∀W,CallsIn F (n-1) Tryz.prog 54 #[.slice none 0 0] W fun e w' =>e=.returned (.tuple #[])/\w' =W:=fun W=>hsort.2 none 0 W
   gi_wp2_with (gi_at_call 54;refine(hS0 W).mono ?_;rintro e w' ⟨rfl,rfl⟩)
   go_ret;exact⟨.slice none 0 0,rfl,by simpa [qkc] using hrow,hb⟩
 · have hH:Holds encZ W gb 0 ss.toArray:=holds_of_block_i hgb (by simpa using r4)
   have hgl:gb<W.heap.size:=(zqy.1 hgb).1;have hsz:ss.length<4611686018427387904:=oQ
   have cS:CallsIn F (n-1) Tryz.prog 54 #[.slice (some ⟨gb,0,none⟩) ss.length cap] W _:=hsort.1 gb 0 cap ss W hH hgl hsz
   gi_wp2_with (gi_at_call 54;refine cS.mono ?_;rintro e w' ⟨rfl,nn,os,rfl⟩)
   go_ret;exact⟨_,rfl,ownsRow_sorted_i sI hbase hgb r1 r2 r3,hb.grown (grownBy_sorted_i _) hb.size (fun j hj=>by cases hj;exact hbase)⟩
theorem q6g (m:Nat):AnyZI.SortsIn Tryz.prog Tryz.sortedV_ren Fence.wide m:=
 ⟨fun blk off cap ss W hH hblk hsz=>callsIn_wide.2 (AnyM.slices_Sort_int Tryz.sortV blk off cap ss W hH hblk hsz),
  fun p cap W=>callsIn_wide.2 (AnyM.slices_Sort_int_none Tryz.sortV p cap W)⟩
theorem qrs (base Bs:Nat) (v:Value) (zs:List Int) (hz:zs.length<=1000000) (w:World) (hrow:w.ownsRow base 3 1 v zs.length (zs.map encZ)) (hBs:Bs<w.heap.size) (h1:w.cell? ⟨Bs,0,none⟩=some v):
 C9 29 #[.func (.func 55) #[] #[.pointer (some ⟨Bs,0,none⟩)]] w fun e w' =>∃v',e=.returned v' /\w'.ownsRow w.heap.size 3 1 v' zs.length ((qkc zs).map encZ)/\Below w.heap.size w w' :=by
 refine(callsIn_wide (n:=5)).1 ?_;refine qvq Fence.wide 5 trivial trivial trivial trivial rfl oQ (q6g _) 55 #[.pointer (some ⟨Bs,0,none⟩)] trivial (enters_of Tryz.func55 kr rfl) zs hz w ?_
 rcases hrow.2 with ⟨rfl,h0⟩|⟨g,cap,cur,rfl,hbase,hg,r1,r2,r3,r4⟩
 · have hz0:zs= []:=zbx h0
   subst hz0;exact qrk Fence.wide 2 trivial rfl Bs w hBs h1
 · refine qve Fence.wide 2 trivial rfl oQ Bs g zs.length cap zs rfl hz w (zqy.1 hg).1 hBs h1 fun j z hj=> ?_
   have hjl:=(zsy.1 hj).1
   rw [hrow.cellAt j oQ,zpx,hj]
   rfl
end Go.Proofs.YtfnhnjbkkggbeaaGreat
namespace Go.Proofs.YtfnhnjbkkggbeaaGreat
open Go Go.RowKit Pg
def qhp (q:Qu) (I:List (Int×Ob)):List Int:=(I.filter fun p=>qbu p.2 q).map (·.1)
theorem qvr {l m:List Int} (hm:m.Pairwise (· <·)) (hl:l.Nodup) (h:∀x,x∈l↔x∈m):qkc l=m:=by
 have hp:(qkc l).Perm l:=List.mergeSort_perm _ _
 have hs:(qkc l).Pairwise (· <=·):=by
  have:=List.pairwise_mergeSort (le:=fun x y:Int=>decide (x<=y)) (fun a b c h1 h2=>by simp only [decide_eq_true_eq] at*;omega) (fun a b=>by simp only [Bool.or_eq_true,decide_eq_true_eq];omega) l
  exact this.imp fun h=>by simpa using h
 have hmn:m.Nodup:=hm.imp fun h=>Int.ne_of_lt h
 have hpm:(qkc l).Perm m:=hp.trans ((List.perm_ext_iff_of_nodup hl hmn).2 h);exact List.Perm.eq_of_pairwise (le:=(· <=·)) (fun a b _ _ h1 h2=>Int.le_antisymm h1 h2) hs (hm.imp fun h=>Int.le_of_lt h) hpm
theorem GAt.search_ids {C:Cl} {cl:Value} {w:World} {own imm:Nat->Prop} {tb mb:Nat} {t:Tr} {cov:List Nat->Ob->Prop} {good:List Nat->Prop} (h:GAt C cl w own imm tb mb t) (hLw:Lawful C cov good) (q:Qu) {lr:Nat} (hr:t.lv t.root=some lr):
 qkc (qcg t (fun kb=>C.cons kb q) (mtT t q) lr t.root)=qhp q (obsT t.items):=by
 have h0:∀id it,getK id t.items=some it->good it.kb/\cov it.kb it.ob:=fun id it hi=>by
  obtain⟨_,_,h2,h3⟩:=h.its id it hi
  rw [h3]
  exact(hLw.made _ h2).2
 have hmt:∀id,mtT t q id=true↔∃it,getK id t.items=some it/\qbu it.ob q=true:=fun id=>by
  unfold mtT
  cases hg:getK id t.items with
  | none=>simp
  | some it=>simp
 rw [qvv h.shape (fun l u e id hu he hid hm=>by
  obtain⟨it,hit,hmi⟩:=(hmt id).1 hm
  exact hLw.cons _ _ _ (qjv hLw h.shape h.fill h.fan4 h.keyed h0 hu he hid hit) hmi) hr]
 refine qvr ?_ (List.Nodup.sublist List.filter_sublist (h.shape.below_nodup hr)) fun id=> ?_
 · unfold qhp obsT
   refine List.Pairwise.map _ (R:=fun a b:Int×Ob=>a.1<b.1) (fun a b h=>h) (List.Pairwise.sublist List.filter_sublist ?_)
   exact List.Pairwise.map _ (fun a b h=>h) h.shape.rise
 · rw [List.mem_filter,h.shape.mem_root hr,hmt]
   unfold qhp obsT
   simp only [zty,List.mem_filter]
   constructor
   · rintro⟨⟨_,it,hit⟩,it',hit',hm⟩
     rw [hit] at hit'
     cases hit'
     exact⟨(id,it.ob),⟨⟨_,qg3 hit,rfl⟩,hm⟩,rfl⟩
   · rintro⟨⟨i,o⟩,⟨⟨⟨j,it⟩,hmem,e⟩,hm⟩,rfl⟩
     injection e with e1 e2
     subst e1 e2;have:=qfl h.shape.rise hmem;exact⟨⟨fun q=>q,it,this⟩,it,this,hm⟩
theorem qte (B n c:Nat) (A:Option Addr) (l:List Pt) (w:World) (hl:qak w B A n l) (hB:B<=w.heap.size) (hn:n<=1000000):
 C9 28 #[.slice A n c] w fun e w' =>∃v,e=.returned v/\w'.ownsRow w.heap.size 46 2 v n (qbj l)/\Below w.heap.size w w' :=by
 rcases Nat.eq_zero_or_pos n with h0|h0
 case inr=>
  refine(qnr B n c A l w hl hB h0 hn).mono ?_;rintro e w' ⟨g,c',rfl,ho,hb⟩;exact⟨_,rfl,ho,hb⟩
 subst h0;have hl0:l= []:=zbx hl.1;subst hl0;obtain⟨i0,hi,iz0,iz1,iz2⟩:=info_parts Tryz.infoPtH;have q22:∀(w:World) (a:Option Addr) (n c n' c' :Nat),(binOp .eql 24 (.slice a n c) (.slice none n' c')).run Tryz.prog w=.ok (.bool a.isNone) w:=fun w a n c n' c' =>Lib.run_eql_slice_nil w _ _ a n c n' c' Tryz.underlying24
 clear hl
 cases A with
 | none=>
   go_enter Tryz.func28,Tryz.ntmps28
   go_wp2;go_ret;exact⟨.slice none 0 0,rfl,World.ownsRow_nil _ _ _ _,bel⟩
 | some ad=>
   go_enter Tryz.func28,Tryz.ntmps28
   go_wp2_with (at_builtin;refine wpList_append_own _ rfl _ _ 24 rfl w.heap.size 46 i0 (.agg #[.int .i64 0,.int .i64 0]) 2 16 Tryz.underlying24 hi iz0 iz1 iz2 rfl dE _ _ _ rfl (World.ownsRow_made w #[] 0 (zhy _) (zly _) rfl) ad 0 c [] rfl rfl (fun j u h=>by simp at h) (fun u h=>by simp at h) dE dE ?qc6 ?_)
   case qc6=>simp
   intro v' w1 hown hgrow hnil;go_wp2;go_ret;exact⟨_,rfl,hown,((Below.refl _ w).alloc (zhy _) _).grown hgrow sI (by intro k hk;simp [Value.ownBlock] at hk;omega)⟩
theorem qrj (A:Option Addr) (n c:Nat) (w:World):C9 30 #[.slice A n c] w fun e w' =>e=.returned (.func (.func 55) #[] #[.pointer (some ⟨w.heap.size,0,none⟩)])/\Blk w' w.heap.size 43 #[.slice A n c]/\Below w.heap.size w w' :=by
 go_enter Tryz.func30,Tryz.ntmps30
 go_wp2;go_ret;exact⟨rfl,blkA,bel⟩
theorem qud {w:World} {base n:Nat} {v:Value} {l:List Pt} (h:w.ownsRow base 46 2 v n (qbj l)):∃A c,v=.slice A n c/\qak w w.heap.size A n l:=by
 rcases h.2 with ⟨rfl,h0⟩|⟨g,cap,cur,rfl,r⟩
 · have h1:=h.1
   rw [qcb] at h1;subst h0;exact⟨none,0,rfl,by omega,fun q=>absurd q oQ⟩
 · exact⟨_,_,rfl,q46 ⟨h.1,.inr ⟨g,cap,cur,rfl,r⟩⟩⟩
section
variable {own imm:Nat->Prop} {tb mb:Nat} {t:Tr}
theorem qxg {C:Cl} {ct:TypeId} {cv:Value} {fM fC fD fU fS:Nat} (hC:ClAt ct cv C fM fC fD fU fS) (w:World) (h:GAt C (.iface ct cv) w own imm tb mb t) (hcount:t.items.length<=100000) (q:Qu) (hq:ckQu q=0) (A:Option Addr) (m c:Nat) (hm:m<=1000000) (hr:qak w w.heap.size A m q.ring) {lr:Nat} (hlr:t.lv t.root=some lr):
 C9 13 #[gP tb,quV q.kind q.box A m c] w fun e w' =>∃v,e=.returned v/\w'.ownsRow w.heap.size 3 1 v (qkc (qcg t (fun kb=>C.cons kb q) (mtT t q) lr t.root)).length (idcs (qkc (qcg t (fun kb=>C.cons kb q) (mtT t q) lr t.root)))/\Below w.heap.size w w' :=by
 obtain⟨zs,hzs⟩:∃zs,qcg t (fun kb=>C.cons kb q) (mtT t q) lr t.root=zs:=⟨_,rfl⟩
 rw [hzs]
 obtain⟨S,hS⟩:∃S,qkc zs=S:=⟨_,rfl⟩
 have hzl:zs.length<=100000:=by
  have h1:=(qh3 t (fun kb=>C.cons kb q) (mtT t q) lr t.root).length_le
  have h2:=h.shape.below_len hlr;rw [hzs] at h1
  omega
 have hids:=hS;have hSl:S.length=zs.length:=by rw [<-hids];exact(List.mergeSort_perm _ _).length_eq
 rw [hS]
 have HRow:Hid ((zs.map (Value.int .i64))=idcs zs/\((qkc zs).map (Value.int .i64))=idcs S):=⟨rfl,by rw [hids];rfl⟩
 obtain⟨t0,t1,t2,t3,tlt⟩:=h.lay.c0;have HG:=hdQ (fun W (hW:Below w.heap.size w W)=>qdq (h.lay.tr hW))
 have HCQ:=hdQ (fun W (hW:Below w.heap.size w W)=>qhz w.heap.size m c q.kind q.box A q.ring W (hr.below hW) hW.size hm)
 have HCl:=hdQ (fun W (hW:Below w.heap.size w W)=>qte w.heap.size m c A q.ring W (hr.below hW) hW.size hm)
 have HSe:=hdQ (fun W (hW:Below w.heap.size w W) A' c' (hr' :qak W W.heap.size A' m q.ring)=>by
  have:=qvu hC h.shape (fun b l hb=>by have:=(h.fill b l hb (fun q=>q)).1;have:=h.fan16;omega) hcount (fun id it hi=>(h.its id it hi).1) q A' m c' hm lr t.root W hlr (h.lay.tr hW) hr'
  rw [hzs] at this
  exact this)
 have HQ0:Hid (ckQu ⟨q.kind,q.box,q.ring⟩=0):=hq;have HZL:=hdQ (And.intro hzl hSl);clear h hC hcount hq hr hzs hids hS hzl hSl hlr;obtain⟨qk,⟨⟨x0,y0⟩,x1,y1⟩,ring⟩:=q
 simp only [gP,quV] at*
 go_enter Tryz.func13,Tryz.ntmps13
 go_wp2_with (first|(go_at_call 25;(refine(HG.out _ bel).monoR ?_);rintro wp hbp hcp hfp hzp;(try simp at hzp);have hyp0:=ol1 w wp)|(go_at_call 27;go_loud ((refine(HCQ.out _ bel).mono ?_);rintro e w2 ⟨v2,rfl,hv2,hb2⟩;rw [HQ0.out] at hv2;obtain rfl:=ErrX.zero (ErrW.x hv2);clear hv2;obtain⟨hc2,hf2,hz2⟩:=bc3 hb2;(try simp at hz2)))|(go_at_call 28;(refine(HCl.out _ bel).mono ?_);rintro e w3 ⟨v3,rfl,hp3,hb3⟩;obtain⟨A3,c3,rfl,_⟩:=qud hp3;have HP3:=hdQ hp3;clear hp3;have hBx:Blk w3 w.heap.size 50 #[.int .i64 qk,.int .i64 x0,.int .i64 y0,.int .i64 x1,.int .i64 y1,.slice A m c]:=blkA;have HBX:=hdQ hBx;have k5:=hBx.cell 5;have f5:=hBx.frozen;have l5:=hBx.lt;simp only [lAq] at k5;clear hBx;have hz3:=hb3.size;(try simp at hz3)))
 have hw3:Below w.heap.size w w3:=bel;refine qdu (fun w4=>Blk w4 w.heap.size 50 #[.int .i64 qk,.int .i64 x0,.int .i64 y0,.int .i64 x1,.int .i64 y1,.slice A3 m c3]/\qak w4 w4.heap.size A3 m ring/\Below w.heap.size w w4) ⟨(HBX.out.set_ 5 _).eq_ sI,?_,hw3.setCell (p:=⟨w.heap.size,5,none⟩) (zhy _) _⟩ ?_
 · obtain⟨A',c',e,hp⟩:=qud (qam HP3.out (qcm w3 ⟨w.heap.size,5,none⟩ (.slice A3 m c3)) (fun g hg q=>by
    cases hg
    have:=(HP3.out.lt _ q).1
    simp at this
    omega))
   injection e with e1 e2 e3
   subst e1;exact hp
 clear k5 f5 l5 hb2 hz2 hb3 hz3 hw3 hc2 hf2 hcp hfp hbp hzp HBX HP3;rintro w4 ⟨hB4,hp4,hb4⟩;have HB4:=hdQ hb4;obtain⟨hc4,hf4,hz4⟩:=bc3 hb4;rw [<-hc4 tb _ tlt] at t0 t1 t2 t3;have tlt4:tb<w4.heap.size:=oQ
 obtain⟨q0,q1,q2,q3,q4,q5⟩:=ce6 hB4;have ql:=hB4.lt;have HS4:=hdQ (fun W (hW:Below w4.heap.size w4 W)=>HSe.out W (hb4.trans (hW.mono hz4)) A3 c3 ((hp4.tr hW (zhy _)).more hW.size))
 clear hc4 hf4 hB4 hp4 hb4 HSe HCl HCQ HG;go_wp2_with fail;refine qac kr kr pq ?_
 simp only [zdy,zey,ldz,lds,bare,qaj,lcz,lcs,zay]
 repeat' ((try simp only [Act.put,lsi,lsz,lss]);first|(refine lqx ?_)|(refine qab qaa rfl (fun K hK=> ?_);go_simp;((first|(go_at_call 31;(refine(HS4.out _ bel).mono ?_);rintro e w5 ⟨v5,rfl,ho5,hb5⟩;obtain⟨A5,c5,rfl,_,_,_⟩:=qaq ho5;have HO5:=hdQ ho5;clear ho5;have hz5:=hb5.size;(try simp at hz5))|(go_at_call 30;(refine(qrj _ _ _ _).mono ?_);rintro e w6 ⟨rfl,hB6,hb6⟩;have HSo:=hdQ (fun W (hW:Below w6.heap.size w6 W)=>qrs _ _ _ zs (by have:=HZL.out.1;omega) W (qam (qam HO5.out (qag bel) sI) (qag hW) sI) (hB6.tr hW).lt (by have:=(hB6.tr hW).cell 0;simpa using this));clear hB6;have hz6:=hb6.size;(try simp at hz6))|(go_at_call 29;(refine(HSo.out _ bel).mono ?_);rintro e w7 ⟨v7,rfl,ho7,hb7⟩;have HO7:=hdQ ho7;clear ho7;have hz7:=hb7.size;(try simp at hz7))|skip)<;>(refine hK.out _ _ bel ?_;clear hK K))))
 (all_goals try simp only [Act.put,lsi,lsz,lss]);all_goals(refine qad ?_)
 go_wp2_with fail;go_ret;refine⟨_,rfl,?_,HB4.out.trans ((show Below w4.heap.size w4 _ from bel).mono hz4)⟩
 have h1:=HO7.out;rw [HRow.out.2,<-HZL.out.2] at h1;exact qa5 h1 oQ
theorem qxh {C:Cl} {ct:TypeId} {cv:Value} {fM fC fD fU fS:Nat} {cov:List Nat->Ob->Prop} {good:List Nat->Prop} (hC:ClAt ct cv C fM fC fD fU fS) (hLw:Lawful C cov good) (w:World) (h:GAt C (.iface ct cv) w own imm tb mb t) (hcount:t.items.length<=100000) (q:Qu) (hq:ckQu q=0) (A:Option Addr) (m c:Nat) (hm:m<=1000000) (hr:qak w w.heap.size A m q.ring):
 C9 13 #[gP tb,quV q.kind q.box A m c] w fun e w' =>∃v,e=.returned v/\w'.ownsRow w.heap.size 3 1 v (qhp q (obsT t.items)).length (idcs (qhp q (obsT t.items)))/\Below w.heap.size w w' :=by
 obtain⟨lr,hlr⟩:=Option.isSome_iff_exists.1 h.shape.root.1;have:=qxg hC w h hcount q hq A m c hm hr hlr;rw [h.search_ids hLw q hlr] at this;exact this
end
end Go.Proofs.YtfnhnjbkkggbeaaGreat
