/-The split's comparison: its closure's contract.-/
import Derived.Test.YtfnhnjbkkggbeaaGreatKOpcA
set_option linter.unusedVariables false
set_option linter.unusedSimpArgs false
set_option maxHeartbeats 8000000
set_option maxRecDepth 20000
namespace Go.Proofs.YtfnhnjbkkggbeaaGreat
open Go.RowKit Pg
def or3 (x y z:Int):Int:=if x=0 then(if y=0 then z else y) else x
theorem q1j (g:Nat) (t:TypeId) (x y z:Int) (w:World) (h:Blk w g t #[.int .i64 x,.int .i64 y,.int .i64 z]):
 C9 86 #[.slice (some ⟨g,0,none⟩) 3 3] w fun e w' =>e=.returned (.int .i64 (or3 x y z))/\w=w' :=by
 obtain⟨c0,c1,c2⟩:=ce3 h
 by_cases hx:x=0
 · subst hx
   by_cases hy:y=0
   · subst hy
     by_cases hz:z=0
     · subst hz
       go_enter Tryz.func86,Tryz.ntmps86
       go_wp2;refine wp_loop_rounds 4 ?_
       rw [rounds_succ]
       go_wp2
       rw [rounds_succ]
       go_wp2
       rw [rounds_succ]
       go_wp2
       rw [rounds_succ]
       go_wp2;go_ret;exact⟨by simp [or3],rfl⟩
     · have hb:(z==0)=false:=by simpa using hz
       go_enter Tryz.func86,Tryz.ntmps86
       go_wp2;refine wp_loop_rounds 3 ?_
       rw [rounds_succ]
       go_wp2
       rw [rounds_succ]
       go_wp2
       rw [rounds_succ]
       go_wp2;go_ret;exact⟨by simp [or3],rfl⟩
   · have hb:(y==0)=false:=by simpa using hy
     go_enter Tryz.func86,Tryz.ntmps86
     go_wp2;refine wp_loop_rounds 2 ?_
     rw [rounds_succ]
     go_wp2
     rw [rounds_succ]
     go_wp2;go_ret;exact⟨by simp [or3,hy],rfl⟩
 · have hb:(x==0)=false:=by simpa using hx
   go_enter Tryz.func86,Tryz.ntmps86
   go_wp2;refine wp_loop_rounds 1 ?_
   rw [rounds_succ]
   go_wp2;go_ret;exact⟨by simp [or3,hx],rfl⟩
theorem qyg {b:Bx} (h:okBx b=true\/b=qcg):(-1073741824<=b.lo.x/\b.lo.x<=1073741824)/\(-1073741824<=b.lo.y/\b.lo.y<=1073741824)/\(-1073741824<=b.hi.x/\b.hi.x<=1073741824)/\(-1073741824<=b.hi.y/\b.hi.y<=1073741824):=by
 rcases h with h|rfl
 · have hp:okPt b.lo=true/\okPt b.hi=true:=by
    unfold okBx qa4 at h
    cases h1:okPt b.lo<;>cases h2:okPt b.hi<;>simp [h1,h2] at h ⊢
   obtain⟨h1,h2⟩:=hp
   simp [okPt,farB] at h1 h2
   omega
 · decide
end Go.Proofs.YtfnhnjbkkggbeaaGreat
namespace Pg
open Go Go.RowKit
def co (b:Bx) (r:Nat):Int:=match r with|0=>b.lo.x|1=>b.lo.y|2=>b.hi.x|_=>b.hi.y
def ocl (s:Nat->Bool) (n:Nat):List Value:=(List.range n).map fun j=> .bool (s j)
theorem qwi {s:Nat->Bool} {n k:Nat} (hk:k<n):(ocl s n).toArray.setIfInBounds k (.bool true)=(ocl (fun j=>s j||decide (j=k)) n).toArray:=by
 apply Array.ext_getElem?
 intro j
 simp only [Array.getElem?_setIfInBounds,List.size_toArray,lta]
 by_cases hj:j<n
 · by_cases e:k=j
   · subst e
     simp [ocl,hj]
   · have e2:¬ j=k:=fun h=>e h.symm
     simp [ocl,hj,e,e2]
 · have e:¬ k=j:=oQ
   simp [ocl,hj,e]
theorem qzm (n:Nat):madeCells #[Value.bool false] n=(ocl (fun _=>false) n).toArray:=by
 apply Array.ext_getElem?
 intro j
 by_cases hj:j<n
 · simp [madeCells,ocl,hj,Nat.mod_one]
 · simp [madeCells,ocl,hj]
def boxK (l:List Nat):Bx:=(qbv l).getD qcg
end Pg
namespace Go.Proofs.YtfnhnjbkkggbeaaGreat
open Go.RowKit Pg
theorem Tryz.infoB:(Tryz.prog.info? 4).map (fun i=>(i.zero,i.size,i.bytes))=some (some (.bool false),1,1):=by kernel_rfl
theorem q0p (n:Nat) (hn:n<=1000000) (w:World):(Instr.makeSlice 214 (.int .i64 (n:Int)) (.int .i64 (n:Int))).run Tryz.prog w=.ok (.slice (some ⟨w.heap.size,0,none⟩) n n) (w.alloc (.cells (ocl (fun _=>false) n).toArray 4)):=by
 rw [<-qzm]
 exact run_make_row' _ _ (.bool false) 1 Tryz.underlying214 Tryz.infoB rfl .i64 .i64 n oQ oQ w
theorem qsy (l:List Nat):∃q,qdx l=.tuple #[bxV (boxK l).lo.x (boxK l).lo.y (boxK l).hi.x (boxK l).hi.y,.bool q]:=by
 unfold qdx boxK
 cases qbv l with
 | none=>exact ⟨false,rfl⟩
 | some b=>exact ⟨true,rfl⟩
theorem q2b {l:List Nat} (h:∀x∈l,x<256):okBx (boxK l)=true\/boxK l=qcg:=by
 unfold boxK
 cases e:qbv l with
 | none=>exact .inr rfl
 | some b=>exact .inl (qu6 h e).1
theorem qsu {l:List Bx} (h:∀b∈l,okBx b=true\/b=qcg) (k:Nat):(-1073741824<=(bx l k).lo.x/\(bx l k).lo.x<=1073741824)/\(-1073741824<=(bx l k).lo.y/\(bx l k).lo.y<=1073741824)/\(-1073741824<=(bx l k).hi.x/\(bx l k).hi.x<=1073741824)/\(-1073741824<=(bx l k).hi.y/\(bx l k).hi.y<=1073741824):=by
 apply qyg
 rcases zry k l.length with hk|hk
 · exact h _ (zjy (qxq hk))
 · right
   unfold bx
   rw [zpy,zoy hk]
   rfl
def cntS (l:List Bx) (i k:Nat):Nat:=(List.range k).countP fun j=>ahd l j i
theorem qxm (l:List Bx) (i k:Nat):cntS l i (k+1)=cntS l i k+(if ahd l k i then 1 else 0):=by
 unfold cntS
 rw [List.range_succ,List.countP_append]
 simp [List.countP_cons]
theorem q15 (l:List Bx) (i k:Nat):cntS l i k<=k:=by
 unfold cntS;exact zcy List.countP_le_length sI
theorem q3u (l:List Bx) (k i:Nat) {x y:Int} (hx:cX (bx l k)-(bx l i).lo.x-(bx l i).hi.x=x) (hy:cY (bx l k)-(bx l i).lo.y-(bx l i).hi.y=y):
 ahd l k i=(decide (x<0)||(decide (x=0)&&(decide (y<0)||(decide (y=0)&&decide (k<i))))):=by
 have e1:decide (cX (l.getD k qcg)<cX (l.getD i qcg))=decide (x<0):=by rw [decide_eq_decide];unfold cX bx at*;omega
 have e2:decide (cX (l.getD k qcg)=cX (l.getD i qcg))=decide (x=0):=by rw [decide_eq_decide];unfold cX bx at*;omega
 have e3:decide (cY (l.getD k qcg)<cY (l.getD i qcg))=decide (y<0):=by rw [decide_eq_decide];unfold cY bx at*;omega
 have e4:decide (cY (l.getD k qcg)=cY (l.getD i qcg))=decide (y=0):=by rw [decide_eq_decide];unfold cY bx at*;omega
 unfold ahd
 rw [e1,e2,e3,e4]
theorem qth (B n c:Nat) (A:Option Addr) (L:List (List Nat)) (w:World) (hl:qex w B A n L) (hB:B<=w.heap.size) (hn2:n<=1000000) (h256:∀l∈L,∀x∈l,x<256) (hlen:∀l∈L,l.length<=1000000):
 C9 189 #[.slice A n c] w fun e w' =>∃g,e=.returned (.slice (some ⟨g,0,none⟩) n n)/\Blk w' g 4 ((qix (L.map boxK)).map Value.bool).toArray/\Below w.heap.size w w' :=by
 have HM:=q0p n hn2;obtain⟨V,hV⟩:∃V,qix (L.map boxK)=V:=⟨_,rfl⟩
 rw [hV]
 have HV:=hdQ hV;have hLn:=hl.1;have HL:=hdQ hl;have H256:=hdQ h256;have HLN:=hdQ hlen;obtain⟨i0,hi,iz0,iz1,iz2⟩:=info_parts Tryz.infoBox;clear hV hl h256 hlen
 go_enter Tryz.func189,Tryz.ntmps189
 go_wp2_with fail
 go_loopw [3,4] (fun vl vi wr=>∃(k:Nat),k<=n/\vi=.int .i64 k/\wr.ownsRow w.heap.size 48 4 vl k (qct ((L.take k).map boxK))/\Below w.heap.size w wr) (fun _ vi _=>n-(intOf vi).toNat)
 case atStart=>exact ⟨0,by omega,rfl,World.ownsRow_nil _ _ _ _,bel⟩
 case round=>
  obtain⟨k,hk,rfl,hown,hb⟩:=hrel
  by_cases hlt:k<n
  · obtain⟨b,off,A',n',c',rfl,hab,hcell,hby,he,hz,hnc⟩:=(HL.out.below (hb.mono hB)).at_ hlt
    have hmem:L.getD k []∈L:=zjy he;have hn' :n' <=1000000:=by rw [<-hby.1];exact HLN.out _ hmem
    obtain⟨q,hq⟩:=qsy (L.getD k [])
    have hst:(L.take (k+1)).map boxK=(L.take k).map boxK++ [boxK (L.getD k [])]:=by
     rw [zwy,he]
     simp
    obtain⟨p,hp⟩:∃p,boxK (L.getD k [])=p:=⟨_,rfl⟩;rw [hp] at hq hst;have hBw:B<=wr.heap.size:=zcy hB hb.size
    have HU:Hid (∀w',Below wr.heap.size wr w' ->C9 191 #[.slice A' n' c'] w' (Ret w' (.tuple #[bxV p.lo.x p.lo.y p.hi.x p.hi.y,.bool q]))):=fun w' h=>by
     have h2:=qed B n' c' A' (L.getD k []) w' (hby.tr h hBw) (H256.out _ hmem) (zcy hBw h.size) hn' hnc hz;rw [hq] at h2;exact h2
    have hbw:b<wr.heap.size:=oQ
    have hk0:(k:Int)<(n:Int):=oQ
    clear hp hq hby he hmem
    go_wp2_with (first|(go_at_call 191;(with_reducible refine(HU.out _ bel).monoR ?_);rintro w1 hb1 hc1 hf1 hz1;(try simp at hz1))|(at_builtin;go_must (refine wpList_append_own _ rfl _ _ 202 rfl w.heap.size 48 i0 (.agg #[.int .i64 0,.int .i64 0,.int .i64 0,.int .i64 0]) 4 32 Tryz.underlying202 hi iz0 iz1 iz2 rfl dE _ _ _ rfl (qcw hown bel) ⟨w1.heap.size+1,0,none⟩ 1 1 [.int .i64 p.lo.x,.int .i64 p.lo.y,.int .i64 p.hi.x,.int .i64 p.hi.y] rfl rfl ?c1 ?c2 ?c3 ?c4 ?c5 ?_)))
    case c1=>
     intro j u hj
     match j,hj with
     | 0,hj=>simp at hj;subst hj;simp [Addr.add]
     | 1,hj=>simp at hj;subst hj;simp [Addr.add]
     | 2,hj=>simp at hj;subst hj;simp [Addr.add]
     | 3,hj=>simp at hj;subst hj;simp [Addr.add]
    case c2=>intro u hu;simp only [List.mem_cons,List.not_mem_nil,or_false] at hu;rcases hu with rfl|rfl|rfl|rfl<;>rfl
    case c3=>unfold maxLen;omega
    case c4=>omega
    case c5=>have:=hb.size;simp;omega
    intro v' w2 hown' hgrow _;have hlt' :=hown.lt;have hb2:Below w.heap.size w w2:=Below.grown (w:=_) bel hgrow (by have:=hb.size;simp;omega) (fun j e=>by have:=(hlt' j e).1;omega)
    have hown2:w2.ownsRow w.heap.size 48 4 v' (k+1) (qct ((L.take (k+1)).map boxK)):=by
     rw [hst,qfz,List.map_take]
     exact hown'
    clear hown' hgrow hown hlt';go_wp2
    go_roundw
    case rel=>exact ⟨k+1,by omega,by go_num,hown2,hb2⟩
    case measure=>simp [intOf];omega
  · obtain rfl:n=k:=oQ
    rw [zmy oQ] at hown
    have hLn2:(L.map boxK).length=n:=by simp [hLn]
    obtain⟨A2,c2,rfl,hbx⟩:=qgw hown hLn2
    have hokL:∀b∈L.map boxK,okBx b=true\/b=qcg:=fun b hb=>by
     obtain⟨r,hr,rfl⟩:=zty.1 hb;exact q2b (H256.out r hr)
    have HBX:=hdQ hbx;have HOK:=hdQ hokL;clear hlt hk HL H256 HLN hLn hown hokL hbx;generalize L.map boxK=l at*;obtain⟨m2,hm2⟩:∃m,n/2=m:=⟨_,rfl⟩;obtain⟨h2,hh2⟩:∃m,n-m2=m:=⟨_,rfl⟩;obtain⟨G,hG⟩:∃G,wr.heap.size=G:=⟨_,rfl⟩;rw [hG] at HBX;have q1:(n:Int).tdiv 2=(m2:Int):=by rw [<-hm2];rfl
    have q2:(n:Int)/2=(m2:Int):=oQ
    have q3:(n:Int)-(m2:Int)=(h2:Int):=oQ
    have q4:IntKind.i64.wrap (m2:Int)=m2:=by simp [IntKind.wrap,IntKind.bits,IntKind.signed];omega
    have q5:IntKind.i64.wrap (h2:Int)=h2:=by simp [IntKind.wrap,IntKind.bits,IntKind.signed];omega
    have HQ:=hdQ (show h2=l.length-l.length/2 by rw [hLn2];omega)
    have hbG:=hb.size;rw [hG] at hbG;go_wp2_with fail
    try rw [hG]
    go_loopw [8] (fun vi w3=>∃i:Nat,i<=n/\vi=.int .i64 i/\Blk w3 G 4 (ocl (fun j=>decide (j<i)&&decide (h2<=rank l j)) n).toArray/\qhj w3 G A2 n l/\Below w.heap.size w w3) (fun vi _=>n-(intOf vi).toNat)
    case atStart=>
     subst hG;exact⟨0,by omega,rfl,by simpa using (Blk.new rfl rfl),HBX.out.below bel,bel⟩
    case round=>
     clear hG HBX hb hm2 hh2;obtain⟨i,hi0,rfl,hO,hX,hbb⟩:=hrel
     by_cases hlt:i<n
     case neg=>
      obtain rfl:n=i:=oQ
      have eo:ocl (fun j=>decide (j<n)&&decide (h2<=rank l j)) n=V.map Value.bool:=by
       rw [<-HV.out]
       unfold ocl qix
       rw [hLn2,List.map_map]
       apply List.map_congr_left
       intro j hj;have hj2:=List.mem_range.1 hj
       simp only [Function.comp,hj2,decide_true,Bool.true_and]
       rw [HQ.out,hLn2]
      rw [eo] at hO;clear hX;go_wp2_with fail;go_ret;exact⟨_,rfl,hO,hbb⟩
     have hi1:(i:Int)<(n:Int):=oQ
     go_wp2_with fail
     go_loopw [9,10] (fun vn vk w4=>∃k:Nat,k<=n/\vk=.int .i64 k/\vn=.int .i64 (cntS l i k:Nat)/\Blk w4 G 4 (ocl (fun j=>decide (j<i)&&decide (h2<=rank l j)) n).toArray/\qhj w4 G A2 n l/\Below w.heap.size w w4) (fun _ vk _=>n-(intOf vk).toNat)
     case atStart=>exact ⟨0,by omega,rfl,rfl,hO,hX,hbb⟩
     case round=>
      clear hO hX hbb;obtain⟨k,hk,rfl,rfl,hO,hX,hbb⟩:=hrel;have hcl:=q15 l i k
      by_cases hlt2:k<n
      case neg=>
       obtain rfl:n=k:=oQ
       have hr:cntS l i n=rank l i:=by unfold cntS rank;rw [hLn2]
       rw [hr] at hcl;have fO:=hO.frozen;have lO:=hO.lt
       have cO:wr.cell? ⟨G,i,none⟩=some (.bool false):=by
        rw [hO.cell,lta]
        simp [ocl,hlt]
       have hO7:=(hO.set_ i (.bool (decide (h2<=rank l i))))
       have es:((ocl (fun j=>decide (j<i)&&decide (h2<=rank l j)) n).toArray.setIfInBounds i (.bool (decide (h2<=rank l i))))=(ocl (fun j=>decide (j<i+1)&&decide (h2<=rank l j)) n).toArray:=by
        apply Array.ext'
        simp only [lsi]
        apply List.ext_getElem
        · simp [ocl]
        · intro j h1 h3
          rw [List.getElem_set]
          simp only [ocl,List.getElem_map,List.getElem_range]
          split
          · rename_i e
            subst e
            simp
          · rename_i e
            congr 2
            rw [decide_eq_decide]
            omega
       rw [es] at hO7
       rw [hr]
       obtain⟨rk,hrk⟩:∃x,rank l i=x:=⟨_,rfl⟩
       rw [hrk] at hO7 hcl ⊢
       have HX:=hdQ hX;have HO7:=hdQ hO7;have hge:decide ((h2:Int)<=(rk:Int))=decide (h2<=rk):=by rw [decide_eq_decide];omega
       clear hX hO hO7 es hr hrk;go_wp2_with fail
       go_roundw
       case rel=>exact ⟨i+1,by omega,by go_num,HO7.out,HX.out.below bel,hbb.setCell (by simp;omega) _⟩
       case measure=>simp [intOf];omega
      have hk1:(k:Int)<(n:Int):=oQ
      obtain⟨b,off,rfl,hab,a0,a1,a2,a3⟩:=hX.at_ hlt;obtain⟨b',off',eb,_,d0,d1,d2,d3⟩:=hX.at_ hlt2;injection eb with eb
      injection eb with e1 e2
      subst e1 e2;have x1:=qsu HOK.out i;have x2:=qsu HOK.out k;obtain⟨x,hx⟩:∃x,cX (bx l k)-(bx l i).lo.x-(bx l i).hi.x=x:=⟨_,rfl⟩;obtain⟨y,hy⟩:∃x,cY (bx l k)-(bx l i).lo.y-(bx l i).hi.y=x:=⟨_,rfl⟩;have hah:=q3u l k i hx hy;have hcs:=qxm l i k;unfold cX at hx;unfold cY at hy;generalize bx l k=p at*;generalize bx l i=q at*;have w1:IntKind.i64.wrap (p.lo.x+p.hi.x)=p.lo.x+p.hi.x:=by rw [IntKind.wrap_i64];omega
      have w2:IntKind.i64.wrap (p.lo.x+p.hi.x-q.lo.x)=p.lo.x+p.hi.x-q.lo.x:=by rw [IntKind.wrap_i64];omega
      have w3:IntKind.i64.wrap (p.lo.x+p.hi.x-q.lo.x-q.hi.x)=x:=by rw [IntKind.wrap_i64];omega
      have y1:IntKind.i64.wrap (p.lo.y+p.hi.y)=p.lo.y+p.hi.y:=by rw [IntKind.wrap_i64];omega
      have y2:IntKind.i64.wrap (p.lo.y+p.hi.y-q.lo.y)=p.lo.y+p.hi.y-q.lo.y:=by rw [IntKind.wrap_i64];omega
      have y3:IntKind.i64.wrap (p.lo.y+p.hi.y-q.lo.y-q.hi.y)=y:=by rw [IntKind.wrap_i64];omega
      obtain⟨m,hm⟩:∃m,cntS l i k=m:=⟨_,rfl⟩
      rw [hm] at hcl hcs ⊢
      have HCS:=hdQ hcs;have HAH:=hdQ hah;clear hcs hah hx hy x1 x2 hm;have lO:=hO.lt;have hbz:=hbb.size;have hbw:b<wr.heap.size:=oQ
      have HXX:=hdQ hX;have HOO:=hdQ hO;clear hX hO;go_wp2_with fail
      have HY:Hid (∀w5,Below wr.heap.size wr w5->w5.cell? ⟨b,off+k*4+1,none⟩=some (.int .i64 p.lo.y)/\w5.cell? ⟨b,off+k*4+3,none⟩=some (.int .i64 p.hi.y)/\w5.cell? ⟨b,off+i*4+1,none⟩=some (.int .i64 q.lo.y)/\w5.cell? ⟨b,off+i*4+3,none⟩=some (.int .i64 q.hi.y)):=
       fun w5 h=>⟨(h.cell (p:=⟨b,_,none⟩) hbw).trans d1,(h.cell (p:=⟨b,_,none⟩) hbw).trans d3,(h.cell (p:=⟨b,_,none⟩) hbw).trans a1,(h.cell (p:=⟨b,_,none⟩) hbw).trans a3⟩
      refine qac kr kr pq ?_
      simp only [zdy,zey,ldz,lds,bare,qak,lcz,lcs,zay]
      repeat' ((try simp only [Act.put,lsi,lsz,lss]);first|(refine lqx ?_)|(refine qab qaa rfl (fun K hK=> ?_);go_simp;((first|fail|skip)<;>(refine hK.out _ _ bel ?_;clear hK K))))
      (all_goals try simp only [Act.put,lsi,lsz,lss]);all_goals(refine qad ?_)
      refine qbt (R:=fun w5=>Below wr.heap.size wr w5) bel ?_
      intro w5 hb5;obtain⟨f1,f2,f3,f4⟩:=HY.out w5 hb5;have hbw5:b<w5.heap.size:=by have:=hb5.size;omega
      clear HY a0 a1 a2 a3 d0 d1 d2 d3;go_wp2_with fail;refine qac kr kr pq ?_
      simp only [zdy,zey,ldz,lds,bare,qak,lcz,lcs,zay]
      repeat' ((try simp only [Act.put,lsi,lsz,lss]);first|(refine lqx ?_)|(refine qab qaa rfl (fun K hK=> ?_);go_simp;((first|fail|skip)<;>(refine hK.out _ _ bel ?_;clear hK K))))
      (all_goals try simp only [Act.put,lsi,lsz,lss]);all_goals(refine qad ?_)
      have lG5:G<=wr.heap.size:=oQ
      rcases Int.lt_trichotomy x 0 with hx|hx|hx
      · have hx1:decide (x<0)=true:=decide_eq_true hx
        have HC:Hid (cntS l i (k+1)=m+1):=by unfold Hid;rw [HCS.out,HAH.out];simp [hx1]
        go_wp2_with fail
        go_roundw
        case rel=>exact ⟨k+1,by omega,by go_num,by rw [HC.out];go_num,HOO.out.tr bel,HXX.out.below (Below.mono (B:=wr.heap.size) bel oQ),bel⟩
        case measure=>simp [intOf];omega
      · have hx1:decide (x<0)=false:=decide_eq_false oQ
        have hx2:decide (x=0)=true:=decide_eq_true hx;have hx3:(x==0)=true:=by rw [beq_iff_eq];exact hx
        have hx4:¬ x<0:=oQ
        clear hx
        rcases Int.lt_trichotomy y 0 with hy|hy|hy
        · have hy1:decide (y<0)=true:=decide_eq_true hy
          have HC:Hid (cntS l i (k+1)=m+1):=by unfold Hid;rw [HCS.out,HAH.out];simp [hx1,hx2,hy1]
          go_wp2_with fail
          go_roundw
          case rel=>exact ⟨k+1,by omega,by go_num,by rw [HC.out];go_num,HOO.out.tr bel,HXX.out.below (Below.mono (B:=wr.heap.size) bel oQ),bel⟩
          case measure=>simp [intOf];omega
        · have hy1:decide (y<0)=false:=decide_eq_false oQ
          have hy2:decide (y=0)=true:=decide_eq_true hy;have hy3:(y==0)=true:=by rw [beq_iff_eq];exact hy
          have hy4:¬ y<0:=oQ
          clear hy
          by_cases hki:k<i
          · have hki2:(k:Int)<(i:Int):=oQ
            have hk3:decide (k<i)=true:=decide_eq_true hki;have HC:Hid (cntS l i (k+1)=m+1):=by unfold Hid;rw [HCS.out,HAH.out];simp [hx1,hx2,hy1,hy2,hk3]
            go_wp2_with fail
            go_roundw
            case rel=>exact ⟨k+1,by omega,by go_num,by rw [HC.out];go_num,HOO.out.tr bel,HXX.out.below (Below.mono (B:=wr.heap.size) bel oQ),bel⟩
            case measure=>simp [intOf];omega
          · have hki2:¬ (k:Int)<(i:Int):=oQ
            have hk3:decide (k<i)=false:=decide_eq_false hki;have HC:Hid (cntS l i (k+1)=m):=by unfold Hid;rw [HCS.out,HAH.out];simp [hx1,hx2,hy1,hy2,hk3]
            go_wp2_with fail
            go_roundw
            case rel=>exact ⟨k+1,by omega,by go_num,by rw [HC.out],HOO.out.tr bel,HXX.out.below (Below.mono (B:=wr.heap.size) bel oQ),bel⟩
            case measure=>simp [intOf];omega
        · have hy1:decide (y<0)=false:=decide_eq_false oQ
          have hy2:decide (y=0)=false:=decide_eq_false oQ
          have hy3:(y==0)=false:=by rw [beq_eq_false_iff_ne];omega
          have hy4:¬ y<0:=oQ
          clear hy;have HC:Hid (cntS l i (k+1)=m):=by unfold Hid;rw [HCS.out,HAH.out];simp [hx1,hx2,hy1,hy2]
          go_wp2_with fail
          go_roundw
          case rel=>exact ⟨k+1,by omega,by go_num,by rw [HC.out],HOO.out.tr bel,HXX.out.below (Below.mono (B:=wr.heap.size) bel oQ),bel⟩
          case measure=>simp [intOf];omega
      · have hx1:decide (x<0)=false:=decide_eq_false oQ
        have hx2:decide (x=0)=false:=decide_eq_false oQ
        have hx3:(x==0)=false:=by rw [beq_eq_false_iff_ne];omega
        have hx4:¬ x<0:=oQ
        clear hx;have HC:Hid (cntS l i (k+1)=m):=by unfold Hid;rw [HCS.out,HAH.out];simp [hx1,hx2]
        go_wp2_with fail
        go_roundw
        case rel=>exact ⟨k+1,by omega,by go_num,by rw [HC.out],HOO.out.tr bel,HXX.out.below (Below.mono (B:=wr.heap.size) bel oQ),bel⟩
        case measure=>simp [intOf];omega
end Go.Proofs.YtfnhnjbkkggbeaaGreat
