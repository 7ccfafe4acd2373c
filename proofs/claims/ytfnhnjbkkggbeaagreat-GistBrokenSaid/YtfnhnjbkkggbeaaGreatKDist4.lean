/-Contract of rel.Dist at polygons, and at all objects.-/
import Derived.Test.YtfnhnjbkkggbeaaGreatKSegDist
set_option linter.unusedVariables false
set_option linter.unusedSimpArgs false
set_option maxHeartbeats 4000000
set_option maxRecDepth 20000
namespace Go.Proofs.YtfnhnjbkkggbeaaGreat
open Go.RowKit Pg
theorem qv6 {w w' :World} {base:Nat} {e:TypeId} {size:Nat} {v:Value} {n:Nat} {xs:List Value} (h:w.ownsRow base e size v n xs) (hb:Below w.heap.size w w'):w'.ownsRow base e size v n xs:=by
 obtain⟨h1,h2|⟨g,cap,cur,hv,hg,hh,r⟩⟩:=h
 · exact⟨h1,.inl h2⟩
 · exact⟨h1,.inr ⟨g,cap,cur,hv,hg,(hb.block g (lt_of_block hh)).trans hh,r⟩⟩
theorem qnb {B:Nat} {L:List Nat} {a w:World} {g:Nat} {t:TypeId} {cs:Array Value} (h:Keep B L a w) (hb:Blk a g t cs) (hg:g<B\/g∈L):Blk w g t cs:=(h.block g hb.lt hg).trans hb
def qev (l:List Fr):List Value:=l.flatMap fcs
theorem qxk (l:List Fr):∀(k:Nat) (b:Fr),l[k]? =some b->(qev l)[k*3]? =(fcs b)[0]? /\(qev l)[k*3+1]? =(fcs b)[1]? /\(qev l)[k*3+2]? =(fcs b)[2]? :=by
 induction l with
 | nil=>intro k b h;simp at h
 | cons c r ih=>
   intro k b h
   cases k with
   | zero=>
     simp at h
     subst h
     simp [qev,fcs]
   | succ k=>
     have:=ih k b (by simpa using h)
     simp only [qev,zvy] at this ⊢
     rw [zdx (by simp [fcs];omega),zdx (by simp [fcs];omega),zdx (by simp [fcs];omega)]
     simp only [show (fcs c).length=3 from rfl]
     rw [show (k+1)*3-3=k*3 by omega,show (k+1)*3+1-3=k*3+1 by omega,show (k+1)*3+2-3=k*3+2 by omega]
     exact this
theorem qq0 (l:List Fr) (b:Fr):qev (l++ [b])=qev l++fcs b:=by simp [qev]
theorem qt3 {w:World} {base:Nat} {e:TypeId} {v:Value} {n:Nat} {l:List Fr} (h:w.ownsRow base e 3 v n (qev l)) (hl:l.length=n):
 ∃A c,v=.slice A n c/\qrj w w.heap.size A n l:=by
 obtain⟨h1,⟨rfl,rfl⟩|⟨g,cap,cur,rfl,hg,hh,hc⟩⟩:=h
 · exact⟨none,0,rfl,hl,fun h=>absurd h oQ⟩
 · refine⟨_,cap,rfl,hl,fun hn=>⟨g,0,rfl,lt_of_block hh,fun k p hp=> ?_⟩⟩
   have hown:w.ownsRow base e 3 (.slice (some ⟨g,0,none⟩) n cap) n (qev l):=⟨h1,.inr ⟨g,cap,cur,rfl,hg,hh,hc⟩⟩
   have hk:k<n:=by
    rw [<-hl]
    rcases zry k l.length with h|h
    · exact h
    · rw [zoy h] at hp;cases hp
   have:=qxk l k p hp
   simp only [Nat.zero_add]
   rw [hown.cellAt (k*3) oQ,hown.cellAt (k*3+1) oQ,hown.cellAt (k*3+2) oQ]
   exact this
theorem Tryz.infoDist:(Tryz.prog.info? 71).map (fun i=>(i.zero,i.size,i.bytes))=some (some (.agg #[.int .u64 0,.int .u64 0,.int .u64 0]),3,24):=by kernel_rfl
theorem qyc {w:World} {x y z:Value} {t:TypeId}:∀(j:Nat) (v:Value),[x,y,z][j]? =some v->(w.alloc (.cells #[x,y,z] t)).cell? ((⟨w.heap.size,0,none⟩:Addr).add j)=some v:=by
 intro j v hj
 match j,hj with
 | 0,hj=>simp at hj;subst hj;simp [Addr.add]
 | 1,hj=>simp at hj;subst hj;simp [Addr.add]
 | 2,hj=>simp at hj;subst hj;simp [Addr.add]
theorem qvb {x y z:Nat}:∀v∈ [Value.int .u64 x,.int .u64 y,.int .u64 z],v.oneCell' =true:=by
 intro v hv;simp only [List.mem_cons,List.not_mem_nil,or_false] at hv
 rcases hv with rfl|rfl|rfl<;>rfl
theorem qvp (l:List Pt) (p:Pt):(qg8 l p).length=l.length:=by simp [qg8]
theorem qyj {l:List Pt} {p:Pt} {k:Nat} (h:k<l.length):(qg8 l p)[k]? =some (segF (pt l k) (nx l k) p):=by
 simp [qg8,h]
theorem qvq {a b p:Pt} (oa:okPt a=true) (ob:okPt b=true) (op:okPt p=true):FrOk (segF a b p):=by
 obtain⟨p1,p2,p3,p4⟩:=qa5 oa;obtain⟨q1,q2,q3,q4⟩:=qa5 ob;obtain⟨r1,r2,r3,r4⟩:=qa5 op;have k1:=qn0 (x:=a.x-p.x) (y:=a.y-p.y) oQ oQ oQ oQ
 have k2:=qn0 (x:=b.x-p.x) (y:=b.y-p.y) oQ oQ oQ oQ
 have k3:=qn0 (x:=a.x-b.x) (y:=a.y-b.y) oQ oQ oQ oQ
 unfold segF
 rw [oa,ob,op]
 simp only [Bool.and_self,↓reduceIte]
 split
 · exact⟨by simp only;omega,by simp only;omega⟩
 · rename_i h
   split
   · exact⟨by simp only;omega,by simp only;omega⟩
   · have hb:=qkz (a:=a) (b:=b) (c:=p) (by rw [oa,ob,op];rfl)
     exact q1p (qga hb.1 hb.2) (qpt (fun e=>h (.inl e))) k3
theorem qn8 (B n c:Nat) (A:Option Addr) (l:List Pt) (x y:Int) (w:World) (hl:qal w B A n l) (hB:B<=w.heap.size) (hck:qbn l=0) (hp:okPt ⟨x,y⟩=true):
 C9 35 #[obV 4 A n c,ptV x y] w (Ret w (fV (qci ⟨4,l⟩ ⟨x,y⟩))):=by
 have hn:n<=64:=by have:=qi5 hck;rw [hl.1] at this;omega
 have hn6:n<=1000000:=oQ
 have hall:=q0u hck;have HA:=hdQ (fun w (h:qal w B A n l) (hB:B<=w.heap.size)=>qcn B n c 4 A l w h hB hn6 hck)
 have HP0:=fun w=>qay x y w
 rw [hp] at HP0;have HP:Hid (∀w,C9 32 #[ptV x y] w (Ret w .nilIface)):=HP0;have HX:Hid (∀w (h:qal w B A n l) (hB:B<=w.heap.size),C9 60 #[obV 4 A n c] w (Ret w (.tuple #[bxV 0 0 0 0,.bool false]))):=fun w h hB=>qdl B n c 4 A l w h hB (by rintro(h|h)<;>cases h) (by intro h;cases h)
 have HH:=hdQ (fun w (h:qal w B A n l) (hB:B<=w.heap.size)=>qjc B n c x y A l w h hB hn6)
 have hD:=qmd (o:=⟨4,l⟩) (p:=⟨x,y⟩) hck hp rfl
 cases hr:rhas l ⟨x,y⟩
 case true=>
  rw [hr] at HH;rw [hr,if_pos rfl] at hD
  rw [hD,qqt]
  have HO:Hid (∀w,C9 63 #[.int .i64 0] w (Ret w (.agg #[.int .u64 0,.int .u64 0,.int .u64 1]))):=fun w=>by have:=q1m w;rw [qqt] at this;exact this
  clear hr hD HP0 hall hck hp
  go_enter Tryz.func35,Tryz.ntmps35
  go_wp2_with (first|(go_at_call 59;refine(HA.out _ (hl.tr bel hB) (bsz w hB)).monoR ?_;rintro w1 hb1 hc1 hf1 hz1;(try simp at hz1);obtain⟨hy0,hy1,hy2⟩:=ol3 w w1)|(go_at_call 32;refine(HP.out _).monoR ?_;rintro w1 hb1 hc1 hf1 hz1;(try simp at hz1);obtain⟨hy0,hy1,hy2⟩:=ol3 w w1)|(go_at_call 60;refine(HX.out _ (hl.tr bel hB) (bsz w hB)).monoR ?_;rintro w1 hb1 hc1 hf1 hz1;(try simp at hz1);obtain⟨hy0,hy1,hy2⟩:=ol3 w w1)|(go_at_call 62;refine(HH.out _ (hl.tr bel hB) (bsz w hB)).monoR ?_;rintro w1 hb1 hc1 hf1 hz1;(try simp at hz1);obtain⟨hy0,hy1,hy2⟩:=ol3 w w1)|(go_at_call 63;refine(HO.out _).monoR ?_;rintro w1 hb1 hc1 hf1 hz1;(try simp at hz1);obtain⟨hy0,hy1,hy2⟩:=ol3 w w1))
  refine qaj (R:=fun w2=>Blk w2 (w.heap.size+1+1) 71 #[.int .u64 0,.int .u64 0,.int .u64 1]/\Below w.heap.size w w2) ⟨?_,bel⟩ ?_
  · repeat(first|with_reducible exact qat (x:=.int .u64 0) (y:=.int .u64 0) (z:=.int .u64 0) blkA|(with_reducible refine Blk.new ?_ rfl;focus(simp;done))|with_reducible refine Blk.alloc ?_ _|with_reducible refine Blk.drew ?_)
  rintro w2 ⟨HR,hb2⟩;obtain⟨r0,r1,r2⟩:=ce3 HR;exact bodyPost_ret (v:=.agg #[.int .u64 0,.int .u64 0,.int .u64 1]) (by simp [results,Tryz.results35,go_sem,r0,r1,r2]) rfl ⟨rfl,hb2⟩
 rw [hr] at HH;rw [hr,if_neg dE] at hD
 rw [show (⟨4,l⟩:Ob).pts=l from rfl] at hD
 have HD:=hdQ hD;have HAll:=hdQ hall;have HPp:=hdQ hp;clear hr hD HP0 hall hck hp;obtain⟨i0,hi,iz0,iz1,iz2⟩:=info_parts Tryz.infoDist
 go_enter Tryz.func35,Tryz.ntmps35
 go_wp2_with (first|(go_at_call 59;refine(HA.out _ (hl.tr bel hB) (bsz w hB)).monoR ?_;rintro wp hbp hcp hfp hzp;(try simp at hzp);obtain⟨hyp0,hyp1,hyp2⟩:=ol3 w wp)|(go_at_call 32;refine(HP.out _).monoR ?_;rintro wq hbq hcq hfq hzq;(try simp at hzq);obtain⟨hyq0,hyq1,hyq2⟩:=ol3 w wq)|(go_at_call 60;refine(HX.out _ (hl.tr bel hB) (bsz w hB)).monoR ?_;rintro wr hbr hcr hfr hzr;(try simp at hzr);obtain⟨hyr0,hyr1,hyr2⟩:=ol3 w wr)|(go_at_call 62;refine(HH.out _ (hl.tr bel hB) (bsz w hB)).monoR ?_;rintro ws hbs hcs hfs hzs;(try simp at hzs);obtain⟨hys0,hys1,hys2⟩:=ol3 w ws))
 refine qe6 (fun w2=>Below w.heap.size w w2/\Blk w2 w.heap.size 40 #[.int .i64 4,.slice A n c]/\Blk w2 (w.heap.size+1) 46 #[.int .i64 x,.int .i64 y]/\Blk w2 (w.heap.size+1+1) 71 #[.int .u64 0,.int .u64 0,.int .u64 0]) ⟨bel,blkA,blkA,blkA⟩ ?_
 clear hbp hcp hfp hzp hyp0 hyp1 hyp2 hbq hcq hfq hzq hyq0 hyq1 hyq2 hbr hcr hfr hzr hyr0 hyr1 hyr2 hbs hcs hfs hzs hys0 hys1 hys2 HA HP HX HH;rintro w0 ⟨hb0,hO,hPt,hR⟩;have HSg:=hdQ (qvp l ⟨x,y⟩)
 go_loopw [7,36] (fun s i wr=>∃k:Nat,k<=n/\i=.int .i64 k/\wr.ownsRow (w.heap.size+1+1+1) 71 3 s k (qev ((qg8 l ⟨x,y⟩).take k))/\Blk wr w.heap.size 40 #[.int .i64 4,.slice A n c]/\Blk wr (w.heap.size+1) 46 #[.int .i64 x,.int .i64 y]/\Blk wr (w.heap.size+1+1) 71 #[.int .u64 0,.int .u64 0,.int .u64 0]/\Below w.heap.size w wr) (fun _ i _=>n-(intOf i).toNat)
 case atStart=>exact ⟨0,zly _,rfl,World.ownsRow_nil _ _ _ _,hO,hPt,hR,hb0⟩
 case round=>
  clear hb0 hO hPt hR;obtain⟨k,hk,rfl,hown,hO,hPt,hR,hb⟩:=hrel;have lR:=hR.lt;have lO:=hO.lt;have lP:=hPt.lt;have hbs:=hb.size
  by_cases hlt:k<n
  · obtain⟨b,off,rfl,hab,c0,c1⟩:=(hl.below (hb.mono hB)).at_ hlt
    obtain⟨c2,c3⟩:=qwk (hl.below (hb.mono hB)) hlt;have hbw:b<wr.heap.size:=oQ
    have hbw9:b<w.heap.size+1+1+1:=oQ
    have hk0:(k:Int)<(n:Int):=oQ
    have hkl:k<l.length:=by rw [hl.1];exact hlt
    obtain⟨m,hm,hwr,htm,hml⟩:=qj1 hlt hn6;rw [hm] at c2 c3;clear hm;have hn0:¬ n=0:=oQ
    have hml0:(m:Int)<(n:Int):=oQ
    have cO:=hO.cell;have cPt:=hPt.cell;have HSD:Hid (∀w,C9 64 #[ptV (pt l k).x (pt l k).y,ptV (nx l k).x (nx l k).y,ptV x y] w (Ret w (fV (segF (pt l k) (nx l k) ⟨x,y⟩)))):=fun w=>qpz _ _ _ _ _ _ w
    have hSeg:=qyj (p:=⟨x,y⟩) hkl;obtain⟨d1,d0,dd,ed⟩:=qeu (segF (pt l k) (nx l k) ⟨x,y⟩)
    have HE:Hid (qev ((qg8 l ⟨x,y⟩).take (k+1))=qev ((qg8 l ⟨x,y⟩).take k)++ [.int .u64 d1,.int .u64 d0,.int .u64 dd]):=by
     unfold Hid
     rw [zwy,hSeg]
     show qev (_++ [_])=_
     rw [qq0,ed]
    have HSD2:Hid (∀w,C9 64 #[.agg #[.int .i64 (pt l k).x,.int .i64 (pt l k).y],.agg #[.int .i64 (nx l k).x,.int .i64 (nx l k).y],.agg #[.int .i64 x,.int .i64 y]] w (Ret w (.agg #[.int .u64 d1,.int .u64 d0,.int .u64 dd]))):=fun w=>by
     have h:=HSD.out w;rw [qbx,ed] at h;exact h
    clear HSD hSeg ed;go_wp2_with fail;refine qe5 (w.heap.size+1+1+1) [wr.heap.size] [0,1,2,3,4,5,6,7,8,9,10,11,12,13,14,15,16] kr kr pq ?_
    simp only [zdy,zey,ldz,lds,bare,qak,lcz,lcs,zay]
    repeat' ((try simp only [Act.put,lsi,lsz,lss]);first|(refine qa8 (v:= ?_) qaa rfl ?_ ?_;rotate_left;focus(intro wq hq;obtain⟨hcq,hfq⟩:=q1u hq;go_simp;try with_reducible rfl))|(refine qab qaa rfl (fun K hK=> ?_);(refine wp_append_own _ _ _ 144 rfl (w.heap.size+1+1+1) 71 i0 (.agg #[.int .u64 0,.int .u64 0,.int .u64 0]) 3 24 Tryz.underlying144 hi iz0 iz1 iz2 rfl dE _ _ _ rfl (hown5.alloc _) ⟨w5.heap.size,0,none⟩ 1 1 [.int .u64 d1,.int .u64 d0,.int .u64 dd] rfl rfl ?_ ?_ ?_ ?_ ?_ ?_);(focus(exact qyc));(focus(exact qvb));(focus(unfold maxLen;omega));(focus omega);(focus(simp;omega));intro v' w2 hown' hgrow _;have hlt' :=hown.lt;have hb2:Below w.heap.size w w2:=(Below.grown (w:=(w5.alloc (.cells #[.int .u64 d1,.int .u64 d0,.int .u64 dd] 71))) bel hgrow (by simp;omega) (fun j e=>by have:=(hlt' j e).1;omega));have hk3:Keep (w.heap.size+1+1+1) [wr.heap.size] (wr.alloc (.cells #[.int .i64 (pt l k).x,.int .i64 (pt l k).y] 46)) w2:=(Keep.grown (w:=(w5.alloc (.cells #[.int .u64 d1,.int .u64 d0,.int .u64 dd] 71))) (Keep.alloc (Keep.below (Keep.drew (Keep.refl _ _ _)) hb5) _) hgrow (fun j e=>⟨(hlt' j e).1,by have:=(hlt' j e).2;simp;omega⟩));refine hK.out _ _ (by repeat(first|with_reducible exact Keep.refl _ _ _|with_reducible assumption|with_reducible refine Keep.drew ?_|with_reducible refine Keep.alloc ?_ _|with_reducible refine Keep.below ?_ (by with_reducible assumption))) ?_;clear hK K)|(refine qab qaa rfl (fun K hK=> ?_);go_simp;((first|(go_at_call 64;refine(HSD2.out _).monoR ?_;rintro w5 hb5 hc5 hf5 hz5;(try simp at hz5);have hown5:=qv6 (qfh (hown.alloc _)) hb5)  | skip)<;>(refine hK.out _ _ (by repeat(first|with_reducible exact Keep.refl _ _ _|with_reducible assumption|with_reducible refine Keep.drew ?_|with_reducible refine Keep.alloc ?_ _|with_reducible refine Keep.below ?_ (by with_reducible assumption))) ?_;clear hK K))))
    (all_goals try simp only [Act.put,lsi,lsz,lss]);all_goals(refine qad ?_)
    have hO2:=qnb hk3 (hO.alloc _) (.inl oQ)
    have hPt2:=qnb hk3 (hPt.alloc _) (.inl oQ)
    have hR2:=qnb hk3 (hR.alloc _) (.inl oQ)
    have hown2:w2.ownsRow (w.heap.size+1+1+1) 71 3 v' (k+1) (qev ((qg8 l ⟨x,y⟩).take (k+1))):=by rw [HE.out];exact hown'
    clear hown' hgrow hown hown5 hO hPt hR hk3 hlt' hb5 hc5 hf5 hz5 c0 c1 c2 c3 cO cPt HE HSD2;go_wp2
    go_roundw
    case rel=>exact ⟨k+1,by omega,by go_num,hown2,hO2,hPt2,hR2,hb2⟩
    case measure=>simp [intOf];omega
  · have hkn:k=n:=oQ
    subst hkn;have hlen:(qg8 l ⟨x,y⟩).length=k:=HSg.out.trans hl.1;rw [zmy oQ] at hown
    obtain⟨A2,c2,rfl,hfr⟩:=qt3 hown hlen;have cO:=hO.cell;have cR:=hR.cell;have fR:=hR.frozen
    have HM:Hid (C9 65 #[.slice A2 k c2] wr (Ret wr (fV (minF (qg8 l ⟨x,y⟩))))):=
     qyt wr.heap.size k c2 A2 _ wr hfr (zhy _) hn6 (fun z hz=>by
      obtain⟨i,hi,e⟩:=qol hz
      rw [<-e]
      exact qvq (qd3 HAll.out hi) (qm2 HAll.out hi) HPp.out)
    obtain⟨d1,d0,dd,ed⟩:=qeu (minF (qg8 l ⟨x,y⟩))
    have HM2:Hid (C9 65 #[.slice A2 k c2] wr (Ret wr (.agg #[.int .u64 d1,.int .u64 d0,.int .u64 dd]))):=by
     have h:=HM.out;rw [qbx,ed] at h;exact h
    have HF:Hid (fV (qci ⟨4,l⟩ ⟨x,y⟩)=.agg #[.int .u64 d1,.int .u64 d0,.int .u64 dd]):=by unfold Hid;rw [HD.out,qbx,ed]
    clear HM ed HD hown hfr HSg
    go_wp2_with (go_at_call 65;refine HM2.out.monoR ?_;rintro w5 hb5 hc5 hf5 hz5;(try simp at hz5);have lR5:w.heap.size+1+1<w5.heap.size:=oQ)
    refine qaj (R:=fun w2=>Blk w2 (w.heap.size+1+1) 71 #[.int .u64 d1,.int .u64 d0,.int .u64 dd]/\Below w.heap.size w w2) ⟨?_,bel⟩ ?_
    · repeat(first|with_reducible exact qat (x:=.int .u64 0) (y:=.int .u64 0) (z:=.int .u64 0) blkA|(with_reducible refine Blk.new ?_ rfl;focus(simp;done))|with_reducible refine Blk.alloc ?_ _|with_reducible refine Blk.drew ?_)
    rintro w2 ⟨HR,hb2⟩;obtain⟨r0,r1,r2⟩:=ce3 HR
    rw [HF.out]
    exact bodyPost_ret (v:=.agg #[.int .u64 d1,.int .u64 d0,.int .u64 dd]) (by simp [results,Tryz.results35,go_sem,r0,r1,r2]) rfl ⟨rfl,hb2⟩
theorem qub (k:Int) (l:List Pt) (p:Pt) (h:qdj ⟨k,l⟩=true):rdV k l p=fV (qci ⟨k,l⟩ p):=by
 unfold rdV qci
 by_cases h1:ckOb ⟨k,l⟩=0/\okPt p=true
 · rw [if_pos h1,if_pos h1,if_pos h]
   unfold pdV
   rcases qjn h1.1 with ⟨_,h2⟩|⟨_,h2,_⟩
   · rw [h2,h1.2]
     rfl
   · rw [h] at h2;cases h2
 · rw [if_neg h1,if_neg h1,qbx,qe2]
theorem qha (B n c:Nat) (k:Int) (A:Option Addr) (l:List Pt) (x y:Int) (w:World) (hl:qal w B A n l) (hB:B<=w.heap.size) (hn:n<=1000000):
 C9 35 #[obV k A n c,ptV x y] w (Ret w (fV (qci ⟨k,l⟩ ⟨x,y⟩))):=by
 by_cases hk:qdj ⟨k,l⟩=true
 · rw [<-qub k l ⟨x,y⟩ hk]
   exact qp5 B n c k A l x y w hl hB hn hk
 by_cases ho:ckOb ⟨k,l⟩=0
 case neg=>
  have HF:Hid (fV (qci ⟨k,l⟩ ⟨x,y⟩)=.agg #[.int .u64 0,.int .u64 0,.int .u64 0]):=by unfold Hid qci;rw [if_neg (fun h=>ho h.1),qbx,qe2]
  have HA:=hdQ (fun w (h:qal w B A n l) (hB:B<=w.heap.size)=>qf7 B n c k A l w h hB hn ho)
  clear ho hk
  go_enter Tryz.func35,Tryz.ntmps35
  go_wp2_with (go_at_call 59;refine(HA.out _ (hl.tr bel hB) (bsz w hB)).mono ?_;rintro e w1 ⟨t1,u1,rfl,hb1⟩;obtain⟨hc1,hf1,hz1⟩:=bc3 hb1;(try simp at hz1);obtain⟨hy0,hy1,hy2⟩:=ol3 w w1)
  refine qaj (R:=fun w2=>Blk w2 (w.heap.size+1+1) 71 #[.int .u64 0,.int .u64 0,.int .u64 0]/\Below w.heap.size w w2) ⟨?_,bel⟩ ?_
  · repeat(first|with_reducible exact qat (x:=.int .u64 0) (y:=.int .u64 0) (z:=.int .u64 0) blkA|(with_reducible refine Blk.new ?_ rfl;focus(simp;done))|with_reducible refine Blk.alloc ?_ _|with_reducible refine Blk.drew ?_)
  rintro w2 ⟨HR,hb2⟩;obtain⟨r0,r1,r2⟩:=ce3 HR
  rw [HF.out]
  exact bodyPost_ret (v:=.agg #[.int .u64 0,.int .u64 0,.int .u64 0]) (by simp [results,Tryz.results35,go_sem,r0,r1,r2]) rfl ⟨rfl,hb2⟩
 have h4:k=4:=by
  rcases qjn ho with ⟨h,_⟩|⟨h,_,_⟩
  · exact absurd h hk
  · exact h
 subst h4
 cases hp:okPt ⟨x,y⟩
 case true=>exact qn8 B n c A l x y w hl hB ho hp
 have HF:Hid (fV (qci ⟨4,l⟩ ⟨x,y⟩)=.agg #[.int .u64 0,.int .u64 0,.int .u64 0]):=by unfold Hid qci;rw [if_neg (fun h=>by rw [hp] at h;cases h.2),qbx,qe2]
 have HA:=hdQ (fun w (h:qal w B A n l) (hB:B<=w.heap.size)=>qcn B n c 4 A l w h hB hn ho)
 have HP0:=fun w=>qay x y w
 rw [hp] at HP0;have HP:Hid (∀w,C9 32 #[ptV x y] w (Ret w (.iface 75 (.int .i64 2)))):=HP0;clear ho hk hp HP0
 go_enter Tryz.func35,Tryz.ntmps35
 go_wp2_with (first|(go_at_call 59;refine(HA.out _ (hl.tr bel hB) (bsz w hB)).monoR ?_;rintro w1 hb1 hc1 hf1 hz1;(try simp at hz1);obtain⟨hy0,hy1,hy2⟩:=ol3 w w1)|(go_at_call 32;refine(HP.out _).monoR ?_;rintro w1 hb1 hc1 hf1 hz1;(try simp at hz1);obtain⟨hy0,hy1,hy2⟩:=ol3 w w1))
 refine qaj (R:=fun w2=>Blk w2 (w.heap.size+1+1) 71 #[.int .u64 0,.int .u64 0,.int .u64 0]/\Below w.heap.size w w2) ⟨?_,bel⟩ ?_
 · repeat(first|with_reducible exact qat (x:=.int .u64 0) (y:=.int .u64 0) (z:=.int .u64 0) blkA|(with_reducible refine Blk.new ?_ rfl;focus(simp;done))|with_reducible refine Blk.alloc ?_ _|with_reducible refine Blk.drew ?_)
 rintro w2 ⟨HR,hb2⟩;obtain⟨r0,r1,r2⟩:=ce3 HR
 rw [HF.out]
 exact bodyPost_ret (v:=.agg #[.int .u64 0,.int .u64 0,.int .u64 0]) (by simp [results,Tryz.results35,go_sem,r0,r1,r2]) rfl ⟨rfl,hb2⟩
end Go.Proofs.YtfnhnjbkkggbeaaGreat
