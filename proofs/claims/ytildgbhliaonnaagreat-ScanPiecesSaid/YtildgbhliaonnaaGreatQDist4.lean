/-
  Contract of rel.Dist at polygons, and at all objects.
-/
import Derived.Test.YtildgbhliaonnaaGreatQSegDist
import Derived.Test.YtildgbhliaonnaaGreatQDist2
import Derived.Test.YtildgbhliaonnaaGreatQLex
import Derived.Test.YtildgbhliaonnaaGreatQPlainSplit
import Derived.Test.YtildgbhliaonnaaGreatQRel1
set_option linter.unusedVariables false
set_option linter.unusedSimpArgs false
set_option maxHeartbeats 4000000
set_option maxRecDepth 20000
namespace Go.Proofs.YtildgbhliaonnaaGreat
open Go.RowKit Pg
theorem own_below {w w' : World} {base : Nat} {e : TypeId} {size : Nat} {v : Value} {n : Nat} {xs : List Value} (h : w.ownsRow base e size v n xs) (hb : Below w.heap.size w w') : w'.ownsRow base e size v n xs := by
 obtain ⟨h1,h2 | ⟨g,cap,cur,hv,hg,hh,r⟩⟩ := h
 · exact ⟨h1,.inl h2⟩
 · exact ⟨h1,.inr ⟨g,cap,cur,hv,hg,(hb.block g (lt_of_block hh)).trans hh,r⟩⟩
theorem keep_blk {B : Nat} {L : List Nat} {a w : World} {g : Nat} {t : TypeId} {cs : Array Value} (h : Keep B L a w) (hb : Blk a g t cs) (hg : g < B ∨ g ∈ L) : Blk w g t cs := (h.block g hb.lt hg).trans hb
def dcells (l : List Fr) : List Value := l.flatMap fcs
theorem dcells_at (l : List Fr) : ∀ (k : Nat) (b : Fr),l[k]? = some b → (dcells l)[k * 3]? = (fcs b)[0]? ∧ (dcells l)[k * 3 + 1]? = (fcs b)[1]? ∧ (dcells l)[k * 3 + 2]? = (fcs b)[2]? := by
 induction l with
 | nil => intro k b h;simp at h
 | cons c r ih =>
   intro k b h
   cases k with
   | zero =>
     simp at h
     subst h
     simp [dcells, fcs]
   | succ k =>
     have := ih k b (by simpa using h)
     simp only [dcells, List.flatMap_cons] at this ⊢
     rw [List.getElem?_append_right (by simp [fcs];omega),List.getElem?_append_right (by simp [fcs];omega),List.getElem?_append_right (by simp [fcs];omega)]
     simp only [show (fcs c).length = 3 from rfl]
     rw [show (k + 1) * 3 - 3 = k * 3 by omega, show (k + 1) * 3 + 1 - 3 = k * 3 + 1 by omega, show (k + 1) * 3 + 2 - 3 = k * 3 + 2 by omega]
     exact this
theorem dcells_snoc (l : List Fr) (b : Fr) : dcells (l ++ [b]) = dcells l ++ fcs b := by simp [dcells]
theorem frs_of_own {w : World} {base : Nat} {e : TypeId} {v : Value} {n : Nat} {l : List Fr} (h : w.ownsRow base e 3 v n (dcells l)) (hl : l.length = n) :
 ∃ A c,v = .slice A n c ∧ FrsAt w w.heap.size A n l := by
 obtain ⟨h1,⟨rfl,rfl⟩ | ⟨g,cap,cur,rfl,hg,hh,hc⟩⟩ := h
 · exact ⟨none,0,rfl,hl,fun h => absurd h (by omega)⟩
 · refine ⟨_,cap,rfl,hl,fun hn => ⟨g,0,rfl,lt_of_block hh,fun k p hp => ?_⟩⟩
   have hown : w.ownsRow base e 3 (.slice (some ⟨g,0,none⟩) n cap) n (dcells l) := ⟨h1,.inr ⟨g,cap,cur,rfl,hg,hh,hc⟩⟩
   have hk : k < n := by
    rw [← hl]
    rcases Nat.lt_or_ge k l.length with h | h
    · exact h
    · rw [List.getElem?_eq_none h] at hp;cases hp
   have := dcells_at l k p hp
   simp only [Nat.zero_add]
   rw [hown.cellAt (k * 3) (by omega), hown.cellAt (k * 3 + 1) (by omega), hown.cellAt (k * 3 + 2) (by omega)]
   exact this
theorem Tryz.infoDist : (Tryz.prog.info? 58).map (fun i => (i.zero,i.size,i.bytes)) = some (some (.agg #[.int .u64 0,.int .u64 0,.int .u64 0]),3,24) := by kernel_rfl
theorem three_at {w : World} {x y z : Value} {t : TypeId} : ∀ (j : Nat) (v : Value),[x,y,z][j]? = some v → (w.alloc (.cells #[x,y,z] t)).cell? ((⟨w.heap.size,0,none⟩ : Addr).add j) = some v := by
 intro j v hj
 match j,hj with
 | 0,hj => simp at hj;subst hj;simp [Addr.add]
 | 1,hj => simp at hj;subst hj;simp [Addr.add]
 | 2,hj => simp at hj;subst hj;simp [Addr.add]
theorem three_one {x y z : Nat} : ∀ v ∈ [Value.int .u64 x,.int .u64 y,.int .u64 z],v.oneCell' = true := by
 intro v hv;simp only [List.mem_cons,List.not_mem_nil,or_false] at hv
 rcases hv with rfl | rfl | rfl <;> rfl
theorem segsF_len (l : List Pt) (p : Pt) : (segsF l p).length = l.length := by simp [segsF]
theorem segsF_at {l : List Pt} {p : Pt} {k : Nat} (h : k < l.length) : (segsF l p)[k]? = some (segF (pt l k) (nx l k) p) := by
 simp [segsF,h]
theorem segF_ok {a b p : Pt} (oa : okPt a = true) (ob : okPt b = true) (op : okPt p = true) : FrOk (segF a b p) := by
 obtain ⟨p1,p2,p3,p4⟩ := okPt_range oa;obtain ⟨q1,q2,q3,q4⟩ := okPt_range ob;obtain ⟨r1,r2,r3,r4⟩ := okPt_range op;have k1 := sqs_lt (x := a.x - p.x) (y := a.y - p.y) (by omega) (by omega) (by omega) (by omega)
 have k2 := sqs_lt (x := b.x - p.x) (y := b.y - p.y) (by omega) (by omega) (by omega) (by omega)
 have k3 := sqs_lt (x := a.x - b.x) (y := a.y - b.y) (by omega) (by omega) (by omega) (by omega)
 unfold segF
 rw [oa,ob,op]
 simp only [Bool.and_self,↓reduceIte]
 split
 · exact ⟨by simp only;omega,by simp only;omega⟩
 · rename_i h
   split
   · exact ⟨by simp only;omega,by simp only;omega⟩
   · have hb := crossR_bd (a := a) (b := b) (c := p) (by rw [oa,ob,op];rfl)
     exact lowF_lt (natAbs_sq_lt hb.1 hb.2) (sqs_pos (fun e => h (.inl e))) k3
theorem relDist_poly (B n c : Nat) (A : Option Addr) (l : List Pt) (x y : Int) (w : World) (hl : PtsAt w B A n l) (hB : B ≤ w.heap.size) (hck : ckRing l = 0) (hp : okPt ⟨x,y⟩ = true) :
 Calls Tryz.prog 43 #[obV 4 A n c,ptV x y] w (Ret w (fV (distF ⟨4,l⟩ ⟨x,y⟩))) := by
 have hn : n ≤ 64 := by have := ck_len hck;rw [hl.1] at this;omega
 have hn6 : n ≤ 1000000 := by omega
 have hall := ck_all hck;have HA := Lib.hid (fun w (h : PtsAt w B A n l) (hB : B ≤ w.heap.size) => relcheck_ok B n c 4 A l w h hB hn6 hck)
 have HP0 := fun w => checkPoint_any x y w
 rw [hp] at HP0;have HP : Hid (∀ w,Calls Tryz.prog 25 #[ptV x y] w (Ret w .nilIface)) := HP0;have HX : Hid (∀ w (h : PtsAt w B A n l) (hB : B ≤ w.heap.size),Calls Tryz.prog 69 #[obV 4 A n c] w (Ret w (.tuple #[bxV 0 0 0 0,.bool false]))) := fun w h hB => box_any B n c 4 A l w h hB (by rintro (h | h) <;> cases h) (by intro h;cases h)
 have HH := Lib.hid (fun w (h : PtsAt w B A n l) (hB : B ≤ w.heap.size) => rhas_any B n c x y A l w h hB hn6)
 have hD := distF_poly (o := ⟨4,l⟩) (p := ⟨x,y⟩) hck hp rfl
 cases hr : rhas l ⟨x,y⟩
 case true =>
  rw [hr] at HH;rw [hr,if_pos rfl] at hD
  rw [hD, fV_zero]
  have HO : Hid (∀ w,Calls Tryz.prog 72 #[.int .i64 0] w (Ret w (.agg #[.int .u64 0,.int .u64 0,.int .u64 1]))) := fun w => by have := of_zero w;rw [fV_zero] at this;exact this
  clear hr hD HP0 hall hck hp
  go_enter Tryz.func43, Tryz.ntmps43
  go_wp2_with (first | (go_at_call 68;refine (HA.out _ (hl.tr bel hB) (Nat.le_trans hB (Below.size (B := w.heap.size) (w := w) bel))).mono ?_;rintro e w1 ⟨rfl,hb1⟩;obtain ⟨hc1,hf1⟩ := bcell hb1;have hz1 := hb1.size;(try simp at hz1);have hy0 : w.heap.size < w1.heap.size := (by omega);have hy1 : w.heap.size + 1 < w1.heap.size := (by omega);have hy2 : w.heap.size + 1 + 1 < w1.heap.size := (by omega)) | (go_at_call 25;refine (HP.out _).mono ?_;rintro e w1 ⟨rfl,hb1⟩;obtain ⟨hc1,hf1⟩ := bcell hb1;have hz1 := hb1.size;(try simp at hz1);have hy0 : w.heap.size < w1.heap.size := (by omega);have hy1 : w.heap.size + 1 < w1.heap.size := (by omega);have hy2 : w.heap.size + 1 + 1 < w1.heap.size := (by omega)) | (go_at_call 69;refine (HX.out _ (hl.tr bel hB) (Nat.le_trans hB (Below.size (B := w.heap.size) (w := w) bel))).mono ?_;rintro e w1 ⟨rfl,hb1⟩;obtain ⟨hc1,hf1⟩ := bcell hb1;have hz1 := hb1.size;(try simp at hz1);have hy0 : w.heap.size < w1.heap.size := (by omega);have hy1 : w.heap.size + 1 < w1.heap.size := (by omega);have hy2 : w.heap.size + 1 + 1 < w1.heap.size := (by omega)) | (go_at_call 71;refine (HH.out _ (hl.tr bel hB) (Nat.le_trans hB (Below.size (B := w.heap.size) (w := w) bel))).mono ?_;rintro e w1 ⟨rfl,hb1⟩;obtain ⟨hc1,hf1⟩ := bcell hb1;have hz1 := hb1.size;(try simp at hz1);have hy0 : w.heap.size < w1.heap.size := (by omega);have hy1 : w.heap.size + 1 < w1.heap.size := (by omega);have hy2 : w.heap.size + 1 + 1 < w1.heap.size := (by omega)) | (go_at_call 72;refine (HO.out _).mono ?_;rintro e w1 ⟨rfl,hb1⟩;obtain ⟨hc1,hf1⟩ := bcell hb1;have hz1 := hb1.size;(try simp at hz1);have hy0 : w.heap.size < w1.heap.size := (by omega);have hy1 : w.heap.size + 1 < w1.heap.size := (by omega);have hy2 : w.heap.size + 1 + 1 < w1.heap.size := (by omega)))
  refine post_gen2 (R := fun w2 => Blk w2 (w.heap.size + 1 + 1) 58 #[.int .u64 0,.int .u64 0,.int .u64 1] ∧ Below w.heap.size w w2) ⟨?_,bel⟩ ?_
  · repeat (first | with_reducible exact three_put (x := .int .u64 0) (y := .int .u64 0) (z := .int .u64 0) blkA | (with_reducible refine Blk.new ?_ rfl;focus (simp;done)) | with_reducible refine Blk.alloc ?_ _ | with_reducible refine Blk.drew ?_)
  rintro w2 ⟨HR,hb2⟩;have r0 := HR.cell 0;have r1 := HR.cell 1;have r2 := HR.cell 2;simp only [lta,lcz,lcs] at r0 r1 r2;exact bodyPost_ret (v := .agg #[.int .u64 0,.int .u64 0,.int .u64 1]) (by simp [results,Tryz.results43,go_sem,r0,r1,r2]) rfl ⟨rfl,hb2⟩
 rw [hr] at HH;rw [hr,if_neg (by decide)] at hD
 rw [show (⟨4,l⟩ : Ob).pts = l from rfl] at hD
 have HD := Lib.hid hD;have HAll := Lib.hid hall;have HPp := Lib.hid hp;clear hr hD HP0 hall hck hp;obtain ⟨i0,hi,iz0,iz1,iz2⟩ := info_parts Tryz.infoDist
 go_enter Tryz.func43,Tryz.ntmps43
 go_wp2_with (first | (go_at_call 68;refine (HA.out _ (hl.tr bel hB) (Nat.le_trans hB (Below.size (B := w.heap.size) (w := w) bel))).mono ?_;rintro e wp ⟨rfl,hbp⟩;obtain ⟨hcp,hfp⟩ := bcell hbp;have hzp := hbp.size;(try simp at hzp);have hyp0 : w.heap.size < wp.heap.size := (by omega);have hyp1 : w.heap.size + 1 < wp.heap.size := (by omega);have hyp2 : w.heap.size + 1 + 1 < wp.heap.size := (by omega)) | (go_at_call 25;refine (HP.out _).mono ?_;rintro e wq ⟨rfl,hbq⟩;obtain ⟨hcq,hfq⟩ := bcell hbq;have hzq := hbq.size;(try simp at hzq);have hyq0 : w.heap.size < wq.heap.size := (by omega);have hyq1 : w.heap.size + 1 < wq.heap.size := (by omega);have hyq2 : w.heap.size + 1 + 1 < wq.heap.size := (by omega)) | (go_at_call 69;refine (HX.out _ (hl.tr bel hB) (Nat.le_trans hB (Below.size (B := w.heap.size) (w := w) bel))).mono ?_;rintro e wr ⟨rfl,hbr⟩;obtain ⟨hcr,hfr⟩ := bcell hbr;have hzr := hbr.size;(try simp at hzr);have hyr0 : w.heap.size < wr.heap.size := (by omega);have hyr1 : w.heap.size + 1 < wr.heap.size := (by omega);have hyr2 : w.heap.size + 1 + 1 < wr.heap.size := (by omega)) | (go_at_call 71;refine (HH.out _ (hl.tr bel hB) (Nat.le_trans hB (Below.size (B := w.heap.size) (w := w) bel))).mono ?_;rintro e ws ⟨rfl,hbs⟩;obtain ⟨hcs,hfs⟩ := bcell hbs;have hzs := hbs.size;(try simp at hzs);have hys0 : w.heap.size < ws.heap.size := (by omega);have hys1 : w.heap.size + 1 < ws.heap.size := (by omega);have hys2 : w.heap.size + 1 + 1 < ws.heap.size := (by omega)))
 refine wp_gen2 (fun w2 => Below w.heap.size w w2 ∧ Blk w2 w.heap.size 67 #[.int .i64 4,.slice A n c] ∧ Blk w2 (w.heap.size + 1) 24 #[.int .i64 x,.int .i64 y] ∧ Blk w2 (w.heap.size + 1 + 1) 58 #[.int .u64 0,.int .u64 0,.int .u64 0]) ⟨bel,blkA,blkA,blkA⟩ ?_
 clear hbp hcp hfp hzp hyp0 hyp1 hyp2 hbq hcq hfq hzq hyq0 hyq1 hyq2 hbr hcr hfr hzr hyr0 hyr1 hyr2 hbs hcs hfs hzs hys0 hys1 hys2 HA HP HX HH;rintro w0 ⟨hb0,hO,hPt,hR⟩;have HSg := Lib.hid (segsF_len l ⟨x,y⟩)
 go_loopw [7,36] (fun s i wr => ∃ k : Nat,k ≤ n ∧ i = .int .i64 k ∧ wr.ownsRow (w.heap.size + 1 + 1 + 1) 58 3 s k (dcells ((segsF l ⟨x,y⟩).take k)) ∧ Blk wr w.heap.size 67 #[.int .i64 4,.slice A n c] ∧ Blk wr (w.heap.size + 1) 24 #[.int .i64 x,.int .i64 y] ∧ Blk wr (w.heap.size + 1 + 1) 58 #[.int .u64 0,.int .u64 0,.int .u64 0] ∧ Below w.heap.size w wr) (fun _ i _ => n - (intOf i).toNat)
 case atStart => exact ⟨0,Nat.zero_le _,rfl,World.ownsRow_nil _ _ _ _,hO,hPt,hR,hb0⟩
 case round =>
  clear hb0 hO hPt hR;obtain ⟨k,hk,rfl,hown,hO,hPt,hR,hb⟩ := hrel;have lR := hR.lt;have lO := hO.lt;have lP := hPt.lt;have hbs := hb.size
  by_cases hlt : k < n
  · obtain ⟨b, off, rfl, hab, c0, c1⟩ := (hl.below (hb.mono hB)).at_ hlt
    obtain ⟨c2,c3⟩ := nx_of (hl.below (hb.mono hB)) hlt;have hbw : b < wr.heap.size := by omega
    have hbw9 : b < w.heap.size + 1 + 1 + 1 := by omega
    have hk0 : (k : Int) < (n : Int) := by omega
    have hkl : k < l.length := by rw [hl.1];exact hlt
    obtain ⟨m,hm,hwr,htm,hml⟩ := step_of hlt hn6;rw [hm] at c2 c3;clear hm;have hn0 : ¬ n = 0 := by omega
    have hml0 : (m : Int) < (n : Int) := by omega
    have cO := hO.cell;have cPt := hPt.cell;have HSD : Hid (∀ w,Calls Tryz.prog 73 #[ptV (pt l k).x (pt l k).y,ptV (nx l k).x (nx l k).y,ptV x y] w (Ret w (fV (segF (pt l k) (nx l k) ⟨x,y⟩)))) := fun w => segDist_any _ _ _ _ _ _ w
    have hSeg := segsF_at (p := ⟨x,y⟩) hkl;obtain ⟨d1,d0,dd,ed⟩ := fcs_ex (segF (pt l k) (nx l k) ⟨x,y⟩)
    have HE : Hid (dcells ((segsF l ⟨x,y⟩).take (k + 1)) = dcells ((segsF l ⟨x,y⟩).take k) ++ [.int .u64 d1,.int .u64 d0,.int .u64 dd]) := by
     unfold Hid
     rw [List.take_add_one, hSeg]
     show dcells (_ ++ [_]) = _
     rw [dcells_snoc, ed]
    have HSD2 : Hid (∀ w,Calls Tryz.prog 73 #[.agg #[.int .i64 (pt l k).x,.int .i64 (pt l k).y],.agg #[.int .i64 (nx l k).x,.int .i64 (nx l k).y],.agg #[.int .i64 x,.int .i64 y]] w (Ret w (.agg #[.int .u64 d1,.int .u64 d0,.int .u64 dd]))) := fun w => by
     have h := HSD.out w;rw [fV_fcs,ed] at h;exact h
    clear HSD hSeg ed;go_wp2_with fail;refine wp_region_keep (w.heap.size + 1 + 1 + 1) [wr.heap.size] [0,1,2,3,4,5,6,7,8,9,10,11,12,13,14,15,16] (by kernel_rfl) (by kernel_rfl) (fun _ _ d _ _ h => by cases d <;> exact h) ?_
    simp only [List.map_cons, List.map_nil, ldz, lds, bare, gslot, lcz, lcs, Option.bind_some]
    repeat' ((try simp only [Act.put,lsi,lsz,lss]);first | (refine lexL_quiet (v := ?_) wantB_none rfl ?_ ?_;rotate_left;focus (intro wq hq;obtain ⟨hcq,hfq⟩ := kcell hq;go_simp;try with_reducible rfl)) | (refine lexL_loud wantB_none rfl (fun K hK => ?_);(refine wp_append_own _ _ _ 155 rfl (w.heap.size + 1 + 1 + 1) 58 i0 (.agg #[.int .u64 0,.int .u64 0,.int .u64 0]) 3 24 Tryz.underlying155 hi iz0 iz1 iz2 rfl (by decide) _ _ _ rfl (hown5.alloc _) ⟨w5.heap.size,0,none⟩ 1 1 [.int .u64 d1,.int .u64 d0,.int .u64 dd] rfl rfl ?_ ?_ ?_ ?_ ?_ ?_);(focus (exact three_at));(focus (exact three_one));(focus (unfold maxLen;omega));(focus omega);(focus (simp;omega));intro v' w2 hown' hgrow _;have hlt' := hown.lt;have hb2 : Below w.heap.size w w2 := (Below.grown (w := (w5.alloc (.cells #[.int .u64 d1,.int .u64 d0,.int .u64 dd] 58))) bel hgrow (by simp;omega) (fun j e => by have := (hlt' j e).1;omega));have hk3 : Keep (w.heap.size + 1 + 1 + 1) [wr.heap.size] (wr.alloc (.cells #[.int .i64 (pt l k).x,.int .i64 (pt l k).y] 24)) w2 := (Keep.grown (w := (w5.alloc (.cells #[.int .u64 d1,.int .u64 d0,.int .u64 dd] 58))) (Keep.alloc (Keep.below (Keep.drew (Keep.refl _ _ _)) hb5) _) hgrow (fun j e => ⟨(hlt' j e).1,by have := (hlt' j e).2;simp;omega⟩));refine hK.out _ _ (by repeat (first | with_reducible exact Keep.refl _ _ _ | with_reducible assumption | with_reducible refine Keep.drew ?_ | with_reducible refine Keep.alloc ?_ _ | with_reducible refine Keep.below ?_ (by with_reducible assumption))) ?_;clear hK K) | (refine lexL_loud wantB_none rfl (fun K hK => ?_);go_simp;((first | (go_at_call 73;refine (HSD2.out _).mono ?_;rintro e w5 ⟨rfl,hb5⟩;obtain ⟨hc5,hf5⟩ := bcell hb5;have hz5 := hb5.size;(try simp at hz5);have hown5 := own_below (owns_drew (hown.alloc _)) hb5)  | skip) <;> (refine hK.out _ _ (by repeat (first | with_reducible exact Keep.refl _ _ _ | with_reducible assumption | with_reducible refine Keep.drew ?_ | with_reducible refine Keep.alloc ?_ _ | with_reducible refine Keep.below ?_ (by with_reducible assumption))) ?_;clear hK K))))
    (all_goals try simp only [Act.put,lsi,lsz,lss]);all_goals (refine lexL_nil ?_)
    have hO2 := keep_blk hk3 (hO.alloc _) (.inl (by omega))
    have hPt2 := keep_blk hk3 (hPt.alloc _) (.inl (by omega))
    have hR2 := keep_blk hk3 (hR.alloc _) (.inl (by omega))
    have hown2 : w2.ownsRow (w.heap.size + 1 + 1 + 1) 58 3 v' (k + 1) (dcells ((segsF l ⟨x,y⟩).take (k + 1))) := by rw [HE.out];exact hown'
    clear hown' hgrow hown hown5 hO hPt hR hk3 hlt' hb5 hc5 hf5 hz5 c0 c1 c2 c3 cO cPt HE HSD2;go_wp2
    go_roundw
    case rel => exact ⟨k + 1, by omega, by go_num, hown2, hO2, hPt2, hR2, hb2⟩
    case measure => simp [intOf];omega
  · have hkn : k = n := by omega
    subst hkn;have hlen : (segsF l ⟨x,y⟩).length = k := HSg.out.trans hl.1;rw [List.take_of_length_le (by omega)] at hown
    obtain ⟨A2,c2,rfl,hfr⟩ := frs_of_own hown hlen;have cO := hO.cell;have cR := hR.cell;have fR := hR.frozen
    have HM : Hid (Calls Tryz.prog 74 #[.slice A2 k c2] wr (Ret wr (fV (minF (segsF l ⟨x,y⟩))))) :=
     rMin_any wr.heap.size k c2 A2 _ wr hfr (Nat.le_refl _) hn6 (fun z hz => by
      obtain ⟨i,hi,e⟩ := mem_segsF hz
      rw [← e]
      exact segF_ok (okPt_pt HAll.out hi) (okPt_nx HAll.out hi) HPp.out)
    obtain ⟨d1,d0,dd,ed⟩ := fcs_ex (minF (segsF l ⟨x,y⟩))
    have HM2 : Hid (Calls Tryz.prog 74 #[.slice A2 k c2] wr (Ret wr (.agg #[.int .u64 d1,.int .u64 d0,.int .u64 dd]))) := by
     have h := HM.out;rw [fV_fcs,ed] at h;exact h
    have HF : Hid (fV (distF ⟨4,l⟩ ⟨x,y⟩) = .agg #[.int .u64 d1,.int .u64 d0,.int .u64 dd]) := by unfold Hid;rw [HD.out,fV_fcs,ed]
    clear HM ed HD hown hfr HSg
    go_wp2_with (go_at_call 74;refine HM2.out.mono ?_;rintro e w5 ⟨rfl,hb5⟩;obtain ⟨hc5,hf5⟩ := bcell hb5;have hz5 := hb5.size;(try simp at hz5);have lR5 : w.heap.size + 1 + 1 < w5.heap.size := (by omega))
    refine post_gen2 (R := fun w2 => Blk w2 (w.heap.size + 1 + 1) 58 #[.int .u64 d1,.int .u64 d0,.int .u64 dd] ∧ Below w.heap.size w w2) ⟨?_,bel⟩ ?_
    · repeat (first | with_reducible exact three_put (x := .int .u64 0) (y := .int .u64 0) (z := .int .u64 0) blkA | (with_reducible refine Blk.new ?_ rfl;focus (simp;done)) | with_reducible refine Blk.alloc ?_ _ | with_reducible refine Blk.drew ?_)
    rintro w2 ⟨HR,hb2⟩;have r0 := HR.cell 0;have r1 := HR.cell 1;have r2 := HR.cell 2;simp only [lta,lcz,lcs] at r0 r1 r2
    rw [HF.out]
    exact bodyPost_ret (v := .agg #[.int .u64 d1,.int .u64 d0,.int .u64 dd]) (by simp [results,Tryz.results43,go_sem,r0,r1,r2]) rfl ⟨rfl,hb2⟩
theorem dist_kinds (k : Int) (l : List Pt) (p : Pt) (h : isBox ⟨k,l⟩ = true) : rdV k l p = fV (distF ⟨k,l⟩ p) := by
 unfold rdV distF
 by_cases h1 : ckOb ⟨k,l⟩ = 0 ∧ okPt p = true
 · rw [if_pos h1,if_pos h1,if_pos h]
   unfold pdV
   rcases ck_kinds h1.1 with ⟨_, h2⟩ | ⟨_, h2, _⟩
   · rw [h2, h1.2]
     rfl
   · rw [h] at h2;cases h2
 · rw [if_neg h1,if_neg h1,fV_fcs,fcs_none]
theorem relDist_any (B n c : Nat) (k : Int) (A : Option Addr) (l : List Pt) (x y : Int) (w : World) (hl : PtsAt w B A n l) (hB : B ≤ w.heap.size) (hn : n ≤ 1000000) :
 Calls Tryz.prog 43 #[obV k A n c,ptV x y] w (Ret w (fV (distF ⟨k,l⟩ ⟨x,y⟩))) := by
 by_cases hk : isBox ⟨k,l⟩ = true
 · rw [← dist_kinds k l ⟨x,y⟩ hk]
   exact relDist_box B n c k A l x y w hl hB hn hk
 by_cases ho : ckOb ⟨k,l⟩ = 0
 case neg =>
  have HF : Hid (fV (distF ⟨k,l⟩ ⟨x,y⟩) = .agg #[.int .u64 0,.int .u64 0,.int .u64 0]) := by unfold Hid distF;rw [if_neg (fun h => ho h.1),fV_fcs,fcs_none]
  have HA := Lib.hid (fun w (h : PtsAt w B A n l) (hB : B ≤ w.heap.size) => relcheck_bad B n c k A l w h hB hn ho)
  clear ho hk
  go_enter Tryz.func43, Tryz.ntmps43
  go_wp2_with (go_at_call 68;refine (HA.out _ (hl.tr bel hB) (Nat.le_trans hB (Below.size (B := w.heap.size) (w := w) bel))).mono ?_;rintro e w1 ⟨t1,u1,rfl,hb1⟩;obtain ⟨hc1,hf1⟩ := bcell hb1;have hz1 := hb1.size;(try simp at hz1);have hy0 : w.heap.size < w1.heap.size := (by omega);have hy1 : w.heap.size + 1 < w1.heap.size := (by omega);have hy2 : w.heap.size + 1 + 1 < w1.heap.size := (by omega))
  refine post_gen2 (R := fun w2 => Blk w2 (w.heap.size + 1 + 1) 58 #[.int .u64 0,.int .u64 0,.int .u64 0] ∧ Below w.heap.size w w2) ⟨?_,bel⟩ ?_
  · repeat (first | with_reducible exact three_put (x := .int .u64 0) (y := .int .u64 0) (z := .int .u64 0) blkA | (with_reducible refine Blk.new ?_ rfl;focus (simp;done)) | with_reducible refine Blk.alloc ?_ _ | with_reducible refine Blk.drew ?_)
  rintro w2 ⟨HR,hb2⟩;have r0 := HR.cell 0;have r1 := HR.cell 1;have r2 := HR.cell 2;simp only [lta,lcz,lcs] at r0 r1 r2
  rw [HF.out]
  exact bodyPost_ret (v := .agg #[.int .u64 0,.int .u64 0,.int .u64 0]) (by simp [results,Tryz.results43,go_sem,r0,r1,r2]) rfl ⟨rfl,hb2⟩
 have h4 : k = 4 := by
  rcases ck_kinds ho with ⟨h, _⟩ | ⟨h, _, _⟩
  · exact absurd h hk
  · exact h
 subst h4
 cases hp : okPt ⟨x,y⟩
 case true => exact relDist_poly B n c A l x y w hl hB ho hp
 have HF : Hid (fV (distF ⟨4,l⟩ ⟨x,y⟩) = .agg #[.int .u64 0,.int .u64 0,.int .u64 0]) := by unfold Hid distF;rw [if_neg (fun h => by rw [hp] at h;cases h.2),fV_fcs,fcs_none]
 have HA := Lib.hid (fun w (h : PtsAt w B A n l) (hB : B ≤ w.heap.size) => relcheck_ok B n c 4 A l w h hB hn ho)
 have HP0 := fun w => checkPoint_any x y w
 rw [hp] at HP0;have HP : Hid (∀ w,Calls Tryz.prog 25 #[ptV x y] w (Ret w (.iface 84 (.int .i64 2)))) := HP0;clear ho hk hp HP0
 go_enter Tryz.func43,Tryz.ntmps43
 go_wp2_with (first | (go_at_call 68;refine (HA.out _ (hl.tr bel hB) (Nat.le_trans hB (Below.size (B := w.heap.size) (w := w) bel))).mono ?_;rintro e w1 ⟨rfl,hb1⟩;obtain ⟨hc1,hf1⟩ := bcell hb1;have hz1 := hb1.size;(try simp at hz1);have hy0 : w.heap.size < w1.heap.size := (by omega);have hy1 : w.heap.size + 1 < w1.heap.size := (by omega);have hy2 : w.heap.size + 1 + 1 < w1.heap.size := (by omega)) | (go_at_call 25;refine (HP.out _).mono ?_;rintro e w1 ⟨rfl,hb1⟩;obtain ⟨hc1,hf1⟩ := bcell hb1;have hz1 := hb1.size;(try simp at hz1);have hy0 : w.heap.size < w1.heap.size := (by omega);have hy1 : w.heap.size + 1 < w1.heap.size := (by omega);have hy2 : w.heap.size + 1 + 1 < w1.heap.size := (by omega)))
 refine post_gen2 (R := fun w2 => Blk w2 (w.heap.size + 1 + 1) 58 #[.int .u64 0,.int .u64 0,.int .u64 0] ∧ Below w.heap.size w w2) ⟨?_,bel⟩ ?_
 · repeat (first | with_reducible exact three_put (x := .int .u64 0) (y := .int .u64 0) (z := .int .u64 0) blkA | (with_reducible refine Blk.new ?_ rfl;focus (simp;done)) | with_reducible refine Blk.alloc ?_ _ | with_reducible refine Blk.drew ?_)
 rintro w2 ⟨HR,hb2⟩;have r0 := HR.cell 0;have r1 := HR.cell 1;have r2 := HR.cell 2;simp only [lta,lcz,lcs] at r0 r1 r2
 rw [HF.out]
 exact bodyPost_ret (v := .agg #[.int .u64 0,.int .u64 0,.int .u64 0]) (by simp [results,Tryz.results43,go_sem,r0,r1,r2]) rfl ⟨rfl,hb2⟩
end Go.Proofs.YtildgbhliaonnaaGreat
