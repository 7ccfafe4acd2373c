/-
  join: Groups: a tree's ids, those that hang together in one.
  join: Alone: the ids that touch no other one;two rows of numbers are the same.
-/
import Derived.Test.YtcbjmcnebmhgpaaGreatKGrpA
set_option linter.unusedVariables false
set_option linter.unusedSimpArgs false
set_option maxHeartbeats 8000000
set_option maxRecDepth 20000
namespace Go.Proofs.YtcbjmcnebmhgpaaGreat
open Go Go.RowKit Pg
theorem blk_map {w : World} {g gm : Nat} {t : TypeId} {cs : Array Value} {V : List (Int × Value)} (hm : MapAt w Tryz.prog 3 gm V) (hb : Blk w g t cs) : gm ≠ g := map_ne hm hb
structure GrM (w0 w : World) (fc fm : Nat) (F : List (Int × Int)) (vi : Value) (L : List (Int × Mi)) (vp : Value) (Q : List (Int × Int)) : Prop where
 map : MapAt w Tryz.prog 3 fm (FV F)
 cel : Blk w fc 78 #[.map (some fm)]
 its : w.ownsRow 0 52 3 vi L.length (mcells L)
 prs : w.ownsRow 0 38 2 vp Q.length (prcells Q)
 lo : w0.heap.size ≤ fc ∧ w0.heap.size ≤ fm
 bl : Below w0.heap.size w0 w
section
variable {w0 w w' : World} {fc fm : Nat} {F F' : List (Int × Int)} {vi vp : Value} {L : List (Int × Mi)} {Q : List (Int × Int)}
theorem GrM.tr (M : GrM w0 w fc fm F vi L vp Q) (hb : Below w.heap.size w w') : GrM w0 w' fc fm F vi L vp Q :=
 ⟨MapAt.tr M.map hb,M.cel.tr hb,own_kept M.its (grown_below hb) (by simp),own_kept M.prs (grown_below hb) (by simp),M.lo,M.bl.trans (hb.mono M.bl.size)⟩
theorem GrM.put (M : GrM w0 w fc fm F vi L vp Q) (hm : MapAt w' Tryz.prog 3 fm (FV F')) (hg : w.grownBy w' (some fm)) : GrM w0 w' fc fm F' vi L vp Q :=
 ⟨hm,Blk.kept M.cel hg (fun e => blk_map M.map M.cel (by injection e)),own_kept M.its hg (fun g e => by injection e with e;subst e;exact own_map M.map M.its),own_kept M.prs hg (fun g e => by injection e with e;subst e;exact own_map M.map M.prs),M.lo,M.bl.grown hg M.bl.size fun k e => by injection e with e;subst e;exact M.lo.2⟩
theorem GrM.map2 {gm : Nat} {V : List (Int × Value)} (M : GrM w0 w fc fm F vi L vp Q) (hm : MapAt w Tryz.prog 3 gm V) (hne : fm ≠ gm) (hlo : w0.heap.size ≤ gm) (hg : w.grownBy w' (some gm)) : GrM w0 w' fc fm F vi L vp Q :=
 ⟨MapAt.kept M.map hg (fun e => hne (by injection e with e;exact e.symm)),Blk.kept M.cel hg (fun e => blk_map hm M.cel (by injection e)),own_kept M.its hg (fun g e => by injection e with e;subst e;exact own_map hm M.its),own_kept M.prs hg (fun g e => by injection e with e;subst e;exact own_map hm M.prs),M.lo,M.bl.grown hg M.bl.size fun k e => by injection e with e;subst e;exact hlo⟩
theorem GrM.row {b size n : Nat} {e : TypeId} {v : Value} {xs : List Value} (M : GrM w0 w fc fm F vi L vp Q) (ho : w.ownsRow b e size v n xs) (h1 : 78 ≠ e) (h2 : 52 ≠ e) (h3 : 38 ≠ e) (hlo : ∀ g,v.ownBlock = some g → w0.heap.size ≤ g) (hg : w.grownBy w' v.ownBlock) : GrM w0 w' fc fm F vi L vp Q :=
 ⟨MapAt.kept M.map hg (own_map M.map ho),Blk.kept M.cel hg (own_ne ho M.cel fun q => h1 q.symm),own_kept M.its hg (fun g q => by obtain ⟨cur,hB⟩ := own_blk ho q;exact own_ne M.its hB h2),own_kept M.prs hg (fun g q => by obtain ⟨cur,hB⟩ := own_blk ho q;exact own_ne M.prs hB h3),M.lo,M.bl.grown hg M.bl.size hlo⟩
end
theorem idsM {L : List (Int × Mi)} {xa : List (Int × Ob)} (h : obsM L = xa) {i : Nat} {p : Int × Mi} (hp : L[i]? = some p) : (idsO xa)[i]? = some p.1 := by
 rw [← h]
 unfold idsO obsM
 rw [List.getElem?_map,List.getElem?_map,hp]
 rfl
theorem takeS {ids : List Int} {i : Nat} {d : Int} (h : ids[i]? = some d) : ids.take (i + 1) = ids.take i ++ [d] := by rw [List.take_add_one,h];rfl
theorem pair_mem {xa : List (Int × Ob)} {p : Int × Int} (h : p ∈ upJ (pairsP xa xa)) : p.1 ∈ idsO xa ∧ p.2 ∈ idsO xa := by
 obtain ⟨i,j⟩ := p;obtain ⟨_,x,y,hx,hy,_⟩ := mem_upJ.1 h;exact ⟨List.mem_map.2 ⟨_,hx,rfl⟩,List.mem_map.2 ⟨_,hy,rfl⟩⟩
theorem one_atG {w : World} {a : Value} {t : TypeId} {g : Nat} (hg : w.heap.size = g) : ∀ (j : Nat) (v : Value),[a][j]? = some v → (w.alloc (.cells #[a] t)).cell? ((⟨g,0,none⟩ : Addr).add j) = some v := by
 subst hg;exact one_atY
theorem memS_nil {cz : Int → Int} {ids : List Int} {d : Int} (hc : ∀ i,cz (cz i) = cz i) (h : cz d ≠ d) : memS cz ids d = [] := by
 unfold memS
 rw [List.filter_eq_nil_iff]
 intro i _ hi;rw [decide_eq_true_eq] at hi;exact h (by rw [← hi];exact hc i)
theorem mid_of {w0 w W w8 : World} {fc fm gm : Nat} {F : List (Int × Int)} {vi vp v0 v8 : Value} {L : List (Int × Mi)} {Q : List (Int × Int)} {V : List (Int × Value)} {R : Int → List Int} {r d : Int}
 (Hp : GpM w w0.heap.size gm V R) (M : GrM w0 w fc fm F vi L vp Q) (hb : Below w.heap.size w W) (hv0 : (getK r V).getD (.slice none 0 0) = v0)
 (hown : w8.ownsRow 0 3 1 v8 ((R r).length + 1) (idcs (R r) ++ [.int .i64 d])) (hg : W.grownBy w8 v0.ownBlock) (hwh : v8.ownBlock = v0.ownBlock ∨ v8.ownBlock = some W.heap.size) :
 MapAt w8 Tryz.prog 3 gm V ∧ ∀ w9,MapAt w9 Tryz.prog 3 gm (putK r v8 V) → w8.grownBy w9 (some gm) → fm ≠ gm → w0.heap.size ≤ gm →
  GrM w0 w9 fc fm F vi L vp Q ∧ GpM w9 w0.heap.size gm (putK r v8 V) fun s => if s = r then R r ++ [d] else R s := by
 subst hv0;have h1 := Hp.tr hb;have h2 := M.tr hb;have hrow := h1.row r;have hw0 := M.bl.size;have h3 : MapAt w8 Tryz.prog 3 gm V := MapAt.kept h1.map hg (own_map h1.map hrow);have h4 := h2.row hrow (by decide) (by decide) (by decide) (fun g e => (hrow.lt g e).1) hg
 refine ⟨h3,fun w9 hm hg2 hne hlo => ⟨h4.map2 h3 hne hlo hg2,?_⟩⟩
 exact h1.step (Nat.le_trans hw0 hb.size) (own_raise hown fun g e => by
  rcases hwh with q | q
  · rw [e] at q
    exact (hrow.lt g q.symm).1
  · rw [e] at q
    injection q with q
    have := hb.size
    omega) hg hwh hm h3 hg2
theorem out_of {w0 w W w8 : World} {fc fm gm : Nat} {F : List (Int × Int)} {vi vp vo : Value} {L : List (Int × Mi)} {Q : List (Int × Int)} {V : List (Int × Value)} {R : Int → List Int} {k : Nat} {xs : List Value}
 (Hp : GpM w w0.heap.size gm V R) (M : GrM w0 w fc fm F vi L vp Q) (ho : w.ownsRow w0.heap.size 40 1 vo k xs) (hb : Below w.heap.size w W) (hg : W.grownBy w8 vo.ownBlock) :
 GrM w0 w8 fc fm F vi L vp Q ∧ GpM w8 w0.heap.size gm V R := by
 have h1 := Hp.tr hb;have h2 := M.tr hb;have h3 := own_kept ho (grown_below hb) (by simp)
 exact ⟨h2.row h3 (by decide) (by decide) (by decide) (fun g e => (h3.lt g e).1) hg,h1.off h3 (by decide) hg⟩
theorem rows_of {w : World} {base gm : Nat} {V : List (Int × Value)} {cz : Int → Int} {ids : List Int} {vo : Value} (Hp : GpM w base gm V fun r => memS cz ids r)
 (ho : w.ownsRow base 40 1 vo (ids.filter fun r => decide (cz r = r)).length ((ids.filter fun r => decide (cz r = r)).map fun r => (getK r V).getD (.slice none 0 0))) : RowsJ w base vo (grpS cz ids) := by
 refine ⟨(ids.filter fun r => decide (cz r = r)).map fun r => (getK r V).getD (.slice none 0 0),by unfold grpS;rw [List.length_map];exact ho,fun k g hk => ?_⟩
 unfold grpS at hk;rw [List.getElem?_map] at hk;obtain ⟨r,hr,rfl⟩ := Option.map_eq_some_iff.1 hk;exact ⟨_,by rw [List.getElem?_map,hr];rfl,Hp.row r⟩
theorem Groups_any {w : World} {p : Option Addr} {xa : List (Int × Ob)} (h : ∀ W,Below w.heap.size w W → Told W p xa) (hr : Rising xa) (hid : ∀ x ∈ xa,0 ≤ x.1 ∧ x.1 ≤ 1099511627776) (hn : xa.length ≤ 100) :
 Calls Tryz.prog 11 #[.pointer p] w fun e w' => ∃ v,e = .returned (.tuple #[v,.nilIface]) ∧ RowsJ w' w.heap.size v (grpS (tchC xa) (idsO xa)) ∧ Below w.heap.size w w' := by
 have HS := Lib.hid (fun W (hW : Below w.heap.size w W) => JSelfT_any (w := W) (p := p) (xa := xa) (fun W' hW' => h W' (hW.trans (hW'.mono hW.size))) hn)
 have HI := Lib.hid (fun W (hW : Below w.heap.size w W) => (h W hW).its W (Below.refl _ _))
 have hbd : ∀ i ∈ idsO xa,0 ≤ i ∧ i ≤ 1099511627776 := fun i hi => by
  obtain ⟨x,hx,rfl⟩ := List.mem_map.1 hi;exact hid x hx
 have HBd := Lib.hid hbd;have HPm := Lib.hid (fun p (h : p ∈ upJ (pairsP xa xa)) => pair_mem h)
 have hql : (upJ (pairsP xa xa)).length ≤ 10000 := by
  have h1 := pairsP_len xa xa;have h2 : (upJ (pairsP xa xa)).length ≤ (pairsP xa xa).length := List.length_filter_le _ _;have h3 : xa.length * xa.length ≤ 100 * 100 := Nat.mul_le_mul hn hn
  omega
 obtain ⟨n,hnn⟩ : ∃ n,xa.length = n := ⟨_,rfl⟩;rw [hnn] at HI hn;have HId := Lib.hid (show (idsO xa).length = n from by unfold idsO;rw [List.length_map];exact hnn)
 have HTc : Hid (tchC xa = ufC (upJ (pairsP xa xa))) := rfl;obtain ⟨Q,hQ⟩ : ∃ Q,upJ (pairsP xa xa) = Q := ⟨_,rfl⟩;rw [hQ] at HS HPm HTc hql;have hmk : ∀ W : World,(Instr.makeMap 78 none).run Tryz.prog W = .ok (.map (some W.heap.size)) (W.alloc (.map #[] 0)) := fun W => run_makeMap _ W
 have hmk2 : ∀ W : World,(Instr.makeMap 80 none).run Tryz.prog W = .ok (.map (some W.heap.size)) (W.alloc (.map #[] 0)) := fun W => run_makeMap _ W
 obtain ⟨i0,hi,iz0,iz1,iz2⟩ := info_parts Tryz.infoNJ;obtain ⟨j0,hj,jz0,jz1,jz2⟩ := info_parts Tryz.infoSJ;generalize tchC xa = cz at HTc ⊢;obtain ⟨ids,hids⟩ : ∃ l,idsO xa = l := ⟨_,rfl⟩
 rw [hids] at HBd HPm HId ⊢
 have HIdx := Lib.hid hids;clear h hid hbd hQ hnn hids
 go_enter Tryz.func11,Tryz.ntmps11
 go_wp2_with (first
  | (go_at_call 15;(refine (HS.out _ bel).mono ?_);rintro e w1 ⟨v1,rfl,ho1,hb1⟩;obtain ⟨A1,c1,rfl,_,_,_⟩ := row_form ho1;have HO1 := Lib.hid ho1;clear ho1;obtain ⟨hc1,hf1⟩ := bcell hb1;have hz1 := hb1.size;(try simp at hz1))
  | (go_at_call 23;(refine (HI.out _ bel).mono ?_);rintro e w7 ⟨A7,c7,L,rfl,hob,hll,hms,hb7⟩;have HL7 := Lib.hid (And.intro hob (And.intro hll hms));clear hob hll hms;obtain ⟨hc7,hf7⟩ := bcell hb7;have hz7 := hb7.size;(try simp at hz7)))
 have HOv : Hid (∀ p ∈ L,∃ A m c,p.2.ov = .slice A m c) := fun p hp => by
  obtain ⟨A,c,e,_⟩ := (HL7.out.2.2.pts p hp).pts;exact ⟨A,_,c,e⟩
 have HLl : Hid (L.length = n ∧ obsM L = xa) := Lib.hid ⟨HL7.out.2.1,HL7.out.1⟩;have HGr := Lib.hid (show GrM w w7 (w1.heap.size + 1) w1.heap.size [] (.slice A7 n c7) L (.slice A1 Q.length c1) Q from ⟨MapAt.tr (MapAt.made w1 _ _) bel,blkA,HL7.out.2.2.row,own_lower (own_kept HO1.out (grown_below (show Below w1.heap.size w1 w7 from bel)) (by simp)) (Nat.zero_le _),⟨by omega,by omega⟩,bel⟩)
 clear HO1 HL7 HS HI hb1 hc1 hf1 hz1 hb7 hc7 hf7 hz7;obtain ⟨fm,hfm⟩ : ∃ g,w1.heap.size = g := ⟨_,rfl⟩
 rw [hfm] at HGr ⊢
 obtain ⟨fc,hfc⟩ : ∃ g,fm + 1 = g := ⟨_,rfl⟩
 rw [hfc] at HGr ⊢
 clear hfm hfc;have HIds := Lib.hid (fun (i : Nat) (p : Int × Mi) (h : L[i]? = some p) => show ids[i]? = some p.1 from by rw [← HIdx.out];exact idsM HLl.out.2 h)
 go_loopw [35] (fun vi wr => ∃ (i : Nat) (F : List (Int × Int)),i ≤ n ∧ vi = .int .i64 i ∧ F.length ≤ i ∧ Rising F ∧ (∀ d ∈ ids.take i,getK d F = some d) ∧ GrM w wr fc fm F (.slice A7 n c7) L (.slice A1 Q.length c1) Q) (fun vi _ => n - (Go.RowKit.intOf vi).toNat)
 case atStart => exact ⟨0,[],Nat.zero_le _,rfl,Nat.le_refl _,List.Pairwise.nil,by simp,HGr.out⟩
 case round =>
  clear HGr;obtain ⟨i,F,hin,rfl,hFl,hFr,hFi,hG⟩ := hrel;have HG := Lib.hid hG;have HF := Lib.hid (And.intro hFl (And.intro hFr hFi));clear hFl hFr hFi
  by_cases hlt : i < n
  case pos =>
   have hltI : (i : Int) < (n : Int) := by omega
   obtain ⟨p,hp⟩ : ∃ p,L[i]? = some p := ⟨L[i]'(by rw [HLl.out.1];exact hlt),List.getElem?_eq_getElem _⟩
   obtain ⟨g,c',hv,hgl,r0,r1,r2⟩ := mrow_at hG.its hp;injection hv with hv1 hv2 hv3
   subst hv1 hv3;obtain ⟨A2,m2,c2,e2⟩ := HOv.out p (List.mem_of_getElem? hp);rw [e2] at r2;have hip := HIds.out i p hp;obtain ⟨d,hd⟩ : ∃ d,p.1 = d := ⟨_,rfl⟩;rw [hd] at r0 hip;have hd0 : -9223372036854775808 ≤ d := by have := HBd.out d (List.mem_of_getElem? hip);omega
   have hd1 : d ≤ 9223372036854775807 := by have := HBd.out d (List.mem_of_getElem? hip);omega
   generalize p.2.ob.kind = pk at *;have f0 := (hG.cel.cell 0);have fl := hG.cel.lt;simp only [lta,lcz] at f0;have HIp := Lib.hid hip;have hFm : (FV F).length < maxLen := by have := HF.out.1;rw [FV_len];unfold maxLen;omega
   clear hp e2 hd hip hv2 hG
   go_wp2_with (at_mapUpdate;go_must (refine wpList_storeV _ rfl _ _ _ _ rfl rfl rfl (.int .i64 d) rfl (show MapAt _ _ _ fm _ from MapAt.tr HG.out.map bel) Tryz.underlying3 Tryz.underlying78 hFm hd0 hd1 ?_;intro w9 hm9 hg9;rw [putK_FV] at hm9;have H9 := Lib.hid ((GrM.tr HG.out bel).put hm9 hg9);clear hm9 hg9))
   go_roundw
   case rel =>
    refine ⟨i + 1,putK d d F,by omega,by go_num,?_,HF.out.2.1.put _ _,fun x hx => ?_,H9.out⟩
    · have := putK_len d d F
      have := HF.out.1
      omega
    · rw [takeS HIp.out] at hx
      rw [get_put HF.out.2.1]
      split
      · rename_i h
        rw [h]
      · rename_i h
        rcases List.mem_append.1 hx with q | q
        · exact HF.out.2.2 x q
        · exact absurd (List.mem_singleton.1 q) h
   case measure => simp [Go.RowKit.intOf];omega
  case neg =>
   obtain rfl : n = i := by omega
   clear hG;go_wp2_with fail;have HU0 := Lib.hid (UfP.start (ids := ids) HF.out.2.1 (fun d hd => HF.out.2.2 d (by rw [List.take_of_length_le (by rw [HId.out];exact Nat.le_refl _)];exact hd)))
   go_loopw [47] (fun vi wr => ∃ (j : Nat) (F : List (Int × Int)), j ≤ Q.length ∧ vi = .int .i64 j ∧ F.length ≤ n + j ∧ UfP F ids (ufC (Q.take j)) ∧ GrM w wr fc fm F (.slice A7 n c7) L (.slice A1 Q.length c1) Q) (fun vi _ => Q.length - (Go.RowKit.intOf vi).toNat)
   case atStart => exact ⟨0,F,Nat.zero_le _,rfl,by have := HF.out.1;omega,HU0.out,HG.out⟩
   case round =>
    clear HU0 HG HF;obtain ⟨j,F,hjq,rfl,hFl,hU,hG⟩ := hrel;have HG := Lib.hid hG;have HF := Lib.hid (And.intro hFl hU);obtain ⟨q,hq⟩ : ∃ q,Q.length = q := ⟨_,rfl⟩;have HQl := Lib.hid hq
    rw [hq] at hjq hql ⊢
    clear hFl hq
    by_cases hltj : j < q
    case pos =>
     have hltI : (j : Int) < (q : Int) := by omega
     obtain ⟨e,he⟩ : ∃ e,Q[j]? = some e := ⟨Q[j]'(by rw [HQl.out];exact hltj),List.getElem?_eq_getElem _⟩
     obtain ⟨g,c',hv,hgl,r0,r1⟩ := prow_at hG.prs he;injection hv with hv1 hv2 hv3
     subst hv1 hv3;have hem := HPm.out e (List.mem_of_getElem? he);have hmr := hU.merge (fun i hi => (HBd.out i hi).1) hem.1 hem.2
     have hmA := hU.mem (fun i hi => (HBd.out i hi).1) _ hem.1
     have hmB := hU.mem (fun i hi => (HBd.out i hi).1) _ hem.2
     have htk : ufC (Q.take (j + 1)) = mrg (ufC (Q.take j)) e := by rw [List.take_add_one,he,Option.toList_some,ufC_snoc]
     have hRa := fun W (hW : Below wr.heap.size wr W) => root_any fc fm F ids (ufC (Q.take j)) e.1 W (((bcell hW).1 _ 0 hG.cel.lt).trans (hG.cel.cell 0)) (Nat.lt_of_lt_of_le hG.cel.lt hW.size) (MapAt.tr hG.map hW) hU HBd.out hem.1
     have hRb := fun W (hW : Below wr.heap.size wr W) => root_any fc fm F ids (ufC (Q.take j)) e.2 W (((bcell hW).1 _ 0 hG.cel.lt).trans (hG.cel.cell 0)) (Nat.lt_of_lt_of_le hG.cel.lt hW.size) (MapAt.tr hG.map hW) hU HBd.out hem.2
     rw [← htk] at hmr;generalize ufC (Q.take j) = cc at *;have HMr := Lib.hid hmr;obtain ⟨ea,eb⟩ := e
     simp only at r0 r1 hmA hmB hRa hRb HMr
     obtain ⟨ra,hra⟩ : ∃ r,cc ea = r := ⟨_,rfl⟩;obtain ⟨rb,hrb⟩ : ∃ r,cc eb = r := ⟨_,rfl⟩;rw [hra] at hmA hRa HMr;rw [hrb] at hmB hRb HMr;have HRa := Lib.hid hRa;have HRb := Lib.hid hRb;have bA := HBd.out _ hmA;have bB := HBd.out _ hmB;have hd0 : -9223372036854775808 ≤ max ra rb := by omega
     have hd1 : max ra rb ≤ 9223372036854775807 := by omega
     have f0 := (hG.cel.cell 0);have fl := hG.cel.lt;simp only [lta,lcz] at f0;have hFm : (FV F).length < maxLen := by have := HF.out.1;rw [FV_len];unfold maxLen;omega
     clear he hem hmr hmA hmB htk hRa hRb hra hrb hv2 hG hU bA bB;go_wp2_with fail;refine wp_region_below [0,1,2,4,5,6,3,7,8,9] (by kernel_rfl) (by kernel_rfl) (fun _ _ d _ _ h => by cases d <;> exact h) ?_
     simp only [List.map_cons, List.map_nil, ldz, lds, bare, gslot, lcz, lcs, Option.bind_some]
     repeat' ((try simp only [Act.put,lsi,lsz,lss]);first | (refine lexL_quiet (v := ?_) wantB_none rfl ?_ ?_;rotate_left;focus (intro wq hq;obtain ⟨hcq,hfq⟩ := bcell hq;go_simp;try with_reducible rfl)) | (refine lexL_loud wantB_none rfl (fun K hK => ?_);go_simp;((first |  (go_at_call 27;(have _q := hzA);(refine (HRb.out _ bel).mono ?_);rintro e wB ⟨rfl,hbB⟩;obtain ⟨hcB,hfB⟩ := bcell hbB;have hzB := hbB.size;(try simp at hzB)) | (go_at_call 27;(refine (HRa.out _ bel).mono ?_);rintro e wA ⟨rfl,hbA⟩;obtain ⟨hcA,hfA⟩ := bcell hbA;have hzA := hbA.size;(try simp at hzA)) | skip) <;> (refine hK.out _ _ bel ?_;clear hK K))))
     (all_goals try simp only [Act.put,lsi,lsz,lss]);all_goals (refine lexL_nil ?_)
     refine gen_w (Φ := fun W => Exit.then _ _ Exit.normal _ W) (fun W => Below wr.heap.size wr W) bel ?_
     clear hcA hfA hbA hzA hcB hfB hbB hzB;rintro w10 hb10;have HG10 := Lib.hid (HG.out.tr hb10);have f0' := ((bcell hb10).1 _ 0 fl).trans f0;have fl' := Nat.lt_of_lt_of_le fl hb10.size;clear f0 fl hb10 r0 r1 hgl
     go_wp2_with (at_mapUpdate;go_must (refine wpList_storeV _ rfl _ _ _ _ rfl rfl rfl (.int .i64 (min ra rb)) rfl (show MapAt _ _ _ fm _ from HG10.out.map) Tryz.underlying3 Tryz.underlying78 hFm hd0 hd1 ?_;intro w9 hm9 hg9;rw [putK_FV] at hm9;have H9 := Lib.hid (HG10.out.put hm9 hg9);clear hm9 hg9))
     go_roundw
     case rel =>
      refine ⟨j + 1,_,by omega,by go_num,?_,HMr.out,by rw [← HQl.out];exact H9.out⟩
      have := putK_len (max ra rb) (min ra rb) F;have := HF.out.1
      omega
     case measure => simp [Go.RowKit.intOf];omega
    case neg =>
     obtain rfl : q = j := by omega
     have hcz : ufC (Q.take q) = cz := by rw [HTc.out,List.take_of_length_le (by rw [HQl.out];exact Nat.le_refl _)]
     rw [hcz] at HF hU;have HU := Lib.hid hU;have lo1 := hG.bl.size;have lo2 : fm < wr.heap.size := hG.map.lt;clear hG hU hcz;go_wp2_with fail;obtain ⟨gm,hgm⟩ : ∃ g,wr.heap.size = g := ⟨_,rfl⟩;have HGp0 := Lib.hid (show GpM (wr.alloc (.map #[] 0)) w.heap.size gm [] (fun r => memT cz ids r 0) from by rw [← hgm];exact GpM.start (MapAt.made wr _ _))
     have HG0 := Lib.hid (HG.out.tr (show Below wr.heap.size wr (wr.alloc (.map #[] 0)) from bel))
     have HNe := Lib.hid (show fm ≠ gm ∧ w.heap.size ≤ gm from ⟨by omega,by omega⟩)
     rw [hgm]
     clear hgm lo1 lo2 HG
     go_loopw [70] (fun vi wr => ∃ (i : Nat) (V : List (Int × Value)), i ≤ n ∧ vi = .int .i64 i ∧ V.length ≤ i ∧ GrM w wr fc fm F (.slice A7 n c7) L (.slice A1 Q.length c1) Q ∧ GpM wr w.heap.size gm V (fun r => memT cz ids r i)) (fun vi _ => n - (Go.RowKit.intOf vi).toNat)
     case atStart => exact ⟨0, [], Nat.zero_le _, rfl, Nat.le_refl _, HG0.out, HGp0.out⟩
     case round =>
      clear HG0 HGp0;obtain ⟨i,V,hin,rfl,hVl,hG,hGp⟩ := hrel;have HG := Lib.hid hG;have HGp := Lib.hid hGp
      by_cases hlt : i < n
      case pos =>
       have hltI : (i : Int) < (n : Int) := by omega
       obtain ⟨p,hp⟩ : ∃ p,L[i]? = some p := ⟨L[i]'(by rw [HLl.out.1];exact hlt),List.getElem?_eq_getElem _⟩
       obtain ⟨g,c',hv,hgl,r0,r1,r2⟩ := mrow_at hG.its hp;injection hv with hv1 hv2 hv3
       subst hv1 hv3;obtain ⟨A2,m2,c2,e2⟩ := HOv.out p (List.mem_of_getElem? hp);rw [e2] at r2;have hip := HIds.out i p hp;obtain ⟨d,hd⟩ : ∃ d,p.1 = d := ⟨_,rfl⟩;rw [hd] at r0 hip;have hdm := List.mem_of_getElem? hip;generalize p.2.ob.kind = pk at *;have hRt := fun W (hW : Below wr.heap.size wr W) => root_any fc fm F ids cz d W (((bcell hW).1 _ 0 hG.cel.lt).trans (hG.cel.cell 0)) (Nat.lt_of_lt_of_le hG.cel.lt hW.size) (MapAt.tr hG.map hW) HU.out HBd.out hdm
       have hrm := HU.out.mem (fun i hi => (HBd.out i hi).1) _ hdm
       have hst : (fun s => if s = cz d then memT cz ids (cz d) i ++ [d] else memT cz ids s i) = fun s => memT cz ids s (i + 1) := by
        funext s
        rw [memT_step hip]
        by_cases e : s = cz d
        · rw [if_pos e, if_pos e.symm, e]
        · rw [if_neg e, if_neg (fun q => e q.symm), List.append_nil]
       have hml := memT_len (c := cz) (ids := ids) (cz d) i;obtain ⟨r,hr⟩ : ∃ r,cz d = r := ⟨_,rfl⟩;rw [hr] at hrm hRt hst hml;have HRt := Lib.hid hRt;have HSt := Lib.hid hst;have hrow := hGp.row r;obtain ⟨v0,hv0⟩ : ∃ v,(getK r V).getD (.slice none 0 0) = v := ⟨_,rfl⟩;rw [hv0] at hrow;obtain ⟨A0,c0,rfl,_,_,_⟩ := row_form hrow;have HV := Lib.hid hv0;have HRow := Lib.hid (fun W (hW : Below wr.heap.size wr W) => own_lower (own_kept hrow (grown_below hW) (by simp)) (Nat.zero_le _))
       obtain ⟨m0,hm0⟩ : ∃ m,(memT cz ids r i).length = m := ⟨_,rfl⟩;have HM0 := Lib.hid hm0;rw [hm0] at hml hv0 HV HRow;have hd0 : -9223372036854775808 ≤ r := by have := HBd.out r hrm;omega
       have hd1 : r ≤ 9223372036854775807 := by have := HBd.out r hrm;omega
       have hmx : m0 + 1 ≤ maxLen := by unfold maxLen;omega
       have hVm : V.length < maxLen := by unfold maxLen;omega
       have hmb : (m0 + 1) * 8 ≤ 140737488355328 := by omega
       have HMx := Lib.hid (And.intro hmx hmb);have f0 := (hG.cel.cell 0);have fl := hG.cel.lt;simp only [lta,lcz] at f0;clear hp e2 hd hip hv2 hG hGp hRt hst hrow hv0 hm0 hml hmx hmb hr hrm hdm
       go_wp2_with (first
        | (go_at_call 27;(refine (HRt.out _ bel).mono ?_);rintro e wt ⟨rfl,hbt⟩;obtain ⟨hct,hft⟩ := bcell hbt;have hzt := hbt.size;(try simp at hzt))
        | (at_lookup;go_must (refine wpList_lookV1 _ rfl _ _ _ rfl rfl rfl (show MapO _ _ _ (some gm) _ from MapAt.tr HGp.out.map bel) Tryz.underlying3 Tryz.underlying80 (Tryz.zeroSJ _) hd0 hd1 ?_;rw [HV.out]))
        | (at_builtin;go_must (refine wpList_append_at _ rfl _ _ 40 rfl 3 i0 (.int .i64 0) 1 8 Tryz.underlying40 hi iz0 iz1 iz2 rfl Nat.one_pos _ _ _ rfl (HRow.out _ bel) _ _ _ _ rfl rfl one_atY (idcs_one [d]) HMx.out.1 HMx.out.2 Nat.one_pos ?_;intro v8 w8 hown8 hg8 hwh8;have HM8 := Lib.hid (mid_of HGp.out HG.out bel HV.out (by rw [HM0.out];exact hown8) hg8 hwh8);clear hown8 hg8 hwh8))
        | (at_mapUpdate;go_must (refine wpList_storeV _ rfl _ _ _ _ rfl rfl rfl _ rfl (show MapAt _ _ _ gm _ from HM8.out.1) Tryz.underlying3 Tryz.underlying80 hVm hd0 hd1 ?_;intro w9 hm9 hg9;have H9 := Lib.hid (HM8.out.2 w9 hm9 hg9 HNe.out.1 HNe.out.2);clear hm9 hg9)))
       go_roundw
       case rel =>
        refine ⟨i + 1,_,by omega,by go_num,?_,H9.out.1,by rw [← HSt.out];exact H9.out.2⟩
        have := putK_len r v8 V
        omega
       case measure => simp [Go.RowKit.intOf];omega
      case neg =>
       obtain rfl : n = i := by omega
       have hRn : (fun r => memT cz ids r n) = fun r => memS cz ids r := by
        funext r
        rw [← HId.out]
        exact memT_all r
       rw [hRn] at HGp;clear hG hGp hRn hVl;go_wp2_with fail
       go_loopw [2, 90] (fun v2 vi wr => ∃ (i c2 : Nat) (A2 : Option Addr) (rs : List Int), i ≤ n ∧ vi = .int .i64 i ∧ rs = (ids.take i).filter (fun r => decide (cz r = r)) ∧ v2 = .slice A2 rs.length c2 ∧ wr.ownsRow w.heap.size 40 1 v2 rs.length (rs.map fun r => (getK r V).getD (.slice none 0 0)) ∧ GrM w wr fc fm F (.slice A7 n c7) L (.slice A1 Q.length c1) Q ∧ GpM wr w.heap.size gm V (fun r => memS cz ids r)) (fun _ vi _ => n - (Go.RowKit.intOf vi).toNat)
       case atStart => exact ⟨0, 0, none, [], Nat.zero_le _, rfl, by simp, rfl, World.ownsRow_nil _ _ _ _, HG.out, HGp.out⟩
       case round =>
        clear HG HGp;obtain ⟨i,c2,A2,rs,hin,rfl,hrs,rfl,hro,hG,hGp⟩ := hrel;have HG := Lib.hid hG;have HGp := Lib.hid hGp;have HRo := Lib.hid hro
        by_cases hlt : i < n
        case pos =>
         have hltI : (i : Int) < (n : Int) := by omega
         obtain ⟨p,hp⟩ : ∃ p,L[i]? = some p := ⟨L[i]'(by rw [HLl.out.1];exact hlt),List.getElem?_eq_getElem _⟩
         obtain ⟨g,c',hv,hgl,r0,r1,r2⟩ := mrow_at hG.its hp;injection hv with hv1 hv2 hv3
         subst hv1 hv3;obtain ⟨A3,m3,c3,e2⟩ := HOv.out p (List.mem_of_getElem? hp);rw [e2] at r2;have hip := HIds.out i p hp;obtain ⟨d,hd⟩ : ∃ d,p.1 = d := ⟨_,rfl⟩;rw [hd] at r0 hip;have hdm := List.mem_of_getElem? hip;generalize p.2.ob.kind = pk at *;have hd0 : -9223372036854775808 ≤ d := by have := HBd.out d hdm;omega
         have hd1 : d ≤ 9223372036854775807 := by have := HBd.out d hdm;omega
         have hrow := hGp.row d;obtain ⟨v0,hv0⟩ : ∃ v,(getK d V).getD (.slice none 0 0) = v := ⟨_,rfl⟩;rw [hv0] at hrow;obtain ⟨A0,c0,rfl,_,_,_⟩ := row_form hrow;have HV := Lib.hid hv0
         have hrl : rs.length ≤ i := by
          rw [hrs]
          exact Nat.le_trans (List.length_filter_le _ _) (by rw [List.length_take];omega)
         have htk : (ids.take (i + 1)).filter (fun r => decide (cz r = r)) = rs ++ if cz d = d then [d] else [] := by
          rw [takeS hip, List.filter_append, ← hrs]
          congr 1
          by_cases q : cz d = d <;> simp [q]
         by_cases hcd : cz d = d
         case pos =>
          have hm0 : 0 < (memS cz ids d).length := List.length_pos_iff.2 (memS_ne hdm hcd);obtain ⟨m0,hm0'⟩ : ∃ m,(memS cz ids d).length = m := ⟨_,rfl⟩;rw [hm0'] at hm0 HV;have hm1 : (0 : Int) < (m0 : Int) := by omega
          have hmx : rs.length + 1 ≤ maxLen := by unfold maxLen;omega
          have hmb : (rs.length + 1) * 24 ≤ 140737488355328 := by omega
          have HMx := Lib.hid (And.intro hmx hmb);rw [if_pos hcd] at htk;have HTk := Lib.hid htk;have hws := hG.bl.size;have hone : ∀ u ∈ [Value.slice A0 m0 c0],u.oneCell' = true := by simp [Value.oneCell']
          clear hp e2 hd hip hv2 hG hGp hrow hv0 hm0' hmx hmb hdm htk hcd hro hrs
          go_wp2_with (first
           | (at_lookup;go_must (refine wpList_lookV1 _ rfl _ _ _ rfl rfl rfl (show MapO _ _ _ (some gm) _ from MapAt.tr HGp.out.map bel) Tryz.underlying3 Tryz.underlying80 (Tryz.zeroSJ _) hd0 hd1 ?_;rw [HV.out]))
           | (at_builtin;go_must (refine wpList_append_own _ rfl _ _ 34 rfl w.heap.size 40 j0 (.slice none 0 0) 1 24 Tryz.underlying34 hj jz0 jz1 jz2 rfl Nat.one_pos _ _ _ rfl (own_kept HRo.out (grown_below bel) (by simp)) _ _ _ _ rfl rfl ?c1 hone HMx.out.1 HMx.out.2 ?c5 ?_)))
          case c1 => exact one_atG (by simp)
          case c5 => first | omega | (simp;omega)
          intro v8 w8 hown8 hg8 _;obtain ⟨A8,c8,rfl,_,_,_⟩ := row_form hown8;have H8 := Lib.hid (out_of HGp.out HG.out HRo.out bel hg8);have HO8 := Lib.hid hown8;clear hown8 hg8;go_wp2_with fail
          go_roundw
          case rel =>
           refine ⟨i + 1,c8,A8,rs ++ [d],by omega,by go_num,HTk.out.symm,by rw [List.length_append];rfl,?_,H8.out.1,H8.out.2⟩
           rw [List.length_append, List.map_append, List.map_singleton, HV.out]
           exact HO8.out
          case measure => simp [Go.RowKit.intOf];omega
         case neg =>
          have hm0 := memS_nil (ids := ids) HU.out.can.idem hcd;rw [hm0] at HV;rw [if_neg hcd,List.append_nil] at htk;have HTk := Lib.hid htk;clear hp e2 hd hip hv2 hG hGp hrow hv0 hdm htk hcd hro hrs hm0
          go_wp2_with (at_lookup;go_must (refine wpList_lookV1 _ rfl _ _ _ rfl rfl rfl (show MapO _ _ _ (some gm) _ from MapAt.tr HGp.out.map bel) Tryz.underlying3 Tryz.underlying80 (Tryz.zeroSJ _) hd0 hd1 ?_;rw [HV.out]))
          go_roundw
          case rel => exact ⟨i + 1, c2, A2, rs, by omega, by go_num, HTk.out.symm, rfl, own_kept HRo.out (grown_below bel) (by simp), HG.out.tr bel, HGp.out.tr bel⟩
          case measure => simp [Go.RowKit.intOf];omega
        case neg =>
         obtain rfl : n = i := by omega
         have hrs2 : rs = ids.filter (fun r => decide (cz r = r)) := by rw [hrs,List.take_of_length_le (by rw [HId.out];exact Nat.le_refl _)]
         have HE := Lib.hid (show RowsJ wr w.heap.size (.slice A2 rs.length c2) (grpS cz ids) from rows_of hGp (by rw [← hrs2];exact hro))
         clear hrs hro hG hGp hrs2;go_wp2_with fail
         go_ret2
         exact ⟨_,rfl,HE.out,HG.out.bl⟩
end Go.Proofs.YtcbjmcnebmhgpaaGreat
namespace Pg
end Pg
namespace Go.Proofs.YtcbjmcnebmhgpaaGreat
open Go Go.RowKit Pg
theorem irow_at {w : World} {base n c : Nat} {A : Option Addr} {l : List Int} (h : w.ownsRow base 3 1 (.slice A n c) n (idcs l)) {k : Nat} {x : Int} (hk : l[k]? = some x) :
 ∃ b,A = some ⟨b,0,none⟩ ∧ b < w.heap.size ∧ w.cell? ⟨b,k,none⟩ = some (.int .i64 x) := by
 have hkl := (List.getElem?_eq_some_iff.1 hk).1;have hn : n = l.length := by have := h.1;unfold idcs at this;rw [List.length_map] at this;omega
 rcases h.2 with ⟨_,h0⟩ | ⟨b,cap,cur,e,_,hg,_⟩
 · omega
 · injection e with e1 e2 e3
   subst e1 e3;have hc := h.cellAt k (by omega)
   refine ⟨b,rfl,(Array.getElem?_eq_some_iff.1 hg).1,hc.trans ?_⟩;unfold idcs
   rw [List.getElem?_map, hk]
   rfl
theorem RowsJ.form {w : World} {base : Nat} {v : Value} {gs : List (List Int)} (h : RowsJ w base v gs) : ∃ A c,v = .slice A gs.length c := by
 obtain ⟨vs,h1,_⟩ := h;obtain ⟨A,c,e,_⟩ := row_form h1;exact ⟨A,c,e⟩
end Go.Proofs.YtcbjmcnebmhgpaaGreat
