/-
  What touches what,plainly: the pairs of two lists of objects;what touches has bounds that meet. (No program.)
  join: check and Pairs: all that touches, of two trees.
-/
import Derived.Test.YtcbjmcnebmhgpaaGreatKLawsC
import Derived.Test.YtcbjmcnebmhgpaaGreatKItsA
import Derived.Test.YtcbjmcnebmhgpaaGreatKGisL
import Derived.Test.YtcbjmcnebmhgpaaGreatKRel8
import Derived.Test.YtcbjmcnebmhgpaaGreatKHeaC
import Derived.Test.YtcbjmcnebmhgpaaGreatKSplA
set_option linter.unusedVariables false
set_option linter.unusedSimpArgs false
set_option maxHeartbeats 8000000
set_option maxRecDepth 20000
namespace Pg
def rowP (x : Int × Ob) (b : List (Int × Ob)) : List (Int × Int) := (b.filter fun y => touchS x.2 y.2).map fun y => (x.1,y.1)
def pairsP (a b : List (Int × Ob)) : List (Int × Int) := a.flatMap fun x => rowP x b
theorem rowP_len (x : Int × Ob) (b : List (Int × Ob)) : (rowP x b).length ≤ b.length := by
 unfold rowP
 rw [List.length_map]
 exact List.length_filter_le _ _
theorem rowP_snoc (x : Int × Ob) (b : List (Int × Ob)) (y : Int × Ob) : rowP x (b ++ [y]) = rowP x b ++ if touchS x.2 y.2 then [(x.1,y.1)] else [] := by
 unfold rowP
 rw [List.filter_append,List.map_append]
 congr 1
 cases h : touchS x.2 y.2 <;> simp [h]
theorem pairsP_snoc (a b : List (Int × Ob)) (x : Int × Ob) : pairsP (a ++ [x]) b = pairsP a b ++ rowP x b := by
 unfold pairsP
 rw [List.flatMap_append]
 simp
theorem pairsP_len (a b : List (Int × Ob)) : (pairsP a b).length ≤ a.length * b.length := by
 induction a with
 | nil => simp [pairsP]
 | cons x r ih =>
   have h1 : pairsP (x :: r) b = rowP x b ++ pairsP r b := rfl
   rw [h1, List.length_append, List.length_cons, Nat.succ_mul]
   have := rowP_len x b
   omega
end Pg
namespace Go.Proofs.YtcbjmcnebmhgpaaGreat
open Go Go.RowKit Pg
theorem touch_meets {a b : Ob} (h : touchS a b = true) : bmeets (boundsS a) (boundsS b) = true := by
 unfold touchS at h;simp only [Bool.and_eq_true,decide_eq_true_eq] at h;obtain ⟨⟨ha,hb⟩,hm⟩ := h;have hbb := bounds_okBx hb
 cases hx : isBox b with
 | true =>
   have e : boundsS b = obBox b := by unfold boundsS;rw [if_pos hx]
   rw [e] at hbb ⊢
   have hr : ckBox (obBox b) = 0 := okBx_ck.1 hbb;refine meets_bounds ha hr ?_;unfold matchS
   rw [if_pos ⟨ha, by simpa [ckQu] using hr⟩]
   simp only [if_true]
   unfold meetsO at hm ⊢;rw [hx] at hm
   simpa [isBox, obBox, pt] using hm
 | false =>
   have hk : b.kind = 4 := by
    unfold isBox at hx;simp only [decide_eq_false_iff_not,not_or] at hx;unfold ckOb at hb;rw [if_neg hx.1,if_neg hx.2.1,if_neg hx.2.2] at hb
    split at hb
    · assumption
    · cases hb
   have hr : ckRing b.pts = 0 := by
    unfold ckOb at hb;rw [hk] at hb
    simpa using hb
   have e : boundsS b = ringBx b.pts := by unfold boundsS;rw [hx];rfl
   have hmt : matchS a ⟨4,bzero,b.pts⟩ = true := by
    unfold matchS
    rw [if_pos ⟨ha, by simpa [ckQu] using hr⟩]
    simp only [show ¬ (4 : Int) = 1 by decide, show ¬ (4 : Int) = 2 by decide, show ¬ (4 : Int) = 3 by decide, if_false]
    unfold meetsO at hm ⊢;rw [hx] at hm
    simpa [isBox] using hm
   have h2 := match_cons hmt;unfold consB at h2
   rw [if_pos (by simpa [ckQu] using hr)] at h2
   simp only [show ¬ (4 : Int) = 3 by decide,if_false,if_true] at h2
   rw [e]
   exact h2
theorem Tryz.infoPrJ : (Tryz.prog.info? 38).map (fun i => (i.zero,i.size,i.bytes)) = some (some (.agg #[.int .i64 0,.int .i64 0]),2,16) := by kernel_rfl
def prcells (l : List (Int × Int)) : List Value := l.flatMap fun p => [.int .i64 p.1,.int .i64 p.2]
theorem prcells_append (l m : List (Int × Int)) : prcells (l ++ m) = prcells l ++ prcells m := by unfold prcells;rw [List.flatMap_append]
theorem prcells_len (l : List (Int × Int)) : (prcells l).length = l.length * 2 := by
 induction l with
 | nil => rfl
 | cons a r ih =>
   have : prcells (a :: r) = [.int .i64 a.1,.int .i64 a.2] ++ prcells r := rfl
   rw [this, List.length_append, ih]
   simp
   omega
theorem jcheck_any {w : World} {na nb : Nat} (p q : Option Addr) (ha : ∀ W,Below w.heap.size w W → Calls Tryz.prog 45 #[.pointer p] W (Ret W (.int .i64 na))) (hb : ∀ W,Below w.heap.size w W → Calls Tryz.prog 45 #[.pointer q] W (Ret W (.int .i64 nb))) (h1 : na ≤ 2000) (h2 : nb ≤ 2000) :
 Calls Tryz.prog 22 #[.pointer p,.pointer q] w (Ret w .nilIface) := by
 have HA := Lib.hid ha;have HB := Lib.hid hb;clear ha hb;have hm : ¬ (2000 : Int) < max (na : Int) (nb : Int) := by omega
 go_enter Tryz.func22,Tryz.ntmps22
 go_wp2_with (first | (go_at_call 45;have _z := hzp;(refine (HB.out _ bel).mono ?_);rintro e wq ⟨rfl,hbq⟩;obtain ⟨hcq,hfq⟩ := bcell hbq;have hzq := hbq.size;(try simp at hzq)) | (go_at_call 45;(refine (HA.out _ bel).mono ?_);rintro e wp ⟨rfl,hbp⟩;obtain ⟨hcp,hfp⟩ := bcell hbp;have hzp := hbp.size;(try simp at hzp)))
 go_ret;exact ⟨rfl,bel⟩
theorem two_atJ {w : World} {a b : Value} {t : TypeId} : ∀ (j : Nat) (v : Value),[a,b][j]? = some v → (w.alloc (.cells #[a,b] t)).cell? ((⟨w.heap.size,0,none⟩ : Addr).add j) = some v := by
 intro j v hj
 match j,hj with
 | 0,hj => simp at hj;subst hj;simp [Addr.add]
 | 1,hj => simp at hj;subst hj;simp [Addr.add]
structure JnM (w0 w : World) (Z : Nat → Prop) (va vb : Value) (La Lb : List (Int × Mi)) (gb nb : Nat) (f : Nat → Bx) : Prop where
 a : MisZ w Z va La
 b : MisZ w Z vb Lb
 x : Blk w gb 73 (bcl f nb).toArray
 xz : Z gb
 bl : Below w0.heap.size w0 w
section
variable {w0 w w' : World} {Z : Nat → Prop} {va vb : Value} {La Lb : List (Int × Mi)} {gb nb : Nat} {f : Nat → Bx}
theorem JnM.tr (M : JnM w0 w Z va vb La Lb gb nb f) (hb : Below w.heap.size w w') : JnM w0 w' Z va vb La Lb gb nb f :=
 ⟨M.a.tr hb,M.b.tr hb,M.x.tr hb,M.xz,M.bl.trans (hb.mono M.bl.size)⟩
theorem JnM.grown {row : Option Nat} (M : JnM w0 w Z va vb La Lb gb nb f) (hg : w.grownBy w' row) (hr : ∀ k,row = some k → w0.heap.size ≤ k ∧ ¬ Z k) : JnM w0 w' Z va vb La Lb gb nb f := by
 have ht : TurnF (fun b => row = some b) w w' := ⟨hg.os,hg.tape,hg.output,hg.size,fun k hk hF => hg.block k hk fun e => hF e.symm⟩
 exact ⟨M.a.turn ht fun b hb q => (hr b q).2 hb,M.b.turn ht fun b hb q => (hr b q).2 hb,ht.blk M.x fun q => (hr _ q).2 M.xz,M.xz,M.bl.grown hg M.bl.size fun k e => (hr k e).1⟩
theorem MisZ.ptsAt {v : Value} {L : List (Int × Mi)} (h : MisZ w Z v L) {p : Int × Mi} (hp : p ∈ L) {A : Option Addr} {n c : Nat} (e : p.2.ov = .slice A n c) : PtsAt w w.heap.size A n p.2.ob.pts := by
 obtain ⟨A',c',e',hpt⟩ := (h.pts p hp).pts
 rw [e] at e'
 injection e' with e1 e2 e3
 rw [e1,e2]
 exact hpt
theorem bcl_cells {t : TypeId} {g n k : Nat} (h : Blk w g t (bcl f n).toArray) (hk : k < n) : w.cell? ⟨g,k * 4,none⟩ = some (.int .i64 (f k).lo.x) ∧ w.cell? ⟨g,k * 4 + 1,none⟩ = some (.int .i64 (f k).lo.y) ∧ w.cell? ⟨g,k * 4 + 2,none⟩ = some (.int .i64 (f k).hi.x) ∧ w.cell? ⟨g,k * 4 + 3,none⟩ = some (.int .i64 (f k).hi.y) := by
 rw [h.cell,h.cell,h.cell,h.cell]
 simp only [lta]
 rw [bcl_at (by omega),bcl_at (by omega),bcl_at (by omega),bcl_at (by omega)]
 rw [show (k * 4) / 4 = k by omega,show (k * 4) % 4 = 0 by omega,show (k * 4 + 1) / 4 = k by omega,show (k * 4 + 1) % 4 = 1 by omega,show (k * 4 + 2) / 4 = k by omega,show (k * 4 + 2) % 4 = 2 by omega,show (k * 4 + 3) / 4 = k by omega,show (k * 4 + 3) % 4 = 3 by omega]
 exact ⟨rfl,rfl,rfl,rfl⟩
theorem MisZ.more {Z' : Nat → Prop} {v : Value} {L : List (Int × Mi)} (h : MisZ w Z v L) (hZ : ∀ b,Z b → Z' b) : MisZ w Z' v L :=
 ⟨h.row,fun g q => hZ _ (h.rz g q),fun p hp => (h.pts p hp).more fun b _ => hZ b⟩
end
section
variable {w : World} {owna imma ownb immb : Nat → Prop} {tA mA tB mB : Nat} {ta tb : Tr}
theorem told_ok {l : List (Int × Ob)} (h : ∀ x ∈ l,ckOb x.2 = 0) {L : List (Int × Mi)} (ho : obsM L = l) : ∀ p ∈ L,ckOb p.2.ob = 0 := fun p hp => h (p.1,p.2.ob) (by
 rw [← ho]
 exact List.mem_map.2 ⟨p,hp,rfl⟩)
structure Told (w : World) (p : Option Addr) (l : List (Int × Ob)) : Prop where
 len : ∀ W,Below w.heap.size w W → Calls Tryz.prog 45 #[.pointer p] W (Ret W (.int .i64 (l.length : Nat)))
 its : ∀ W,Below w.heap.size w W → Calls Tryz.prog 23 #[.pointer p] W fun e w' => ∃ A c L,e = .returned (.slice A l.length c) ∧ obsM L = l ∧ L.length = l.length ∧ MisZ w' (fun b => w.heap.size ≤ b ∧ b < w'.heap.size) (.slice A l.length c) L ∧ Below W.heap.size W w'
 ok : ∀ x ∈ l,ckOb x.2 = 0
theorem told_tree {C : Cl} {ct : TypeId} {cv : Value} {w : World} {own imm : Nat → Prop} {tb mb : Nat} {t : Tr} (h : GAt C (.iface ct cv) w own imm tb mb t) (hcount : t.items.length ≤ 100000) : Told w (some ⟨tb,0,none⟩) (obsT t.items) := by
 have hl : (obsT t.items).length = t.items.length := by unfold obsT;rw [List.length_map]
 refine ⟨fun W hW => ?_,fun W hW => ?_,fun x hx => ?_⟩
 · rw [hl]
   exact len_any (h.tr hW).lay
 · rw [hl]
   exact ItemsN_any h hcount rfl W hW
 · obtain ⟨⟨i,it⟩,hm,e⟩ := List.mem_map.1 hx
   obtain ⟨_,h3,_⟩ := h.its i it (getK_mem h.shape.rise hm)
   rw [← e]
   exact h3
theorem JPairsT_any {pA pB : Option Addr} {xa xb : List (Int × Ob)} (ha : Told w pA xa) (hb : Told w pB xb) (hna : xa.length ≤ 100) (hnb : xb.length ≤ 100) :
 Calls Tryz.prog 10 #[.pointer pA,.pointer pB] w fun e w' => ∃ v,e = .returned (.tuple #[v,.nilIface]) ∧ w'.ownsRow w.heap.size 38 2 v (pairsP xa xb).length (prcells (pairsP xa xb)) ∧ Below w.heap.size w w' := by
 have HCk := Lib.hid (fun W (hW : Below w.heap.size w W) => jcheck_any pA pB (w := W) (fun W' hW' => ha.len W' (hW.trans (hW'.mono hW.size))) (fun W' hW' => hb.len W' (hW.trans (hW'.mono hW.size))) (by omega) (by omega))
 have HA := Lib.hid ha.ok;have HB := Lib.hid hb.ok;obtain ⟨nb,hnb'⟩ : ∃ n,xb.length = n := ⟨_,rfl⟩;obtain ⟨na,hna'⟩ : ∃ n,xa.length = n := ⟨_,rfl⟩;have hia := ha.its;have hib := hb.its;rw [hna'] at hia;rw [hnb'] at hib;have HIa := Lib.hid hia;have HIb := Lib.hid hib;have HNa := Lib.hid hna';have HNb := Lib.hid hnb';rw [hnb'] at hnb;rw [hna'] at hna;have HM1 := make_bx nb (by omega)
 obtain ⟨i0,hi,iz0,iz1,iz2⟩ := info_parts Tryz.infoPrJ;clear ha hb hnb' hna' hia hib
 go_enter Tryz.func10,Tryz.ntmps10
 go_wp2_with (first
  | (go_at_call 22;(refine (HCk.out _ bel).mono ?_);rintro e wc ⟨rfl,hbc⟩;obtain ⟨hcc,hfc⟩ := bcell hbc;have hzc := hbc.size;(try simp at hzc))
  | (go_at_call 23;(refine (HIb.out _ bel).mono ?_);rintro e w4 ⟨Ab,cb,Lb,rfl,hob,hlb,hmb,hb4⟩;have HLb := Lib.hid (And.intro hob (And.intro hmb hlb));clear hob hmb hlb;obtain ⟨hc4,hf4⟩ := bcell hb4;have hz4 := hb4.size;(try simp at hz4)))
 obtain ⟨G,hG⟩ : ∃ G,w4.heap.size = G := ⟨_,rfl⟩;have HB4 := Lib.hid (show Below w.heap.size w w4 from bel)
 have HX0 := Lib.hid (And.intro (show Blk (w4.alloc (.cells (bcl (fun _ => bzero) nb).toArray 73)) G 73 (bcl (fun _ => bzero) nb).toArray from by rw [← hG];exact Blk.new (by simp) rfl) (show Below w.heap.size w (w4.alloc (.cells (bcl (fun _ => bzero) nb).toArray 73)) from bel))
 have HMb := Lib.hid (HLb.out.2.1.tr (show Below w4.heap.size w4 (w4.alloc (.cells (bcl (fun _ => bzero) nb).toArray 73)) from bel))
 have hGw : w.heap.size ≤ G := by rw [← hG];exact HB4.out.size
 rw [hG] at HMb ⊢
 have HOk := Lib.hid (told_ok HB.out HLb.out.1);have hlbl : Lb.length = nb := HLb.out.2.2;have HLl := Lib.hid hlbl;clear hcc hfc hbc hzc hc4 hf4 hb4 hz4 hG HM1 hlbl
 go_loopw [30] (fun vi wr => ∃ (k : Nat) (f : Nat → Bx),k ≤ nb ∧ vi = .int .i64 k ∧ (∀ j p,j < k → Lb[j]? = some p → f j = boundsS p.2.ob) ∧ Blk wr G 73 (bcl f nb).toArray ∧ MisZ wr (fun b => w.heap.size ≤ b ∧ b < G) (.slice Ab nb cb) Lb ∧ Below w.heap.size w wr) (fun vi _ => nb - (Go.RowKit.intOf vi).toNat)
 case atStart => exact ⟨0,fun _ => bzero,Nat.zero_le _,rfl,fun j p hj => absurd hj (by omega),HX0.out.1,HMb.out,HX0.out.2⟩
 case round =>
  clear HX0 HMb HB4;obtain ⟨k,f,hk,rfl,hf,hX,hM,hb⟩ := hrel;have HS := Lib.hid (And.intro hX (And.intro hM hb));have HFk := Lib.hid hf;have hzb := hb.size;have lG := hX.lt
  by_cases hlt : k < nb
  case pos =>
   have hltI : (k : Int) < (nb : Int) := by omega
   obtain ⟨p,hp⟩ : ∃ p,Lb[k]? = some p := ⟨Lb[k]'(by rw [HLl.out];exact hlt),List.getElem?_eq_getElem _⟩
   have hrow := hM.row;obtain ⟨g,c',hv,hgl,r0,r1,r2⟩ := mrow_at hrow hp;rw [HLl.out] at hv;injection hv with hv1 hv2 hv3
   subst hv1 hv3;obtain ⟨A',c'',ep,hpt⟩ := (hM.pts p (List.mem_of_getElem? hp)).pts;rw [ep] at r2;have hpl := (hM.pts p (List.mem_of_getElem? hp)).1;have hck := HOk.out p (List.mem_of_getElem? hp);have HBo := Lib.hid (fun W (hW : Below wr.heap.size wr W) => Bounds_ok wr.heap.size p.2.ob.pts.length c'' p.2.ob.kind A' p.2.ob.pts W (hpt.below hW) hW.size hpl hck)
   obtain ⟨X,hX'⟩ : ∃ X,boundsS p.2.ob = X := ⟨_,rfl⟩;rw [show (⟨p.2.ob.kind,p.2.ob.pts⟩ : Ob) = p.2.ob from rfl,hX'] at HBo
   have HP := Lib.hid (And.intro hp hX');have e0 := (hX.cell (k * 4)).trans (List.getElem?_toArray.trans (bcl_at (by omega)))
   have e1 := (hX.cell (k * 4 + 1)).trans (List.getElem?_toArray.trans (bcl_at (by omega)))
   have e2 := (hX.cell (k * 4 + 2)).trans (List.getElem?_toArray.trans (bcl_at (by omega)))
   have e3 := (hX.cell (k * 4 + 3)).trans (List.getElem?_toArray.trans (bcl_at (by omega)))
   have fX := hX.frozen;clear hp hrow hv2 ep hpt hpl hck hX' hf hX hM hb;generalize p.1 = pid at *;generalize p.2.ob.kind = pk at *;generalize p.2.ob.pts.length = pn at *;simp only [obV,bxW] at HBo
   go_wp2_with (go_at_call 24;(refine (HBo.out _ bel).mono ?_);rintro e w6 ⟨rfl,hb6⟩;obtain ⟨hc6,hf6⟩ := bcell hb6;have hz6 := hb6.size;(try simp at hz6);have h06 := Lib.hid (show Below wr.heap.size wr w6 from bel);have HX6 := Lib.hid (Blk.tr HS.out.1 h06.out))
   go_roundw
   case rel =>
    have h7 := ((((HX6.out.set_ (k * 4) (.int .i64 X.lo.x)).set_ (k * 4 + 1) (.int .i64 X.lo.y)).set_ (k * 4 + 2) (.int .i64 X.hi.x)).set_ (k * 4 + 3) (.int .i64 X.hi.y)).eq_ (bcl_set X hlt)
    have ht : TurnF (fun b => b = G) w6 ((((w6.setCell ⟨G,k * 4,none⟩ (.int .i64 X.lo.x)).setCell ⟨G,k * 4 + 1,none⟩ (.int .i64 X.lo.y)).setCell ⟨G,k * 4 + 2,none⟩ (.int .i64 X.hi.x)).setCell ⟨G,k * 4 + 3,none⟩ (.int .i64 X.hi.y)) :=
     ((((TurnF.refl (fun b => b = G) w6).set_ (p := ⟨G, k * 4, none⟩) (.inl rfl) _).set_ (p := ⟨G, k * 4 + 1, none⟩) (.inl rfl) _).set_ (p := ⟨G, k * 4 + 2, none⟩) (.inl rfl) _).set_ (p := ⟨G, k * 4 + 3, none⟩) (.inl rfl) _
    exact ⟨k + 1,updB f k X,by omega,by go_num,fun j q hj hq => by
     unfold updB
     split
     · rename_i h
       subst h;rw [HP.out.1] at hq
       cases hq
       exact HP.out.2.symm
     · exact HFk.out j q (by omega) hq,h7,(HS.out.2.1.tr h06.out).turn ht fun b hb q => by have := hb.2;omega,(HS.out.2.2.trans (h06.out.mono HS.out.2.2.size)).trans (turn_belowM ht (fun k q => by omega) (by have := h06.out.size;omega))⟩
   case measure => simp [Go.RowKit.intOf];omega
  case neg =>
   obtain rfl : nb = k := by omega
   clear hf hX hM hb
   go_wp2_with (go_at_call 23;(refine (HIa.out _ HS.out.2.2).mono ?_);rintro e w7 ⟨Aa,ca,La,rfl,hoa,hla,hma,hb7⟩;have HLa := Lib.hid (And.intro hoa hla);have HM7 := Lib.hid (show JnM w w7 (fun b => w.heap.size ≤ b ∧ b < w7.heap.size) (.slice Aa na ca) (.slice Ab nb cb) La Lb G nb f from ⟨hma,(HS.out.2.1.tr hb7).more fun b q => ⟨q.1,Nat.lt_of_lt_of_le q.2 (Nat.le_trans (Nat.le_of_lt lG) hb7.size)⟩,HS.out.1.tr hb7,⟨hGw,Nat.lt_of_lt_of_le lG hb7.size⟩,HS.out.2.2.trans (hb7.mono hzb)⟩);have hz7 := hb7.size;clear hoa hla hma hb7)
   have HOa := Lib.hid (told_ok HA.out HLa.out.1);have HFb := Lib.hid (fun j q (h : Lb[j]? = some q) => HFk.out j q (by rw [← HLl.out];exact (List.getElem?_eq_some_iff.1 h).1) h)
   have hw7 : w.heap.size ≤ w7.heap.size := by omega
   clear HS HFk hzb lG hz7;obtain ⟨la,hla⟩ : ∃ l,xa = l := ⟨_,rfl⟩;obtain ⟨lb,hlb⟩ : ∃ l,xb = l := ⟨_,rfl⟩;have HOl := Lib.hid (show obsM La = la ∧ obsM Lb = lb from ⟨by rw [← hla];exact HLa.out.1,by rw [← hlb];exact HLb.out.1⟩)
   have HLla := Lib.hid (show la.length = na ∧ lb.length = nb from ⟨by rw [← HOl.out.1];unfold obsM;rw [List.length_map];exact HLa.out.2,by rw [← HOl.out.2];unfold obsM;rw [List.length_map];exact HLl.out⟩)
   have HQq := Lib.hid (And.intro hla hlb);clear hla hlb
   go_loopw [4, 48] (fun v4 vi wr => ∃ (i co : Nat) (acc : List (Int × Int)) (Ao : Option Addr), v4 = .slice Ao acc.length co ∧ vi = .int .i64 i ∧ i ≤ na ∧ acc = pairsP (la.take i) lb ∧ wr.ownsRow w7.heap.size 38 2 (.slice Ao acc.length co) acc.length (prcells acc) ∧ JnM w wr (fun b => w.heap.size ≤ b ∧ b < w7.heap.size) (.slice Aa na ca) (.slice Ab nb cb) La Lb G nb f ∧ w7.heap.size ≤ wr.heap.size) (fun _ vi _ => na - (Go.RowKit.intOf vi).toNat)
   case atStart => exact ⟨0, 0, [], none, rfl, rfl, Nat.zero_le _, rfl, World.ownsRow_nil _ _ _ _, HM7.out, Nat.le_refl _⟩
   case round =>
    clear HM7;obtain ⟨i,co,acc,Ao,rfl,rfl,hin,hacc,hro,hM,h7r⟩ := hrel
    by_cases hlt2 : i < na
    case neg =>
     obtain rfl : na = i := by omega
     rw [List.take_of_length_le (by rw [HLla.out.1];exact Nat.le_refl _)] at hacc
     have HE := Lib.hid (show acc = pairsP la lb ∧ wr.ownsRow w.heap.size 38 2 (.slice Ao acc.length co) acc.length (prcells acc) ∧ Below w.heap.size w wr from ⟨hacc,own_lower hro hw7,hM.bl⟩)
     clear hacc hro hM;go_wp2_with fail
     go_ret2
     obtain ⟨h1,h2,h3⟩ := HE.out
     rw [HQq.out.1, HQq.out.2, ← h1]
     exact ⟨_,rfl,h2,h3⟩
    case pos =>
     have hlt2I : (i : Int) < (na : Int) := by omega
     obtain ⟨p,hp⟩ : ∃ p,La[i]? = some p := ⟨La[i]'(by rw [HLa.out.2];exact hlt2),List.getElem?_eq_getElem _⟩
     obtain ⟨g,c',hv,hgl,r0,r1,r2⟩ := mrow_at hM.a.row hp;rw [HLa.out.2] at hv;injection hv with hv1 hv2 hv3
     subst hv1 hv3;obtain ⟨A',c'',ep,hpt⟩ := (hM.a.pts p (List.mem_of_getElem? hp)).pts;rw [ep] at r2;have hpl := (hM.a.pts p (List.mem_of_getElem? hp)).1;have hck := HOa.out p (List.mem_of_getElem? hp);have HBo := Lib.hid (fun W (hW : Below wr.heap.size wr W) => Bounds_ok wr.heap.size p.2.ob.pts.length c'' p.2.ob.kind A' p.2.ob.pts W (hpt.below hW) hW.size hpl hck)
     have hlp : la[i]? = some (p.1,p.2.ob) := by rw [← HOl.out.1];unfold obsM;rw [List.getElem?_map,hp];rfl
     obtain ⟨X,hX'⟩ : ∃ X,boundsS p.2.ob = X := ⟨_,rfl⟩;rw [show (⟨p.2.ob.kind,p.2.ob.pts⟩ : Ob) = p.2.ob from rfl,hX'] at HBo
     obtain ⟨pid,hpid⟩ : ∃ x,p.1 = x := ⟨_,rfl⟩;obtain ⟨po,hpo⟩ : ∃ x,p.2.ob = x := ⟨_,rfl⟩;rw [hpid] at r0
     rw [hpo] at r1 r2 HBo hpt hpl hX'
     rw [hpid,hpo] at hlp;have HP := Lib.hid (And.intro hpl (And.intro hX' hlp));rw [hpo] at ep;have HPp := Lib.hid (And.intro (List.mem_of_getElem? hp) (And.intro hpid (And.intro hpo ep)));have HS := Lib.hid (And.intro hacc (And.intro hro hM));clear hp hv2 ep hpt hpl hck hX' hlp hacc hro hM hpid hpo;generalize hpk : po.kind = pk at *;generalize hpn : po.pts.length = pn at *;have hpn6 : pn ≤ 1000000 := HP.out.1;have HPk := Lib.hid (And.intro hpk hpn);clear hpk hpn;simp only [obV,bxW] at HBo
     go_wp2_with (go_at_call 24;(refine (HBo.out _ bel).mono ?_);rintro e w6 ⟨rfl,hb6⟩;have hgx := Lib.hid (show Blk w6 wr.heap.size 52 #[.int .i64 pid,.int .i64 pk,.slice A' pn c''] from blkA);have h06 := Lib.hid (show Below wr.heap.size wr w6 from bel);obtain ⟨hc6,hf6⟩ := bcell hb6;have hz6 := hb6.size;(try simp at hz6))
     obtain ⟨gx,hgx'⟩ : ∃ g,wr.heap.size = g := ⟨_,rfl⟩;obtain ⟨gB,hgB'⟩ : ∃ g,w6.heap.size = g := ⟨_,rfl⟩;have HI0 := Lib.hid (show JnM w (w6.alloc (.cells #[.int .i64 X.lo.x,.int .i64 X.lo.y,.int .i64 X.hi.x,.int .i64 X.hi.y] 73)) (fun b => w.heap.size ≤ b ∧ b < w7.heap.size) (.slice (some ⟨g,0,none⟩) na ca) (.slice Ab nb cb) La Lb G nb f ∧ (w6.alloc (.cells #[.int .i64 X.lo.x,.int .i64 X.lo.y,.int .i64 X.hi.x,.int .i64 X.hi.y] 73)).ownsRow w7.heap.size 38 2 (.slice Ao acc.length co) acc.length (prcells acc) ∧ Blk (w6.alloc (.cells #[.int .i64 X.lo.x,.int .i64 X.lo.y,.int .i64 X.hi.x,.int .i64 X.hi.y] 73)) gx 52 #[.int .i64 pid,.int .i64 pk,.slice A' pn c''] ∧ Blk (w6.alloc (.cells #[.int .i64 X.lo.x,.int .i64 X.lo.y,.int .i64 X.hi.x,.int .i64 X.hi.y] 73)) gB 73 #[.int .i64 X.lo.x,.int .i64 X.lo.y,.int .i64 X.hi.x,.int .i64 X.hi.y] from ⟨HS.out.2.2.tr (h06.out.alloc h06.out.size _),own_kept HS.out.2.1 (grown_below (h06.out.alloc h06.out.size _)) (by simp),by rw [← hgx'];exact hgx.out.alloc _,by rw [← hgB'];exact Blk.new (by simp) rfl⟩)
     have h7x : w7.heap.size ≤ gx := by omega
     have h7B : w7.heap.size ≤ gB := by have := h06.out.size;omega
     rw [hgx', hgB']
     clear hgx' hgB' hgx h06 hc6 hf6 hb6 hz6 hgl r0 r1 r2
     go_loopw [4, 60] (fun v4 vi wr => ∃ (k co : Nat) (acc' : List (Int × Int)) (Ao : Option Addr), v4 = .slice Ao acc'.length co ∧ vi = .int .i64 k ∧ k ≤ nb ∧ acc' = acc ++ rowP (pid, po) (lb.take k) ∧ wr.ownsRow w7.heap.size 38 2 (.slice Ao acc'.length co) acc'.length (prcells acc') ∧ JnM w wr (fun b => w.heap.size ≤ b ∧ b < w7.heap.size) (.slice (some ⟨g, 0, none⟩) na ca) (.slice Ab nb cb) La Lb G nb f ∧ Blk wr gx 52 #[.int .i64 pid, .int .i64 pk, .slice A' pn c''] ∧ Blk wr gB 73 #[.int .i64 X.lo.x, .int .i64 X.lo.y, .int .i64 X.hi.x, .int .i64 X.hi.y] ∧ w7.heap.size ≤ wr.heap.size) (fun _ vi _ => nb - (Go.RowKit.intOf vi).toNat)
     case atStart => exact ⟨0,co,acc,Ao,rfl,rfl,Nat.zero_le _,by simp [rowP],HI0.out.2.1,HI0.out.1,HI0.out.2.2.1,HI0.out.2.2.2,by have := HI0.out.2.2.2.lt;omega⟩
     case round =>
      clear HI0;obtain ⟨k,co',acc',Ao',rfl,rfl,hkn,hacc',hro',hM',hgx,hgB,h7w⟩ := hrel
      by_cases hlt3 : k < nb
      case neg =>
       obtain rfl : nb = k := by omega
       rw [List.take_of_length_le (by rw [HLla.out.2];exact Nat.le_refl _)] at hacc'
       have HE := Lib.hid (show acc' = pairsP (la.take (i + 1)) lb ∧ wr.ownsRow w7.heap.size 38 2 (.slice Ao' acc'.length co') acc'.length (prcells acc') ∧ JnM w wr (fun b => w.heap.size ≤ b ∧ b < w7.heap.size) (.slice (some ⟨g,0,none⟩) na ca) (.slice Ab nb cb) La Lb G nb f from ⟨by rw [List.take_add_one,HP.out.2.2,hacc',HS.out.1];exact (pairsP_snoc _ _ _).symm,hro',hM'⟩)
       clear hacc' hro' hM' hgx hgB;go_wp2_with fail
       go_roundw
       case rel => exact ⟨i + 1, co', acc', Ao', rfl, by go_num, by omega, HE.out.1, HE.out.2.1, HE.out.2.2, h7w⟩
       case measure => simp [Go.RowKit.intOf];omega
      case pos =>
       have hlt3I : (k : Int) < (nb : Int) := by omega
       obtain ⟨q,hq⟩ : ∃ q,Lb[k]? = some q := ⟨Lb[k]'(by rw [HLl.out];exact hlt3),List.getElem?_eq_getElem _⟩
       obtain ⟨g2,c2',hv,hgl2,s0,s1,s2⟩ := mrow_at hM'.b.row hq;rw [HLl.out] at hv;injection hv with hv1 hv2 hv3
       subst hv1 hv3;obtain ⟨A2,c2,ep2,hpt2⟩ := (hM'.b.pts q (List.mem_of_getElem? hq)).pts;rw [ep2] at s2;have hpl2 := (hM'.b.pts q (List.mem_of_getElem? hq)).1;have hptx := hM'.a.ptsAt HPp.out.1 HPp.out.2.2.2;rw [HPp.out.2.2.1] at hptx;have htch := fun W (hW : Below wr.heap.size wr W) => touch_any wr.heap.size pn c'' q.2.ob.pts.length c2 pk q.2.ob.kind A' A2 po.pts q.2.ob.pts W (hptx.below hW) (hpt2.below hW) hW.size hpn6 hpl2
       have hlq : lb[k]? = some (q.1,q.2.ob) := by rw [← HOl.out.2];unfold obsM;rw [List.getElem?_map,hq];rfl
       have hfk := HFb.out k q hq
       have hpairs : (acc ++ rowP (pid,po) (lb.take k)).length ≤ 10100 := by
        rw [List.length_append, HS.out.1]
        have h1 := pairsP_len (la.take i) lb;have h2 := rowP_len (pid,po) (lb.take k);rw [HLla.out.2] at h1;rw [List.length_take] at h1 h2;have h3 : min i la.length * nb ≤ 100 * 100 := Nat.mul_le_mul (by omega) (by omega)
        omega
       rw [← hacc'] at hpairs;obtain ⟨Y,hY⟩ : ∃ Y,boundsS q.2.ob = Y := ⟨_,rfl⟩;obtain ⟨qid,hqid⟩ : ∃ x,q.1 = x := ⟨_,rfl⟩;obtain ⟨qo,hqo⟩ : ∃ x,q.2.ob = x := ⟨_,rfl⟩;rw [hqo] at hY hfk htch hpt2 hpl2 s1 s2;rw [hY] at hfk;rw [hqid] at s0;rw [hqid,hqo] at hlq;obtain ⟨mt,hmt⟩ : ∃ b,bmeets X Y = b := ⟨_,rfl⟩;obtain ⟨tt,htt⟩ : ∃ b,touchS po qo = b := ⟨_,rfl⟩
       have himp : tt = true → mt = true := fun h => by
        have := touch_meets (a := po) (b := qo) (by rw [htt,h])
        rw [HP.out.2.1,hY,hmt] at this;exact this
       have htt' : touchS ⟨pk,po.pts⟩ ⟨qo.kind,qo.pts⟩ = tt := by rw [← htt,← HPk.out.1]
       simp only [htt'] at htch;have HTo := Lib.hid htch;have HMe := Lib.hid (fun W => meets_any X.lo.x X.lo.y X.hi.x X.hi.y Y.lo.x Y.lo.y Y.hi.x Y.hi.y W)
       rw [show (⟨⟨X.lo.x,X.lo.y⟩,⟨X.hi.x,X.hi.y⟩⟩ : Bx) = X from rfl,show (⟨⟨Y.lo.x,Y.lo.y⟩,⟨Y.hi.x,Y.hi.y⟩⟩ : Bx) = Y from rfl,hmt] at HMe
       have hrp : rowP (pid,po) (lb.take (k + 1)) = rowP (pid,po) (lb.take k) ++ if tt then [(pid,qid)] else [] := by
        rw [List.take_add_one, hlq, Option.toList_some, rowP_snoc]
        simp only [htt]
       have HRp := Lib.hid hrp;have HM' := Lib.hid (And.intro hM' (And.intro hro' (And.intro hgx (And.intro hgB hacc'))));have hgl3 := hgl2;have lG := hM'.x.lt;clear hq hv2 hpt2 hptx htch hlq hY hqid hqo hmt htt htt' hrp hro' hM' hgx hgB hacc' ep2;generalize qo.kind = qk at *;generalize qo.pts.length = qn at *;go_wp2_with fail;refine wp_genG (fun W => Below wr.heap.size wr W ∧ Blk W wr.heap.size 52 #[.int .i64 qid,.int .i64 qk,.slice A2 qn c2]) ⟨bel,blkA⟩ ?_
       rintro w8 ⟨hb8,hgy⟩;have HB8 := Lib.hid hb8;have HGy := Lib.hid hgy;obtain ⟨b0,b1,b2,b3⟩ := bcl_cells ((HM'.out.1.x).tr hb8) hlt3;rw [hfk] at b0 b1 b2 b3;have lG8 := ((HM'.out.1.x).tr hb8).lt;have hx8 := (HM'.out.2.2.1).tr hb8;have x0 := hx8.cell 0;have x1 := hx8.cell 1;have x2 := hx8.cell 2;have xl := hx8.lt;have hB8 := (HM'.out.2.2.2.1).tr hb8;have d0 := hB8.cell 0;have d1 := hB8.cell 1;have d2 := hB8.cell 2;have d3 := hB8.cell 3;have dl := hB8.lt;have y0 := hgy.cell 0;have y1 := hgy.cell 1;have y2 := hgy.cell 2;have yl := hgy.lt;simp only [lta,lcz,lcs] at x0 x1 x2 d0 d1 d2 d3 y0 y1 y2;obtain ⟨gy,hgy'⟩ : ∃ g,wr.heap.size = g := ⟨_,rfl⟩;have HTo8 := Lib.hid (fun W (hW : Below w8.heap.size w8 W) => HTo.out W (HB8.out.trans (hW.mono HB8.out.size)))
       rw [hgy'] at y0 y1 y2 yl HGy ⊢
       have hgyw : w7.heap.size ≤ gy := by omega
       simp only [obV] at HTo8;clear hb8 hgy hx8 hB8 hgy' hfk s0 s1 s2 hgl2 hgl3 lG HTo
       cases mt with
       | false =>
         have ht0 : tt = false := by
          cases tt with
          | false => rfl
          | true => exact absurd (himp rfl) (by decide)
         subst ht0;clear himp;refine wp_region_belowI (by kernel_rfl) (by kernel_rfl) (fun _ _ d _ _ h => by cases d <;> exact h) ?_
         simp only [List.map_cons, List.map_nil, ldz, lds, bare, gslot, lcz, lcs, Option.bind_some]
         repeat' ((try simp only [Act.put,lsi,lsz,lss]);first | (refine lexL_on ?_ ?_;focus (simp only [lta,lcs,lcz,Bool.not_true,Bool.not_false];done)) | (refine lexL_off ?_ ?_ ?_;(focus (simp only [lta,lcs,lcz,Bool.not_true,Bool.not_false];done));(focus (exact bel))) | (refine lexL_splitS (X := ?_) ?_ ?_ (fun hg => ?_) (fun hg => ?_);rotate_left;(focus (simp only [lta,lcs,lcz];with_reducible rfl));(focus (exact bel));all_goals (try simp only [Bool.not_true,Bool.not_false] at hg)) | (refine lexL_quiet (v := ?_) wantB_none rfl ?_ ?_;rotate_left;focus (intro wq hq;obtain ⟨hcq,hfq⟩ := bcell hq;go_simp;try with_reducible rfl)) | (refine lexL_loud wantB_none rfl (fun K hK => ?_);go_simp;((first |  (go_at_call 25;(with_reducible refine (HMe.out _).mono ?_);rintro e wm ⟨rfl,hbm⟩;obtain ⟨hcm,hfm⟩ := bcell hbm;have hzm := hbm.size;(try simp at hzm)) | skip) <;> (refine hK.out _ _ bel ?_;clear hK K))))
         (all_goals try simp only [Act.put,lsi,lsz,lss]);all_goals (refine lexL_nil ?_)
         go_wp2_with fail
         go_roundw
         case rel => exact ⟨k + 1,co',acc',Ao',rfl,by go_num,by omega,by rw [HRp.out,HM'.out.2.2.2.2];simp,own_kept (own_kept HM'.out.2.1 (grown_below HB8.out) (by simp)) (grown_below bel) (by simp),(HM'.out.1.tr HB8.out).tr bel,(HM'.out.2.2.1.tr HB8.out).tr bel,(HM'.out.2.2.2.1.tr HB8.out).tr bel,Nat.le_trans h7w (Nat.le_trans HB8.out.size (Below.size (B := w8.heap.size) (w := w8) bel))⟩
         case measure => simp [Go.RowKit.intOf];omega
       | true =>
         cases tt with
         | false =>
           clear himp;refine wp_region_belowI (by kernel_rfl) (by kernel_rfl) (fun _ _ d _ _ h => by cases d <;> exact h) ?_
           simp only [List.map_cons, List.map_nil, ldz, lds, bare, gslot, lcz, lcs, Option.bind_some]
           repeat' ((try simp only [Act.put,lsi,lsz,lss]);first | (refine lexL_on ?_ ?_;focus (simp only [lta,lcs,lcz,Bool.not_true,Bool.not_false];done)) | (refine lexL_off ?_ ?_ ?_;(focus (simp only [lta,lcs,lcz,Bool.not_true,Bool.not_false];done));(focus (exact bel))) | (refine lexL_splitS (X := ?_) ?_ ?_ (fun hg => ?_) (fun hg => ?_);rotate_left;(focus (simp only [lta,lcs,lcz];with_reducible rfl));(focus (exact bel));all_goals (try simp only [Bool.not_true,Bool.not_false] at hg)) | (refine lexL_quiet (v := ?_) wantB_none rfl ?_ ?_;rotate_left;focus (intro wq hq;obtain ⟨hcq,hfq⟩ := bcell hq;go_simp;try with_reducible rfl)) | (refine lexL_loud wantB_none rfl (fun K hK => ?_);go_simp;((first |  (go_at_call 25;(with_reducible refine (HMe.out _).mono ?_);rintro e wm ⟨rfl,hbm⟩;obtain ⟨hcm,hfm⟩ := bcell hbm;have hzm := hbm.size;(try simp at hzm)) | (go_at_call 26;(refine (HTo8.out _ bel).mono ?_);rintro e wt ⟨rfl,hbt⟩;obtain ⟨hct,hft⟩ := bcell hbt;have hzt := hbt.size;(try simp at hzt)) | skip) <;> (refine hK.out _ _ bel ?_;clear hK K))))
           (all_goals try simp only [Act.put,lsi,lsz,lss]);all_goals (refine lexL_nil ?_)
           go_wp2_with fail
           go_roundw
           case rel => exact ⟨k + 1,co',acc',Ao',rfl,by go_num,by omega,by rw [HRp.out,HM'.out.2.2.2.2];simp,own_kept (own_kept HM'.out.2.1 (grown_below HB8.out) (by simp)) (grown_below bel) (by simp),(HM'.out.1.tr HB8.out).tr bel,(HM'.out.2.2.1.tr HB8.out).tr bel,(HM'.out.2.2.2.1.tr HB8.out).tr bel,Nat.le_trans h7w (Nat.le_trans HB8.out.size (Below.size (B := w8.heap.size) (w := w8) bel))⟩
           case measure => simp [Go.RowKit.intOf];omega
         | true =>
           clear himp;refine wp_region_belowI (by kernel_rfl) (by kernel_rfl) (fun _ _ d _ _ h => by cases d <;> exact h) ?_
           simp only [List.map_cons, List.map_nil, ldz, lds, bare, gslot, lcz, lcs, Option.bind_some]
           repeat' ((try simp only [Act.put,lsi,lsz,lss]);first | (refine lexL_on ?_ ?_;focus (simp only [lta,lcs,lcz,Bool.not_true,Bool.not_false];done)) | (refine lexL_off ?_ ?_ ?_;(focus (simp only [lta,lcs,lcz,Bool.not_true,Bool.not_false];done));(focus (exact bel))) | (refine lexL_splitS (X := ?_) ?_ ?_ (fun hg => ?_) (fun hg => ?_);rotate_left;(focus (simp only [lta,lcs,lcz];with_reducible rfl));(focus (exact bel));all_goals (try simp only [Bool.not_true,Bool.not_false] at hg)) | (refine lexL_quiet (v := ?_) wantB_none rfl ?_ ?_;rotate_left;focus (intro wq hq;obtain ⟨hcq,hfq⟩ := bcell hq;go_simp;try with_reducible rfl)) | (refine lexL_loud wantB_none rfl (fun K hK => ?_);go_simp;((first |  (go_at_call 25;(with_reducible refine (HMe.out _).mono ?_);rintro e wm ⟨rfl,hbm⟩;obtain ⟨hcm,hfm⟩ := bcell hbm;have hzm := hbm.size;(try simp at hzm)) | (go_at_call 26;(refine (HTo8.out _ bel).mono ?_);rintro e wt ⟨rfl,hbt⟩;obtain ⟨hct,hft⟩ := bcell hbt;have hzt := hbt.size;(try simp at hzt)) | skip) <;> (refine hK.out _ _ bel ?_;clear hK K))))
           (all_goals try simp only [Act.put,lsi,lsz,lss]);all_goals (refine lexL_nil ?_)
           refine gen_w (Φ := fun W => Exit.then _ _ Exit.normal _ W) (fun W => Below w8.heap.size w8 W) bel ?_
           clear hct hft hbt hzt hcm hfm hbm hzm;rintro w10 hb10;have HB10 := Lib.hid (HB8.out.trans (hb10.mono HB8.out.size));obtain ⟨hc10,_⟩ := bcell hb10;have hz10 := hb10.size;have x0' := (hc10 _ _ xl).trans x0;have y0' := (hc10 _ _ yl).trans y0;have xl' : gx < w10.heap.size := by omega
           have yl' : gy < w10.heap.size := by omega
           clear x0 x1 x2 xl y0 y1 y2 yl d0 d1 d2 d3 dl b0 b1 b2 b3 lG8 hb10 hc10 hz10;have HR8 := Lib.hid (own_kept HM'.out.2.1 (grown_below HB10.out) (by simp))
           go_wp2_with (at_builtin;go_must (refine wpList_append_own _ rfl _ _ 29 rfl w7.heap.size 38 i0 (.agg #[.int .i64 0,.int .i64 0]) 2 16 Tryz.underlying29 hi iz0 iz1 iz2 rfl (by decide) _ _ _ rfl (own_kept HR8.out (grown_below bel) (by simp)) _ _ _ _ rfl rfl two_atJ ?c2 ?c3 ?c4 ?c5 ?_))
           case c2 => simp [Value.oneCell']
           case c3 => unfold maxLen;omega
           case c4 => omega
           case c5 => first | omega | (simp;omega)
           intro v9 w9 hown hgrow _;obtain ⟨A9,c9,rfl,_,_,_⟩ := row_form hown;have hbt : Below w10.heap.size w10 (w10.alloc (.cells #[.int .i64 pid,.int .i64 qid] 38)) := bel;have hrt := own_kept HR8.out (grown_below hbt) (by simp)
           have hxt := (HM'.out.2.2.1.tr HB10.out).tr hbt;have hBt := (HM'.out.2.2.2.1.tr HB10.out).tr hbt
           have H9 := Lib.hid (show JnM w w9 (fun b => w.heap.size ≤ b ∧ b < w7.heap.size) (.slice (some ⟨g,0,none⟩) na ca) (.slice (some ⟨g2,0,none⟩) nb cb) La Lb G nb f ∧ w9.ownsRow w7.heap.size 38 2 (.slice A9 (acc' ++ [(pid,qid)]).length c9) (acc' ++ [(pid,qid)]).length (prcells (acc' ++ [(pid,qid)])) ∧ Blk w9 gx 52 #[.int .i64 pid,.int .i64 pk,.slice A' pn c''] ∧ Blk w9 gB 73 #[.int .i64 X.lo.x,.int .i64 X.lo.y,.int .i64 X.hi.x,.int .i64 X.hi.y] ∧ w7.heap.size ≤ w9.heap.size from
            ⟨((HM'.out.1.tr HB10.out).tr hbt).grown hgrow (fun k q => by have := (hrt.lt k q).1;exact ⟨by omega,fun z => by have := z.2;omega⟩),by rw [List.length_append,prcells_append];exact hown,Blk.kept hxt hgrow (own_ne hrt hxt (by decide)),Blk.kept hBt hgrow (own_ne hrt hBt (by decide)),Nat.le_trans h7w (Nat.le_trans HB10.out.size (Nat.le_trans hbt.size hgrow.size))⟩)
           clear hown hgrow hbt hrt hxt hBt;go_wp2_with fail
           go_roundw
           case rel => exact ⟨k + 1,c9,acc' ++ [(pid,qid)],A9,by rw [List.length_append];rfl,by go_num,by omega,by rw [HRp.out,HM'.out.2.2.2.2,List.append_assoc];rfl,H9.out.2.1,H9.out.1,H9.out.2.2.1,H9.out.2.2.2.1,H9.out.2.2.2.2⟩
           case measure => simp [Go.RowKit.intOf];omega
theorem JPairs_any {Ca Cb : Cl} {ct1 ct2 : TypeId} {cv1 cv2 : Value} (ha : GAt Ca (.iface ct1 cv1) w owna imma tA mA ta) (hb : GAt Cb (.iface ct2 cv2) w ownb immb tB mB tb) (hna : ta.items.length ≤ 100) (hnb : tb.items.length ≤ 100) :
 Calls Tryz.prog 10 #[gP tA,gP tB] w fun e w' => ∃ v,e = .returned (.tuple #[v,.nilIface]) ∧ w'.ownsRow w.heap.size 38 2 v (pairsP (obsT ta.items) (obsT tb.items)).length (prcells (pairsP (obsT ta.items) (obsT tb.items))) ∧ Below w.heap.size w w' := by
 have l1 : (obsT ta.items).length = ta.items.length := by unfold obsT;rw [List.length_map]
 have l2 : (obsT tb.items).length = tb.items.length := by unfold obsT;rw [List.length_map]
 exact JPairsT_any (told_tree ha (by omega)) (told_tree hb (by omega)) (by omega) (by omega)
end
end Go.Proofs.YtcbjmcnebmhgpaaGreat
