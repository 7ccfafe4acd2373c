/-
  heap: its entries in memory,how two are compared;the contracts of rank,number,compare,less,Len,Top,New,Push,Pop.
  heap: less, Len, Top, New, Push, Pop.
  heap: Pop.
-/
import Derived.Test.YtildgbhliaonnaaGreatQGisB
import Derived.Test.YtildgbhliaonnaaGreatQNearP
import Derived.Test.YtildgbhliaonnaaGreatQRatio
import Derived.Test.YtildgbhliaonnaaGreatQSplA
import Derived.Test.YtildgbhliaonnaaGreatQLexR
set_option linter.unusedVariables false
set_option linter.unusedSimpArgs false
set_option maxHeartbeats 8000000
set_option maxRecDepth 20000
namespace Pg
open Go Go.RowKit
section
variable {α : Type} {f : α → List Value} {s : Nat}
theorem flat_len (hf : ∀ a,(f a).length = s) (l : List α) : (l.flatMap f).length = l.length * s := by
 induction l with
 | nil => simp
 | cons a r ih => rw [List.flatMap_cons,List.length_append,ih,hf,List.length_cons,Nat.succ_mul];omega
theorem flat_drop (hf : ∀ a,(f a).length = s) (l : List α) (k : Nat) : (l.flatMap f).drop (k * s) = (l.drop k).flatMap f := by
 induction l generalizing k with
 | nil => simp
 | cons a r ih =>
   cases k with
   | zero => simp
   | succ k =>
     rw [List.drop_succ_cons,List.flatMap_cons,← ih,show (k + 1) * s = s + k * s by rw [Nat.succ_mul];omega,← List.drop_drop]
     congr 1
     rw [List.drop_append_of_le_length (by rw [hf];omega),List.drop_eq_nil_of_le (by rw [hf];omega),List.nil_append]
theorem flat_take (hf : ∀ a,(f a).length = s) (l : List α) (k : Nat) : (l.flatMap f).take (k * s) = (l.take k).flatMap f := by
 induction l generalizing k with
 | nil => simp
 | cons a r ih =>
   cases k with
   | zero => simp
   | succ k =>
     rw [List.take_succ_cons,List.flatMap_cons,List.flatMap_cons,← ih,show (k + 1) * s = (f a).length + k * s by rw [Nat.succ_mul,hf];omega,List.take_length_add_append]
theorem flat_at (hf : ∀ a,(f a).length = s) {l : List α} {k : Nat} {x : α} (h : l[k]? = some x) {j : Nat} (hj : j < s) : (l.flatMap f)[k * s + j]? = (f x)[j]? := by
 have hk : k < l.length := by
  rcases Nat.lt_or_ge k l.length with q | q
  · exact q
  · rw [List.getElem?_eq_none q] at h;cases h
 rw [← List.getElem?_drop,flat_drop hf,List.drop_eq_getElem_cons hk]
 rw [List.getElem?_eq_getElem hk] at h;injection h with h
 rw [h,List.flatMap_cons,List.getElem?_append_left (by rw [hf];exact hj)]
def setN (xs : List Value) (o : Nat) : List Value → List Value
 | [] => xs
 | u :: r => setN (xs.set o u) (o + 1) r
theorem setN_eq : ∀ (us xs : List Value) (o : Nat),o + us.length ≤ xs.length → setN xs o us = xs.take o ++ us ++ xs.drop (o + us.length)
 | [],xs,o,_ => by simp [setN]
 | u :: r,xs,o,h => by
   unfold setN
   rw [List.length_cons] at h ⊢
   rw [setN_eq r _ _ (by rw [List.length_set];omega)]
   rw [List.take_set, List.drop_set_of_lt (by omega), List.take_add_one, List.getElem?_eq_getElem (show o < xs.length by omega)]
   rw [List.set_append_right _ _ (by simp;omega)]
   simp
   have h1 : o - min o xs.length = 0 := by omega
   rw [h1]
   simp
   congr 1
   omega
theorem flat_setN (hf : ∀ a,(f a).length = s) {l : List α} {k : Nat} (hk : k < l.length) (y : α) : setN (l.flatMap f) (k * s) (f y) = (l.set k y).flatMap f := by
 have h1 : k * s + s ≤ l.length * s := by rw [← Nat.succ_mul];exact Nat.mul_le_mul_right _ hk
 rw [setN_eq _ _ _ (by rw [hf,flat_len hf];exact h1),hf,flat_take hf,show k * s + s = (k + 1) * s by rw [Nat.succ_mul],flat_drop hf,List.set_eq_take_append_cons_drop,if_pos hk]
 simp [List.flatMap_append,List.flatMap_cons]
end
end Pg
namespace Go.Proofs.YtildgbhliaonnaaGreat
open Go Go.RowKit Pg
abbrev heV (e : HE) : Value := .agg #[.int .i64 e.id,.int .u64 ((e.d.num / 18446744073709551616 : Nat) : Int),.int .u64 ((e.d.num % 18446744073709551616 : Nat) : Int),.int .u64 (e.d.den : Int),.bool e.item,.int .i64 (e.node : Int)]
def pucell (x : Pu) : List Value := [.int .i64 x.1.id,.int .u64 ((x.1.d.num / 18446744073709551616 : Nat) : Int),.int .u64 ((x.1.d.num % 18446744073709551616 : Nat) : Int),.int .u64 (x.1.d.den : Int),.bool x.1.item,.int .i64 (x.1.node : Int),.int .i64 (x.2 : Int)]
def pucells (l : List Pu) : List Value := l.flatMap pucell
theorem pucell_len (x : Pu) : (pucell x).length = 7 := rfl
structure HeapAt (w : World) (F : Nat → Prop) (hb : Nat) (v : Value) (h : List Pu) (c : Nat) : Prop where
 blk : Blk w hb 148 #[v,.int .i64 c]
 row : w.ownsRow 0 150 7 v h.length (pucells h)
 oB : F hb
 oR : ∀ g,v.ownBlock = some g → F g
 lim : ∀ g,F g → g < w.heap.size
 ok : ∀ x ∈ h,FrOk x.1.d
theorem rank_any (e : HE) (w : World) : Calls Tryz.prog 144 #[heV e] w (Ret w (.int .i64 (rankH e))) := by
 obtain ⟨id,d,it,nd⟩ := e
 cases it
 · go_enter Tryz.func144,Tryz.ntmps144
   go_wp2;go_ret;exact ⟨by simp [rankH],bel⟩
 · go_enter Tryz.func144,Tryz.ntmps144
   go_wp2;go_ret;exact ⟨by simp [rankH],bel⟩
theorem number_any (e : HE) (w : World) : Calls Tryz.prog 145 #[heV e] w (Ret w (.int .i64 (numH e))) := by
 obtain ⟨id,d,it,nd⟩ := e
 cases it
 · go_enter Tryz.func145,Tryz.ntmps145
   go_wp2;go_ret;exact ⟨by simp [numH],bel⟩
 · go_enter Tryz.func145,Tryz.ntmps145
   go_wp2;go_ret;exact ⟨by simp [numH],bel⟩
theorem or3_orI (x y z : Int) : or3 x y z = orI x (orI y z) := by unfold or3 orI;rfl
theorem or2h_any (g : Nat) (t : TypeId) (x y : Int) (w : World) (h : Blk w g t #[.int .i64 x,.int .i64 y]) :
 Calls Tryz.prog 102 #[.slice (some ⟨g,0,none⟩) 2 2] w fun e w' => e = .returned (.int .i64 (orI x y)) ∧ w = w' := by
 have c0 := h.cell 0;have c1 := h.cell 1;simp only [lta,lcz,lcs] at c0 c1
 by_cases hx : x = 0
 · subst hx
   by_cases hy : y = 0
   · subst hy
     go_enter Tryz.func102, Tryz.ntmps102
     go_wp2;refine wp_loop_rounds 3 ?_
     rw [rounds_succ]
     go_wp2
     rw [rounds_succ]
     go_wp2
     rw [rounds_succ]
     go_wp2;go_ret;exact ⟨by simp [orI],rfl⟩
   · have hb : (y == 0) = false := by simpa using hy
     go_enter Tryz.func102, Tryz.ntmps102
     go_wp2;refine wp_loop_rounds 2 ?_
     rw [rounds_succ]
     go_wp2
     rw [rounds_succ]
     go_wp2;go_ret;exact ⟨by simp [orI],rfl⟩
 · have hb : (x == 0) = false := by simpa using hx
   go_enter Tryz.func102, Tryz.ntmps102
   go_wp2;refine wp_loop_rounds 1 ?_
   rw [rounds_succ]
   go_wp2;go_ret;exact ⟨by simp [orI,hx],rfl⟩
theorem compareH_any (a b : HE) (ha : FrOk a.d) (hb : FrOk b.d) (w : World) : Calls Tryz.prog 103 #[heV a,heV b] w (Ret w (.int .i64 (cmpH a b))) := by
 have HR := Lib.hid (fun W => rCmp_any a.d b.d ha hb W)
 have HRa := Lib.hid (fun W => rank_any a W)
 have HRb := Lib.hid (fun W => rank_any b W)
 have HNa := Lib.hid (fun W => number_any a W)
 have HNb := Lib.hid (fun W => number_any b W)
 have HV : Hid (or3 (cmpF a.d b.d) (sgn (rankH a - rankH b)) (sgn (numH a - numH b)) = cmpH a b) := by unfold Hid;rw [or3_orI];rfl
 obtain ⟨aid,⟨an,ad⟩,ait,and⟩ := a;obtain ⟨bid,⟨bn,bd⟩,bit,bnd⟩ := b
 simp only at *
 generalize cmpF ⟨an,ad⟩ ⟨bn,bd⟩ = X at *;generalize rankH ⟨aid,⟨an,ad⟩,ait,and⟩ = ra at *;generalize rankH ⟨bid,⟨bn,bd⟩,bit,bnd⟩ = rb at *;generalize numH ⟨aid,⟨an,ad⟩,ait,and⟩ = na at *;generalize numH ⟨bid,⟨bn,bd⟩,bit,bnd⟩ = nb at *;generalize cmpH ⟨aid,⟨an,ad⟩,ait,and⟩ ⟨bid,⟨bn,bd⟩,bit,bnd⟩ = R at *;simp only [fV] at HR
 simp only [heV] at *
 generalize an / 18446744073709551616 = a1 at *;generalize an % 18446744073709551616 = a0 at *;generalize bn / 18446744073709551616 = b1 at *;generalize bn % 18446744073709551616 = b0 at *;clear ha hb
 go_enter Tryz.func103,Tryz.ntmps103
 go_wp2_with fail;refine wp_region_below [0,1,2,3,4,5,7,9,12,14,6,8,10,11,13,15,16,17,18,19] (by kernel_rfl) (by kernel_rfl) (fun _ _ d _ _ h => by cases d <;> exact h) ?_
 simp only [List.map_cons,List.map_nil,ldz,lds,bare,gslot,lcz,lcs,Option.bind_some]
 repeat' ((try simp only [Act.put,lsi,lsz,lss]);first | (refine lexL_quiet (v := ?_) wantB_none rfl ?_ ?_;rotate_left;focus (intro wq hq;obtain ⟨hcq,hfq⟩ := bcell hq;go_simp;try with_reducible rfl)) | (refine lexL_loud wantB_none rfl (fun K hK => ?_);go_simp;((first | (go_at_call 119;(with_reducible refine (HR.out _).mono ?_);rintro e wp ⟨rfl,hbp⟩;obtain ⟨hcp,hfp⟩ := bcell hbp;have hzp := hbp.size;(try simp at hzp);have hyp0 : w.heap.size < wp.heap.size := (by omega);have hyp1 : w.heap.size + 1 < wp.heap.size := (by omega)) | (go_at_call 144;(first | (with_reducible refine (HRa.out _).mono ?_);rintro e wq ⟨rfl,hbq⟩;obtain ⟨hcq,hfq⟩ := bcell hbq;have hzq := hbq.size;(try simp at hzq);have hyq0 : w.heap.size < wq.heap.size := (by omega);have hyq1 : w.heap.size + 1 < wq.heap.size := (by omega) | (with_reducible refine (HRb.out _).mono ?_);rintro e wr ⟨rfl,hbr⟩;obtain ⟨hcr,hfr⟩ := bcell hbr;have hzr := hbr.size;(try simp at hzr);have hyr0 : w.heap.size < wr.heap.size := (by omega);have hyr1 : w.heap.size + 1 < wr.heap.size := (by omega))) | (go_at_call 145;(first | (with_reducible refine (HNa.out _).mono ?_);rintro e ws ⟨rfl,hbs⟩;obtain ⟨hcs,hfs⟩ := bcell hbs;have hzs := hbs.size;(try simp at hzs);have hys0 : w.heap.size < ws.heap.size := (by omega);have hys1 : w.heap.size + 1 < ws.heap.size := (by omega) | (with_reducible refine (HNb.out _).mono ?_);rintro e wt ⟨rfl,hbt⟩;obtain ⟨hct,hft⟩ := bcell hbt;have hzt := hbt.size;(try simp at hzt);have hyt0 : w.heap.size < wt.heap.size := (by omega);have hyt1 : w.heap.size + 1 < wt.heap.size := (by omega))) | (go_at_call 104;refine (compareInt_any _ _ _).mono ?_;rintro e w1 ⟨rfl,rfl⟩) | (go_at_call 102;(with_reducible refine (or3_any _ 3 X (sgn (ra - rb)) (sgn (na - nb)) _ ?_).mono ?_);(focus exact blkA);rintro e w1 ⟨rfl,rfl⟩) | skip) <;> (refine hK.out _ _ bel ?_;clear hK K))))
 (all_goals try simp only [Act.put,lsi,lsz,lss]);all_goals (refine lexL_nil ?_)
 go_wp2;go_ret;exact ⟨by rw [HV.out];rfl,bel⟩
theorem wp_genH {P : Program} {c : Code} {Q : Exit → Act → World → Prop} {a : Act} {w : World} (R : World → Prop) (h : R w) (k : ∀ w2,R w2 → c.wp P Q a w2) : c.wp P Q a w := k w h
theorem gen_w {Φ : World → Prop} {w : World} (R : World → Prop) (h : R w) (k : ∀ w2,R w2 → Φ w2) : Φ w := k w h
theorem post_genH {P : Program} {f : Func} {Q : Ending → World → Prop} {x : Exit} {a : Act} {w : World} (R : World → Prop) (h : R w) (k : ∀ w2,R w2 → bodyPost P f Q x a w2) : bodyPost P f Q x a w := k w h
section
variable {w w' : World} {F : Nat → Prop} {hb c : Nat} {v : Value} {h : List Pu}
theorem HeapAt.tr (H : HeapAt w F hb v h c) (hw : Below w.heap.size w w') : HeapAt w' F hb v h c :=
 ⟨H.blk.tr hw,own_kept H.row (grown_below hw) (by simp),H.oB,H.oR,fun g hg => Nat.lt_of_lt_of_le (H.lim g hg) hw.size,H.ok⟩
theorem HeapAt.cells (H : HeapAt w F hb v h c) : w.cell? ⟨hb,0,none⟩ = some v ∧ w.cell? ⟨hb,1,none⟩ = some (.int .i64 c) ∧ hb < w.heap.size := by
 refine ⟨?_,?_,H.blk.lt⟩ <;> rw [H.blk.cell] <;> rfl
theorem HeapAt.at_ (H : HeapAt w F hb v h c) {k : Nat} {x : Pu} (hk : h[k]? = some x) : ∃ g cc,v = .slice (some ⟨g,0,none⟩) h.length cc ∧ g < w.heap.size ∧ g ≠ hb ∧ (∀ j,j < 7 → w.cell? ⟨g,k * 7 + j,none⟩ = (pucell x)[j]?) := by
 have hkl : k < h.length := by
  rcases Nat.lt_or_ge k h.length with q | q
  · exact q
  · rw [List.getElem?_eq_none q] at hk;cases hk
 rcases H.row.2 with ⟨_,h0⟩ | ⟨g,cap,cur,rfl,_,hg,_⟩
 · omega
 · refine ⟨g,cap,rfl,(Array.getElem?_eq_some_iff.1 hg).1,?_,fun j hj => ?_⟩
   · exact Blk.ne (show Blk w g _ cur from hg) H.blk (by decide)
   · rw [H.row.cellAt _ (by
      have := H.row.1;have : k * 7 + 7 ≤ h.length * 7 := by omega
      omega)]
     exact flat_at pucell_len hk hj
theorem heapNew_any (w : World) : Calls Tryz.prog 41 #[] w fun e w' => ∃ hb,e = .returned (.pointer (some ⟨hb,0,none⟩)) ∧ HeapAt w' (fun g => g = hb) hb (.slice none 0 0) [] 0 ∧ w.heap.size ≤ hb ∧ Below w.heap.size w w' := by
 go_enter Tryz.func41,Tryz.ntmps41
 go_wp2;go_ret;refine ⟨_,rfl,⟨?_,World.ownsRow_nil _ _ _ _,rfl,by simp [Value.ownBlock],fun g e => ?_,by simp⟩,?_,bel⟩
 · exact Blk.new (by simp) rfl
 · subst e;simp
 · simp
theorem heapLen_any (H : HeapAt w F hb v h c) : Calls Tryz.prog 120 #[.pointer (some ⟨hb,0,none⟩)] w (Ret w (.int .i64 (h.length : Nat))) := by
 obtain ⟨c0,c1,lt⟩ := H.cells;obtain ⟨A,cc,rfl,_⟩ := row_form H.row;clear H
 go_enter Tryz.func120,Tryz.ntmps120
 go_wp2;go_ret;exact ⟨rfl,bel⟩
theorem lessP_any (H : HeapAt w F hb v h c) {i k : Nat} {x y : Pu} (hi : h[i]? = some x) (hk : h[k]? = some y) (hn : h.length ≤ 1000000) :
 Calls Tryz.prog 67 #[.pointer (some ⟨hb,0,none⟩),.int .i64 (i : Nat),.int .i64 (k : Nat)] w (Ret w (.bool (ltPu x y))) := by
 obtain ⟨c0,c1,lt⟩ := H.cells;obtain ⟨g,cc,rfl,hg,hgb,ci⟩ := H.at_ hi;obtain ⟨g',cc',hv,_,_,ck⟩ := H.at_ hk;injection hv with hv1 hv2 hv3
 injection hv1 with hv1
 injection hv1 with hv1
 subst hv1
 have hil : i < h.length := by
  rcases Nat.lt_or_ge i h.length with q | q
  · exact q
  · rw [List.getElem?_eq_none q] at hi;cases hi
 have hkl : k < h.length := by
  rcases Nat.lt_or_ge k h.length with q | q
  · exact q
  · rw [List.getElem?_eq_none q] at hk;cases hk
 have hi0 : (i : Int) < (h.length : Int) := by omega
 have hk0 : (k : Int) < (h.length : Int) := by omega
 have HC := Lib.hid (fun W => compareH_any x.1 y.1 (H.ok x (List.mem_of_getElem? hi)) (H.ok y (List.mem_of_getElem? hk)) W)
 have i0 := ci 0 (by decide)
 have i1 := ci 1 (by decide)
 have i2 := ci 2 (by decide)
 have i3 := ci 3 (by decide)
 have i4 := ci 4 (by decide)
 have i5 := ci 5 (by decide)
 have i6 := ci 6 (by decide)
 have k0 := ck 0 (by decide)
 have k1 := ck 1 (by decide)
 have k2 := ck 2 (by decide)
 have k3 := ck 3 (by decide)
 have k4 := ck 4 (by decide)
 have k5 := ck 5 (by decide)
 have k6 := ck 6 (by decide)
 have HV : Hid (ltPu x y = decide (orI (cmpH x.1 y.1) (sgn ((x.2 : Int) - (y.2 : Int))) < 0)) := rfl;clear ci ck H hv2 hv3 hi hk;obtain ⟨⟨xid,xd,xit,xnd⟩,xn⟩ := x;obtain ⟨⟨yid,yd,yit,ynd⟩,yn⟩ := y;simp only [pucell,lcz,lcs,Nat.add_zero] at i0 i1 i2 i3 i4 i5 i6 k0 k1 k2 k3 k4 k5 k6;simp only [heV] at HC
 simp only at HV
 generalize cmpH ⟨xid,xd,xit,xnd⟩ ⟨yid,yd,yit,ynd⟩ = V at *;generalize xd.num / 18446744073709551616 = x1 at *;generalize xd.num % 18446744073709551616 = x0 at *;generalize yd.num / 18446744073709551616 = y1 at *;generalize yd.num % 18446744073709551616 = y0 at *
 go_enter Tryz.func67,Tryz.ntmps67
 go_wp2_with fail;refine wp_region_below [0,1,2,3,4,5,6,7,8,9,10,11,12,13,14,15,17,18,19,20,21,22,23,24,25,26,27,28,29,30,31,32,16,33,34,35,36,37] (by kernel_rfl) (by kernel_rfl) (fun _ _ d _ _ h => by cases d <;> exact h) ?_
 simp only [List.map_cons,List.map_nil,ldz,lds,bare,gslot,lcz,lcs,Option.bind_some]
 repeat' ((try simp only [Act.put,lsi,lsz,lss]);first | (refine lexL_quiet (v := ?_) wantB_none rfl ?_ ?_;rotate_left;focus (intro wq hq;obtain ⟨hcq,hfq⟩ := bcell hq;go_simp;try with_reducible rfl)) | (refine lexL_loud wantB_none rfl (fun K hK => ?_);go_simp;((first | (go_at_call 103;(with_reducible refine (HC.out _).mono ?_);rintro e wp ⟨rfl,hbp⟩;obtain ⟨hcp,hfp⟩ := bcell hbp;have hzp := hbp.size;(try simp at hzp)) | (go_at_call 104;refine (compareInt_any _ _ _).mono ?_;rintro e w1 ⟨rfl,rfl⟩) | (go_at_call 102;(with_reducible refine (or2h_any _ 3 V (sgn ((xn : Int) - (yn : Int))) _ ?_).mono ?_);(focus exact blkA);rintro e w1 ⟨rfl,rfl⟩) | skip) <;> (refine hK.out _ _ bel ?_;clear hK K))))
 (all_goals try simp only [Act.put,lsi,lsz,lss]);all_goals (refine lexL_nil ?_)
 go_wp2;go_ret;exact ⟨by rw [HV.out];rfl,bel⟩
theorem six_putH {W : World} {g : Nat} {t : TypeId} {x0 x1 x2 x3 x4 x5 a0 a1 a2 a3 a4 a5 : Value} (h : Blk W g t #[x0,x1,x2,x3,x4,x5]) :
 Blk ((((((W.setCell ⟨g,0,none⟩ a0).setCell ⟨g,1,none⟩ a1).setCell ⟨g,2,none⟩ a2).setCell ⟨g,3,none⟩ a3).setCell ⟨g,4,none⟩ a4).setCell ⟨g,5,none⟩ a5) g t #[a0,a1,a2,a3,a4,a5] :=
 ((((((h.set_ 0 a0).set_ 1 a1).set_ 2 a2).set_ 3 a3).set_ 4 a4).set_ 5 a5).eq_ (by simp)
def topV : List Pu → Value
 | [] => .tuple #[heV ⟨0,⟨0,0⟩,false,0⟩,.bool false]
 | x :: _ => .tuple #[heV x.1,.bool true]
theorem htop_any (H : HeapAt w F hb v h c) (hn : h.length ≤ 1000000) :
 Calls Tryz.prog 75 #[.pointer (some ⟨hb,0,none⟩)] w (Ret w (topV h)) := by
 obtain ⟨c0,c1,lt⟩ := H.cells;have HL := Lib.hid (fun W (hW : Below w.heap.size w W) => heapLen_any (H.tr hW))
 cases h with
 | nil =>
   clear H;simp only [List.length_nil] at HL
   go_enter Tryz.func75, Tryz.ntmps75
   go_wp2_with (go_at_call 120;(with_reducible refine (HL.out _ bel).mono ?_);rintro e w1 ⟨rfl,hb1⟩;obtain ⟨hc1,hf1⟩ := bcell hb1;have hz1 := hb1.size;(try simp at hz1))
   refine post_genH (fun w2 => Blk w2 w.heap.size 117 #[.int .i64 0,.int .u64 0,.int .u64 0,.int .u64 0,.bool false,.int .i64 0] ∧ Below w.heap.size w w2) ⟨six_putH (x0 := .int .i64 0) (x1 := .int .u64 0) (x2 := .int .u64 0) (x3 := .int .u64 0) (x4 := .bool false) (x5 := .int .i64 0) blkA,bel⟩ ?_
   rintro w2 ⟨HR,hb2⟩;have r0 := HR.cell 0;have r1 := HR.cell 1;have r2 := HR.cell 2;have r3 := HR.cell 3;have r4 := HR.cell 4;have r5 := HR.cell 5;simp only [lta,lcz,lcs] at r0 r1 r2 r3 r4 r5;exact bodyPost_ret (v := .tuple #[.agg #[.int .i64 0,.int .u64 0,.int .u64 0,.int .u64 0,.bool false,.int .i64 0],.bool false]) (by simp [results,Tryz.results75,go_sem,r0,r1,r2,r3,r4,r5]) rfl ⟨by simp [topV,heV],hb2⟩
 | cons x r =>
   obtain ⟨g,cc,rfl,hg,hgb,ci⟩ := H.at_ (k := 0) (x := x) rfl;have i0 := ci 0 (by decide)
   have i1 := ci 1 (by decide)
   have i2 := ci 2 (by decide)
   have i3 := ci 3 (by decide)
   have i4 := ci 4 (by decide)
   have i5 := ci 5 (by decide)
   have hlen : ((r.length + 1 : Nat) : Int) ≠ 0 := by omega
   have hlen0 : (0 : Int) < ((r.length + 1 : Nat) : Int) := by omega
   clear ci H;obtain ⟨⟨xid,xd,xit,xnd⟩,xn⟩ := x;simp only [pucell,lcz,lcs,Nat.zero_mul,Nat.zero_add] at i0 i1 i2 i3 i4 i5
   simp only [topV, heV, List.length_cons] at *
   generalize xd.num / 18446744073709551616 = x1 at *;generalize xd.num % 18446744073709551616 = x0 at *;generalize r.length + 1 = m at *
   go_enter Tryz.func75, Tryz.ntmps75
   go_wp2_with (go_at_call 120;(with_reducible refine (HL.out _ bel).mono ?_);rintro e w1 ⟨rfl,hb1⟩;obtain ⟨hc1,hf1⟩ := bcell hb1;have hz1 := hb1.size;(try simp at hz1))
   refine post_genH (fun w2 => Blk w2 w.heap.size 117 #[.int .i64 xid,.int .u64 (x1 : Int),.int .u64 (x0 : Int),.int .u64 (xd.den : Int),.bool xit,.int .i64 (xnd : Int)] ∧ Below w.heap.size w w2) ⟨six_putH (x0 := .int .i64 0) (x1 := .int .u64 0) (x2 := .int .u64 0) (x3 := .int .u64 0) (x4 := .bool false) (x5 := .int .i64 0) blkA,bel⟩ ?_
   rintro w2 ⟨HR,hb2⟩;have r0 := HR.cell 0;have r1 := HR.cell 1;have r2 := HR.cell 2;have r3 := HR.cell 3;have r4 := HR.cell 4;have r5 := HR.cell 5;simp only [lta,lcz,lcs] at r0 r1 r2 r3 r4 r5;exact bodyPost_ret (v := .tuple #[.agg #[.int .i64 xid,.int .u64 (x1 : Int),.int .u64 (x0 : Int),.int .u64 (xd.den : Int),.bool xit,.int .i64 (xnd : Int)],.bool true]) (by simp [results,Tryz.results75,go_sem,r0,r1,r2,r3,r4,r5]) rfl ⟨by simp [topV,heV],hb2⟩
theorem Tryz.infoPuH : (Tryz.prog.info? 150).map (fun i => (i.zero,i.size,i.bytes)) = some (some (.agg #[.int .i64 0,.int .u64 0,.int .u64 0,.int .u64 0,.bool false,.int .i64 0,.int .i64 0]),7,56) := by kernel_rfl
theorem seven_atH {w : World} {a b c d e f g : Value} {t : TypeId} : ∀ (j : Nat) (v : Value),[a,b,c,d,e,f,g][j]? = some v → (w.alloc (.cells #[a,b,c,d,e,f,g] t)).cell? ((⟨w.heap.size,0,none⟩ : Addr).add j) = some v := by
 intro j v hj
 match j,hj with
 | 0,hj => simp at hj;subst hj;simp [Addr.add]
 | 1,hj => simp at hj;subst hj;simp [Addr.add]
 | 2,hj => simp at hj;subst hj;simp [Addr.add]
 | 3,hj => simp at hj;subst hj;simp [Addr.add]
 | 4,hj => simp at hj;subst hj;simp [Addr.add]
 | 5,hj => simp at hj;subst hj;simp [Addr.add]
 | 6,hj => simp at hj;subst hj;simp [Addr.add]
theorem HeapAt.count (H : HeapAt w F hb v h c) (n : Nat) : HeapAt (w.setCell ⟨hb,1,none⟩ (.int .i64 (n : Int))) F hb v h n :=
 ⟨H.blk.set_ 1 _,own_kept H.row (grown_set _ _ _) (fun g e => by cases e;exact own_ne H.row H.blk (by decide)),H.oB,H.oR,fun g hg => Nat.lt_of_lt_of_le (H.lim g hg) (by simp [World.setCell]),H.ok⟩
theorem HeapAt.newRow (H : HeapAt w F hb v h c) {v' : Value} {h' : List Pu} {w1 : World} (hg : w.grownBy w1 v.ownBlock) (hr : w1.ownsRow 0 150 7 v' h'.length (pucells h')) (hok : ∀ x ∈ h',FrOk x.1.d) (hv : ∀ g,v'.ownBlock = some g → F g ∨ w.heap.size ≤ g) :
 HeapAt (w1.setCell ⟨hb,0,none⟩ v') (fun g => F g ∨ v'.ownBlock = some g) hb v' h' c := by
 have hB : Blk w1 hb 148 #[v,.int .i64 c] := Blk.kept H.blk hg (fun e => own_ne H.row H.blk (by decide) e)
 refine ⟨hB.set_ 0 v',own_kept hr (grown_set _ _ _) (fun g e => by cases e;exact own_ne hr hB (by decide)),.inl H.oB,fun g e => .inr e,fun g hg' => ?_,hok⟩
 rcases hg' with q | q
 · exact Nat.lt_of_lt_of_le (H.lim g q) (by simp [World.setCell];exact hg.size)
 · have := (hr.lt g q).2
   simp [World.setCell]
   exact this
def setW (w : World) (g o : Nat) : List Value → World
 | [] => w
 | u :: r => setW (w.setCell ⟨g,o,none⟩ u) g (o + 1) r
theorem own_setH {w : World} {base size n g c o : Nat} {e : TypeId} {xs : List Value} (h : w.ownsRow base e size (.slice (some ⟨g,0,none⟩) n c) n xs) (ho : o < n * size) (u : Value) : (w.setCell ⟨g,o,none⟩ u).ownsRow base e size (.slice (some ⟨g,0,none⟩) n c) n (xs.set o u) := by
 rcases h.2 with ⟨h0,_⟩ | ⟨g',cap,cur,h0,hbg,hg,hnc,hcm,hcs,htake⟩
 · cases h0
 · injection h0 with h1 h2 h3
   injection h1 with h1
   injection h1 with h1
   subst h1 h3;refine ⟨by rw [List.length_set];exact h.1,.inr ⟨g,c,cur.setIfInBounds o u,rfl,hbg,?_,hnc,hcm,?_,?_⟩⟩
   · simp [World.setCell, Array.getElem?_modify, hg]
   · simpa using hcs
   · simp [List.take_set, htake]
theorem own_setW {base size n g c : Nat} {e : TypeId} : ∀ (us : List Value) (w : World) (o : Nat) (xs : List Value),w.ownsRow base e size (.slice (some ⟨g,0,none⟩) n c) n xs → o + us.length ≤ n * size → (setW w g o us).ownsRow base e size (.slice (some ⟨g,0,none⟩) n c) n (setN xs o us)
 | [],_,_,_,h,_ => h
 | u :: r,w,o,xs,h,hl => by
   simp only [List.length_cons] at hl;exact own_setW r _ _ _ (own_setH h (by omega) u) (by omega)
theorem blk_setW {g b : Nat} {t : TypeId} {cs : Array Value} (hne : b ≠ g) : ∀ (us : List Value) (w : World) (o : Nat),Blk w b t cs → Blk (setW w g o us) b t cs
 | [],_,_,h => h
 | u :: r,w,o,h => blk_setW hne r _ _ (h.far (p := ⟨g,o,none⟩) hne u)
theorem turn_setW {F : Nat → Prop} {a : World} {g : Nat} (hg : F g ∨ a.heap.size ≤ g) : ∀ (us : List Value) (w : World) (o : Nat),TurnF F a w → TurnF F a (setW w g o us)
 | [],_,_,h => h
 | u :: r,w,o,h => turn_setW hg r _ _ (h.set_ (p := ⟨g,o,none⟩) hg u)
theorem size_setW {g : Nat} : ∀ (us : List Value) (w : World) (o : Nat),(setW w g o us).heap.size = w.heap.size
 | [],_,_ => rfl
 | u :: r,w,o => by
   unfold setW
   rw [size_setW r]
   simp [World.setCell]
theorem HeapAt.setAt {g cc : Nat} (H : HeapAt w F hb (.slice (some ⟨g,0,none⟩) h.length cc) h c) {k : Nat} (hk : k < h.length) (y : Pu) (hy : FrOk y.1.d) : HeapAt (setW w g (k * 7) (pucell y)) F hb (.slice (some ⟨g,0,none⟩) h.length cc) (h.set k y) c := by
 have h1 : k * 7 + 7 ≤ h.length * 7 := by omega
 have hr := own_setW (pucell y) w (k * 7) _ H.row (by rw [pucell_len];exact h1)
 have hne : hb ≠ g := fun e => own_ne H.row H.blk (by decide) (by rw [e];rfl)
 refine ⟨blk_setW hne _ _ _ H.blk,?_,H.oB,H.oR,fun k hk => by rw [size_setW];exact H.lim k hk,fun z hz => ?_⟩
 · rw [List.length_set]
   unfold pucells at hr ⊢;rw [flat_setN pucell_len hk] at hr;exact hr
 · rcases List.mem_or_eq_of_mem_set hz with q | q
   · exact H.ok z q
   · rw [q];exact hy
theorem HeapAt.two {g cc : Nat} (H : HeapAt w F hb (.slice (some ⟨g,0,none⟩) h.length cc) h c) {i p : Nat} {x y : Pu} (hi : h[i]? = some x) (hp : h[p]? = some y) : HeapAt (setW (setW w g (i * 7) (pucell y)) g (p * 7) (pucell x)) F hb (.slice (some ⟨g,0,none⟩) h.length cc) (swapL h i p) c := by
 have hil := (List.getElem?_eq_some_iff.1 hi).1;have hpl := (List.getElem?_eq_some_iff.1 hp).1;have h1 := H.setAt hil y (H.ok y (List.mem_of_getElem? hp));have hl : (h.set i y).length = h.length := List.length_set;rw [← hl] at h1;have h2 := h1.setAt (k := p) (by rw [hl];exact hpl) x (H.ok x (List.mem_of_getElem? hi))
 rw [hl] at h2;have e : swapL h i p = (h.set i y).set p x := by unfold swapL;rw [hi,hp]
 rw [e]
 exact h2
theorem HeapAt.drew (H : HeapAt w F hb v h c) : HeapAt w.drew F hb v h c := H.tr bel
theorem HeapAt.fz {g cc n : Nat} (H : HeapAt w F hb (.slice (some ⟨g,0,none⟩) n cc) h c) : ∀ o,w.frozen? ⟨g,o,none⟩ = false := by
 intro o
 rcases H.row.2 with ⟨h0,_⟩ | ⟨g',cap,cur,h0,_,hg,_⟩
 · cases h0
 · injection h0 with h1 h2 h3
   injection h1 with h1
   injection h1 with h1
   subst h1;exact (show Blk w g _ cur from hg).frozen o
theorem push_any (H : HeapAt w F hb v h c) (x : HE) (hx : FrOk x.d) (hn : h.length ≤ 100000) (hc : c ≤ 1000000) :
 Calls Tryz.prog 42 #[.pointer (some ⟨hb,0,none⟩),heV x] w fun e w' => e = .returned (.tuple #[]) ∧ ∃ v' F',HeapAt w' F' hb v' (pushS ltPu h (x,c + 1)) (c + 1) ∧ TurnF F w w' ∧ (∀ k,F' k → F k ∨ w.heap.size ≤ k) := by
 obtain ⟨i0,hi,iz0,iz1,iz2⟩ := info_parts Tryz.infoPuH;obtain ⟨c0,c1,lt⟩ := H.cells;have hcw : IntKind.i64.wrap ((c : Int) + 1) = ((c + 1 : Nat) : Int) := by rw [IntWalk.i64_in _ ⟨by omega,by omega⟩];rfl
 have HH := Lib.hid H;have HX := Lib.hid hx;have fz := H.blk.frozen;clear H hx;obtain ⟨P0,hP0⟩ : ∃ P0,pushS ltPu h (x,c + 1) = P0 := ⟨_,rfl⟩;have HP := Lib.hid hP0
 rw [hP0]
 clear hP0;obtain ⟨xid,xd,xit,xnd⟩ := x
 simp only [heV]
 obtain ⟨x1,hx1⟩ : ∃ z,xd.num / 18446744073709551616 = z := ⟨_,rfl⟩;obtain ⟨x0,hx0⟩ : ∃ z,xd.num % 18446744073709551616 = z := ⟨_,rfl⟩
 have HE : Hid (pucell (⟨xid,xd,xit,xnd⟩,c + 1) = [.int .i64 xid,.int .u64 (x1 : Int),.int .u64 (x0 : Int),.int .u64 (xd.den : Int),.bool xit,.int .i64 (xnd : Int),.int .i64 ((c + 1 : Nat) : Int)]) := by
  unfold Hid pucell
  simp only [hx1, hx0]
 rw [hx1,hx0]
 clear hx1 hx0
 go_enter Tryz.func42,Tryz.ntmps42
 go_wp2_with fail
 try rw [hcw]
 try rw [show (c : Int) + 1 = ((c + 1 : Nat) : Int) from rfl]
 refine wp_genH (fun w2 => HeapAt w2 F hb v h (c + 1) ∧ Blk w2 w.heap.size 117 #[.int .i64 xid,.int .u64 (x1 : Int),.int .u64 (x0 : Int),.int .u64 (xd.den : Int),.bool xit,.int .i64 (xnd : Int)] ∧ TurnF F w w2) ⟨(HH.out.count (c + 1)).tr bel,Blk.new (by simp) rfl,((TurnF.refl F w).set_ (p := ⟨hb,1,none⟩) (.inl HH.out.oB) _).below bel⟩ ?_
 clear c0 c1 lt HH;rintro w2 ⟨H2,hB2,ht2⟩;obtain ⟨c0,c1,lt⟩ := H2.cells;have cB := hB2.cell;have lB := hB2.lt;have HH := Lib.hid H2;have HT := Lib.hid ht2;clear H2 ht2;refine wp_region_seq [0,1,2,3,4,5,6,7,8,9,10,11] [12,13,14,15] (by kernel_rfl) (by kernel_rfl) (fun _ _ d _ _ h => by cases d <;> exact h) ?_
 simp only [List.map_cons,List.map_nil,ldz,lds,bare,gslot,lcz,lcs,Option.bind_some,pureK,Option.isNone_none,Bool.and_true,Bool.true_and,Bool.false_and,Bool.and_self]
 repeat ((try simp only [Act.put,lsi,lsz,lss]);first | (refine lexM_pure (v := ?_) wantB_none rfl ?_ ?_;rotate_left;focus (intro wq;go_simp;try with_reducible rfl)) | (refine lexM_quiet (v := ?_) wantB_none rfl ?_ ?_;rotate_left;focus (intro wq hq;obtain ⟨hcq,hfq⟩ := bcell hq;go_simp;try with_reducible rfl)) | (refine lexM_loud wantB_none rfl (fun K hK => ?_);go_simp;((first | fail | skip) <;> (refine hK.out _ _ bel ?_;clear hK K))))
 (all_goals try simp only [Act.put,lsi,lsz,lss])
 refine lexM_seq ?_;refine seqL_step (fun K hK => ?_)
 (have HD := HH.out.tr (show Below w2.heap.size w2 (w2.drew.alloc (.cells #[.int .i64 xid,.int .u64 (x1 : Int),.int .u64 (x0 : Int),.int .u64 (xd.den : Int),.bool xit,.int .i64 (xnd : Int),.int .i64 ((c + 1 : Nat) : Int)] 150)) from bel));(refine wp_append_at _ _ _ 146 rfl 150 i0 (.agg #[.int .i64 0,.int .u64 0,.int .u64 0,.int .u64 0,.bool false,.int .i64 0,.int .i64 0]) 7 56 Tryz.underlying146 hi iz0 iz1 iz2 rfl (by decide) _ h.length (pucells h) rfl HD.row ⟨w2.heap.size,0,none⟩ 1 1 [.int .i64 xid,.int .u64 (x1 : Int),.int .u64 (x0 : Int),.int .u64 (xd.den : Int),.bool xit,.int .i64 (xnd : Int),.int .i64 ((c + 1 : Nat) : Int)] rfl rfl ?_ ?_ ?_ ?_ ?_ ?_);(focus (exact seven_atH));(focus (simp [Value.oneCell']));(focus (unfold maxLen;omega));(focus omega);(focus (decide));intro v' w3 hown' hgrow hwh;(have HW := Lib.hid hwh);(clear hwh);(have HN := HD.newRow (h' := h ++ [(⟨xid,xd,xit,xnd⟩,c + 1)]) hgrow (by rw [List.length_append];unfold pucells;rw [List.flatMap_append,List.flatMap_cons,List.flatMap_nil,List.append_nil,HE.out];exact hown') (fun z hz => by (rcases List.mem_append.1 hz with q | q);(exact HD.ok z q);(simp at q;subst q;exact HX.out)) (fun g e => by (rcases HW.out with q | q);(exact .inl (HD.oR g (q ▸ e)));(exact .inr (by rw [q] at e;injection e with e;exact Nat.le_of_eq e))));(have HN2 := Lib.hid HN);(clear HN);(have hb3 := Blk.kept HD.blk hgrow (fun e => own_ne HD.row HD.blk (by decide) e));(have fz3 := hb3.frozen 0);(have cz3 : w3.cell? ⟨hb,0,none⟩ = some v := (by rw [hb3.cell];rfl));(clear hb3);(have HG := Lib.hid (((HT.out.below (show Below w2.heap.size w2 (w2.drew.alloc (.cells #[.int .i64 xid,.int .u64 (x1 : Int),.int .u64 (x0 : Int),.int .u64 (xd.den : Int),.bool xit,.int .i64 (xnd : Int),.int .i64 ((c + 1 : Nat) : Int)] 150)) from bel)).grown hgrow (fun k e => .inl (HD.oR k e))).set_ (p := ⟨hb,0,none⟩) (.inl HD.oB) v'));(clear HD hgrow);(obtain ⟨A',cc',rfl,_,_,_⟩ := row_form hown');(clear hown')
 refine hK.out _ _ ?_;clear hK K
 (try simp only [Act.put,lsi,lsz,lss])
 refine seqL_step (fun K hK => ?_)
 go_simp
 refine hK.out _ _ ?_;clear hK K
 (try simp only [Act.put,lsi,lsz,lss])
 refine seqL_step (fun K hK => ?_)
 go_simp
 refine hK.out _ _ ?_;clear hK K
 (try simp only [Act.put,lsi,lsz,lss])
 refine seqL_step (fun K hK => ?_)
 go_simp
 refine hK.out _ _ ?_;clear hK K
 (try simp only [Act.put,lsi,lsz,lss])
 refine seqL_nil ?_;obtain ⟨F4,hF4⟩ : ∃ F',(fun g => F g ∨ (Value.slice A' (h.length + 1) cc').ownBlock = some g) = F' := ⟨_,rfl⟩
 obtain ⟨h4,hh4⟩ : ∃ l,h ++ [((⟨xid,xd,xit,xnd⟩ : Pg.HE),c + 1)] = l := ⟨_,rfl⟩;have hl4 : h4.length = h.length + 1 := by rw [← hh4];simp
 have HFF : Hid (∀ k,F4 k → F k ∨ w.heap.size ≤ k) := by
  intro k hk;rw [← hF4] at hk
  rcases hk with q | q
  · exact .inl q
  · rcases HW.out with q2 | q2
    · exact .inl (HH.out.oR k (q2 ▸ q))
    · rw [q2] at q
      injection q with q
      simp at q
      have := HT.out.size;exact .inr (by omega)
 refine gen_w (Φ := fun w => Exit.then _ _ Exit.normal _ w) (fun w4 => HeapAt w4 F4 hb (.slice A' (h.length + 1) cc') h4 (c + 1) ∧ TurnF F w w4) ⟨by rw [← hF4,← hh4];exact HN2.out,HG.out⟩ ?_
 rintro w4 ⟨H4,ht4⟩
 have HP4 : Hid (upS ltPu (h.length + 1) h4 h.length = P0) := by
  unfold Hid
  rw [← hh4]
  exact HP.out
 clear HN2 HG fz fz3 cz3 HH HT c0 c1 lt cB lB hcw HE HX HP HW hF4 hh4 hB2 i0 hi iz0 iz1 iz2;obtain ⟨y4,hy4⟩ : ∃ y,h4[0]? = some y := ⟨h4[0]'(by omega),List.getElem?_eq_getElem _⟩
 obtain ⟨g,ccx,hv,hg4,_,_⟩ := H4.at_ hy4;injection hv with hv1 hv2 hv3
 subst hv1;clear hy4 hv2 hv3;generalize hmm : h.length + 1 = m at *;have hm1 : (h.length : Int) = (m : Int) - 1 := by omega
 obtain ⟨c0,c1,lt⟩ := H4.cells;have HH4 := Lib.hid H4;have HT4 := Lib.hid ht4;clear H4 ht4;go_wp2_with fail
 go_loopw [4] (fun vi wr => ∃ (i f : Nat) (hc : List Pu),vi = .int .i64 i ∧ i < m ∧ i < f ∧ hc.length = m ∧ upS ltPu f hc i = P0 ∧ HeapAt wr F4 hb (.slice (some ⟨g,0,none⟩) m cc') hc (c + 1) ∧ TurnF F w wr) (fun vi _ => (Go.RowKit.intOf vi).toNat)
 case atStart => exact ⟨h.length,m,h4,by rw [hm1],by omega,by omega,hl4,HP4.out,HH4.out,HT4.out⟩
 case round =>
  obtain ⟨i,f,hcu,rfl,him,hif,hcl,hup,hH,hT⟩ := hrel;clear c0 c1 lt HH4 HT4 HP4;obtain ⟨c0,c1,lt⟩ := hH.cells;have HT := Lib.hid hT;clear hT
  by_cases hi0 : i = 0
  · subst hi0
    have e : hcu = P0 := by
     rw [← hup]
     cases f with
     | zero => rfl
     | succ f => unfold upS;rw [if_pos rfl]
    subst e;have HH := Lib.hid hH;clear hH hup;go_wp2_with fail
    go_end0
    exact ⟨rfl,_,_,HH.out,HT.out,HFF.out⟩
  obtain ⟨f,rfl⟩ : ∃ f',f = f' + 1 := ⟨f - 1,by omega⟩
  obtain ⟨p,hp⟩ : ∃ p,(i - 1) / 2 = p := ⟨_,rfl⟩;have hpi : p < i := by omega
  obtain ⟨x,hx⟩ : ∃ x,hcu[i]? = some x := ⟨hcu[i]'(by omega),List.getElem?_eq_getElem _⟩
  obtain ⟨y,hy⟩ : ∃ y,hcu[p]? = some y := ⟨hcu[p]'(by omega),List.getElem?_eq_getElem _⟩
  have hup2 := hup;rw [upS,if_neg hi0,hp,hx,hy] at hup2
  simp only at hup2
  have HLs := Lib.hid (fun (W : World) (a b : Int) (hW : Below wr.heap.size wr W) (ha : a = (i : Int)) (hb2 : b = (p : Int)) => show Calls Tryz.prog 67 #[.pointer (some ⟨hb,0,none⟩),.int .i64 a,.int .i64 b] W (Ret W (.bool (ltPu x y))) from by
   subst ha hb2
   exact lessP_any (hH.tr hW) hx hy (by omega))
  have hi1 : (0 : Int) < (i : Int) := by omega
  have hi2 : (1 : Int) ≤ (i : Int) := by omega
  have hpp : ((i : Int) - 1).tdiv 2 = (p : Int) := by
   rw [← hp, show (i : Int) - 1 = ((i - 1 : Nat) : Int) by omega]
   rfl
  have HH := Lib.hid hH;clear hup
  cases hlt : ltPu x y with
  | false =>
    rw [hlt] at HLs hup2;simp only [Bool.false_eq_true,if_false] at hup2;subst hup2;clear hx hy hH
    go_wp2_with (go_at_call 67;(refine (HLs.out _ _ _ bel rfl (by simp only [hpp])).mono ?_);rintro e w1 ⟨rfl,hb1⟩;obtain ⟨hc1,hf1⟩ := bcell hb1;have hz1 := hb1.size;(try simp at hz1))
    go_end0
    exact ⟨rfl,_,_,HH.out.tr bel,HT.out.below bel,HFF.out⟩
  | true =>
    rw [hlt] at HLs hup2;simp only [if_true] at hup2;obtain ⟨gx,ccx,hvx,hgl,hgb,_⟩ := hH.at_ hx;injection hvx with hv1 hv2 hv3
    injection hv1 with hv1
    injection hv1 with hv1
    subst hv1;clear hv2 hv3;have HX := Lib.hid hx;have HY := Lib.hid hy;have HU := Lib.hid hup2;have HCL := Lib.hid hcl;clear hx hy hH hup2 hcl
    go_wp2_with (go_at_call 67;(refine (HLs.out _ _ _ bel rfl (by simp only [hpp])).mono ?_);rintro e w1 ⟨rfl,hb1⟩;obtain ⟨hc1,hf1⟩ := bcell hb1;have hz1 := hb1.size;(try simp at hz1))
    have hH1 := HH.out.tr (show Below wr.heap.size wr w1 from bel)
    have HT1 := Lib.hid (HT.out.below (show Below wr.heap.size wr w1 from bel))
    obtain ⟨d0,d1,dlt⟩ := hH1.cells
    have ie : ∀ (q : Nat),q < 7 → (w1.cell? ⟨g,i * 7 + q,none⟩ = (pucell x)[q]?) := fun q hq => by
     obtain ⟨g2,_,hv2,_,_,ix2⟩ := hH1.at_ HX.out;injection hv2 with hv1 _ _
     injection hv1 with hv1
     injection hv1 with hv1
     rw [hv1]
     exact ix2 q hq
    have pe : ∀ (q : Nat),q < 7 → (w1.cell? ⟨g,p * 7 + q,none⟩ = (pucell y)[q]?) := fun q hq => by
     obtain ⟨g2,_,hv2,_,_,ix2⟩ := hH1.at_ HY.out;injection hv2 with hv1 _ _
     injection hv1 with hv1
     injection hv1 with hv1
     rw [hv1]
     exact ix2 q hq
    have i0 := ie 0 (by decide)
    have i1 := ie 1 (by decide)
    have i2 := ie 2 (by decide)
    have i3 := ie 3 (by decide)
    have i4 := ie 4 (by decide)
    have i5 := ie 5 (by decide)
    have i6 := ie 6 (by decide)
    have k0 := pe 0 (by decide)
    have k1 := pe 1 (by decide)
    have k2 := pe 2 (by decide)
    have k3 := pe 3 (by decide)
    have k4 := pe 4 (by decide)
    have k5 := pe 5 (by decide)
    have k6 := pe 6 (by decide)
    have fz := hH1.fz
    have HH2 := Lib.hid (show HeapAt (setW (setW w1 g (i * 7) (pucell y)) g (p * 7) (pucell x)) F4 hb (.slice (some ⟨g,0,none⟩) m cc') (swapL hcu i p) (c + 1) from by
     have := hH1
     rw [← HCL.out] at this ⊢
     exact this.two HX.out HY.out)
    have HT2 := Lib.hid (turn_setW (HFF.out g (hH1.oR g rfl)) (pucell x) _ (p * 7) (turn_setW (HFF.out g (hH1.oR g rfl)) (pucell y) _ (i * 7) HT1.out));have him2 : (i : Int) < (m : Int) := by omega
    have wa1 : IntKind.i64.wrap ((i : Int) - 1) = (i : Int) - 1 := IntWalk.i64_in _ ⟨by omega,by omega⟩
    have wa2 : IntKind.i64.wrap (p : Int) = (p : Int) := IntWalk.i64_in _ ⟨by omega,by omega⟩
    have hpm : (p : Int) < (m : Int) := by omega
    have glt : g < w1.heap.size := hH1.lim g (hH1.oR g rfl);clear ie pe hH1 HX HY HH HT HT1 hc1 hf1 c0 c1;obtain ⟨⟨xid,xd,xit,xnd⟩,xn⟩ := x;obtain ⟨⟨yid,yd,yit,ynd⟩,yn⟩ := y;simp only [pucell,lcz,lcs,Nat.add_zero] at i0 i1 i2 i3 i4 i5 i6 k0 k1 k2 k3 k4 k5 k6 HH2 HT2;generalize xd.num / 18446744073709551616 = x1 at *;generalize xd.num % 18446744073709551616 = x0 at *;generalize yd.num / 18446744073709551616 = y1 at *;generalize yd.num % 18446744073709551616 = y0 at *;refine wp_region_seq [0,1,2,3,4,5,6,7,8,9,10,11,12,13,14,15,16,17,18,19,20,21,22,23,24,25,26,27] [28,29,30,31] (by kernel_rfl) (by kernel_rfl) (fun _ _ d _ _ h => by cases d <;> exact h) ?_
    simp only [List.map_cons, List.map_nil, ldz, lds, bare, gslot, lcz, lcs, Option.bind_some, pureK, Option.isNone_none, Bool.and_true, Bool.true_and, Bool.false_and, Bool.and_self]
    repeat ((try simp only [Act.put,lsi,lsz,lss]);first | (refine lexM_pure (v := ?_) wantB_none rfl ?_ ?_;rotate_left;focus (intro wq;go_simp;try with_reducible rfl)) | (refine lexM_quiet (v := ?_) wantB_none rfl ?_ ?_;rotate_left;focus (intro wq hq;obtain ⟨hcq,hfq⟩ := bcell hq;go_simp;try with_reducible rfl)) | (refine lexM_loud wantB_none rfl (fun K hK => ?_);go_simp;((first | fail | skip) <;> (refine hK.out _ _ bel ?_;clear hK K))))
    (all_goals try simp only [Act.put, lsi, lsz, lss])
    refine lexM_seq ?_;refine seqL_step (fun K hK => ?_)
    go_simp
    refine hK.out _ _ ?_;clear hK K
    (try simp only [Act.put, lsi, lsz, lss])
    refine seqL_step (fun K hK => ?_)
    go_simp
    refine hK.out _ _ ?_;clear hK K
    (try simp only [Act.put, lsi, lsz, lss])
    refine seqL_step (fun K hK => ?_)
    go_simp
    refine hK.out _ _ ?_;clear hK K
    (try simp only [Act.put, lsi, lsz, lss])
    refine seqL_step (fun K hK => ?_)
    go_simp
    refine hK.out _ _ ?_;clear hK K
    (try simp only [Act.put, lsi, lsz, lss])
    refine seqL_nil ?_;refine gen_w (Φ := fun w => Exit.inBlock 1 _ Exit.normal _ w) (fun w5 => HeapAt w5 F4 hb (.slice (some ⟨g,0,none⟩) m cc') (swapL hcu i p) (c + 1) ∧ TurnF F w w5) ⟨HH2.out.drew,HT2.out.drew⟩ ?_
    rintro w5 ⟨H5,ht5⟩;have HH5 := Lib.hid H5;have HT5 := Lib.hid ht5;have HS : Hid ((swapL hcu i p).length = m) := by unfold Hid;rw [swapL_len];exact HCL.out
    clear H5 ht5 HH2 HT2 d0 d1 dlt i0 i1 i2 i3 i4 i5 i6 k0 k1 k2 k3 k4 k5 k6 fz HLs;go_wp2_with fail
    go_roundw
    case rel => exact ⟨p, f, swapL hcu i p, by simp only [wa1, hpp, wa2], by omega, by omega, HS.out, HU.out, HH5.out, HT5.out⟩
    case measure => simp [Go.RowKit.intOf, *];try omega
end
section
variable {w w' : World} {F : Nat → Prop} {hb c : Nat} {v : Value} {h : List Pu}
theorem own_shrink {base size n m g cc : Nat} {e : TypeId} {xs : List Value} (h : w.ownsRow base e size (.slice (some ⟨g,0,none⟩) n cc) n xs) (hm : m ≤ n) : w.ownsRow base e size (.slice (some ⟨g,0,none⟩) m cc) m (xs.take (m * size)) := by
 rcases h.2 with ⟨h0,_⟩ | ⟨g',cap,cur,h0,hbg,hg,hnc,hcm,hcs,htake⟩
 · cases h0
 · injection h0 with h1 h2 h3
   injection h1 with h1
   injection h1 with h1
   subst h1 h3;have hx := h.1;have hms : m * size ≤ n * size := Nat.mul_le_mul_right _ hm;refine ⟨by rw [List.length_take];omega,.inr ⟨g,cc,cur,rfl,hbg,hg,by omega,hcm,hcs,?_⟩⟩
   rw [← htake, List.take_take, Nat.min_eq_left hms]
theorem HeapAt.shrink {g cc n : Nat} (H : HeapAt w F hb (.slice (some ⟨g,0,none⟩) h.length cc) h c) (hn : n ≤ h.length) : HeapAt (w.setCell ⟨hb,0,none⟩ (.slice (some ⟨g,0,none⟩) n cc)) F hb (.slice (some ⟨g,0,none⟩) n cc) (h.take n) c := by
 have hr := own_shrink H.row hn;have hl : (h.take n).length = n := by rw [List.length_take];omega
 have e : (pucells h).take (n * 7) = pucells (h.take n) := Pg.flat_take pucell_len h n;rw [e] at hr;refine ⟨H.blk.set_ 0 _,?_,H.oB,H.oR,fun g hg => Nat.lt_of_lt_of_le (H.lim g hg) (by simp [World.setCell]),fun x hx => H.ok x (List.mem_of_mem_take hx)⟩
 rw [hl]
 exact own_kept hr (grown_set _ _ _) (fun g e => by cases e;exact own_ne hr H.blk (by decide))
theorem own_off {b base size n : Nat} {e : TypeId} {v : Value} {xs : List Value} (hne : v.ownBlock ≠ some b) : ∀ (us : List Value) (w : World) (o : Nat),w.ownsRow base e size v n xs → (setW w b o us).ownsRow base e size v n xs
 | [],_,_,h => h
 | u :: r,w,o,h => own_off hne r _ _ (ownsRow_setCell_other h (a := ⟨b,o,none⟩) hne u)
theorem HeapAt.off {b : Nat} (H : HeapAt w F hb v h c) (hF : ¬ F b) (us : List Value) (o : Nat) : HeapAt (setW w b o us) F hb v h c :=
 ⟨blk_setW (fun e => hF (by rw [← e];exact H.oB)) _ _ _ H.blk,own_off (fun e => hF (H.oR b e)) _ _ _ H.row,H.oB,H.oR,fun k hk => by rw [size_setW];exact H.lim k hk,H.ok⟩
theorem popNil_any (H : HeapAt w F hb v [] c) :
 Calls Tryz.prog 45 #[.pointer (some ⟨hb,0,none⟩)] w fun e w' => e = .returned (topV []) ∧ Below w.heap.size w w' := by
 have HT := Lib.hid (fun W (hW : Below w.heap.size w W) => htop_any (H.tr hW) (by simp))
 clear H;have e0 : topV [] = .tuple #[.agg #[.int .i64 0,.int .u64 0,.int .u64 0,.int .u64 0,.bool false,.int .i64 0],.bool false] := by simp [topV,heV]
 rw [e0] at HT ⊢
 go_enter Tryz.func45,Tryz.ntmps45
 go_wp2_with (go_at_call 75;(with_reducible refine (HT.out _ bel).mono ?_);rintro e w1 ⟨rfl,hb1⟩;obtain ⟨hc1,hf1⟩ := bcell hb1;have hz1 := hb1.size;(try simp at hz1);have hy0 : w.heap.size < w1.heap.size := (by omega))
 refine post_genH (fun w2 => Blk w2 w.heap.size 117 #[.int .i64 0,.int .u64 0,.int .u64 0,.int .u64 0,.bool false,.int .i64 0] ∧ Below w.heap.size w w2) ⟨(six_putH (show Blk w1 w.heap.size 117 #[.int .i64 0,.int .u64 0,.int .u64 0,.int .u64 0,.bool false,.int .i64 0] from blkA)).alloc _,bel⟩ ?_
 rintro w2 ⟨HR,hb2⟩;have r0 := HR.cell 0;have r1 := HR.cell 1;have r2 := HR.cell 2;have r3 := HR.cell 3;have r4 := HR.cell 4;have r5 := HR.cell 5;simp only [lta,lcz,lcs] at r0 r1 r2 r3 r4 r5;exact bodyPost_ret (v := .tuple #[.agg #[.int .i64 0,.int .u64 0,.int .u64 0,.int .u64 0,.bool false,.int .i64 0],.bool false]) (by simp [results,Tryz.results45,go_sem,r0,r1,r2,r3,r4,r5]) rfl ⟨rfl,hb2⟩
theorem popCons_any {x : Pu} {r : List Pu} (H : HeapAt w F hb v (x :: r) c) (hn : (x :: r).length ≤ 100000) :
 Calls Tryz.prog 45 #[.pointer (some ⟨hb,0,none⟩)] w fun e w' => e = .returned (topV (x :: r)) ∧ ∃ v',HeapAt w' F hb v' (popS ltPu (x :: r)) c ∧ TurnF F w w' := by
 have HT := Lib.hid (fun W (hW : Below w.heap.size w W) => htop_any (H.tr hW) (by omega))
 have HFL := Lib.hid H.lim;obtain ⟨c0,c1,lt⟩ := H.cells;obtain ⟨g,cc,rfl,hg,hgb,_⟩ := H.at_ (k := 0) (x := x) rfl;obtain ⟨_,_,hrf,hmc,_,_⟩ := row_form H.row;injection hrf with hr1 hr2 hr3
 subst hr3;clear hr1 hr2;obtain ⟨P0,hP0⟩ : ∃ P0,popS ltPu (x :: r) = P0 := ⟨_,rfl⟩;have HP := Lib.hid hP0
 rw [hP0]
 clear hP0;have HH := Lib.hid H;clear H;have hx0 : (x :: r)[0]? = some x := rfl;have HE : Hid (topV (x :: r) = .tuple #[heV x.1,.bool true]) := rfl;have hlen : (x :: r).length = r.length + 1 := rfl;have HEL : Hid (popS ltPu (x :: r) = P0) := HP.out;generalize x :: r = l0 at *
 rw [HE.out] at HT ⊢
 clear HE;generalize r.length = n at *;obtain ⟨⟨xid,xd,xit,xnd⟩,xn⟩ := x
 simp only [heV] at HT ⊢
 generalize xd.num / 18446744073709551616 = x1 at *;generalize xd.num % 18446744073709551616 = x0 at *
 go_enter Tryz.func45,Tryz.ntmps45
 go_wp2_with (go_at_call 75;(with_reducible refine (HT.out _ bel).mono ?_);rintro e w1 ⟨rfl,hb1⟩;obtain ⟨hc1,hf1⟩ := bcell hb1;have hz1 := hb1.size;(try simp at hz1);have hy0 : w.heap.size < w1.heap.size := (by omega);have lt1 : hb < w1.heap.size := (by omega);have lt2 : hb < w.heap.size + 1 := (by omega))
 refine wp_genH (fun w2 => HeapAt w2 F hb (.slice (some ⟨g,0,none⟩) l0.length cc) l0 c ∧ TurnF F w w2 ∧ Blk w2 w.heap.size 117 #[.int .i64 0,.int .u64 0,.int .u64 0,.int .u64 0,.bool false,.int .i64 0] ∧ Blk w2 w1.heap.size 117 #[.int .i64 xid,.int .u64 (x1 : Int),.int .u64 (x0 : Int),.int .u64 (xd.den : Int),.bool xit,.int .i64 (xnd : Int)]) ⟨HH.out.tr bel,(TurnF.refl F w).below bel,blkA,blkA⟩ ?_
 rintro w2 ⟨H2,ht2,hz2,hx2⟩;obtain ⟨b4,hb4⟩ : ∃ b,w1.heap.size = b := ⟨_,rfl⟩;have hb4w : w.heap.size < b4 := by omega
 rw [hb4] at hx2 ⊢
 clear c0 c1 lt hc1 hf1 hb1 hz1 lt1 lt2 hy0 HH hb4 HT;obtain ⟨zq,hzq⟩ : ∃ z,l0[n]? = some z := ⟨l0[n]'(by omega),List.getElem?_eq_getElem _⟩
 obtain ⟨c0,c1,lt⟩ := H2.cells;have fz := H2.fz;have fb := H2.blk.frozen;have glt : g < w2.heap.size := H2.lim g (H2.oR g rfl)
 have gat : ∀ (k : Nat) (y : Pu),l0[k]? = some y → ∀ (q : Nat),q < 7 → (w2.cell? ⟨g,k * 7 + q,none⟩ = (pucell y)[q]?) := fun k y hk q hq => by
  obtain ⟨g2,_,hv2,_,_,ix2⟩ := H2.at_ hk;injection hv2 with hv1 _ _
  injection hv1 with hv1
  injection hv1 with hv1
  rw [hv1]
  exact ix2 q hq
 have i0 := gat 0 _ hx0 0 (by decide)
 have i1 := gat 0 _ hx0 1 (by decide)
 have i2 := gat 0 _ hx0 2 (by decide)
 have i3 := gat 0 _ hx0 3 (by decide)
 have i4 := gat 0 _ hx0 4 (by decide)
 have i5 := gat 0 _ hx0 5 (by decide)
 have i6 := gat 0 _ hx0 6 (by decide)
 have k0 := gat n _ hzq 0 (by decide)
 have k1 := gat n _ hzq 1 (by decide)
 have k2 := gat n _ hzq 2 (by decide)
 have k3 := gat n _ hzq 3 (by decide)
 have k4 := gat n _ hzq 4 (by decide)
 have k5 := gat n _ hzq 5 (by decide)
 have k6 := gat n _ hzq 6 (by decide)
 have HH2 := Lib.hid (H2.setAt (k := 0) (by omega) zq (H2.ok zq (List.mem_of_getElem? hzq)))
 have HT2 := Lib.hid (turn_setW (.inl (H2.oR g rfl)) (pucell zq) _ (0 * 7) (TurnF.refl F w2));have HTw := Lib.hid ht2;have HZ2 := Lib.hid hz2;have HX2 := Lib.hid hx2;have HQ := Lib.hid hzq;clear gat H2 ht2 hz2 hx2 hzq;obtain ⟨⟨yid,yd,yit,ynd⟩,yn⟩ := zq;simp only [pucell,lcz,lcs,Nat.add_zero,Nat.zero_mul,Nat.zero_add] at i0 i1 i2 i3 i4 i5 i6 k0 k1 k2 k3 k4 k5 k6 HH2 HT2;generalize yd.num / 18446744073709551616 = y1 at *;generalize yd.num % 18446744073709551616 = y0 at *;have hnl : (n : Int) < (n : Int) + 1 := by omega
 have h0l : (0 : Int) < (n : Int) + 1 := by omega
 refine wp_region_seq [0,1,2,3,4,5,6,7,8,9,10] [11,12] (by kernel_rfl) (by kernel_rfl) (fun _ _ d _ _ h => by cases d <;> exact h) ?_
 simp only [List.map_cons,List.map_nil,ldz,lds,bare,gslot,lcz,lcs,Option.bind_some,pureK,Option.isNone_none,Bool.and_true,Bool.true_and,Bool.false_and,Bool.and_self]
 repeat ((try simp only [Act.put,lsi,lsz,lss]);first | (refine lexM_pure (v := ?_) wantB_none rfl ?_ ?_;rotate_left;focus (intro wq;go_simp;try with_reducible rfl)) | (refine lexM_quiet (v := ?_) wantB_none rfl ?_ ?_;rotate_left;focus (intro wq hq;obtain ⟨hcq,hfq⟩ := bcell hq;go_simp;try with_reducible rfl)) | (refine lexM_loud wantB_none rfl (fun K hK => ?_);go_simp;((first | fail | skip) <;> (refine hK.out _ _ bel ?_;clear hK K))))
 (all_goals try simp only [Act.put,lsi,lsz,lss])
 refine lexM_seq ?_;refine seqL_step (fun K hK => ?_)
 go_simp
 refine hK.out _ _ ?_;clear hK K
 (try simp only [Act.put,lsi,lsz,lss])
 refine seqL_step (fun K hK => ?_)
 go_simp
 refine hK.out _ _ ?_;clear hK K
 (try simp only [Act.put,lsi,lsz,lss])
 refine seqL_nil ?_;refine gen_w (Φ := fun w => Exit.then _ _ Exit.normal _ w) (fun w3 => HeapAt w3 F hb (.slice (some ⟨g,0,none⟩) l0.length cc) (l0.set 0 ⟨⟨yid,yd,yit,ynd⟩,yn⟩) c ∧ TurnF F w2 w3) ⟨HH2.out.drew,HT2.out.drew⟩ ?_
 rintro w3 ⟨H3,ht3⟩;have hl3 : (l0.set 0 ((⟨⟨yid,yd,yit,ynd⟩,yn⟩ : Pu))).length = l0.length := List.length_set
 have HD : Hid (dnS ltPu (n + 1) ((l0.set 0 ((⟨⟨yid,yd,yit,ynd⟩,yn⟩ : Pu))).take n) 0 = P0) := by
  unfold Hid
  rw [← HP.out]
  unfold popS
  rw [List.getLast?_eq_getElem?, show l0.length - 1 = n by omega, HQ.out]
  simp only
  rw [List.dropLast_eq_take, hl3, show l0.length - 1 = n by omega, hlen]
 have hl4 : ((l0.set 0 ((⟨⟨yid,yd,yit,ynd⟩,yn⟩ : Pu))).take n).length = n := by rw [List.length_take,hl3];omega
 rw [← hl3] at H3;have HS3 := Lib.hid (H3.shrink (n := n) (by omega))
 rw [hl3] at H3;have HT3 := Lib.hid ((ht3.set_ (p := ⟨hb,0,none⟩) (.inl H3.oB) (.slice (some ⟨g,0,none⟩) n cc)));clear c0 c1 lt fz fb glt i0 i1 i2 i3 i4 i5 i6 k0 k1 k2 k3 k4 k5 k6 HH2 HT2 hnl h0l;obtain ⟨c0,c1,lt⟩ := H3.cells;have fb := H3.blk.frozen;have hnc : n ≤ cc := by omega
 rw [hlen] at c0;clear H3 ht3 hl3 HP HEL HQ;generalize (l0.set 0 ((⟨⟨yid,yd,yit,ynd⟩,yn⟩ : Pu))).take n = h5 at *;go_wp2_with fail
 go_loopw [7] (fun vi wr => ∃ (i f : Nat) (hcu : List Pu),vi = .int .i64 i ∧ i ≤ n ∧ n ≤ f + i ∧ hcu.length = n ∧ dnS ltPu f hcu i = P0 ∧ HeapAt wr F hb (.slice (some ⟨g,0,none⟩) n cc) hcu c ∧ TurnF F w2 wr) (fun vi _ => n - (Go.RowKit.intOf vi).toNat)
 case atStart => exact ⟨0,n + 1,h5,rfl,by omega,by omega,hl4,HD.out,HS3.out,HT3.out⟩
 case round =>
  obtain ⟨i,f,hcu,rfl,hin,hnf,hcl,hup,hH,hT⟩ := hrel;clear c0 c1 lt fb HS3 HT3 HD hl4;obtain ⟨c0,c1,lt⟩ := hH.cells;have B2 := hT.blk HZ2.out (fun q => Nat.lt_irrefl _ (HFL.out _ q))
  have B4 := hT.blk HX2.out (fun q => by have := HFL.out _ q;omega)
  have e0 := B4.cell 0;have e1 := B4.cell 1;have e2 := B4.cell 2;have e3 := B4.cell 3;have e4 := B4.cell 4;have e5 := B4.cell 5;have f0 := B2.cell 0;have f1 := B2.cell 1;have f2 := B2.cell 2;have f3 := B2.cell 3;have f4 := B2.cell 4;have f5 := B2.cell 5;simp only [lta,lcz,lcs] at e0 e1 e2 e3 e4 e5 f0 f1 f2 f3 f4 f5;have fz2 := B2.frozen;have lt2 := B2.lt;have lt4 := B4.lt;have HT := Lib.hid hT;have HH := Lib.hid hH;have HB2 := Lib.hid B2
  by_cases hkn : 2 * i + 1 < n
  case neg =>
   have e : hcu = P0 := by
    rw [← hup]
    cases f with
    | zero => rfl
    | succ f => rw [dnS,show kidS ltPu hcu i = none from by unfold kidS;rw [if_neg (by omega)]]
   rw [e] at HH;clear hH hT B2 B4 hup e;go_wp2_with fail;refine post_genH (fun w9 => HeapAt w9 F hb (.slice (some ⟨g,0,none⟩) n cc) P0 c ∧ TurnF F w w9 ∧ Blk w9 w.heap.size 117 #[.int .i64 xid,.int .u64 (x1 : Int),.int .u64 (x0 : Int),.int .u64 (xd.den : Int),.bool xit,.int .i64 (xnd : Int)]) ⟨(HH.out).off (fun q => Nat.lt_irrefl _ (HFL.out _ q)) [.int .i64 xid,.int .u64 (x1 : Int),.int .u64 (x0 : Int),.int .u64 (xd.den : Int),.bool xit,.int .i64 (xnd : Int)] 0,turn_setW (.inr (Nat.le_refl _)) [.int .i64 xid,.int .u64 (x1 : Int),.int .u64 (x0 : Int),.int .u64 (xd.den : Int),.bool xit,.int .i64 (xnd : Int)] _ 0 (HTw.out.trans HT.out (fun _ q => .inl q)),six_putH (HB2.out)⟩ ?_
   rintro w9 ⟨H9,ht9,HR⟩;have r0 := HR.cell 0;have r1 := HR.cell 1;have r2 := HR.cell 2;have r3 := HR.cell 3;have r4 := HR.cell 4;have r5 := HR.cell 5;simp only [lta,lcz,lcs] at r0 r1 r2 r3 r4 r5;exact bodyPost_ret (v := .tuple #[.agg #[.int .i64 xid,.int .u64 (x1 : Int),.int .u64 (x0 : Int),.int .u64 (xd.den : Int),.bool xit,.int .i64 (xnd : Int)],.bool true]) (by simp [results,Tryz.results45,go_sem,r0,r1,r2,r3,r4,r5]) rfl ⟨rfl,_,H9,ht9⟩
  obtain ⟨f,rfl⟩ : ∃ f',f = f' + 1 := ⟨f - 1,by omega⟩
  obtain ⟨k1,hk1⟩ : ∃ k,2 * i + 1 = k := ⟨_,rfl⟩;obtain ⟨k2,hk2⟩ : ∃ k,k1 + 1 = k := ⟨_,rfl⟩;obtain ⟨z1,hz1⟩ : ∃ z,hcu[k1]? = some z := ⟨hcu[k1]'(by omega),List.getElem?_eq_getElem _⟩
  obtain ⟨zi,hzi⟩ : ∃ z,hcu[i]? = some z := ⟨hcu[i]'(by omega),List.getElem?_eq_getElem _⟩
  have HZ1 := Lib.hid hz1;have HZI := Lib.hid hzi;rw [dnS] at hup;have hka : k1 ≤ 2 * i + 1 := by omega
  have hkb : 2 * i + 1 ≤ k1 := by omega
  have hkc : k2 ≤ k1 + 1 := by omega
  have hkd : k1 + 1 ≤ k2 := by omega
  have hke : 2 * (i : Int) + 1 = (k1 : Int) := by omega
  have hkf : (k1 : Int) + 1 = (k2 : Int) := by omega
  have hin3 : i < n := by omega
  have hkn3 : (k1 : Int) < (n : Int) := by omega
  have hkS : kidS ltPu hcu i = some (match hcu[k2]?,some z1 with
   | some y, some x => if ltPu y x then k2 else k1
   | _, _ => k1) := by
   unfold kidS
   rw [if_pos (by omega), show 2 * i + 2 = k2 by omega, show 2 * i + 1 = k1 by omega, hz1]
   cases hcu[k2]? <;> rfl
  have HCL := Lib.hid hcl
  by_cases h2 : k2 < n
  · obtain ⟨z2, hz2⟩ : ∃ z, hcu[k2]? = some z := ⟨hcu[k2]'(by omega), List.getElem?_eq_getElem _⟩
    have HZ2_ := Lib.hid hz2;rw [hz2] at hkS
    simp only at hkS
    have h2i : (k2 : Int) < (n : Int) := by omega
    have HLa := Lib.hid (fun (W : World) (a b : Int) (hW : Below wr.heap.size wr W) (ha : a = (k2 : Int)) (hb2 : b = (k1 : Int)) => show Calls Tryz.prog 67 #[.pointer (some ⟨hb,0,none⟩),.int .i64 a,.int .i64 b] W (Ret W (.bool (ltPu z2 z1))) from by
     subst ha hb2
     exact lessP_any (HH.out.tr hW) HZ2_.out HZ1.out (by rw [HCL.out];omega))
    clear hH hT B2 B4 hz1 hzi hz2 hcl hk1 hk2 hkn
    cases hb12 : ltPu z2 z1 with
    | true =>
      rw [hb12] at HLa hkS;have hk : kidS ltPu hcu i = some k2 := hkS;clear hkS;rw [hk] at hup;simp only [HZI.out,HZ2_.out] at hup
      have HLk := Lib.hid (fun (W : World) (a b : Int) (hW : Below wr.heap.size wr W) (ha : a = (k2 : Int)) (hb2 : b = (i : Int)) => show Calls Tryz.prog 67 #[.pointer (some ⟨hb,0,none⟩),.int .i64 a,.int .i64 b] W (Ret W (.bool (ltPu z2 zi))) from by
       subst ha hb2
       exact lessP_any (HH.out.tr hW) HZ2_.out HZI.out (by rw [HCL.out];omega))
      cases hlt : ltPu z2 zi with
      | false =>
        rw [hlt] at HLk hup;simp only [Bool.false_eq_true,if_false] at hup;rw [hup] at HH;clear hup hk
        go_wp2_with (first | (go_at_call 67;(refine (HLa.out _ _ _ bel (by first | with_reducible rfl | omega) (by first | with_reducible rfl | omega)).mono ?_);rintro e wp ⟨rfl,hbp⟩;obtain ⟨hcp,hfp⟩ := bcell hbp;have hzp := hbp.size;(try simp at hzp);have l2p : w.heap.size < wp.heap.size := (by omega);have l4p : b4 < wp.heap.size := (by omega);have lp : hb < wp.heap.size := (by omega)) | (go_at_call 67;(refine (HLk.out _ _ _ bel (by first | with_reducible rfl | omega) (by first | with_reducible rfl | omega)).mono ?_);rintro e wq ⟨rfl,hbq⟩;obtain ⟨hcq,hfq⟩ := bcell hbq;have hzq := hbq.size;(try simp at hzq);have l2q : w.heap.size < wq.heap.size := (by omega);have l4q : b4 < wq.heap.size := (by omega);have lq : hb < wq.heap.size := (by omega)))
        refine post_genH (fun w9 => HeapAt w9 F hb (.slice (some ⟨g,0,none⟩) n cc) P0 c ∧ TurnF F w w9 ∧ Blk w9 w.heap.size 117 #[.int .i64 xid,.int .u64 (x1 : Int),.int .u64 (x0 : Int),.int .u64 (xd.den : Int),.bool xit,.int .i64 (xnd : Int)]) ⟨(HH.out.tr (show Below wr.heap.size wr wq from bel)).off (fun q => Nat.lt_irrefl _ (HFL.out _ q)) [.int .i64 xid,.int .u64 (x1 : Int),.int .u64 (x0 : Int),.int .u64 (xd.den : Int),.bool xit,.int .i64 (xnd : Int)] 0,turn_setW (.inr (Nat.le_refl _)) [.int .i64 xid,.int .u64 (x1 : Int),.int .u64 (x0 : Int),.int .u64 (xd.den : Int),.bool xit,.int .i64 (xnd : Int)] _ 0 (HTw.out.trans (HT.out.below (show Below wr.heap.size wr wq from bel)) (fun _ q => .inl q)),six_putH (HB2.out.tr (show Below wr.heap.size wr wq from bel))⟩ ?_
        rintro w9 ⟨H9,ht9,HR⟩;have r0 := HR.cell 0;have r1 := HR.cell 1;have r2 := HR.cell 2;have r3 := HR.cell 3;have r4 := HR.cell 4;have r5 := HR.cell 5;simp only [lta,lcz,lcs] at r0 r1 r2 r3 r4 r5;exact bodyPost_ret (v := .tuple #[.agg #[.int .i64 xid,.int .u64 (x1 : Int),.int .u64 (x0 : Int),.int .u64 (xd.den : Int),.bool xit,.int .i64 (xnd : Int)],.bool true]) (by simp [results,Tryz.results45,go_sem,r0,r1,r2,r3,r4,r5]) rfl ⟨rfl,_,H9,ht9⟩
      | true =>
        rw [hlt] at HLk hup;simp only [if_true] at hup;have HU := Lib.hid hup;clear hup hk
        go_wp2_with (first | (go_at_call 67;(refine (HLa.out _ _ _ bel (by first | with_reducible rfl | omega) (by first | with_reducible rfl | omega)).mono ?_);rintro e wp ⟨rfl,hbp⟩;obtain ⟨hcp,hfp⟩ := bcell hbp;have hzp := hbp.size;(try simp at hzp);have l2p : w.heap.size < wp.heap.size := (by omega);have l4p : b4 < wp.heap.size := (by omega);have lp : hb < wp.heap.size := (by omega)) | (go_at_call 67;(refine (HLk.out _ _ _ bel (by first | with_reducible rfl | omega) (by first | with_reducible rfl | omega)).mono ?_);rintro e wq ⟨rfl,hbq⟩;obtain ⟨hcq,hfq⟩ := bcell hbq;have hzq := hbq.size;(try simp at hzq);have l2q : w.heap.size < wq.heap.size := (by omega);have l4q : b4 < wq.heap.size := (by omega);have lq : hb < wq.heap.size := (by omega)))
        have H1 := HH.out.tr (show Below wr.heap.size wr wq from bel)
        have HT1 := Lib.hid (HT.out.below (show Below wr.heap.size wr wq from bel))
        have hll : hcu.length = n := HCL.out;obtain ⟨d0,d1,dlt⟩ := H1.cells
        have gat : ∀ (k : Nat) (y : Pu),hcu[k]? = some y → ∀ (q : Nat),q < 7 → (wq.cell? ⟨g,k * 7 + q,none⟩ = (pucell y)[q]?) := fun k y hk q hq => by
         obtain ⟨g2,_,hv2,_,_,ix2⟩ := H1.at_ hk;injection hv2 with hv1 _ _
         injection hv1 with hv1
         injection hv1 with hv1
         rw [hv1]
         exact ix2 q hq
        have i0 := gat i _ HZI.out 0 (by decide)
        have i1 := gat i _ HZI.out 1 (by decide)
        have i2 := gat i _ HZI.out 2 (by decide)
        have i3 := gat i _ HZI.out 3 (by decide)
        have i4 := gat i _ HZI.out 4 (by decide)
        have i5 := gat i _ HZI.out 5 (by decide)
        have i6 := gat i _ HZI.out 6 (by decide)
        have k0_ := gat k2 _ HZ2_.out 0 (by decide)
        have k1_ := gat k2 _ HZ2_.out 1 (by decide)
        have k2_ := gat k2 _ HZ2_.out 2 (by decide)
        have k3_ := gat k2 _ HZ2_.out 3 (by decide)
        have k4_ := gat k2 _ HZ2_.out 4 (by decide)
        have k5_ := gat k2 _ HZ2_.out 5 (by decide)
        have k6_ := gat k2 _ HZ2_.out 6 (by decide)
        have fz := H1.fz
        have HH2 := Lib.hid (show HeapAt (setW (setW wq g (i * 7) (pucell z2)) g (k2 * 7) (pucell zi)) F hb (.slice (some ⟨g,0,none⟩) n cc) (swapL hcu i k2) c from by
         have := H1
         rw [← hll] at this ⊢
         exact this.two HZI.out HZ2_.out)
        have HT2 := Lib.hid (turn_setW (.inl (H1.oR g rfl)) (pucell zi) _ (k2 * 7) (turn_setW (.inl (H1.oR g rfl)) (pucell z2) _ (i * 7) HT1.out));have hin2 : (i : Int) < (n : Int) := by omega
        have hkn2 : (k2 : Int) < (n : Int) := by omega
        have glt : g < wq.heap.size := H1.lim g (H1.oR g rfl);clear gat H1 HH HT HT1 hcq hfq c0 c1 e0 e1 e2 e3 e4 e5 f0 f1 f2 f3 f4 f5 fz2 hll HLk HZI HZ1 HLa HZ2_;obtain ⟨⟨iid,⟨idn,idd⟩,iit,ind⟩,inn⟩ := zi;obtain ⟨⟨yid,⟨ydn,ydd⟩,yit,ynd⟩,yn⟩ := z2;simp only [pucell,lcz,lcs,Nat.add_zero] at i0 i1 i2 i3 i4 i5 i6 k0_ k1_ k2_ k3_ k4_ k5_ k6_ HH2 HT2;generalize idn / 18446744073709551616 = z1 at *;generalize idn % 18446744073709551616 = z0 at *;generalize ydn / 18446744073709551616 = y1 at *;generalize ydn % 18446744073709551616 = y0 at *;refine wp_region_seq [0,1,2,3,4,5,6,7,8,9,10,11,12,13,14,15,16,17,18,19,20,21,22,23] [24,25,26,27] (by kernel_rfl) (by kernel_rfl) (fun _ _ d _ _ h => by cases d <;> exact h) ?_
        simp only [List.map_cons, List.map_nil, ldz, lds, bare, gslot, lcz, lcs, Option.bind_some, pureK, Option.isNone_none, Bool.and_true, Bool.true_and, Bool.false_and, Bool.and_self]
        repeat ((try simp only [Act.put,lsi,lsz,lss]);first | (refine lexM_pure (v := ?_) wantB_none rfl ?_ ?_;rotate_left;focus (intro wq;go_simp;try with_reducible rfl)) | (refine lexM_quiet (v := ?_) wantB_none rfl ?_ ?_;rotate_left;focus (intro wq hq;obtain ⟨hcq,hfq⟩ := bcell hq;go_simp;try with_reducible rfl)) | (refine lexM_loud wantB_none rfl (fun K hK => ?_);go_simp;((first | fail | skip) <;> (refine hK.out _ _ bel ?_;clear hK K))))
        (all_goals try simp only [Act.put, lsi, lsz, lss])
        refine lexM_seq ?_;refine seqL_step (fun K hK => ?_)
        go_simp
        refine hK.out _ _ ?_;clear hK K
        (try simp only [Act.put, lsi, lsz, lss])
        refine seqL_step (fun K hK => ?_)
        go_simp
        refine hK.out _ _ ?_;clear hK K
        (try simp only [Act.put, lsi, lsz, lss])
        refine seqL_step (fun K hK => ?_)
        go_simp
        refine hK.out _ _ ?_;clear hK K
        (try simp only [Act.put, lsi, lsz, lss])
        refine seqL_step (fun K hK => ?_)
        go_simp
        refine hK.out _ _ ?_;clear hK K
        (try simp only [Act.put, lsi, lsz, lss])
        refine seqL_nil ?_;refine gen_w (Φ := fun w => Exit.then _ _ Exit.normal _ w) (fun w5 => HeapAt w5 F hb (.slice (some ⟨g,0,none⟩) n cc) (swapL hcu i k2) c ∧ TurnF F w2 w5) ⟨HH2.out.drew,HT2.out.drew⟩ ?_
        rintro w5 ⟨H5,ht5⟩;have HH5 := Lib.hid H5;have HT5 := Lib.hid ht5;have HS : Hid ((swapL hcu i k2).length = n) := by unfold Hid;rw [swapL_len];exact HCL.out
        clear H5 ht5 HH2 HT2 d0 d1 dlt i0 i1 i2 i3 i4 i5 i6 k0_ k1_ k2_ k3_ k4_ k5_ k6_ fz;go_wp2_with fail
        go_roundw
        case rel => exact ⟨k2, f, swapL hcu i k2, rfl, by omega, by omega, HS.out, HU.out, HH5.out, HT5.out⟩
        case measure => simp [Go.RowKit.intOf];omega
    | false =>
      rw [hb12] at HLa hkS;have hk : kidS ltPu hcu i = some k1 := hkS;clear hkS;rw [hk] at hup;simp only [HZI.out,HZ1.out] at hup
      have HLk := Lib.hid (fun (W : World) (a b : Int) (hW : Below wr.heap.size wr W) (ha : a = (k1 : Int)) (hb2 : b = (i : Int)) => show Calls Tryz.prog 67 #[.pointer (some ⟨hb,0,none⟩),.int .i64 a,.int .i64 b] W (Ret W (.bool (ltPu z1 zi))) from by
       subst ha hb2
       exact lessP_any (HH.out.tr hW) HZ1.out HZI.out (by rw [HCL.out];omega))
      cases hlt : ltPu z1 zi with
      | false =>
        rw [hlt] at HLk hup;simp only [Bool.false_eq_true,if_false] at hup;rw [hup] at HH;clear hup hk
        go_wp2_with (first | (go_at_call 67;(refine (HLa.out _ _ _ bel (by first | with_reducible rfl | omega) (by first | with_reducible rfl | omega)).mono ?_);rintro e wp ⟨rfl,hbp⟩;obtain ⟨hcp,hfp⟩ := bcell hbp;have hzp := hbp.size;(try simp at hzp);have l2p : w.heap.size < wp.heap.size := (by omega);have l4p : b4 < wp.heap.size := (by omega);have lp : hb < wp.heap.size := (by omega)) | (go_at_call 67;(refine (HLk.out _ _ _ bel (by first | with_reducible rfl | omega) (by first | with_reducible rfl | omega)).mono ?_);rintro e wq ⟨rfl,hbq⟩;obtain ⟨hcq,hfq⟩ := bcell hbq;have hzq := hbq.size;(try simp at hzq);have l2q : w.heap.size < wq.heap.size := (by omega);have l4q : b4 < wq.heap.size := (by omega);have lq : hb < wq.heap.size := (by omega)))
        refine post_genH (fun w9 => HeapAt w9 F hb (.slice (some ⟨g,0,none⟩) n cc) P0 c ∧ TurnF F w w9 ∧ Blk w9 w.heap.size 117 #[.int .i64 xid,.int .u64 (x1 : Int),.int .u64 (x0 : Int),.int .u64 (xd.den : Int),.bool xit,.int .i64 (xnd : Int)]) ⟨(HH.out.tr (show Below wr.heap.size wr wq from bel)).off (fun q => Nat.lt_irrefl _ (HFL.out _ q)) [.int .i64 xid,.int .u64 (x1 : Int),.int .u64 (x0 : Int),.int .u64 (xd.den : Int),.bool xit,.int .i64 (xnd : Int)] 0,turn_setW (.inr (Nat.le_refl _)) [.int .i64 xid,.int .u64 (x1 : Int),.int .u64 (x0 : Int),.int .u64 (xd.den : Int),.bool xit,.int .i64 (xnd : Int)] _ 0 (HTw.out.trans (HT.out.below (show Below wr.heap.size wr wq from bel)) (fun _ q => .inl q)),six_putH (HB2.out.tr (show Below wr.heap.size wr wq from bel))⟩ ?_
        rintro w9 ⟨H9,ht9,HR⟩;have r0 := HR.cell 0;have r1 := HR.cell 1;have r2 := HR.cell 2;have r3 := HR.cell 3;have r4 := HR.cell 4;have r5 := HR.cell 5;simp only [lta,lcz,lcs] at r0 r1 r2 r3 r4 r5;exact bodyPost_ret (v := .tuple #[.agg #[.int .i64 xid,.int .u64 (x1 : Int),.int .u64 (x0 : Int),.int .u64 (xd.den : Int),.bool xit,.int .i64 (xnd : Int)],.bool true]) (by simp [results,Tryz.results45,go_sem,r0,r1,r2,r3,r4,r5]) rfl ⟨rfl,_,H9,ht9⟩
      | true =>
        rw [hlt] at HLk hup;simp only [if_true] at hup;have HU := Lib.hid hup;clear hup hk
        go_wp2_with (first | (go_at_call 67;(refine (HLa.out _ _ _ bel (by first | with_reducible rfl | omega) (by first | with_reducible rfl | omega)).mono ?_);rintro e wp ⟨rfl,hbp⟩;obtain ⟨hcp,hfp⟩ := bcell hbp;have hzp := hbp.size;(try simp at hzp);have l2p : w.heap.size < wp.heap.size := (by omega);have l4p : b4 < wp.heap.size := (by omega);have lp : hb < wp.heap.size := (by omega)) | (go_at_call 67;(refine (HLk.out _ _ _ bel (by first | with_reducible rfl | omega) (by first | with_reducible rfl | omega)).mono ?_);rintro e wq ⟨rfl,hbq⟩;obtain ⟨hcq,hfq⟩ := bcell hbq;have hzq := hbq.size;(try simp at hzq);have l2q : w.heap.size < wq.heap.size := (by omega);have l4q : b4 < wq.heap.size := (by omega);have lq : hb < wq.heap.size := (by omega)))
        have H1 := HH.out.tr (show Below wr.heap.size wr wq from bel)
        have HT1 := Lib.hid (HT.out.below (show Below wr.heap.size wr wq from bel))
        have hll : hcu.length = n := HCL.out;obtain ⟨d0,d1,dlt⟩ := H1.cells
        have gat : ∀ (k : Nat) (y : Pu),hcu[k]? = some y → ∀ (q : Nat),q < 7 → (wq.cell? ⟨g,k * 7 + q,none⟩ = (pucell y)[q]?) := fun k y hk q hq => by
         obtain ⟨g2,_,hv2,_,_,ix2⟩ := H1.at_ hk;injection hv2 with hv1 _ _
         injection hv1 with hv1
         injection hv1 with hv1
         rw [hv1]
         exact ix2 q hq
        have i0 := gat i _ HZI.out 0 (by decide)
        have i1 := gat i _ HZI.out 1 (by decide)
        have i2 := gat i _ HZI.out 2 (by decide)
        have i3 := gat i _ HZI.out 3 (by decide)
        have i4 := gat i _ HZI.out 4 (by decide)
        have i5 := gat i _ HZI.out 5 (by decide)
        have i6 := gat i _ HZI.out 6 (by decide)
        have k0_ := gat k1 _ HZ1.out 0 (by decide)
        have k1_ := gat k1 _ HZ1.out 1 (by decide)
        have k2_ := gat k1 _ HZ1.out 2 (by decide)
        have k3_ := gat k1 _ HZ1.out 3 (by decide)
        have k4_ := gat k1 _ HZ1.out 4 (by decide)
        have k5_ := gat k1 _ HZ1.out 5 (by decide)
        have k6_ := gat k1 _ HZ1.out 6 (by decide)
        have fz := H1.fz
        have HH2 := Lib.hid (show HeapAt (setW (setW wq g (i * 7) (pucell z1)) g (k1 * 7) (pucell zi)) F hb (.slice (some ⟨g,0,none⟩) n cc) (swapL hcu i k1) c from by
         have := H1
         rw [← hll] at this ⊢
         exact this.two HZI.out HZ1.out)
        have HT2 := Lib.hid (turn_setW (.inl (H1.oR g rfl)) (pucell zi) _ (k1 * 7) (turn_setW (.inl (H1.oR g rfl)) (pucell z1) _ (i * 7) HT1.out));have hin2 : (i : Int) < (n : Int) := by omega
        have hkn2 : (k1 : Int) < (n : Int) := by omega
        have glt : g < wq.heap.size := H1.lim g (H1.oR g rfl);clear gat H1 HH HT HT1 hcq hfq c0 c1 e0 e1 e2 e3 e4 e5 f0 f1 f2 f3 f4 f5 fz2 hll HLk HZI HZ1 HLa HZ2_;obtain ⟨⟨iid,⟨idn,idd⟩,iit,ind⟩,inn⟩ := zi;obtain ⟨⟨yid,⟨ydn,ydd⟩,yit,ynd⟩,yn⟩ := z1;simp only [pucell,lcz,lcs,Nat.add_zero] at i0 i1 i2 i3 i4 i5 i6 k0_ k1_ k2_ k3_ k4_ k5_ k6_ HH2 HT2;generalize idn / 18446744073709551616 = z1 at *;generalize idn % 18446744073709551616 = z0 at *;generalize ydn / 18446744073709551616 = y1 at *;generalize ydn % 18446744073709551616 = y0 at *;refine wp_region_seq [0,1,2,3,4,5,6,7,8,9,10,11,12,13,14,15,16,17,18,19,20,21,22,23] [24,25,26,27] (by kernel_rfl) (by kernel_rfl) (fun _ _ d _ _ h => by cases d <;> exact h) ?_
        simp only [List.map_cons, List.map_nil, ldz, lds, bare, gslot, lcz, lcs, Option.bind_some, pureK, Option.isNone_none, Bool.and_true, Bool.true_and, Bool.false_and, Bool.and_self]
        repeat ((try simp only [Act.put,lsi,lsz,lss]);first | (refine lexM_pure (v := ?_) wantB_none rfl ?_ ?_;rotate_left;focus (intro wq;go_simp;try with_reducible rfl)) | (refine lexM_quiet (v := ?_) wantB_none rfl ?_ ?_;rotate_left;focus (intro wq hq;obtain ⟨hcq,hfq⟩ := bcell hq;go_simp;try with_reducible rfl)) | (refine lexM_loud wantB_none rfl (fun K hK => ?_);go_simp;((first | fail | skip) <;> (refine hK.out _ _ bel ?_;clear hK K))))
        (all_goals try simp only [Act.put, lsi, lsz, lss])
        refine lexM_seq ?_;refine seqL_step (fun K hK => ?_)
        go_simp
        refine hK.out _ _ ?_;clear hK K
        (try simp only [Act.put, lsi, lsz, lss])
        refine seqL_step (fun K hK => ?_)
        go_simp
        refine hK.out _ _ ?_;clear hK K
        (try simp only [Act.put, lsi, lsz, lss])
        refine seqL_step (fun K hK => ?_)
        go_simp
        refine hK.out _ _ ?_;clear hK K
        (try simp only [Act.put, lsi, lsz, lss])
        refine seqL_step (fun K hK => ?_)
        go_simp
        refine hK.out _ _ ?_;clear hK K
        (try simp only [Act.put, lsi, lsz, lss])
        refine seqL_nil ?_;refine gen_w (Φ := fun w => Exit.then _ _ Exit.normal _ w) (fun w5 => HeapAt w5 F hb (.slice (some ⟨g,0,none⟩) n cc) (swapL hcu i k1) c ∧ TurnF F w2 w5) ⟨HH2.out.drew,HT2.out.drew⟩ ?_
        rintro w5 ⟨H5,ht5⟩;have HH5 := Lib.hid H5;have HT5 := Lib.hid ht5;have HS : Hid ((swapL hcu i k1).length = n) := by unfold Hid;rw [swapL_len];exact HCL.out
        clear H5 ht5 HH2 HT2 d0 d1 dlt i0 i1 i2 i3 i4 i5 i6 k0_ k1_ k2_ k3_ k4_ k5_ k6_ fz;go_wp2_with fail
        go_roundw
        case rel => exact ⟨k1, f, swapL hcu i k1, rfl, by omega, by omega, HS.out, HU.out, HH5.out, HT5.out⟩
        case measure => simp [Go.RowKit.intOf];omega
  · have h2i : ¬ ((k2 : Int) < (n : Int)) := by omega
    rw [List.getElem?_eq_none (show hcu.length ≤ k2 by omega)] at hkS
    have hk : kidS ltPu hcu i = some k1 := hkS;clear hH hT B2 B4 hz1 hzi hcl hk1 hk2 hkn hkS;rw [hk] at hup;simp only [HZI.out,HZ1.out] at hup
    have HLk := Lib.hid (fun (W : World) (a b : Int) (hW : Below wr.heap.size wr W) (ha : a = (k1 : Int)) (hb2 : b = (i : Int)) => show Calls Tryz.prog 67 #[.pointer (some ⟨hb,0,none⟩),.int .i64 a,.int .i64 b] W (Ret W (.bool (ltPu z1 zi))) from by
     subst ha hb2
     exact lessP_any (HH.out.tr hW) HZ1.out HZI.out (by rw [HCL.out];omega))
    cases hlt : ltPu z1 zi with
    | false =>
      rw [hlt] at HLk hup;simp only [Bool.false_eq_true,if_false] at hup;rw [hup] at HH;clear hup hk
      go_wp2_with (go_at_call 67;(refine (HLk.out _ _ _ bel (by first | with_reducible rfl | omega) (by first | with_reducible rfl | omega)).mono ?_);rintro e wq ⟨rfl,hbq⟩;obtain ⟨hcq,hfq⟩ := bcell hbq;have hzq := hbq.size;(try simp at hzq);have l2q : w.heap.size < wq.heap.size := (by omega);have l4q : b4 < wq.heap.size := (by omega);have lq : hb < wq.heap.size := (by omega))
      refine post_genH (fun w9 => HeapAt w9 F hb (.slice (some ⟨g,0,none⟩) n cc) P0 c ∧ TurnF F w w9 ∧ Blk w9 w.heap.size 117 #[.int .i64 xid,.int .u64 (x1 : Int),.int .u64 (x0 : Int),.int .u64 (xd.den : Int),.bool xit,.int .i64 (xnd : Int)]) ⟨(HH.out.tr (show Below wr.heap.size wr wq from bel)).off (fun q => Nat.lt_irrefl _ (HFL.out _ q)) [.int .i64 xid,.int .u64 (x1 : Int),.int .u64 (x0 : Int),.int .u64 (xd.den : Int),.bool xit,.int .i64 (xnd : Int)] 0,turn_setW (.inr (Nat.le_refl _)) [.int .i64 xid,.int .u64 (x1 : Int),.int .u64 (x0 : Int),.int .u64 (xd.den : Int),.bool xit,.int .i64 (xnd : Int)] _ 0 (HTw.out.trans (HT.out.below (show Below wr.heap.size wr wq from bel)) (fun _ q => .inl q)),six_putH (HB2.out.tr (show Below wr.heap.size wr wq from bel))⟩ ?_
      rintro w9 ⟨H9,ht9,HR⟩;have r0 := HR.cell 0;have r1 := HR.cell 1;have r2 := HR.cell 2;have r3 := HR.cell 3;have r4 := HR.cell 4;have r5 := HR.cell 5;simp only [lta,lcz,lcs] at r0 r1 r2 r3 r4 r5;exact bodyPost_ret (v := .tuple #[.agg #[.int .i64 xid,.int .u64 (x1 : Int),.int .u64 (x0 : Int),.int .u64 (xd.den : Int),.bool xit,.int .i64 (xnd : Int)],.bool true]) (by simp [results,Tryz.results45,go_sem,r0,r1,r2,r3,r4,r5]) rfl ⟨rfl,_,H9,ht9⟩
    | true =>
      rw [hlt] at HLk hup;simp only [if_true] at hup;have HU := Lib.hid hup;clear hup hk
      go_wp2_with (go_at_call 67;(refine (HLk.out _ _ _ bel (by first | with_reducible rfl | omega) (by first | with_reducible rfl | omega)).mono ?_);rintro e wq ⟨rfl,hbq⟩;obtain ⟨hcq,hfq⟩ := bcell hbq;have hzq := hbq.size;(try simp at hzq);have l2q : w.heap.size < wq.heap.size := (by omega);have l4q : b4 < wq.heap.size := (by omega);have lq : hb < wq.heap.size := (by omega))
      have H1 := HH.out.tr (show Below wr.heap.size wr wq from bel)
      have HT1 := Lib.hid (HT.out.below (show Below wr.heap.size wr wq from bel))
      have hll : hcu.length = n := HCL.out;obtain ⟨d0,d1,dlt⟩ := H1.cells
      have gat : ∀ (k : Nat) (y : Pu),hcu[k]? = some y → ∀ (q : Nat),q < 7 → (wq.cell? ⟨g,k * 7 + q,none⟩ = (pucell y)[q]?) := fun k y hk q hq => by
       obtain ⟨g2,_,hv2,_,_,ix2⟩ := H1.at_ hk;injection hv2 with hv1 _ _
       injection hv1 with hv1
       injection hv1 with hv1
       rw [hv1]
       exact ix2 q hq
      have i0 := gat i _ HZI.out 0 (by decide)
      have i1 := gat i _ HZI.out 1 (by decide)
      have i2 := gat i _ HZI.out 2 (by decide)
      have i3 := gat i _ HZI.out 3 (by decide)
      have i4 := gat i _ HZI.out 4 (by decide)
      have i5 := gat i _ HZI.out 5 (by decide)
      have i6 := gat i _ HZI.out 6 (by decide)
      have k0_ := gat k1 _ HZ1.out 0 (by decide)
      have k1_ := gat k1 _ HZ1.out 1 (by decide)
      have k2_ := gat k1 _ HZ1.out 2 (by decide)
      have k3_ := gat k1 _ HZ1.out 3 (by decide)
      have k4_ := gat k1 _ HZ1.out 4 (by decide)
      have k5_ := gat k1 _ HZ1.out 5 (by decide)
      have k6_ := gat k1 _ HZ1.out 6 (by decide)
      have fz := H1.fz
      have HH2 := Lib.hid (show HeapAt (setW (setW wq g (i * 7) (pucell z1)) g (k1 * 7) (pucell zi)) F hb (.slice (some ⟨g,0,none⟩) n cc) (swapL hcu i k1) c from by
       have := H1
       rw [← hll] at this ⊢
       exact this.two HZI.out HZ1.out)
      have HT2 := Lib.hid (turn_setW (.inl (H1.oR g rfl)) (pucell zi) _ (k1 * 7) (turn_setW (.inl (H1.oR g rfl)) (pucell z1) _ (i * 7) HT1.out));have hin2 : (i : Int) < (n : Int) := by omega
      have hkn2 : (k1 : Int) < (n : Int) := by omega
      have glt : g < wq.heap.size := H1.lim g (H1.oR g rfl);clear gat H1 HH HT HT1 hcq hfq c0 c1 e0 e1 e2 e3 e4 e5 f0 f1 f2 f3 f4 f5 fz2 hll HLk HZI HZ1;obtain ⟨⟨iid,⟨idn,idd⟩,iit,ind⟩,inn⟩ := zi;obtain ⟨⟨yid,⟨ydn,ydd⟩,yit,ynd⟩,yn⟩ := z1;simp only [pucell,lcz,lcs,Nat.add_zero] at i0 i1 i2 i3 i4 i5 i6 k0_ k1_ k2_ k3_ k4_ k5_ k6_ HH2 HT2;generalize idn / 18446744073709551616 = z1 at *;generalize idn % 18446744073709551616 = z0 at *;generalize ydn / 18446744073709551616 = y1 at *;generalize ydn % 18446744073709551616 = y0 at *;refine wp_region_seq [0,1,2,3,4,5,6,7,8,9,10,11,12,13,14,15,16,17,18,19,20,21,22,23] [24,25,26,27] (by kernel_rfl) (by kernel_rfl) (fun _ _ d _ _ h => by cases d <;> exact h) ?_
      simp only [List.map_cons, List.map_nil, ldz, lds, bare, gslot, lcz, lcs, Option.bind_some, pureK, Option.isNone_none, Bool.and_true, Bool.true_and, Bool.false_and, Bool.and_self]
      repeat ((try simp only [Act.put,lsi,lsz,lss]);first | (refine lexM_pure (v := ?_) wantB_none rfl ?_ ?_;rotate_left;focus (intro wq;go_simp;try with_reducible rfl)) | (refine lexM_quiet (v := ?_) wantB_none rfl ?_ ?_;rotate_left;focus (intro wq hq;obtain ⟨hcq,hfq⟩ := bcell hq;go_simp;try with_reducible rfl)) | (refine lexM_loud wantB_none rfl (fun K hK => ?_);go_simp;((first | fail | skip) <;> (refine hK.out _ _ bel ?_;clear hK K))))
      (all_goals try simp only [Act.put, lsi, lsz, lss])
      refine lexM_seq ?_;refine seqL_step (fun K hK => ?_)
      go_simp
      refine hK.out _ _ ?_;clear hK K
      (try simp only [Act.put, lsi, lsz, lss])
      refine seqL_step (fun K hK => ?_)
      go_simp
      refine hK.out _ _ ?_;clear hK K
      (try simp only [Act.put, lsi, lsz, lss])
      refine seqL_step (fun K hK => ?_)
      go_simp
      refine hK.out _ _ ?_;clear hK K
      (try simp only [Act.put, lsi, lsz, lss])
      refine seqL_step (fun K hK => ?_)
      go_simp
      refine hK.out _ _ ?_;clear hK K
      (try simp only [Act.put, lsi, lsz, lss])
      refine seqL_nil ?_;refine gen_w (Φ := fun w => Exit.then _ _ Exit.normal _ w) (fun w5 => HeapAt w5 F hb (.slice (some ⟨g,0,none⟩) n cc) (swapL hcu i k1) c ∧ TurnF F w2 w5) ⟨HH2.out.drew,HT2.out.drew⟩ ?_
      rintro w5 ⟨H5,ht5⟩;have HH5 := Lib.hid H5;have HT5 := Lib.hid ht5;have HS : Hid ((swapL hcu i k1).length = n) := by unfold Hid;rw [swapL_len];exact HCL.out
      clear H5 ht5 HH2 HT2 d0 d1 dlt i0 i1 i2 i3 i4 i5 i6 k0_ k1_ k2_ k3_ k4_ k5_ k6_ fz;go_wp2_with fail
      go_roundw
      case rel => exact ⟨k1, f, swapL hcu i k1, rfl, by omega, by omega, HS.out, HU.out, HH5.out, HT5.out⟩
      case measure => simp [Go.RowKit.intOf];omega
end
end Go.Proofs.YtildgbhliaonnaaGreat
