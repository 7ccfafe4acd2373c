/-
  The contract of plane.Union.
  Contracts of package segm: may, span, On, Proper, Meet.
  Contracts of package segm: On.
  Contracts of package segm: Proper, Meet.
  Contracts of package segm: Meet, MeetsBox.
  Contracts of package segm: MeetsBox.
-/
import Derived.Test.YtcbjmcnebmhgpaaGreatKPlane
import Derived.Test.YtcbjmcnebmhgpaaGreatKLex
import Derived.Test.YtcbjmcnebmhgpaaGreatKPlainSplit
import Derived.RegionTactic
import Derived.Test.YtcbjmcnebmhgpaaGreatKAlloc
import Derived.BigRegion
set_option linter.unusedVariables false
set_option linter.unusedSimpArgs false
set_option maxHeartbeats 2000000
namespace Go.Proofs.YtcbjmcnebmhgpaaGreat
open Go.RowKit Pg
theorem drop_bx {l : List Bx} {k : Nat} (h : k < l.length) : l.drop k = bx l k :: l.drop (k + 1) := by
 have := bx_of h
 rw [List.drop_eq_getElem_cons h]
 rw [List.getElem?_eq_getElem h] at this;injection this with this
 rw [this]
def bxs (b : Bx) : Array Value := #[.int .i64 b.lo.x,.int .i64 b.lo.y,.int .i64 b.hi.x,.int .i64 b.hi.y]
theorem min_if (a b : Int) : (if b < a then b else a) = min a b := by omega
theorem max_if (a b : Int) : (if a < b then b else a) = max a b := by omega
theorem union_any (B n c : Nat) (A : Option Addr) (l : List Bx) (w : World) (hl : BxsAt w B A n l) (hB : B ≤ w.heap.size) (hn : n ≤ maxLen) :
 Calls Tryz.prog 92 #[.slice A n c] w (Ret w (.tuple #[bxV (union l).1.lo.x (union l).1.lo.y (union l).1.hi.x (union l).1.hi.y,errV (union l).2])) := by
 unfold maxLen at hn
 rcases Nat.eq_zero_or_pos n with h0 | h0
 · have hnil : l = [] := List.eq_nil_of_length_eq_zero (hl.1.trans h0)
   subst h0 hnil
   go_enter Tryz.func92, Tryz.ntmps92
   go_wp2;exact bodyPost_ret (v := .tuple #[.agg #[.int .i64 0,.int .i64 0,.int .i64 0,.int .i64 0],.iface 92 (.int .i64 1)]) (by simp [results,Tryz.results92,go_sem]) rfl ⟨rfl,bel⟩
 · obtain ⟨b,off,rfl,hab,c0,c1,c2,c3⟩ := hl.at_ h0
   have hn0 : ((n : Int) == 0) = false := by rw [beq_eq_false_iff_ne];omega
   have HU : Hid (union l = unionGo (bx l 0) (l.drop 0)) := by
    unfold Hid
    rw [List.drop_zero]
    cases l with
    | nil => have := hl.1;simp at this;omega
    | cons b r => rfl
   simp only [Nat.zero_mul,Nat.add_zero] at c0 c1 c2 c3;have hbw : b < w.heap.size := by omega
   go_enter Tryz.func92, Tryz.ntmps92
   go_wp2
   go_loopw [18] (fun i wr => ∃ (k : Nat) (u : Bx), k ≤ n ∧ i = .int .i64 k ∧ unionGo u (l.drop k) = union l ∧ Blk wr w.heap.size 73 #[.int .i64 0, .int .i64 0, .int .i64 0, .int .i64 0] ∧ Blk wr (w.heap.size + 1) 73 (bxs u) ∧ Below w.heap.size w wr) (fun i _ => n - (intOf i).toNat)
   case atStart => exact ⟨0, bx l 0, by omega, rfl, HU.out.symm, (Blk.new rfl rfl).alloc _, Blk.new (by simp) rfl, bel⟩
   case round =>
    obtain ⟨k,u,hk,rfl,hU,hb0,hb1,hb⟩ := hrel;have HU' := Lib.hid hU;clear hU;have z0 := hb0.cell 0;have z1 := hb0.cell 1;have z2 := hb0.cell 2;have z3 := hb0.cell 3;have f0 := hb0.frozen;have u0 := hb1.cell 0;have u1 := hb1.cell 1;have u2 := hb1.cell 2;have u3 := hb1.cell 3;have f1 := hb1.frozen;have HB0 := Lib.hid hb0;have HB1 := Lib.hid hb1;have hl1 := hb1.lt;have hl0 := hb0.lt;clear hb0 hb1
    simp [bxs] at z0 z1 z2 z3 u0 u1 u2 u3
    by_cases hlt : k < n
    · obtain ⟨b', off', ho, hab', c0, c1, c2, c3⟩ := (hl.below (hb.mono hB)).at_ hlt
      injection ho with ho
      injection ho with ho1 ho2
      subst ho1 ho2
      rcases Nat.eq_zero_or_pos (ckBox (bx l k)) with hz | hz
      · have HE := Lib.hid (errV_zero hz)
        have Hz := Lib.hid hz;clear hz
        go_wp2_with (go_at_call 75;refine (checkBox_any _ _ _ _ _).mono ?_;rw [HE.out];rintro e w1 ⟨rfl,hb1⟩;obtain ⟨hc1,hf1⟩ := bcell hb1;have hz1 := hb1.size;(try simp at hz1);have hy0 : w.heap.size < w1.heap.size := (by omega);have hy1 : w.heap.size + 1 < w1.heap.size := (by omega))
        go_roundw
        case rel =>
         refine ⟨k + 1,bjoin u (bx l k),by omega,by go_num,?_,?_,?_,bel⟩
         · have h := HU'.out
           rw [drop_bx (by rw [hl.1];exact hlt),unionGo,if_pos Hz.out] at h
           exact h
         · exact ((((((HB0.out.alloc _).below hb1 (by simp;omega)).far (by simp) _).far (by simp) _).far (by simp) _).far (by simp) _)
         · refine ((((((HB1.out.alloc _).below hb1 (by simp;omega)).set_ 0 _).set_ 1 _).set_ 2 _).set_ 3 _).eq_ ?_
           simp [bxs, bjoin, min_if, max_if]
        case measure => simp [intOf];omega
      · have HE := Lib.hid (errV_pos (k := ckBox (bx l k)) (by omega))
        have Hz : Hid (ckBox (bx l k) ≠ 0) := by unfold Hid;omega
        clear hz
        go_wp2_with (go_at_call 75;refine (checkBox_any _ _ _ _ _).mono ?_;rw [HE.out];rintro e w1 ⟨rfl,hb1⟩;obtain ⟨hc1,hf1⟩ := bcell hb1;have hz1 := hb1.size;(try simp at hz1);have hy0 : w.heap.size < w1.heap.size := (by omega);have hy1 : w.heap.size + 1 < w1.heap.size := (by omega))
        have HF : union l = (bzero,ckBox (bx l k)) := by
         have h := HU'.out
         rw [drop_bx (by rw [hl.1];exact hlt),unionGo,if_neg Hz.out] at h
         exact h.symm
        have HR := (((((HB0.out.alloc _).below hb1 (by simp;omega)).set_ 0 (.int .i64 0)).set_ 1 (.int .i64 0)).set_ 2 (.int .i64 0)).set_ 3 (.int .i64 0)
        have r0 := HR.cell 0;have r1 := HR.cell 1;have r2 := HR.cell 2;have r3 := HR.cell 3
        simp at r0 r1 r2 r3
        refine bodyPost_ret (v := .tuple #[.agg #[.int .i64 0,.int .i64 0,.int .i64 0,.int .i64 0],.iface 92 (.int .i64 (ckBox (bx l k)))]) (by simp [results,Tryz.results92,go_sem,r0,r1,r2,r3]) rfl ⟨by rw [HF,← HE.out];rfl,bel⟩
    · have HF : Hid (union l = (u, 0)) := by
       have h := HU'.out
       rw [List.drop_of_length_le (by rw [hl.1];omega)] at h
       exact h.symm
      go_wp2;refine bodyPost_ret (v := .tuple #[.agg #[.int .i64 u.lo.x,.int .i64 u.lo.y,.int .i64 u.hi.x,.int .i64 u.hi.y],.nilIface]) (by simp [results,Tryz.results92,go_sem,z0,z1,z2,z3]) rfl ⟨by rw [HF.out];rfl,bel⟩
theorem smay_any (B n c : Nat) (A : Option Addr) (l : List Pt) (w : World) (hl : PtsAt w B A n l) (hB : B ≤ w.heap.size) (hn : n ≤ maxLen) :
 Calls Tryz.prog 122 #[.slice A n c] w (Ret w (.bool (l.all okPt))) := by
 unfold maxLen at hn
 go_enter Tryz.func122,Tryz.ntmps122
 go_wp2
 go_loopw [7] (fun i wr => ∃ k : Nat,k ≤ n ∧ i = .int .i64 k ∧ (l.take k).all okPt = true ∧ Below w.heap.size w wr) (fun i _ => n - (intOf i).toNat)
 case atStart => exact ⟨0,Nat.zero_le _,rfl,by simp,Below.refl _ _⟩
 case round =>
  obtain ⟨k,hk,rfl,hall,hb⟩ := hrel
  by_cases hlt : k < n
  · obtain ⟨b, off, rfl, hab, c0, c1⟩ := (hl.below (hb.mono hB)).at_ hlt
    have Hp := Lib.hid (all_take_succ okPt l k _ (pt_of (by rw [hl.1];exact hlt)))
    have Hf := Lib.hid (all_false_of okPt l k _ (pt_of (by rw [hl.1];exact hlt)))
    have Ha := Lib.hid hall;clear hall
    cases hx : okPt (pt l k)
    case true =>
     have HE : Hid (errV (if okPt ⟨(pt l k).x,(pt l k).y⟩ = true then 0 else 2) = .nilIface) := by unfold Hid;rw [show (⟨(pt l k).x,(pt l k).y⟩ : Pt) = pt l k from rfl,hx];rfl
     have Hx := Lib.hid hx;clear hx
     go_wp2_with (go_at_call 94;refine (checkPoint_any _ _ _).mono ?_;rw [HE.out];rintro e w1 ⟨rfl,hb1⟩;obtain ⟨hc1,hf1⟩ := bcell hb1;have hz1 := hb1.size;(try simp at hz1))
     go_roundw
     case rel => exact ⟨k + 1,by omega,by go_num,by rw [Hp.out,Ha.out,Hx.out];rfl,bel⟩
     case measure => simp [intOf];omega
    case false =>
     have HE : Hid (errV (if okPt ⟨(pt l k).x,(pt l k).y⟩ = true then 0 else 2) = .iface 92 (.int .i64 2)) := by unfold Hid;rw [show (⟨(pt l k).x,(pt l k).y⟩ : Pt) = pt l k from rfl,hx];rfl
     have Hx := Lib.hid hx;clear hx
     go_wp2_with (go_at_call 94;refine (checkPoint_any _ _ _).mono ?_;rw [HE.out];rintro e w1 ⟨rfl,hb1⟩;obtain ⟨hc1,hf1⟩ := bcell hb1;have hz1 := hb1.size;(try simp at hz1))
     go_ret;exact ⟨ret_bool (Hf.out Hx.out).symm,bel⟩
  · have hkn : l.length ≤ k := by rw [hl.1];omega
    rw [List.take_of_length_le hkn] at hall;have Ha := Lib.hid hall;clear hall;go_wp2;go_ret;exact ⟨ret_bool Ha.out.symm,hb⟩
theorem smay2 (ax ay bx by_ : Int) (g : Nat) (w : World) (hg : w.heap[g]? = some (.cells #[.int .i64 ax,.int .i64 ay,.int .i64 bx,.int .i64 by_] 47 (0,0))) :
 Calls Tryz.prog 122 #[.slice (some ⟨g,0,none⟩) 2 2] w (Ret w (.bool (okPt ⟨ax,ay⟩ && okPt ⟨bx,by_⟩))) := by
 have h := smay_any w.heap.size 2 2 _ [⟨ax,ay⟩,⟨bx,by_⟩] w (ptsAt_block [⟨ax,ay⟩,⟨bx,by_⟩] hg (lt_of_block hg) rfl (by intro k hk;match k,hk with | 0,_ => exact ⟨rfl,rfl⟩ | 1,_ => exact ⟨rfl,rfl⟩)) (Nat.le_refl _) (by decide)
 simpa using h
theorem smay3 (ax ay bx by_ cx cy : Int) (g : Nat) (w : World) (hg : w.heap[g]? = some (.cells #[.int .i64 ax,.int .i64 ay,.int .i64 bx,.int .i64 by_,.int .i64 cx,.int .i64 cy] 47 (0,0))) :
 Calls Tryz.prog 122 #[.slice (some ⟨g,0,none⟩) 3 3] w (Ret w (.bool (okPt ⟨ax,ay⟩ && okPt ⟨bx,by_⟩ && okPt ⟨cx,cy⟩))) := by
 have h := smay_any w.heap.size 3 3 _ [⟨ax,ay⟩,⟨bx,by_⟩,⟨cx,cy⟩] w (ptsAt_block [⟨ax,ay⟩,⟨bx,by_⟩,⟨cx,cy⟩] hg (lt_of_block hg) rfl (by intro k hk;match k,hk with | 0,_ => exact ⟨rfl,rfl⟩ | 1,_ => exact ⟨rfl,rfl⟩ | 2,_ => exact ⟨rfl,rfl⟩)) (Nat.le_refl _) (by decide)
 simpa [Bool.and_assoc] using h
theorem smay4 (ax ay bx by_ cx cy dx dy : Int) (g : Nat) (w : World) (hg : w.heap[g]? = some (.cells #[.int .i64 ax,.int .i64 ay,.int .i64 bx,.int .i64 by_,.int .i64 cx,.int .i64 cy,.int .i64 dx,.int .i64 dy] 47 (0,0))) :
 Calls Tryz.prog 122 #[.slice (some ⟨g,0,none⟩) 4 4] w (Ret w (.bool (okPt ⟨ax,ay⟩ && okPt ⟨bx,by_⟩ && okPt ⟨cx,cy⟩ && okPt ⟨dx,dy⟩))) := by
 have h := smay_any w.heap.size 4 4 _ [⟨ax,ay⟩,⟨bx,by_⟩,⟨cx,cy⟩,⟨dx,dy⟩] w (ptsAt_block [⟨ax,ay⟩,⟨bx,by_⟩,⟨cx,cy⟩,⟨dx,dy⟩] hg (lt_of_block hg) rfl (by intro k hk;match k,hk with | 0,_ => exact ⟨rfl,rfl⟩ | 1,_ => exact ⟨rfl,rfl⟩ | 2,_ => exact ⟨rfl,rfl⟩ | 3,_ => exact ⟨rfl,rfl⟩)) (Nat.le_refl _) (by decide)
 simpa [Bool.and_assoc] using h
theorem span_any (ax ay bx by_ : Int) (w : World) :
 Calls Tryz.prog 135 #[ptV ax ay,ptV bx by_] w (Ret w (bxV (min ax bx) (min ay by_) (max ax bx) (max ay by_))) := by
 go_enter Tryz.func135,Tryz.ntmps135
 go_wp2
 all_goals exact bodyPost_ret (v := bxV (min ax bx) (min ay by_) (max ax bx) (max ay by_)) (by simp [results,Tryz.results135,go_sem];omega) rfl ⟨rfl,bel⟩
theorem on_any (ax ay bx by_ x y : Int) (w : World) :
 Calls Tryz.prog 121 #[ptV ax ay,ptV bx by_,ptV x y] w (Ret w (.bool (onS ⟨ax,ay⟩ ⟨bx,by_⟩ ⟨x,y⟩))) := by
 go_enter Tryz.func121,Tryz.ntmps121
 go_wp2_with fail;refine wp_region_below [0,1,2,3,4,5,6,7,8,9,10,11,12,13,14,16,15,17,18,19] (by kernel_rfl) (by kernel_rfl) (fun _ _ d _ _ h => by cases d <;> exact h) ?_
 simp only [List.map_cons,List.map_nil,ldz,lds,bare,gslot,lcz,lcs,Option.bind_some]
 repeat' ((try simp only [Act.put,lsi,lsz,lss]);first | (refine lexL_quiet (v := ?_) wantB_none rfl ?_ ?_;rotate_left;focus (intro wq hq;obtain ⟨hcq,hfq⟩ := bcell hq;go_simp;try with_reducible rfl)) | (refine lexL_loud wantB_none rfl (fun K hK => ?_);go_simp;((first | (go_at_call 122;refine (retB (smay3 ax ay bx by_ x y _ _ ?_)).mono ?_;exact block_last (by simp);rintro e w1 ⟨b,HB,rfl,hb1⟩;obtain ⟨hc1,hf1⟩ := bcell hb1;have hz1 := hb1.size;(try simp at hz1);cases b) | (go_at_call 125;refine (orient_any _ _ _ _ _ _ _).mono ?_;rintro e w1 ⟨rfl,hb1⟩;obtain ⟨hc1,hf1⟩ := bcell hb1;have hz1 := hb1.size;(try simp at hz1);have hy0 : w.heap.size < w1.heap.size := (by omega);have hy1 : w.heap.size + 1 < w1.heap.size := (by omega);have hy2 : w.heap.size + 1 + 1 < w1.heap.size := (by omega);cases hz : (orient ⟨ax,ay⟩ ⟨bx,by_⟩ ⟨x,y⟩ == 0)) | (go_at_call 135;refine (span_any _ _ _ _ _).mono ?_;rintro e w1 ⟨rfl,hb1⟩;obtain ⟨hc1,hf1⟩ := bcell hb1;have hz1 := hb1.size;(try simp at hz1);have hy0 : w.heap.size < w1.heap.size := (by omega);have hy1 : w.heap.size + 1 < w1.heap.size := (by omega);have hy2 : w.heap.size + 1 + 1 < w1.heap.size := (by omega)) | (go_at_call 123;refine (has_any _ _ _ _ _ _ _).mono ?_;rintro e w1 ⟨rfl,hb1⟩;obtain ⟨hc1,hf1⟩ := bcell hb1;have hz1 := hb1.size;(try simp at hz1);have hy0 : w.heap.size < w1.heap.size := (by omega);have hy1 : w.heap.size + 1 < w1.heap.size := (by omega);have hy2 : w.heap.size + 1 + 1 < w1.heap.size := (by omega)) | skip) <;> (refine hK.out _ _ bel ?_;clear hK K))) | (refine lexL_on ?_ ?_;focus (simp only [lta,lcs,lcz,Bool.not_true,Bool.not_false];done)) | (refine lexL_off ?_ ?_ ?_;(focus (simp only [lta,lcs,lcz,Bool.not_true,Bool.not_false];done));(focus (exact bel))) | (refine lexL_splitS (X := ?_) ?_ ?_ (fun hg => ?_) (fun hg => ?_);rotate_left;(focus (simp only [lta,lcs,lcz];with_reducible rfl));(focus (exact bel));all_goals (try simp only [Bool.not_true,Bool.not_false] at hg)))
 (all_goals try simp only [Act.put,lsi,lsz,lss]);all_goals (refine lexL_nil ?_)
 all_goals go_wp2
 all_goals go_ret
 all_goals exact ⟨ret_bool (by have hb := HB.out;rw [onS_eq,hb];simp [*,span]),bel⟩
theorem orient_bd (a b c : Pt) : -1 ≤ orient a b c ∧ orient a b c ≤ 1 := by
 unfold orient sgn
 split
 · omega
 · split <;> omega
theorem mul_one_bd {p q : Int} (h1 : -1 ≤ p ∧ p ≤ 1) (h2 : -1 ≤ q ∧ q ≤ 1) : -1 ≤ p * q ∧ p * q ≤ 1 := by
 have := mul_bd (m := 1) (n := 1) h1.1 h1.2 h2.1 h2.2
 omega
theorem wrap_mul_one {p q : Int} (h1 : -1 ≤ p ∧ p ≤ 1) (h2 : -1 ≤ q ∧ q ≤ 1) : IntKind.i64.wrap (p * q) = p * q := by
 have h := mul_one_bd h1 h2;exact IntWalk.i64_in _ (by omega)
theorem proper_eq (a b c d : Pt) : properR a b c d = ((okPt a && okPt b && okPt c && okPt d) && decide (orient a b c * orient a b d < 0) && decide (orient c d a * orient c d b < 0)) := by
 by_cases h : (okPt a && okPt b && okPt c && okPt d) = true
 · rw [properR,h];simp
 · have h0 : (okPt a && okPt b && okPt c && okPt d) = false := by simpa using h
   rw [properR, h0]
   have : orient a b c * orient a b d = 0 := by
    by_cases h1 : (okPt a && okPt b && okPt c) = true
    · have h2 : (okPt a && okPt b && okPt d) = false := by simp_all
      have : orient a b d = 0 := by simp [orient,cross,h2,sgn]
      rw [this];simp
    · have h1 : (okPt a && okPt b && okPt c) = false := by simpa using h1
      have : orient a b c = 0 := by simp [orient,cross,h1,sgn]
      rw [this];simp
   rw [this];simp
theorem proper_any (ax ay bx by_ cx cy dx dy : Int) (w : World) :
 Calls Tryz.prog 126 #[ptV ax ay,ptV bx by_,ptV cx cy,ptV dx dy] w (Ret w (.bool (properR ⟨ax,ay⟩ ⟨bx,by_⟩ ⟨cx,cy⟩ ⟨dx,dy⟩))) := by
 have hw1 := wrap_mul_one (orient_bd ⟨ax,ay⟩ ⟨bx,by_⟩ ⟨cx,cy⟩) (orient_bd ⟨ax,ay⟩ ⟨bx,by_⟩ ⟨dx,dy⟩);have hw2 := wrap_mul_one (orient_bd ⟨cx,cy⟩ ⟨dx,dy⟩ ⟨ax,ay⟩) (orient_bd ⟨cx,cy⟩ ⟨dx,dy⟩ ⟨bx,by_⟩)
 go_enter Tryz.func126,Tryz.ntmps126
 go_wp2_with fail;refine wp_region_below [0,1,2,3,4,5,6,7,8,9,11,12,13,10,14,15,16,17,18,19,20,21,23,24,25,22,26,27,28,29,30] (by kernel_rfl) (by kernel_rfl) (fun _ _ d _ _ h => by cases d <;> exact h) ?_
 simp only [List.map_cons,List.map_nil,ldz,lds,bare,gslot,lcz,lcs,Option.bind_some]
 repeat' ((try simp only [Act.put,lsi,lsz,lss]);first | (refine lexL_quiet (v := ?_) wantB_none rfl ?_ ?_;rotate_left;focus (intro wq hq;obtain ⟨hcq,hfq⟩ := bcell hq;go_simp;try with_reducible rfl)) | (refine lexL_loud wantB_none rfl (fun K hK => ?_);go_simp;((first | (go_at_call 122;refine (retB (smay4 ax ay bx by_ cx cy dx dy _ _ ?_)).mono ?_;exact block_last (by simp);rintro e w1 ⟨b,HB,rfl,hb1⟩;obtain ⟨hc1,hf1⟩ := bcell hb1;have hz1 := hb1.size;(try simp at hz1);cases b) | (go_at_call 125;refine (orient_any _ _ _ _ _ _ _).mono ?_;rintro e w1 ⟨rfl,hb1⟩;obtain ⟨hc1,hf1⟩ := bcell hb1;have hz1 := hb1.size;(try simp at hz1);have hy0 : w.heap.size < w1.heap.size := (by omega);have hy1 : w.heap.size + 1 < w1.heap.size := (by omega);have hy2 : w.heap.size + 1 + 1 < w1.heap.size := (by omega);have hy3 : w.heap.size + 1 + 1 + 1 < w1.heap.size := (by omega)) | skip) <;> (refine hK.out _ _ bel ?_;clear hK K))) | (refine lexL_on ?_ ?_;focus (simp only [lta,lcs,lcz,Bool.not_true,Bool.not_false];done)) | (refine lexL_off ?_ ?_ ?_;(focus (simp only [lta,lcs,lcz,Bool.not_true,Bool.not_false];done));(focus (exact bel))) | (refine lexL_splitS (X := ?_) ?_ ?_ (fun hg => ?_) (fun hg => ?_);rotate_left;(focus (simp only [lta,lcs,lcz];with_reducible rfl));(focus (exact bel));all_goals (try simp only [Bool.not_true,Bool.not_false] at hg)))
 (all_goals try simp only [Act.put,lsi,lsz,lss]);all_goals (refine lexL_nil ?_)
 all_goals go_wp2
 all_goals go_ret
 all_goals exact ⟨ret_bool (by have hb := HB.out;rw [proper_eq,hb];simp [*]),bel⟩
theorem meet_any (ax ay bx by_ cx cy dx dy : Int) (w : World) :
 Calls Tryz.prog 99 #[ptV ax ay,ptV bx by_,ptV cx cy,ptV dx dy] w (Ret w (.bool (meetS ⟨ax,ay⟩ ⟨bx,by_⟩ ⟨cx,cy⟩ ⟨dx,dy⟩))) := by
 go_enter Tryz.func99,Tryz.ntmps99
 go_wp2_with (first | (go_at_call 122;refine (smay4 ax ay bx by_ cx cy dx dy _ _ ?_).mono ?_;exact block_last (by simp);rintro e w1 ⟨rfl,hb1⟩;obtain ⟨hc1,hf1⟩ := bcell hb1;have hz1 := hb1.size;(try simp at hz1);have hy0 : w.heap.size < w1.heap.size := (by omega);have hy1 : w.heap.size + 1 < w1.heap.size := (by omega);have hy2 : w.heap.size + 1 + 1 < w1.heap.size := (by omega);have hy3 : w.heap.size + 1 + 1 + 1 < w1.heap.size := (by omega)) | (go_at_call 126;refine (proper_any _ _ _ _ _ _ _ _ _).mono ?_;rintro e w1 ⟨rfl,hb1⟩;obtain ⟨hc1,hf1⟩ := bcell hb1;have hz1 := hb1.size;(try simp at hz1);have hy0 : w.heap.size < w1.heap.size := (by omega);have hy1 : w.heap.size + 1 < w1.heap.size := (by omega);have hy2 : w.heap.size + 1 + 1 < w1.heap.size := (by omega);have hy3 : w.heap.size + 1 + 1 + 1 < w1.heap.size := (by omega)) | (go_at_call 121;refine (on_any _ _ _ _ _ _ _).mono ?_;rintro e w1 ⟨rfl,hb1⟩;obtain ⟨hc1,hf1⟩ := bcell hb1;have hz1 := hb1.size;(try simp at hz1);have hy0 : w.heap.size < w1.heap.size := (by omega);have hy1 : w.heap.size + 1 < w1.heap.size := (by omega);have hy2 : w.heap.size + 1 + 1 < w1.heap.size := (by omega);have hy3 : w.heap.size + 1 + 1 + 1 < w1.heap.size := (by omega)))
 all_goals go_ret
 all_goals exact ⟨ret_bool (by simp [meetS, *]),bel⟩
theorem meetsBox_any (ax ay bx by_ lx ly hx hy : Int) (w : World) :
 Calls Tryz.prog 97 #[ptV ax ay,ptV bx by_,bxV lx ly hx hy] w (Ret w (.bool (mbox ⟨ax,ay⟩ ⟨bx,by_⟩ ⟨⟨lx,ly⟩,⟨hx,hy⟩⟩))) := by
 cases h1 : (okPt ⟨ax,ay⟩ && okPt ⟨bx,by_⟩)
 · have H1 := Lib.hid h1
   go_enter Tryz.func97, Tryz.ntmps97
   go_wp2_with (first | (go_at_call 122;refine (smay2 ax ay bx by_ _ _ ?_).mono ?_;exact block_last (by simp);rw [h1];rintro e w1 ⟨rfl,hb1⟩;obtain ⟨hc1,hf1⟩ := bcell hb1;have hz1 := hb1.size;(try simp at hz1);have hy0 : w.heap.size < w1.heap.size := (by omega);have hy1 : w.heap.size + 1 < w1.heap.size := (by omega);have hy2 : w.heap.size + 1 + 1 < w1.heap.size := (by omega)))
   go_ret;exact ⟨ret_bool (by have h := H1.out;simp [mbox,h]),bel⟩
 · have H1 := Lib.hid h1
   by_cases hk : ckBox ⟨⟨lx, ly⟩, ⟨hx, hy⟩⟩ = 0
   · have HE := Lib.hid (errV_zero hk)
     have HK : Hid (okBx ⟨⟨lx,ly⟩,⟨hx,hy⟩⟩ = true) := by simp [Hid,okBx,hk]
     clear hk
     go_enter Tryz.func97, Tryz.ntmps97
     go_wp2_with (first | (go_at_call 122;refine (smay2 ax ay bx by_ _ _ ?_).mono ?_;exact block_last (by simp);rw [h1];rintro e w1 ⟨rfl,hb1⟩;obtain ⟨hc1,hf1⟩ := bcell hb1;have hz1 := hb1.size;(try simp at hz1);have hy0 : w.heap.size < w1.heap.size := (by omega);have hy1 : w.heap.size + 1 < w1.heap.size := (by omega);have hy2 : w.heap.size + 1 + 1 < w1.heap.size := (by omega)) | (go_at_call 75;refine (checkBox_any _ _ _ _ _).mono ?_;rw [HE.out];rintro e w1 ⟨rfl,hb1⟩;obtain ⟨hc1,hf1⟩ := bcell hb1;have hz1 := hb1.size;(try simp at hz1);have hy0 : w.heap.size < w1.heap.size := (by omega);have hy1 : w.heap.size + 1 < w1.heap.size := (by omega);have hy2 : w.heap.size + 1 + 1 < w1.heap.size := (by omega)) | (go_at_call 123;refine (has_any _ _ _ _ _ _ _).mono ?_;rintro e w1 ⟨rfl,hb1⟩;obtain ⟨hc1,hf1⟩ := bcell hb1;have hz1 := hb1.size;(try simp at hz1);have hy0 : w.heap.size < w1.heap.size := (by omega);have hx01 : w.heap.size < w1.heap.size + 1 + 1 := (by omega);have hy1 : w.heap.size + 1 < w1.heap.size := (by omega);have hx11 : w.heap.size + 1 < w1.heap.size + 1 + 1 := (by omega);have hy2 : w.heap.size + 1 + 1 < w1.heap.size := (by omega);have hx21 : w.heap.size + 1 + 1 < w1.heap.size + 1 + 1 := (by omega)))
     · go_ret
       exact ⟨ret_bool (by have h := HK.out;have g := H1.out;simp only [mbox,h,g];simp [*]),bel⟩
     · go_ret
       exact ⟨ret_bool (by have h := HK.out;have g := H1.out;simp only [mbox,h,g];simp [*]),bel⟩
     · have hzq := hz1
       refine wp_region_alloc' [0,1,2,3,4,5,6,7,8,9,10,11,12,13] [14,15] [16,17] (fun _ => #[.int .i64 0,.int .i64 0]) (by kernel_rfl) (by kernel_rfl) (fun _ _ d _ _ h => by cases d <;> exact h) (by intro i hi w;simp only [List.mem_cons,List.not_mem_nil,or_false] at hi;rcases hi with rfl | rfl <;> simp only [ldz,lds,tyOf] <;> kernel_rfl) (fun KN hKN => ?_)
       simp only [List.map_cons, List.map_nil, ldz, lds, bare, gslot, lcz, lcs, Option.bind_some]
       repeat ((try simp only [Act.put,lsi,lsz,lss]);first | (refine lexN_quiet (v := ?_) rfl ?_ ?_;rotate_left;focus (intro wq hq;obtain ⟨hcq,hfq⟩ := bcell hq;go_simp;try with_reducible rfl)) | (refine lexN_loud (v := ?_) rfl ?_ ?_;rotate_left;focus (intro wq hq K hK;obtain ⟨hcq,hfq⟩ := bcell hq;go_simp;(first | fail);refine hK.out _ _ ?_ bel;simp only [Act.put,lsi,lsz,lss];try with_reducible rfl)))
       (try simp only [Act.put, lsi, lsz, lss])
       refine lexN_nil (hKN.out _ ?_);clear hKN KN;intro gs wf hwf hgs hds
       simp only [List.map_cons, List.map_nil, ldz, lds, bare, gslot, lcz, lcs, Option.bind_some, List.foldl_cons, List.foldl_nil, ptrV]
       obtain ⟨hg14,HB14⟩ := hgs 14 (by decide)
       obtain ⟨hg15,HB15⟩ := hgs 15 (by decide)
       have hd14x15 := hds 14 (by decide) 15 (by decide) (by decide)
       simp only [ldz,lds,tyOf] at HB14 HB15;clear hgs hds;generalize gs 14 = g14 at *;generalize gs 15 = g15 at *;have cg14 := HB14.cell;have fg14 := HB14.frozen;have cg15 := HB15.cell;have fg15 := HB15.frozen;have hd15x14 := Ne.symm hd14x15
       repeat ((try simp only [Act.put,lsi,lsz,lss]);first | (refine lexL_loud wantB_none rfl (fun K hK => ?_);go_simp;refine hK.out _ _ bel ?_;clear hK K) | (refine lexL_quiet (v := ?_) wantB_none rfl ?_ ?_;rotate_left;focus (intro wq hq;go_simp;try with_reducible rfl)))
       refine lexL_nil ?_;refine keep_world (R := fun w2 => Below w.heap.size w w2 ∧ Blk w2 g14 47 #[.int .i64 lx,.int .i64 hy] ∧ Blk w2 g15 47 #[.int .i64 hx,.int .i64 ly] ∧ Blk w2 w.heap.size 47 #[.int .i64 ax,.int .i64 ay] ∧ Blk w2 (w.heap.size + 1) 47 #[.int .i64 bx,.int .i64 by_] ∧ Blk w2 (w.heap.size + 1 + 1) 73 #[.int .i64 lx,.int .i64 ly,.int .i64 hx,.int .i64 hy]) ⟨bel,((((HB14.set_ 0 _).set_ 1 _).far (p := ⟨g15,0,none⟩) hd14x15 _).far (p := ⟨g15,1,none⟩) hd14x15 _).eq_ (by simp),((((HB15.far (p := ⟨g14,0,none⟩) hd15x14 _).far (p := ⟨g14,1,none⟩) hd15x14 _).set_ 0 _).set_ 1 _).eq_ (by simp),blkA,blkA,blkA⟩ ?_
       rintro w2 ⟨hb2,h14,h15,hE0,hE1,hE2⟩;clear cg14 fg14 HB14 cg15 fg15 HB15;have cg14 := h14.cell;have fg14 := h14.frozen;have lg14 := h14.lt;have cg15 := h15.cell;have fg15 := h15.frozen;have lg15 := h15.lt;obtain ⟨hc2,hf2⟩ := bcell hb2;have cA := hE0.cell;have cB := hE1.cell;have cR := hE2.cell;have lA := hE0.lt;have lB := hE1.lt;have lR := hE2.lt;clear hE0 hE1 hE2 h14 h15 hwf hc2 hf2
       go_wp2_with (go_at_call 99;refine (meet_any _ _ _ _ _ _ _ _ _).mono ?_;rintro e w1 ⟨rfl,hb1⟩;obtain ⟨hc1,hf1⟩ := bcell hb1;have hz1 := hb1.size;(try simp at hz1);have lA1 : w.heap.size < w1.heap.size := (by omega);have lB1 : w.heap.size + 1 < w1.heap.size := (by omega);have lR1 : w.heap.size + 1 + 1 < w1.heap.size := (by omega);have l14 : g14 < w1.heap.size := (by omega);have l15 : g15 < w1.heap.size := (by omega))
       all_goals go_ret
       all_goals exact ⟨ret_bool (by have h := HK.out;have g := H1.out;simp only [mbox,h,g];simp [*]),bel⟩
   · have HE := Lib.hid (errV_pos hk)
     have HK : Hid (okBx ⟨⟨lx,ly⟩,⟨hx,hy⟩⟩ = false) := by simp [Hid,okBx,hk]
     clear hk
     go_enter Tryz.func97, Tryz.ntmps97
     go_wp2_with (first | (go_at_call 122;refine (smay2 ax ay bx by_ _ _ ?_).mono ?_;exact block_last (by simp);rw [h1];rintro e w1 ⟨rfl,hb1⟩;obtain ⟨hc1,hf1⟩ := bcell hb1;have hz1 := hb1.size;(try simp at hz1);have hy0 : w.heap.size < w1.heap.size := (by omega);have hy1 : w.heap.size + 1 < w1.heap.size := (by omega);have hy2 : w.heap.size + 1 + 1 < w1.heap.size := (by omega)) | (go_at_call 75;refine (checkBox_any _ _ _ _ _).mono ?_;rw [HE.out];rintro e w1 ⟨rfl,hb1⟩;obtain ⟨hc1,hf1⟩ := bcell hb1;have hz1 := hb1.size;(try simp at hz1);have hy0 : w.heap.size < w1.heap.size := (by omega);have hy1 : w.heap.size + 1 < w1.heap.size := (by omega);have hy2 : w.heap.size + 1 + 1 < w1.heap.size := (by omega)))
     all_goals go_ret
     all_goals exact ⟨ret_bool (by have h := HK.out;simp [mbox,h]),bel⟩
end Go.Proofs.YtcbjmcnebmhgpaaGreat
