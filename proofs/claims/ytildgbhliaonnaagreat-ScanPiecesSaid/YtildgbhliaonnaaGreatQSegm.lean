/-
  The contract of plane.Union.
  Contracts of package segm: may, span, On, Proper, Meet.
-/
import Derived.Test.YtildgbhliaonnaaGreatQPlane
set_option linter.unusedVariables false
set_option linter.unusedSimpArgs false
set_option maxHeartbeats 400000
namespace Go.Proofs.YtildgbhliaonnaaGreat
open Go.RowKit Pg
theorem drop_bx {l : List Bx} {k : Nat} (h : k < l.length) : l.drop k = bx l k :: l.drop (k + 1) := by
 have := bx_of h
 rw [List.drop_eq_getElem_cons h]
 rw [List.getElem?_eq_getElem h] at this;injection this with this
 rw [this]
def bxs (b : Bx) : Array Value := #[.int .i64 b.lo.x,.int .i64 b.lo.y,.int .i64 b.hi.x,.int .i64 b.hi.y]
theorem smay_any (B n c : Nat) (A : Option Addr) (l : List Pt) (w : World) (hl : PtsAt w B A n l) (hB : B ≤ w.heap.size) (hn : n ≤ maxLen) :
 Calls Tryz.prog 114 #[.slice A n c] w (Ret w (.bool (l.all okPt))) := by
 unfold maxLen at hn
 go_enter Tryz.func114,Tryz.ntmps114
 go_wp2
 go_loopw [7] (fun i wr => ∃ k : Nat,k ≤ n ∧ i = .int .i64 k ∧ (l.take k).all okPt = true ∧ Below w.heap.size w wr) (fun i _ => n - (intOf i).toNat)
 case atStart => exact ⟨0,Nat.zero_le _,rfl,by simp,Below.refl _ _⟩
 case round =>
  obtain ⟨k,hk,rfl,hall,hb⟩ := hrel
  by_cases hlt : k < n
  · obtain ⟨b, off, rfl, hab, c0, c1⟩ := (hl.below (hb.mono hB)).at_ hlt
    have Hp := Lib.hid (all_take_succ okPt l k _ (pt_of (by rw [hl.1];exact hlt)))
    have Hf := Lib.hid (all_false_of okPt l k _ (pt_of (by rw [hl.1];exact hlt)))
    have Ha := Lib.hid hall;clear hall
    cases hx : okPt (pt l k)
    case true =>
     have HE : Hid (errV (if okPt ⟨(pt l k).x,(pt l k).y⟩ = true then 0 else 2) = .nilIface) := by unfold Hid;rw [show (⟨(pt l k).x,(pt l k).y⟩ : Pt) = pt l k from rfl,hx];rfl
     have Hx := Lib.hid hx;clear hx
     go_wp2_with (go_at_call 25;refine (checkPoint_any _ _ _).mono ?_;rw [HE.out];rintro e w1 ⟨rfl,hb1⟩;obtain ⟨hc1,hf1⟩ := bcell hb1;have hz1 := hb1.size;(try simp at hz1))
     go_roundw
     case rel => exact ⟨k + 1,by omega,by go_num,by rw [Hp.out,Ha.out,Hx.out];rfl,bel⟩
     case measure => simp [intOf];omega
    case false =>
     have HE : Hid (errV (if okPt ⟨(pt l k).x,(pt l k).y⟩ = true then 0 else 2) = .iface 84 (.int .i64 2)) := by unfold Hid;rw [show (⟨(pt l k).x,(pt l k).y⟩ : Pt) = pt l k from rfl,hx];rfl
     have Hx := Lib.hid hx;clear hx
     go_wp2_with (go_at_call 25;refine (checkPoint_any _ _ _).mono ?_;rw [HE.out];rintro e w1 ⟨rfl,hb1⟩;obtain ⟨hc1,hf1⟩ := bcell hb1;have hz1 := hb1.size;(try simp at hz1))
     go_ret;exact ⟨ret_bool (Hf.out Hx.out).symm,bel⟩
  · have hkn : l.length ≤ k := by rw [hl.1];omega
    rw [List.take_of_length_le hkn] at hall;have Ha := Lib.hid hall;clear hall;go_wp2;go_ret;exact ⟨ret_bool Ha.out.symm,hb⟩
theorem smay3 (ax ay bx by_ cx cy : Int) (g : Nat) (w : World) (hg : w.heap[g]? = some (.cells #[.int .i64 ax,.int .i64 ay,.int .i64 bx,.int .i64 by_,.int .i64 cx,.int .i64 cy] 24 (0,0))) :
 Calls Tryz.prog 114 #[.slice (some ⟨g,0,none⟩) 3 3] w (Ret w (.bool (okPt ⟨ax,ay⟩ && okPt ⟨bx,by_⟩ && okPt ⟨cx,cy⟩))) := by
 have h := smay_any w.heap.size 3 3 _ [⟨ax,ay⟩,⟨bx,by_⟩,⟨cx,cy⟩] w (ptsAt_block [⟨ax,ay⟩,⟨bx,by_⟩,⟨cx,cy⟩] hg (lt_of_block hg) rfl (by intro k hk;match k,hk with | 0,_ => exact ⟨rfl,rfl⟩ | 1,_ => exact ⟨rfl,rfl⟩ | 2,_ => exact ⟨rfl,rfl⟩)) (Nat.le_refl _) (by decide)
 simpa [Bool.and_assoc] using h
theorem smay4 (ax ay bx by_ cx cy dx dy : Int) (g : Nat) (w : World) (hg : w.heap[g]? = some (.cells #[.int .i64 ax,.int .i64 ay,.int .i64 bx,.int .i64 by_,.int .i64 cx,.int .i64 cy,.int .i64 dx,.int .i64 dy] 24 (0,0))) :
 Calls Tryz.prog 114 #[.slice (some ⟨g,0,none⟩) 4 4] w (Ret w (.bool (okPt ⟨ax,ay⟩ && okPt ⟨bx,by_⟩ && okPt ⟨cx,cy⟩ && okPt ⟨dx,dy⟩))) := by
 have h := smay_any w.heap.size 4 4 _ [⟨ax,ay⟩,⟨bx,by_⟩,⟨cx,cy⟩,⟨dx,dy⟩] w (ptsAt_block [⟨ax,ay⟩,⟨bx,by_⟩,⟨cx,cy⟩,⟨dx,dy⟩] hg (lt_of_block hg) rfl (by intro k hk;match k,hk with | 0,_ => exact ⟨rfl,rfl⟩ | 1,_ => exact ⟨rfl,rfl⟩ | 2,_ => exact ⟨rfl,rfl⟩ | 3,_ => exact ⟨rfl,rfl⟩)) (Nat.le_refl _) (by decide)
 simpa [Bool.and_assoc] using h
theorem span_any (ax ay bx by_ : Int) (w : World) :
 Calls Tryz.prog 182 #[ptV ax ay,ptV bx by_] w (Ret w (bxV (min ax bx) (min ay by_) (max ax bx) (max ay by_))) := by
 go_enter Tryz.func182,Tryz.ntmps182
 go_wp2
 all_goals exact bodyPost_ret (v := bxV (min ax bx) (min ay by_) (max ax bx) (max ay by_)) (by simp [results,Tryz.results182,go_sem];omega) rfl ⟨rfl,bel⟩
end Go.Proofs.YtildgbhliaonnaaGreat
