/-
  Contract of rel.Dist at objects that are boxes.
-/
import Derived.Test.YtildgbhliaonnaaGreatQDist1
import Derived.Test.YtildgbhliaonnaaGreatQRel1
set_option linter.unusedVariables false
set_option linter.unusedSimpArgs false
set_option maxHeartbeats 2000000
set_option maxRecDepth 20000
namespace Go.Proofs.YtildgbhliaonnaaGreat
open Go.RowKit Pg
def rdV (k : Int) (l : List Pt) (p : Pt) : Value := if ckOb ⟨k,l⟩ = 0 ∧ okPt p = true then pdV (obBox ⟨k,l⟩) p else dZ
theorem relDist_box (B n c : Nat) (k : Int) (A : Option Addr) (l : List Pt) (x y : Int) (w : World) (hl : PtsAt w B A n l) (hB : B ≤ w.heap.size) (hn : n ≤ 1000000) (hk : isBox ⟨k,l⟩ = true) :
 Calls Tryz.prog 43 #[obV k A n c,ptV x y] w (Ret w (rdV k l ⟨x,y⟩)) := by
 by_cases ho : ckOb ⟨k,l⟩ = 0
 case neg =>
  have HF : Hid (rdV k l ⟨x,y⟩ = dZ) := by unfold Hid rdV;rw [if_neg (fun h => ho h.1)]
  have HA := Lib.hid (fun w (h : PtsAt w B A n l) (hB : B ≤ w.heap.size) => relcheck_bad B n c k A l w h hB hn ho)
  clear ho hk
  go_enter Tryz.func43, Tryz.ntmps43
  go_wp2_with (go_at_call 68;refine (HA.out _ (hl.tr bel hB) (Nat.le_trans hB (Below.size (B := w.heap.size) (w := w) bel))).mono ?_;rintro e w1 ⟨t1,u1,rfl,hb1⟩;obtain ⟨hc1,hf1⟩ := bcell hb1;have hz1 := hb1.size;(try simp at hz1);have hy0 : w.heap.size < w1.heap.size := (by omega);have hy1 : w.heap.size + 1 < w1.heap.size := (by omega);have hy2 : w.heap.size + 1 + 1 < w1.heap.size := (by omega))
  refine post_gen2 (R := fun w2 => Blk w2 (w.heap.size + 1 + 1) 58 #[.int .u64 0,.int .u64 0,.int .u64 0] ∧ Below w.heap.size w w2) ⟨?_,bel⟩ ?_
  · exact three_put (x := .int .u64 0) (y := .int .u64 0) (z := .int .u64 0) blkA
  rintro w2 ⟨HR,hb2⟩;have r0 := HR.cell 0;have r1 := HR.cell 1;have r2 := HR.cell 2;simp only [lta,lcz,lcs] at r0 r1 r2
  rw [HF.out]
  exact bodyPost_ret (v := dZ) (by simp [results,Tryz.results43,go_sem,r0,r1,r2]) rfl ⟨rfl,hb2⟩
 have HA := Lib.hid (fun w (h : PtsAt w B A n l) (hB : B ≤ w.heap.size) => relcheck_ok B n c k A l w h hB hn ho)
 have HP0 := fun w => checkPoint_any x y w
 cases h2 : okPt ⟨x,y⟩
 case false =>
  have HF : Hid (rdV k l ⟨x,y⟩ = dZ) := by unfold Hid rdV;rw [if_neg (fun h => by rw [h2] at h;cases h.2)]
  rw [h2] at HP0;have HP : Hid (∀ w,Calls Tryz.prog 25 #[ptV x y] w (Ret w (.iface 84 (.int .i64 2)))) := HP0;clear ho hk h2 HP0
  go_enter Tryz.func43, Tryz.ntmps43
  go_wp2_with (first | (go_at_call 68;refine (HA.out _ (hl.tr bel hB) (Nat.le_trans hB (Below.size (B := w.heap.size) (w := w) bel))).mono ?_;rintro e w1 ⟨rfl,hb1⟩;obtain ⟨hc1,hf1⟩ := bcell hb1;have hz1 := hb1.size;(try simp at hz1);have hy0 : w.heap.size < w1.heap.size := (by omega);have hy1 : w.heap.size + 1 < w1.heap.size := (by omega);have hy2 : w.heap.size + 1 + 1 < w1.heap.size := (by omega)) | (go_at_call 25;refine (HP.out _).mono ?_;rintro e w1 ⟨rfl,hb1⟩;obtain ⟨hc1,hf1⟩ := bcell hb1;have hz1 := hb1.size;(try simp at hz1);have hy0 : w.heap.size < w1.heap.size := (by omega);have hy1 : w.heap.size + 1 < w1.heap.size := (by omega);have hy2 : w.heap.size + 1 + 1 < w1.heap.size := (by omega)))
  refine post_gen2 (R := fun w2 => Blk w2 (w.heap.size + 1 + 1) 58 #[.int .u64 0,.int .u64 0,.int .u64 0] ∧ Below w.heap.size w w2) ⟨?_,bel⟩ ?_
  · exact three_put (x := .int .u64 0) (y := .int .u64 0) (z := .int .u64 0) blkA
  rintro w2 ⟨HR,hb2⟩;have r0 := HR.cell 0;have r1 := HR.cell 1;have r2 := HR.cell 2;simp only [lta,lcz,lcs] at r0 r1 r2
  rw [HF.out]
  exact bodyPost_ret (v := dZ) (by simp [results,Tryz.results43,go_sem,r0,r1,r2]) rfl ⟨rfl,hb2⟩
 have HF : Hid (rdV k l ⟨x,y⟩ = pdV (obBox ⟨k,l⟩) ⟨x,y⟩) := by unfold Hid rdV;rw [if_pos ⟨ho,h2⟩]
 rw [h2] at HP0;have HP : Hid (∀ w,Calls Tryz.prog 25 #[ptV x y] w (Ret w .nilIface)) := HP0;have hlens := ck_lens ho;rw [hl.1] at hlens;have HX := Lib.hid (fun w (h : PtsAt w B A n l) (hB : B ≤ w.heap.size) => box_any B n c k A l w h hB hlens.1 hlens.2.1)
 rw [hk] at HX;obtain ⟨X,hX⟩ : ∃ X,obBox ⟨k,l⟩ = X := ⟨_,rfl⟩;rw [hX] at HX HF
 obtain ⟨n0,n1,n2,hn0⟩ : ∃ n0 n1 n2 : Int,pdV X ⟨x,y⟩ = .agg #[.int .u64 n0,.int .u64 n1,.int .u64 n2] := by
  unfold pdV
  split
  · exact ⟨_, _, _, rfl⟩
  · exact ⟨_, _, _, rfl⟩
 have HD := Lib.hid (fun w => pDist_any X.lo.x X.lo.y X.hi.x X.hi.y x y w)
 have HF2 : Hid (rdV k l ⟨x,y⟩ = .agg #[.int .u64 n0,.int .u64 n1,.int .u64 n2]) := by unfold Hid;rw [HF.out,hn0]
 have HD2 : Hid (∀ w,Calls Tryz.prog 70 #[.agg #[.int .i64 X.lo.x,.int .i64 X.lo.y,.int .i64 X.hi.x,.int .i64 X.hi.y],.agg #[.int .i64 x,.int .i64 y]] w (Ret w (.agg #[.int .u64 n0,.int .u64 n1,.int .u64 n2]))) := fun w => by
  have h := HD.out w;rw [show (⟨⟨X.lo.x,X.lo.y⟩,⟨X.hi.x,X.hi.y⟩⟩ : Bx) = X from rfl,hn0] at h
  exact h
 clear ho hk h2 HP0 hlens hX hn0 HD HF
 go_enter Tryz.func43,Tryz.ntmps43
 go_wp2_with (first | (go_at_call 68;refine (HA.out _ (hl.tr bel hB) (Nat.le_trans hB (Below.size (B := w.heap.size) (w := w) bel))).mono ?_;rintro e w1 ⟨rfl,hb1⟩;obtain ⟨hc1,hf1⟩ := bcell hb1;have hz1 := hb1.size;(try simp at hz1);have hy0 : w.heap.size < w1.heap.size := (by omega);have hy1 : w.heap.size + 1 < w1.heap.size := (by omega);have hy2 : w.heap.size + 1 + 1 < w1.heap.size := (by omega)) | (go_at_call 25;refine (HP.out _).mono ?_;rintro e w1 ⟨rfl,hb1⟩;obtain ⟨hc1,hf1⟩ := bcell hb1;have hz1 := hb1.size;(try simp at hz1);have hy0 : w.heap.size < w1.heap.size := (by omega);have hy1 : w.heap.size + 1 < w1.heap.size := (by omega);have hy2 : w.heap.size + 1 + 1 < w1.heap.size := (by omega)) | (go_at_call 69;refine (HX.out _ (hl.tr bel hB) (Nat.le_trans hB (Below.size (B := w.heap.size) (w := w) bel))).mono ?_;rintro e w1 ⟨rfl,hb1⟩;obtain ⟨hc1,hf1⟩ := bcell hb1;have hz1 := hb1.size;(try simp at hz1);have hy0 : w.heap.size < w1.heap.size := (by omega);have hy1 : w.heap.size + 1 < w1.heap.size := (by omega);have hy2 : w.heap.size + 1 + 1 < w1.heap.size := (by omega)) | (go_at_call 70;refine (HD2.out _).mono ?_;rintro e w1 ⟨rfl,hb1⟩;obtain ⟨hc1,hf1⟩ := bcell hb1;have hz1 := hb1.size;(try simp at hz1);have hy0 : w.heap.size < w1.heap.size := (by omega);have hy1 : w.heap.size + 1 < w1.heap.size := (by omega);have hy2 : w.heap.size + 1 + 1 < w1.heap.size := (by omega)))
 refine post_gen2 (R := fun w2 => Blk w2 (w.heap.size + 1 + 1) 58 #[.int .u64 n0,.int .u64 n1,.int .u64 n2] ∧ Below w.heap.size w w2) ⟨?_,bel⟩ ?_
 · exact three_put (x := .int .u64 0) (y := .int .u64 0) (z := .int .u64 0) blkA
 rintro w2 ⟨HR,hb2⟩;have r0 := HR.cell 0;have r1 := HR.cell 1;have r2 := HR.cell 2;simp only [lta,lcz,lcs] at r0 r1 r2
 rw [HF2.out]
 exact bodyPost_ret (v := .agg #[.int .u64 n0,.int .u64 n1,.int .u64 n2]) (by simp [results,Tryz.results43,go_sem,r0,r1,r2]) rfl ⟨rfl,hb2⟩
end Go.Proofs.YtildgbhliaonnaaGreat
