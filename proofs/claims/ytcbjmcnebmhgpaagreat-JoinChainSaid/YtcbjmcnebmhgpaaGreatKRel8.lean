/-
  Contracts of package rel: Touch,Bounds;pergolaalike.May.
-/
import Derived.Test.YtcbjmcnebmhgpaaGreatKRel1
import Derived.LaidEql
import Derived.Stop.Asserts
import Derived.Lib.IfaceEq
import Derived.RowKitTokens
import Derived.Test.YtcbjmcnebmhgpaaGreatKRef3
set_option linter.unusedVariables false
set_option linter.unusedSimpArgs false
set_option maxHeartbeats 2000000
set_option maxRecDepth 20000
namespace Go.Proofs.YtcbjmcnebmhgpaaGreat
open Go.RowKit Pg
theorem touch_any (B n c n' c' : Nat) (k k' : Int) (A A' : Option Addr) (l l' : List Pt) (w : World) (hl : PtsAt w B A n l) (hl' : PtsAt w B A' n' l') (hB : B ≤ w.heap.size) (hn : n ≤ 1000000) (hn' : n' ≤ 1000000) :
 Calls Tryz.prog 26 #[obV k A n c,obV k' A' n' c'] w (Ret w (.bool (touchS ⟨k,l⟩ ⟨k',l'⟩))) := by
 by_cases ho : ckOb ⟨k,l⟩ = 0
 · by_cases hq : ckOb ⟨k',l'⟩ = 0
   · have HF : Hid (touchS ⟨k, l⟩ ⟨k', l'⟩ = meetsO ⟨k, l⟩ ⟨k', l'⟩) := by simp [Hid, touchS, ho, hq]
     have HA := Lib.hid (fun w (h : PtsAt w B A n l) (hB : B ≤ w.heap.size) => relcheck_ok B n c k A l w h hB hn ho)
     have HB := Lib.hid (fun w (h : PtsAt w B A' n' l') (hB : B ≤ w.heap.size) => relcheck_ok B n' c' k' A' l' w h hB hn' hq)
     have HM := Lib.hid (fun w (h : PtsAt w B A n l) (h' : PtsAt w B A' n' l') (hB : B ≤ w.heap.size) => meets_ok B n c n' c' k k' A A' l l' w h h' hB ho hq)
     clear ho hq
     go_enter Tryz.func26, Tryz.ntmps26
     go_wp2_with (first | (go_at_call 52;have _hz := hza;refine (HB.out _ (hl'.tr bel hB) (Nat.le_trans hB (Below.size (B := w.heap.size) (w := w) bel))).mono ?_;rintro e w1 ⟨rfl,hb1⟩;obtain ⟨hc1,hf1⟩ := bcell hb1;have hz1 := hb1.size;(try simp at hz1);have hy0 : w.heap.size < w1.heap.size := (by omega);have hy1 : w.heap.size + 1 < w1.heap.size := (by omega)) | (go_at_call 52;refine (HA.out _ (hl.tr bel hB) (Nat.le_trans hB (Below.size (B := w.heap.size) (w := w) bel))).mono ?_;rintro e wa ⟨rfl,hba⟩;obtain ⟨hca,hfa⟩ := bcell hba;have hza := hba.size;(try simp at hza);have hya0 : w.heap.size < wa.heap.size := (by omega);have hya1 : w.heap.size + 1 < wa.heap.size := (by omega)) | (go_at_call 53;refine (HM.out _ (hl.tr bel hB) (hl'.tr bel hB) (Nat.le_trans hB (Below.size (B := w.heap.size) (w := w) bel))).mono ?_;rintro e w2 ⟨rfl,hb2⟩))
     go_ret;exact ⟨ret_bool HF.out.symm,bel⟩
   · have HF : Hid (touchS ⟨k, l⟩ ⟨k', l'⟩ = false) := by simp [Hid, touchS, hq]
     have HA := Lib.hid (fun w (h : PtsAt w B A n l) (hB : B ≤ w.heap.size) => relcheck_ok B n c k A l w h hB hn ho)
     have HB := Lib.hid (fun w (h : PtsAt w B A' n' l') (hB : B ≤ w.heap.size) => relcheck_bad B n' c' k' A' l' w h hB hn' hq)
     clear ho hq
     go_enter Tryz.func26, Tryz.ntmps26
     go_wp2_with (first | (go_at_call 52;have _hz := hza;refine (HB.out _ (hl'.tr bel hB) (Nat.le_trans hB (Below.size (B := w.heap.size) (w := w) bel))).mono ?_;rintro e w1 ⟨t1,u1,rfl,hb1⟩) | (go_at_call 52;refine (HA.out _ (hl.tr bel hB) (Nat.le_trans hB (Below.size (B := w.heap.size) (w := w) bel))).mono ?_;rintro e wa ⟨rfl,hba⟩;obtain ⟨hca,hfa⟩ := bcell hba;have hza := hba.size;(try simp at hza);have hya0 : w.heap.size < wa.heap.size := (by omega);have hya1 : w.heap.size + 1 < wa.heap.size := (by omega)))
     go_ret;exact ⟨ret_bool HF.out.symm,bel⟩
 · have HF : Hid (touchS ⟨k,l⟩ ⟨k',l'⟩ = false) := by simp [Hid,touchS,ho]
   have HA := Lib.hid (fun w (h : PtsAt w B A n l) (hB : B ≤ w.heap.size) => relcheck_bad B n c k A l w h hB hn ho)
   clear ho
   go_enter Tryz.func26, Tryz.ntmps26
   go_wp2_with (go_at_call 52;refine (HA.out _ (hl.tr bel hB) (Nat.le_trans hB (Below.size (B := w.heap.size) (w := w) bel))).mono ?_;rintro e wa ⟨t1,u1,rfl,hba⟩)
   go_ret;exact ⟨ret_bool HF.out.symm,bel⟩
theorem Bounds_ok (B n c : Nat) (k : Int) (A : Option Addr) (l : List Pt) (w : World) (hl : PtsAt w B A n l) (hB : B ≤ w.heap.size) (hn : n ≤ 1000000) (ho : ckOb ⟨k,l⟩ = 0) :
 Calls Tryz.prog 24 #[obV k A n c] w (Ret w (.tuple #[bxW (boundsS ⟨k,l⟩),.nilIface])) := by
 have HO := Lib.hid ho;have HF : Hid (ckOb ⟨k,l⟩ = 0) := ho;clear ho
 go_enter Tryz.func24,Tryz.ntmps24
 go_wp2_with (first | (go_at_call 49;refine (Check_any B n c k A l _ (hl.tr bel hB) (Nat.le_trans hB (Below.size (B := w.heap.size) (w := w) bel)) hn).mono ?_;rw [HF.out];rintro e wa ⟨va,rfl,hva,hba⟩;obtain rfl : va = .nilIface := (by rcases hva with ⟨_,h⟩ | ⟨h,_⟩;exact h;exact absurd rfl h);obtain ⟨hca,hfa⟩ := bcell hba;have hza := hba.size;(try simp at hza);have hy0 : w.heap.size < wa.heap.size := (by omega);have hy1 : w.heap.size + 1 < wa.heap.size := (by omega)) | (go_at_call 50;refine (bounds_ok B n c k A l _ (hl.tr bel hB) (Nat.le_trans hB (Below.size (B := w.heap.size) (w := w) bel)) HO.out).mono ?_;rintro e w1 ⟨rfl,hb1⟩;obtain ⟨hc1,hf1⟩ := bcell hb1;have hz1 := hb1.size;(try simp at hz1);have hy2 : w.heap.size < w1.heap.size := (by omega);have hy3 : w.heap.size + 1 < w1.heap.size := (by omega)))
 have hQ : Blk w1 (w.heap.size + 1) 73 #[.int .i64 0,.int .i64 0,.int .i64 0,.int .i64 0] := blkA;have HR := (((hQ.set_ 0 (.int .i64 (boundsS ⟨k,l⟩).lo.x)).set_ 1 (.int .i64 (boundsS ⟨k,l⟩).lo.y)).set_ 2 (.int .i64 (boundsS ⟨k,l⟩).hi.x)).set_ 3 (.int .i64 (boundsS ⟨k,l⟩).hi.y);have r0 := HR.cell 0;have r1 := HR.cell 1;have r2 := HR.cell 2;have r3 := HR.cell 3
 simp at r0 r1 r2 r3
 exact bodyPost_ret (v := .tuple #[bxW (boundsS ⟨k,l⟩),.nilIface]) (by simp [results,Tryz.results24,go_sem,r0,r1,r2,r3]) rfl ⟨rfl,bel⟩
end Go.Proofs.YtcbjmcnebmhgpaaGreat
