/-
  The walk of the statement RelKinds.
-/
import Derived.Test.YtknidfiokmghjaaGreatDoorDist2
import Derived.Test.YtknidfiokmghjaaGreatDoorLawChecks
set_option linter.unusedSimpArgs false
set_option linter.unusedVariables false
namespace Go.Proofs.YtknidfiokmghjaaGreatDoor
open Go.RowKit Pg

theorem PtsAt.up {w : World} {B B' : Nat} {A : Option Addr} {n : Nat} {l : List Pt} (h : PtsAt w B A n l) (hB : B ≤ B') : PtsAt w B' A n l :=
  ⟨h.1, fun hn => let ⟨b, off, e, hb, r⟩ := h.2 hn; ⟨b, off, e, Nat.lt_of_lt_of_le hb hB, r⟩⟩
theorem ok_xx (x : Int) : okPt ⟨x, x⟩ = okPt ⟨x, 0⟩ := by
  rw [Bool.eq_iff_iff, okPt_iff, okPt_iff]
  simp only
  omega
theorem ck_k1 (x : Int) : ckOb ⟨1, [⟨x, 0⟩]⟩ = if okPt ⟨x, 0⟩ then 0 else 2 := by
  cases h : okPt ⟨x, 0⟩ <;> simp [ckOb, ckBox, pt, h]
theorem ck_k2 (x : Int) : ckOb ⟨2, [⟨x, x⟩]⟩ = if okPt ⟨x, 0⟩ then 0 else 2 := by
  rw [← ok_xx]
  cases h : okPt ⟨x, x⟩ <;> simp [ckOb, ckInt, pt, h]
theorem ck_k3 (x : Int) : ckOb ⟨3, [⟨x, 0⟩, ⟨x, 0⟩]⟩ = if okPt ⟨x, 0⟩ then 0 else 2 := by
  cases h : okPt ⟨x, 0⟩ <;> simp [ckOb, ckBox, pt, h]
theorem alike_match {o o' : Ob} (q : Qu) (h : ckOb o = ckOb o') (h1 : isBox o = true) (h2 : isBox o' = true) (h3 : obBox o = obBox o') : matchS o q = matchS o' q := by
  unfold matchS meetsO boundsS
  rw [h, h1, h2, h3]
  simp only [↓reduceIte]
theorem alike_dist {k k' : Int} {l l' : List Pt} (p : Pt) (h : ckOb ⟨k, l⟩ = ckOb ⟨k', l'⟩) (h3 : obBox ⟨k, l⟩ = obBox ⟨k', l'⟩) : rdV k l p = rdV k' l' p := by
  unfold rdV
  rw [h, h3]
theorem kinds_dist (x : Int) (p : Pt) : ∃ n0 n1 n2 : Int, rdV 1 [⟨x, 0⟩] p = .agg #[.int .u64 n0, .int .u64 n1, .int .u64 n2] ∧ ((okPt ⟨x, 0⟩ = true ∧ okPt p = true ∧ n2 = 1) ∨ (okPt ⟨x, 0⟩ = true ∧ okPt p = false ∧ n2 = 0) ∨ (okPt ⟨x, 0⟩ = false ∧ n2 = 0)) := by
  unfold rdV
  rw [ck_k1]
  cases h1 : okPt ⟨x, 0⟩
  · exact ⟨0, 0, 0, by simp, .inr (.inr ⟨rfl, rfl⟩)⟩
  · cases h2 : okPt p
    · exact ⟨0, 0, 0, by simp, .inr (.inl ⟨rfl, rfl, rfl⟩)⟩
    · have hb : okBx (obBox ⟨1, [⟨x, 0⟩]⟩) = true := by
        rw [Pg.okBx_iff]
        exact ⟨⟨h1, h1⟩, Int.le_refl _, Int.le_refl _⟩
      refine ⟨((bdN (obBox ⟨1, [⟨x, 0⟩]⟩) p / 18446744073709551616 : Nat) : Int), ((bdN (obBox ⟨1, [⟨x, 0⟩]⟩) p % 18446744073709551616 : Nat) : Int), 1, ?_, .inl ⟨rfl, rfl, rfl⟩⟩
      rw [if_pos ⟨rfl, rfl⟩]
      unfold pdV
      rw [hb, h2]
      rfl

set_option maxHeartbeats 4000000 in
set_option maxRecDepth 20000 in
theorem relKinds_walk (B n' c' : Nat) (x k' : Int) (bq : Bx) (p : Pt) (A' : Option Addr) (l' : List Pt) (w : World) (hl' : PtsAt w B A' n' l') (hB : B ≤ w.heap.size) (hT : ErrT w) :
    Calls Tryz.prog 4 #[.int .i64 x, quV k' bq A' n' c', ptV p.x p.y] w (Ret w (.bool true)) := by
  have HT := Lib.hid hT
  clear hT
  by_cases g2 : n' ≤ 64
  case neg =>
    have e2 : decide ((64 : Int) < (n' : Int)) = true := by simp; omega
    go_enter Tryz.func4, Tryz.ntmps4
    go_wp2_with (go_at_call 10; refine (awake_true _ (HT.out.tr (by repeat (first | with_reducible exact Below.refl _ _ | with_reducible assumption | with_reducible refine al ?_ _ | with_reducible refine Below.drew ?_ | with_reducible refine Below.setCell ?_ (by first | (simp; done) | (simp; omega)) _ | with_reducible refine tr ?_ (by with_reducible assumption))))).mono ?_; rintro e w1 ⟨rfl, hb1⟩; obtain ⟨hc1, hf1⟩ := bcell hb1; have hz1 := hb1.size; (try simp at hz1); have hy0 : w.heap.size < w1.heap.size := (by omega); have hy1 : w.heap.size + 1 < w1.heap.size := (by omega))
    go_ret
    exact ⟨rfl, (by repeat (first | with_reducible exact Below.refl _ _ | with_reducible assumption | with_reducible refine al ?_ _ | with_reducible refine Below.drew ?_ | with_reducible refine Below.setCell ?_ (by first | (simp; done) | (simp; omega)) _ | with_reducible refine tr ?_ (by with_reducible assumption)))⟩
  have e2 : decide ((64 : Int) < (n' : Int)) = false := by simp; omega
  have hn' : n' ≤ 1000000 := by omega
  obtain ⟨n0, n1, n2, hd, hcase⟩ := kinds_dist x p
  obtain ⟨m, hm⟩ : ∃ m : Bool, matchS ⟨1, [⟨x, 0⟩]⟩ ⟨k', bq, l'⟩ = m := ⟨_, rfl⟩
  obtain ⟨ck, hck⟩ : ∃ ck : Nat, ckOb ⟨1, [⟨x, 0⟩]⟩ = ck := ⟨_, rfl⟩
  have hck' := hck
  rw [ck_k1] at hck'
  have HM1 : Hid (∀ w', Blk w' (w.heap.size + 1 + 1) 27 #[.int .i64 x, .int .i64 0] → Below w.heap.size w w' → Calls Tryz.prog 17 #[.agg #[.int .i64 1, .slice (some ⟨w.heap.size + 1 + 1, 0, none⟩) 1 1], .agg #[.int .i64 k', .int .i64 bq.lo.x, .int .i64 bq.lo.y, .int .i64 bq.hi.x, .int .i64 bq.hi.y, .slice A' n' c']] w' (Ret w' (.bool m))) := fun w' hg hb => by
    have h := match_any w'.heap.size 1 1 n' c' 1 k' bq _ A' [⟨x, 0⟩] l' w' (ptsAt_block [⟨x, 0⟩] hg (Blk.lt hg) rfl (by intro j hj; match j, hj with | 0, _ => exact ⟨rfl, rfl⟩)) (PtsAt.up (hl'.tr hb hB) (Nat.le_trans hB hb.size)) (Nat.le_refl _) (by decide) hn'
    rw [hm] at h
    exact h
  have HD1 : Hid (∀ w', Blk w' (w.heap.size + 1 + 1) 27 #[.int .i64 x, .int .i64 0] → Calls Tryz.prog 18 #[.agg #[.int .i64 1, .slice (some ⟨w.heap.size + 1 + 1, 0, none⟩) 1 1], .agg #[.int .i64 p.x, .int .i64 p.y]] w' (Ret w' (.agg #[.int .u64 n0, .int .u64 n1, .int .u64 n2]))) := fun w' hg => by
    have h := relDist_box w'.heap.size 1 1 1 _ [⟨x, 0⟩] p.x p.y w' (ptsAt_block [⟨x, 0⟩] hg (Blk.lt hg) rfl (by intro j hj; match j, hj with | 0, _ => exact ⟨rfl, rfl⟩)) (Nat.le_refl _) (by decide) rfl
    rw [hd] at h
    exact h
  have HM2 : Hid (∀ w', Blk w' (w.heap.size + 1 + 1 + 1 + 1) 27 #[.int .i64 x, .int .i64 x] → Below w.heap.size w w' → Calls Tryz.prog 17 #[.agg #[.int .i64 2, .slice (some ⟨w.heap.size + 1 + 1 + 1 + 1, 0, none⟩) 1 1], .agg #[.int .i64 k', .int .i64 bq.lo.x, .int .i64 bq.lo.y, .int .i64 bq.hi.x, .int .i64 bq.hi.y, .slice A' n' c']] w' (Ret w' (.bool m))) := fun w' hg hb => by
    have h := match_any w'.heap.size 1 1 n' c' 2 k' bq _ A' [⟨x, x⟩] l' w' (ptsAt_block [⟨x, x⟩] hg (Blk.lt hg) rfl (by intro j hj; match j, hj with | 0, _ => exact ⟨rfl, rfl⟩)) (PtsAt.up (hl'.tr hb hB) (Nat.le_trans hB hb.size)) (Nat.le_refl _) (by decide) hn'
    rw [alike_match (o' := ⟨1, [⟨x, 0⟩]⟩) _ ((ck_k2 x).trans (ck_k1 x).symm) rfl rfl rfl] at h; rw [hm] at h
    exact h
  have HD2 : Hid (∀ w', Blk w' (w.heap.size + 1 + 1 + 1 + 1) 27 #[.int .i64 x, .int .i64 x] → Calls Tryz.prog 18 #[.agg #[.int .i64 2, .slice (some ⟨w.heap.size + 1 + 1 + 1 + 1, 0, none⟩) 1 1], .agg #[.int .i64 p.x, .int .i64 p.y]] w' (Ret w' (.agg #[.int .u64 n0, .int .u64 n1, .int .u64 n2]))) := fun w' hg => by
    have h := relDist_box w'.heap.size 1 1 2 _ [⟨x, x⟩] p.x p.y w' (ptsAt_block [⟨x, x⟩] hg (Blk.lt hg) rfl (by intro j hj; match j, hj with | 0, _ => exact ⟨rfl, rfl⟩)) (Nat.le_refl _) (by decide) rfl
    rw [alike_dist (k' := 1) (l' := [⟨x, 0⟩]) _ ((ck_k2 x).trans (ck_k1 x).symm) rfl] at h; rw [hd] at h
    exact h
  have HM3 : Hid (∀ w', Blk w' (w.heap.size + 1 + 1 + 1 + 1 + 1 + 1) 27 #[.int .i64 x, .int .i64 0, .int .i64 x, .int .i64 0] → Below w.heap.size w w' → Calls Tryz.prog 17 #[.agg #[.int .i64 3, .slice (some ⟨w.heap.size + 1 + 1 + 1 + 1 + 1 + 1, 0, none⟩) 2 2], .agg #[.int .i64 k', .int .i64 bq.lo.x, .int .i64 bq.lo.y, .int .i64 bq.hi.x, .int .i64 bq.hi.y, .slice A' n' c']] w' (Ret w' (.bool m))) := fun w' hg hb => by
    have h := match_any w'.heap.size 2 2 n' c' 3 k' bq _ A' [⟨x, 0⟩, ⟨x, 0⟩] l' w' (ptsAt_block [⟨x, 0⟩, ⟨x, 0⟩] hg (Blk.lt hg) rfl (by intro j hj; match j, hj with | 0, _ => exact ⟨rfl, rfl⟩ | 1, _ => exact ⟨rfl, rfl⟩)) (PtsAt.up (hl'.tr hb hB) (Nat.le_trans hB hb.size)) (Nat.le_refl _) (by decide) hn'
    rw [alike_match (o' := ⟨1, [⟨x, 0⟩]⟩) _ ((ck_k3 x).trans (ck_k1 x).symm) rfl rfl rfl] at h; rw [hm] at h
    exact h
  have HD3 : Hid (∀ w', Blk w' (w.heap.size + 1 + 1 + 1 + 1 + 1 + 1) 27 #[.int .i64 x, .int .i64 0, .int .i64 x, .int .i64 0] → Calls Tryz.prog 18 #[.agg #[.int .i64 3, .slice (some ⟨w.heap.size + 1 + 1 + 1 + 1 + 1 + 1, 0, none⟩) 2 2], .agg #[.int .i64 p.x, .int .i64 p.y]] w' (Ret w' (.agg #[.int .u64 n0, .int .u64 n1, .int .u64 n2]))) := fun w' hg => by
    have h := relDist_box w'.heap.size 2 2 3 _ [⟨x, 0⟩, ⟨x, 0⟩] p.x p.y w' (ptsAt_block [⟨x, 0⟩, ⟨x, 0⟩] hg (Blk.lt hg) rfl (by intro j hj; match j, hj with | 0, _ => exact ⟨rfl, rfl⟩ | 1, _ => exact ⟨rfl, rfl⟩)) (Nat.le_refl _) (by decide) rfl
    rw [alike_dist (k' := 1) (l' := [⟨x, 0⟩]) _ ((ck_k3 x).trans (ck_k1 x).symm) rfl] at h; rw [hd] at h
    exact h
  have HC : Hid (∀ w', Blk w' (w.heap.size + 1 + 1) 27 #[.int .i64 x, .int .i64 0] → Calls Tryz.prog 19 #[.agg #[.int .i64 1, .slice (some ⟨w.heap.size + 1 + 1, 0, none⟩) 1 1]] w' (Ret w' (.int .i64 ck))) := fun w' hg => by
    have h := rcheck_any w'.heap.size 1 1 1 _ [⟨x, 0⟩] w' (ptsAt_block [⟨x, 0⟩] hg (Blk.lt hg) rfl (by intro j hj; match j, hj with | 0, _ => exact ⟨rfl, rfl⟩)) (Nat.le_refl _) (by decide)
    rw [← ckOb_eq, hck] at h
    exact h
  have HP := Lib.hid (fun w => rpoint_any p.x p.y w)
  have hcase2 : ((ck = 0 ∧ okPt ⟨p.x, p.y⟩ = true ∧ n2 = 1) ∨ (ck = 0 ∧ okPt ⟨p.x, p.y⟩ = false ∧ n2 = 0) ∨ (ck = 2 ∧ n2 = 0)) := by
    rcases hcase with ⟨a1, a2, a3⟩ | ⟨a1, a2, a3⟩ | ⟨a1, a3⟩
    · rw [a1] at hck'
      exact .inl ⟨hck'.symm, a2, a3⟩
    · rw [a1] at hck'
      exact .inr (.inl ⟨hck'.symm, a2, a3⟩)
    · rw [a1] at hck'
      exact .inr (.inr ⟨hck'.symm, a3⟩)
  clear hd hcase hm hck hck' g2
  go_enter Tryz.func4, Tryz.ntmps4
  go_wp2_with (first | (go_at_call 17; (with_reducible refine (HM1.out _ ?_ ?_).mono ?_); exact (by repeat (first | with_reducible assumption | with_reducible exact Blk.new (by simp) rfl | with_reducible refine Blk.alloc ?_ _ | with_reducible refine Blk.drew ?_ | with_reducible refine Blk.far ?_ (by simp; omega) _ | with_reducible refine Blk.tr ?_ (by with_reducible assumption))); exact (by repeat (first | with_reducible exact Below.refl _ _ | with_reducible assumption | with_reducible refine al ?_ _ | with_reducible refine Below.drew ?_ | with_reducible refine Below.setCell ?_ (by first | (simp; done) | (simp; omega)) _ | with_reducible refine tr ?_ (by with_reducible assumption))); rintro e w1 ⟨rfl, hb1⟩; obtain ⟨hc1, hf1⟩ := bcell hb1; have hz1 := hb1.size; (try simp at hz1); have hy0 : w.heap.size < w1.heap.size := (by omega); have hy1 : w.heap.size + 1 < w1.heap.size := (by omega); have hy2 : w.heap.size + 1 + 1 < w1.heap.size := (by omega); have hy3 : w.heap.size + 1 + 1 + 1 < w1.heap.size := (by omega); have hy4 : w.heap.size + 1 + 1 + 1 + 1 < w1.heap.size := (by omega); have hy5 : w.heap.size + 1 + 1 + 1 + 1 + 1 < w1.heap.size := (by omega); have hy6 : w.heap.size + 1 + 1 + 1 + 1 + 1 + 1 < w1.heap.size := (by omega); have hy7 : w.heap.size + 1 + 1 + 1 + 1 + 1 + 1 + 1 < w1.heap.size := (by omega)) | (go_at_call 18; (with_reducible refine (HD1.out _ ?_).mono ?_); exact (by repeat (first | with_reducible assumption | with_reducible exact Blk.new (by simp) rfl | with_reducible refine Blk.alloc ?_ _ | with_reducible refine Blk.drew ?_ | with_reducible refine Blk.far ?_ (by simp; omega) _ | with_reducible refine Blk.tr ?_ (by with_reducible assumption))); rintro e w5 ⟨rfl, hb5⟩; obtain ⟨hc5, hf5⟩ := bcell hb5; have hz5 := hb5.size; (try simp at hz5); have hy0 : w.heap.size < w5.heap.size := (by omega); have hy1 : w.heap.size + 1 < w5.heap.size := (by omega); have hy2 : w.heap.size + 1 + 1 < w5.heap.size := (by omega); have hy3 : w.heap.size + 1 + 1 + 1 < w5.heap.size := (by omega); have hy4 : w.heap.size + 1 + 1 + 1 + 1 < w5.heap.size := (by omega); have hy5 : w.heap.size + 1 + 1 + 1 + 1 + 1 < w5.heap.size := (by omega); have hy6 : w.heap.size + 1 + 1 + 1 + 1 + 1 + 1 < w5.heap.size := (by omega); have hy7 : w.heap.size + 1 + 1 + 1 + 1 + 1 + 1 + 1 < w5.heap.size := (by omega)))
  refine wp_gen2 (fun w2 => Below w.heap.size w w2 ∧ w5.heap.size < w2.heap.size ∧ Blk w2 (w.heap.size) 31 #[.int .i64 k', .int .i64 bq.lo.x, .int .i64 bq.lo.y, .int .i64 bq.hi.x, .int .i64 bq.hi.y, .slice A' n' c'] ∧ Blk w2 (w.heap.size + 1) 27 #[.int .i64 p.x, .int .i64 p.y] ∧ Blk w2 (w.heap.size + 1 + 1) 27 #[.int .i64 x, .int .i64 0] ∧ Blk w2 (w.heap.size + 1 + 1 + 1) 24 #[.int .i64 1, .slice (some ⟨w.heap.size + 1 + 1, 0, none⟩) 1 1] ∧ Blk w2 (w.heap.size + 1 + 1 + 1 + 1) 27 #[.int .i64 x, .int .i64 x] ∧ Blk w2 (w.heap.size + 1 + 1 + 1 + 1 + 1) 24 #[.int .i64 2, .slice (some ⟨w.heap.size + 1 + 1 + 1 + 1, 0, none⟩) 1 1] ∧ Blk w2 (w.heap.size + 1 + 1 + 1 + 1 + 1 + 1) 27 #[.int .i64 x, .int .i64 0, .int .i64 x, .int .i64 0] ∧ Blk w2 (w.heap.size + 1 + 1 + 1 + 1 + 1 + 1 + 1) 24 #[.int .i64 3, .slice (some ⟨w.heap.size + 1 + 1 + 1 + 1 + 1 + 1, 0, none⟩) 2 2] ∧ Blk w2 w5.heap.size 37 #[.int .u64 n0, .int .u64 n1, .int .u64 n2]) ⟨(by repeat (first | with_reducible exact Below.refl _ _ | with_reducible assumption | with_reducible refine al ?_ _ | with_reducible refine Below.drew ?_ | with_reducible refine Below.setCell ?_ (by first | (simp; done) | (simp; omega)) _ | with_reducible refine tr ?_ (by with_reducible assumption))), by simp, (by repeat (first | with_reducible assumption | with_reducible exact Blk.new (by simp) rfl | with_reducible refine Blk.alloc ?_ _ | with_reducible refine Blk.drew ?_ | with_reducible refine Blk.far ?_ (by simp; omega) _ | with_reducible refine Blk.tr ?_ (by with_reducible assumption))), (by repeat (first | with_reducible assumption | with_reducible exact Blk.new (by simp) rfl | with_reducible refine Blk.alloc ?_ _ | with_reducible refine Blk.drew ?_ | with_reducible refine Blk.far ?_ (by simp; omega) _ | with_reducible refine Blk.tr ?_ (by with_reducible assumption))), (by repeat (first | with_reducible assumption | with_reducible exact Blk.new (by simp) rfl | with_reducible refine Blk.alloc ?_ _ | with_reducible refine Blk.drew ?_ | with_reducible refine Blk.far ?_ (by simp; omega) _ | with_reducible refine Blk.tr ?_ (by with_reducible assumption))), (by repeat (first | with_reducible assumption | with_reducible exact Blk.new (by simp) rfl | with_reducible refine Blk.alloc ?_ _ | with_reducible refine Blk.drew ?_ | with_reducible refine Blk.far ?_ (by simp; omega) _ | with_reducible refine Blk.tr ?_ (by with_reducible assumption))), (by repeat (first | with_reducible assumption | with_reducible exact Blk.new (by simp) rfl | with_reducible refine Blk.alloc ?_ _ | with_reducible refine Blk.drew ?_ | with_reducible refine Blk.far ?_ (by simp; omega) _ | with_reducible refine Blk.tr ?_ (by with_reducible assumption))), (by repeat (first | with_reducible assumption | with_reducible exact Blk.new (by simp) rfl | with_reducible refine Blk.alloc ?_ _ | with_reducible refine Blk.drew ?_ | with_reducible refine Blk.far ?_ (by simp; omega) _ | with_reducible refine Blk.tr ?_ (by with_reducible assumption))), (by repeat (first | with_reducible assumption | with_reducible exact Blk.new (by simp) rfl | with_reducible refine Blk.alloc ?_ _ | with_reducible refine Blk.drew ?_ | with_reducible refine Blk.far ?_ (by simp; omega) _ | with_reducible refine Blk.tr ?_ (by with_reducible assumption))), (by repeat (first | with_reducible assumption | with_reducible exact Blk.new (by simp) rfl | with_reducible refine Blk.alloc ?_ _ | with_reducible refine Blk.drew ?_ | with_reducible refine Blk.far ?_ (by simp; omega) _ | with_reducible refine Blk.tr ?_ (by with_reducible assumption))), (by repeat (first | with_reducible assumption | with_reducible exact Blk.new (by simp) rfl | with_reducible refine Blk.alloc ?_ _ | with_reducible refine Blk.drew ?_ | with_reducible refine Blk.far ?_ (by simp; omega) _ | with_reducible refine Blk.tr ?_ (by with_reducible assumption)))⟩ ?_
  clear hb1 hc1 hf1 hz1 hb5 hc5 hf5 hz5 hy0 hy1 hy2 hy3 hy4 hy5 hy6
  rintro w2 ⟨hb, hld, b0, b1, b2, b3, b4, b5, b6, b7, bd⟩
  have cc0 := b0.cell
  have cc1 := b1.cell
  have cc3 := b3.cell
  have cc5 := b5.cell
  have cc7 := b7.cell
  have ccd := bd.cell
  have ll7 := b7.lt
  have hyy0 : w.heap.size < w2.heap.size := (by omega)
  have hyy1 : w.heap.size + 1 < w2.heap.size := (by omega)
  have hyy2 : w.heap.size + 1 + 1 < w2.heap.size := (by omega)
  have hyy3 : w.heap.size + 1 + 1 + 1 < w2.heap.size := (by omega)
  have hyy4 : w.heap.size + 1 + 1 + 1 + 1 < w2.heap.size := (by omega)
  have hyy5 : w.heap.size + 1 + 1 + 1 + 1 + 1 < w2.heap.size := (by omega)
  have hyy6 : w.heap.size + 1 + 1 + 1 + 1 + 1 + 1 < w2.heap.size := (by omega)
  have hyy7 : w.heap.size + 1 + 1 + 1 + 1 + 1 + 1 + 1 < w2.heap.size := (by omega)
  rcases hcase2 with ⟨rfl, hp, rfl⟩ | ⟨rfl, hp, rfl⟩ | ⟨rfl, rfl⟩
  all_goals
    (try rw [hp] at HP)
    refine wp_region_below [0, 1, 3, 2, 4, 5, 6, 7, 9, 8, 10, 11, 12, 13, 14, 16, 15, 17, 18, 19, 20, 21, 23, 22, 24, 25, 26, 27, 28, 29, 30, 31, 32, 33, 34, 35, 36, 37, 38, 39, 40, 41, 42, 43] (by kernel_rfl) (by kernel_rfl) (fun _ _ d _ _ h => by cases d <;> exact h) ?_
    simp only [List.map_cons, List.map_nil, List.getD_cons_zero, List.getD_cons_succ, bare, gslot, List.getElem?_cons_zero, List.getElem?_cons_succ, Option.bind_some]
    repeat' ((try simp only [Act.put, List.setIfInBounds_toArray, List.set_cons_zero, List.set_cons_succ]); first | (refine lexL_quiet (v := ?_) wantB_none rfl ?_ ?_; rotate_left; focus (intro wq hq; obtain ⟨hcq, hfq⟩ := bcell hq; go_simp; try with_reducible rfl)) | (refine lexL_loud wantB_none rfl (fun K hK => ?_); go_simp; ((first | (go_at_call 17; (with_reducible refine (HM2.out _ ?_ ?_).mono ?_); exact (by repeat (first | with_reducible assumption | with_reducible exact Blk.new (by simp) rfl | with_reducible refine Blk.alloc ?_ _ | with_reducible refine Blk.drew ?_ | with_reducible refine Blk.far ?_ (by simp; omega) _ | with_reducible refine Blk.tr ?_ (by with_reducible assumption))); exact (by repeat (first | with_reducible exact Below.refl _ _ | with_reducible assumption | with_reducible refine al ?_ _ | with_reducible refine Below.drew ?_ | with_reducible refine Below.setCell ?_ (by first | (simp; done) | (simp; omega)) _ | with_reducible refine tr ?_ (by with_reducible assumption))); rintro e w1 ⟨rfl, hb1⟩; obtain ⟨hc1, hf1⟩ := bcell hb1; have hz1 := hb1.size; (try simp at hz1); have hy0 : w.heap.size < w1.heap.size := (by omega); have hy1 : w.heap.size + 1 < w1.heap.size := (by omega); have hy2 : w.heap.size + 1 + 1 < w1.heap.size := (by omega); have hy3 : w.heap.size + 1 + 1 + 1 < w1.heap.size := (by omega); have hy4 : w.heap.size + 1 + 1 + 1 + 1 < w1.heap.size := (by omega); have hy5 : w.heap.size + 1 + 1 + 1 + 1 + 1 < w1.heap.size := (by omega); have hy6 : w.heap.size + 1 + 1 + 1 + 1 + 1 + 1 < w1.heap.size := (by omega); have hy7 : w.heap.size + 1 + 1 + 1 + 1 + 1 + 1 + 1 < w1.heap.size := (by omega); have hyd : w5.heap.size < w1.heap.size := (by omega)) | (go_at_call 17; (with_reducible refine (HM3.out _ ?_ ?_).mono ?_); exact (by repeat (first | with_reducible assumption | with_reducible exact Blk.new (by simp) rfl | with_reducible refine Blk.alloc ?_ _ | with_reducible refine Blk.drew ?_ | with_reducible refine Blk.far ?_ (by simp; omega) _ | with_reducible refine Blk.tr ?_ (by with_reducible assumption))); exact (by repeat (first | with_reducible exact Below.refl _ _ | with_reducible assumption | with_reducible refine al ?_ _ | with_reducible refine Below.drew ?_ | with_reducible refine Below.setCell ?_ (by first | (simp; done) | (simp; omega)) _ | with_reducible refine tr ?_ (by with_reducible assumption))); rintro e w1 ⟨rfl, hb1⟩; obtain ⟨hc1, hf1⟩ := bcell hb1; have hz1 := hb1.size; (try simp at hz1); have hy0 : w.heap.size < w1.heap.size := (by omega); have hy1 : w.heap.size + 1 < w1.heap.size := (by omega); have hy2 : w.heap.size + 1 + 1 < w1.heap.size := (by omega); have hy3 : w.heap.size + 1 + 1 + 1 < w1.heap.size := (by omega); have hy4 : w.heap.size + 1 + 1 + 1 + 1 < w1.heap.size := (by omega); have hy5 : w.heap.size + 1 + 1 + 1 + 1 + 1 < w1.heap.size := (by omega); have hy6 : w.heap.size + 1 + 1 + 1 + 1 + 1 + 1 < w1.heap.size := (by omega); have hy7 : w.heap.size + 1 + 1 + 1 + 1 + 1 + 1 + 1 < w1.heap.size := (by omega); have hyd : w5.heap.size < w1.heap.size := (by omega)) | (go_at_call 18; (with_reducible refine (HD2.out _ ?_).mono ?_); exact (by repeat (first | with_reducible assumption | with_reducible exact Blk.new (by simp) rfl | with_reducible refine Blk.alloc ?_ _ | with_reducible refine Blk.drew ?_ | with_reducible refine Blk.far ?_ (by simp; omega) _ | with_reducible refine Blk.tr ?_ (by with_reducible assumption))); rintro e w1 ⟨rfl, hb1⟩; obtain ⟨hc1, hf1⟩ := bcell hb1; have hz1 := hb1.size; (try simp at hz1); have hy0 : w.heap.size < w1.heap.size := (by omega); have hy1 : w.heap.size + 1 < w1.heap.size := (by omega); have hy2 : w.heap.size + 1 + 1 < w1.heap.size := (by omega); have hy3 : w.heap.size + 1 + 1 + 1 < w1.heap.size := (by omega); have hy4 : w.heap.size + 1 + 1 + 1 + 1 < w1.heap.size := (by omega); have hy5 : w.heap.size + 1 + 1 + 1 + 1 + 1 < w1.heap.size := (by omega); have hy6 : w.heap.size + 1 + 1 + 1 + 1 + 1 + 1 < w1.heap.size := (by omega); have hy7 : w.heap.size + 1 + 1 + 1 + 1 + 1 + 1 + 1 < w1.heap.size := (by omega); have hyd : w5.heap.size < w1.heap.size := (by omega)) | (go_at_call 18; (with_reducible refine (HD3.out _ ?_).mono ?_); exact (by repeat (first | with_reducible assumption | with_reducible exact Blk.new (by simp) rfl | with_reducible refine Blk.alloc ?_ _ | with_reducible refine Blk.drew ?_ | with_reducible refine Blk.far ?_ (by simp; omega) _ | with_reducible refine Blk.tr ?_ (by with_reducible assumption))); rintro e w1 ⟨rfl, hb1⟩; obtain ⟨hc1, hf1⟩ := bcell hb1; have hz1 := hb1.size; (try simp at hz1); have hy0 : w.heap.size < w1.heap.size := (by omega); have hy1 : w.heap.size + 1 < w1.heap.size := (by omega); have hy2 : w.heap.size + 1 + 1 < w1.heap.size := (by omega); have hy3 : w.heap.size + 1 + 1 + 1 < w1.heap.size := (by omega); have hy4 : w.heap.size + 1 + 1 + 1 + 1 < w1.heap.size := (by omega); have hy5 : w.heap.size + 1 + 1 + 1 + 1 + 1 < w1.heap.size := (by omega); have hy6 : w.heap.size + 1 + 1 + 1 + 1 + 1 + 1 < w1.heap.size := (by omega); have hy7 : w.heap.size + 1 + 1 + 1 + 1 + 1 + 1 + 1 < w1.heap.size := (by omega); have hyd : w5.heap.size < w1.heap.size := (by omega)) | (go_at_call 19; (with_reducible refine (HC.out _ ?_).mono ?_); exact (by repeat (first | with_reducible assumption | with_reducible exact Blk.new (by simp) rfl | with_reducible refine Blk.alloc ?_ _ | with_reducible refine Blk.drew ?_ | with_reducible refine Blk.far ?_ (by simp; omega) _ | with_reducible refine Blk.tr ?_ (by with_reducible assumption))); rintro e w1 ⟨rfl, hb1⟩; obtain ⟨hc1, hf1⟩ := bcell hb1; have hz1 := hb1.size; (try simp at hz1); have hy0 : w.heap.size < w1.heap.size := (by omega); have hy1 : w.heap.size + 1 < w1.heap.size := (by omega); have hy2 : w.heap.size + 1 + 1 < w1.heap.size := (by omega); have hy3 : w.heap.size + 1 + 1 + 1 < w1.heap.size := (by omega); have hy4 : w.heap.size + 1 + 1 + 1 + 1 < w1.heap.size := (by omega); have hy5 : w.heap.size + 1 + 1 + 1 + 1 + 1 < w1.heap.size := (by omega); have hy6 : w.heap.size + 1 + 1 + 1 + 1 + 1 + 1 < w1.heap.size := (by omega); have hy7 : w.heap.size + 1 + 1 + 1 + 1 + 1 + 1 + 1 < w1.heap.size := (by omega); have hyd : w5.heap.size < w1.heap.size := (by omega)) | (go_at_call 20; (with_reducible refine (HP.out _).mono ?_); rintro e w1 ⟨rfl, hb1⟩; obtain ⟨hc1, hf1⟩ := bcell hb1; have hz1 := hb1.size; (try simp at hz1); have hy0 : w.heap.size < w1.heap.size := (by omega); have hy1 : w.heap.size + 1 < w1.heap.size := (by omega); have hy2 : w.heap.size + 1 + 1 < w1.heap.size := (by omega); have hy3 : w.heap.size + 1 + 1 + 1 < w1.heap.size := (by omega); have hy4 : w.heap.size + 1 + 1 + 1 + 1 < w1.heap.size := (by omega); have hy5 : w.heap.size + 1 + 1 + 1 + 1 + 1 < w1.heap.size := (by omega); have hy6 : w.heap.size + 1 + 1 + 1 + 1 + 1 + 1 < w1.heap.size := (by omega); have hy7 : w.heap.size + 1 + 1 + 1 + 1 + 1 + 1 + 1 < w1.heap.size := (by omega); have hyd : w5.heap.size < w1.heap.size := (by omega)) | (go_at_call 10; refine (awake_true _ (HT.out.tr (by repeat (first | with_reducible exact Below.refl _ _ | with_reducible assumption | with_reducible refine al ?_ _ | with_reducible refine Below.drew ?_ | with_reducible refine Below.setCell ?_ (by first | (simp; done) | (simp; omega)) _ | with_reducible refine tr ?_ (by with_reducible assumption))))).mono ?_; rintro e w1 ⟨rfl, hb1⟩; obtain ⟨hc1, hf1⟩ := bcell hb1; have hz1 := hb1.size; (try simp at hz1); have hy0 : w.heap.size < w1.heap.size := (by omega); have hy1 : w.heap.size + 1 < w1.heap.size := (by omega); have hy2 : w.heap.size + 1 + 1 < w1.heap.size := (by omega); have hy3 : w.heap.size + 1 + 1 + 1 < w1.heap.size := (by omega); have hy4 : w.heap.size + 1 + 1 + 1 + 1 < w1.heap.size := (by omega); have hy5 : w.heap.size + 1 + 1 + 1 + 1 + 1 < w1.heap.size := (by omega); have hy6 : w.heap.size + 1 + 1 + 1 + 1 + 1 + 1 < w1.heap.size := (by omega); have hy7 : w.heap.size + 1 + 1 + 1 + 1 + 1 + 1 + 1 < w1.heap.size := (by omega); have hyd : w5.heap.size < w1.heap.size := (by omega)) | skip) <;> (refine hK.out _ _ (by repeat (first | with_reducible exact Below.refl _ _ | with_reducible assumption | with_reducible refine al ?_ _ | with_reducible refine Below.drew ?_ | with_reducible refine Below.setCell ?_ (by first | (simp; done) | (simp; omega)) _ | with_reducible refine tr ?_ (by with_reducible assumption))) ?_; clear hK K))) | (refine lexL_on ?_ ?_; focus (simp only [List.getElem?_toArray, List.getElem?_cons_succ, List.getElem?_cons_zero, Bool.not_true, Bool.not_false]; done)) | (refine lexL_off ?_ ?_ ?_; (focus (simp only [List.getElem?_toArray, List.getElem?_cons_succ, List.getElem?_cons_zero, Bool.not_true, Bool.not_false]; done)); (focus (exact (by repeat (first | with_reducible exact Below.refl _ _ | with_reducible assumption | with_reducible refine al ?_ _ | with_reducible refine Below.drew ?_ | with_reducible refine Below.setCell ?_ (by first | (simp; done) | (simp; omega)) _ | with_reducible refine tr ?_ (by with_reducible assumption)))))) | (refine lexL_splitS (X := ?_) ?_ ?_ (fun hg => ?_) (fun hg => ?_); rotate_left; (focus (simp only [List.getElem?_toArray, List.getElem?_cons_succ, List.getElem?_cons_zero]; with_reducible rfl)); (focus (exact (by repeat (first | with_reducible exact Below.refl _ _ | with_reducible assumption | with_reducible refine al ?_ _ | with_reducible refine Below.drew ?_ | with_reducible refine Below.setCell ?_ (by first | (simp; done) | (simp; omega)) _ | with_reducible refine tr ?_ (by with_reducible assumption))))); all_goals (try simp only [Bool.not_true, Bool.not_false] at hg)))
    (all_goals try simp only [Act.put, List.setIfInBounds_toArray, List.set_cons_zero, List.set_cons_succ]); all_goals (refine lexL_nil ?_)
    go_wp2
    go_ret
    exact ⟨rfl, (by repeat (first | with_reducible exact Below.refl _ _ | with_reducible assumption | with_reducible refine al ?_ _ | with_reducible refine Below.drew ?_ | with_reducible refine Below.setCell ?_ (by first | (simp; done) | (simp; omega)) _ | with_reducible refine tr ?_ (by with_reducible assumption)))⟩
end Go.Proofs.YtknidfiokmghjaaGreatDoor
