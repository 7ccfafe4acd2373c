/-
  The walk of the statement RelSame.
-/
import Derived.Test.YtknidfiokmghjaaGreatDoorDist4
import Derived.Test.YtknidfiokmghjaaGreatDoorPlainSame
import Derived.Test.YtknidfiokmghjaaGreatDoorLawChecks
import Derived.Test.YtknidfiokmghjaaGreatDoorRefB
import Derived.Test.YtknidfiokmghjaaGreatDoorRel8
set_option linter.unusedSimpArgs false
set_option linter.unusedVariables false
namespace Go.Proofs.YtknidfiokmghjaaGreatDoor
open Go.RowKit Pg

theorem pts_up {w : World} {B B' : Nat} {A : Option Addr} {n : Nat} {l : List Pt} (h : PtsAt w B A n l) (hB : B ≤ B') : PtsAt w B' A n l :=
  ⟨h.1, fun hn => let ⟨b, off, e, hb, r⟩ := h.2 hn; ⟨b, off, e, Nat.lt_of_lt_of_le hb hB, r⟩⟩

set_option maxHeartbeats 4000000 in
set_option maxRecDepth 20000 in
theorem relSame_walk (B n' c' : Nat) (k' : Int) (b bq : Bx) (p : Pt) (A' : Option Addr) (l' : List Pt) (w : World) (hl' : PtsAt w B A' n' l') (hB : B ≤ w.heap.size) (hT : ErrT w) :
    Calls Tryz.prog 7 #[bxV b.lo.x b.lo.y b.hi.x b.hi.y, quV k' bq A' n' c', ptV p.x p.y] w (Ret w (.bool true)) := by
  have HT := Lib.hid hT
  clear hT
  obtain ⟨ck, hck⟩ : ∃ ck : Nat, ckBox b = ck := ⟨_, rfl⟩
  have HC : Hid (∀ w, Calls Tryz.prog 29 #[.agg #[.int .i64 b.lo.x, .int .i64 b.lo.y, .int .i64 b.hi.x, .int .i64 b.hi.y]] w (Ret w (.int .i64 ck))) := fun w => by
    have h := rcheckBox_any b.lo.x b.lo.y b.hi.x b.hi.y w
    rw [show (⟨⟨b.lo.x, b.lo.y⟩, ⟨b.hi.x, b.hi.y⟩⟩ : Bx) = b from rfl, hck] at h
    exact h
  by_cases g0 : ck = 0
  case neg =>
    have e0 : ((ck : Int) != 0) = true := by rw [bne_iff_ne]; omega
    have e1 : ¬ (ck : Int) = 0 := by omega
    clear hck
    go_enter Tryz.func7, Tryz.ntmps7
    go_wp2_with (first | (go_at_call 29; refine (HC.out _).mono ?_; rintro e w1 ⟨rfl, hb1⟩; obtain ⟨hc1, hf1⟩ := bcell hb1; have hz1 := hb1.size; (try simp at hz1); have hy0 : w.heap.size < w1.heap.size := (by omega); have hy1 : w.heap.size + 1 < w1.heap.size := (by omega); have hy2 : w.heap.size + 1 + 1 < w1.heap.size := (by omega)) | (go_at_call 10; refine (awake_true _ (HT.out.tr (by repeat (first | with_reducible exact Below.refl _ _ | with_reducible assumption | with_reducible refine al ?_ _ | with_reducible refine Below.drew ?_ | with_reducible refine Below.setCell ?_ (by first | (simp; done) | (simp; omega)) _ | with_reducible refine tr ?_ (by with_reducible assumption))))).mono ?_; rintro e w1 ⟨rfl, hb1⟩; obtain ⟨hc1, hf1⟩ := bcell hb1; have hz1 := hb1.size; (try simp at hz1); have hy0 : w.heap.size < w1.heap.size := (by omega); have hy1 : w.heap.size + 1 < w1.heap.size := (by omega); have hy2 : w.heap.size + 1 + 1 < w1.heap.size := (by omega)))
    go_ret
    exact ⟨rfl, (by repeat (first | with_reducible exact Below.refl _ _ | with_reducible assumption | with_reducible refine al ?_ _ | with_reducible refine Below.drew ?_ | with_reducible refine Below.setCell ?_ (by first | (simp; done) | (simp; omega)) _ | with_reducible refine tr ?_ (by with_reducible assumption)))⟩
  subst g0
  obtain ⟨lx, elx⟩ : ∃ z, b.lo.x = z := ⟨_, rfl⟩
  obtain ⟨ly, ely⟩ : ∃ z, b.lo.y = z := ⟨_, rfl⟩
  obtain ⟨hx, ehx⟩ : ∃ z, b.hi.x = z := ⟨_, rfl⟩
  obtain ⟨hy, ehy⟩ : ∃ z, b.hi.y = z := ⟨_, rfl⟩
  rw [elx, ely, ehx, ehy] at HC ⊢
  by_cases gx : lx = hx
  · have e1 : (lx == hx) = true := by rw [beq_iff_eq]; exact gx
    have GX := Lib.hid gx
    clear hck gx elx ely ehx ehy
    go_enter Tryz.func7, Tryz.ntmps7
    go_wp2_with (first | (go_at_call 29; refine (HC.out _).mono ?_; rintro e w1 ⟨rfl, hb1⟩; obtain ⟨hc1, hf1⟩ := bcell hb1; have hz1 := hb1.size; (try simp at hz1); have hy0 : w.heap.size < w1.heap.size := (by omega); have hy1 : w.heap.size + 1 < w1.heap.size := (by omega); have hy2 : w.heap.size + 1 + 1 < w1.heap.size := (by omega)) | (go_at_call 10; refine (awake_true _ (HT.out.tr (by repeat (first | with_reducible exact Below.refl _ _ | with_reducible assumption | with_reducible refine al ?_ _ | with_reducible refine Below.drew ?_ | with_reducible refine Below.setCell ?_ (by first | (simp; done) | (simp; omega)) _ | with_reducible refine tr ?_ (by with_reducible assumption))))).mono ?_; rintro e w1 ⟨rfl, hb1⟩; obtain ⟨hc1, hf1⟩ := bcell hb1; have hz1 := hb1.size; (try simp at hz1); have hy0 : w.heap.size < w1.heap.size := (by omega); have hy1 : w.heap.size + 1 < w1.heap.size := (by omega); have hy2 : w.heap.size + 1 + 1 < w1.heap.size := (by omega)))
    go_ret
    exact ⟨rfl, (by repeat (first | with_reducible exact Below.refl _ _ | with_reducible assumption | with_reducible refine al ?_ _ | with_reducible refine Below.drew ?_ | with_reducible refine Below.setCell ?_ (by first | (simp; done) | (simp; omega)) _ | with_reducible refine tr ?_ (by with_reducible assumption)))⟩
  have ex1 : (lx == hx) = false := by rw [beq_eq_false_iff_ne]; exact gx
  by_cases gy : ly = hy
  · have e1 : (ly == hy) = true := by rw [beq_iff_eq]; exact gy
    have GX := Lib.hid gy
    clear hck gy elx ely ehx ehy
    go_enter Tryz.func7, Tryz.ntmps7
    go_wp2_with (first | (go_at_call 29; refine (HC.out _).mono ?_; rintro e w1 ⟨rfl, hb1⟩; obtain ⟨hc1, hf1⟩ := bcell hb1; have hz1 := hb1.size; (try simp at hz1); have hy0 : w.heap.size < w1.heap.size := (by omega); have hy1 : w.heap.size + 1 < w1.heap.size := (by omega); have hy2 : w.heap.size + 1 + 1 < w1.heap.size := (by omega)) | (go_at_call 10; refine (awake_true _ (HT.out.tr (by repeat (first | with_reducible exact Below.refl _ _ | with_reducible assumption | with_reducible refine al ?_ _ | with_reducible refine Below.drew ?_ | with_reducible refine Below.setCell ?_ (by first | (simp; done) | (simp; omega)) _ | with_reducible refine tr ?_ (by with_reducible assumption))))).mono ?_; rintro e w1 ⟨rfl, hb1⟩; obtain ⟨hc1, hf1⟩ := bcell hb1; have hz1 := hb1.size; (try simp at hz1); have hy0 : w.heap.size < w1.heap.size := (by omega); have hy1 : w.heap.size + 1 < w1.heap.size := (by omega); have hy2 : w.heap.size + 1 + 1 < w1.heap.size := (by omega)))
    go_ret
    exact ⟨rfl, (by repeat (first | with_reducible exact Below.refl _ _ | with_reducible assumption | with_reducible refine al ?_ _ | with_reducible refine Below.drew ?_ | with_reducible refine Below.setCell ?_ (by first | (simp; done) | (simp; omega)) _ | with_reducible refine tr ?_ (by with_reducible assumption)))⟩
  have ey1 : (ly == hy) = false := by rw [beq_eq_false_iff_ne]; exact gy
  by_cases g2 : n' ≤ 64
  case neg =>
    have e2 : decide ((64 : Int) < (n' : Int)) = true := by simp; omega
    have e3 : (64 : Int) < (n' : Int) := by omega
    clear hck elx ely ehx ehy
    go_enter Tryz.func7, Tryz.ntmps7
    go_wp2_with (first | (go_at_call 29; refine (HC.out _).mono ?_; rintro e w1 ⟨rfl, hb1⟩; obtain ⟨hc1, hf1⟩ := bcell hb1; have hz1 := hb1.size; (try simp at hz1); have hy0 : w.heap.size < w1.heap.size := (by omega); have hy1 : w.heap.size + 1 < w1.heap.size := (by omega); have hy2 : w.heap.size + 1 + 1 < w1.heap.size := (by omega)) | (go_at_call 10; refine (awake_true _ (HT.out.tr (by repeat (first | with_reducible exact Below.refl _ _ | with_reducible assumption | with_reducible refine al ?_ _ | with_reducible refine Below.drew ?_ | with_reducible refine Below.setCell ?_ (by first | (simp; done) | (simp; omega)) _ | with_reducible refine tr ?_ (by with_reducible assumption))))).mono ?_; rintro e w1 ⟨rfl, hb1⟩; obtain ⟨hc1, hf1⟩ := bcell hb1; have hz1 := hb1.size; (try simp at hz1); have hy0 : w.heap.size < w1.heap.size := (by omega); have hy1 : w.heap.size + 1 < w1.heap.size := (by omega); have hy2 : w.heap.size + 1 + 1 < w1.heap.size := (by omega)))
    go_ret
    exact ⟨rfl, (by repeat (first | with_reducible exact Below.refl _ _ | with_reducible assumption | with_reducible refine al ?_ _ | with_reducible refine Below.drew ?_ | with_reducible refine Below.setCell ?_ (by first | (simp; done) | (simp; omega)) _ | with_reducible refine tr ?_ (by with_reducible assumption)))⟩
  have e2 : decide ((64 : Int) < (n' : Int)) = false := by simp; omega
  have e3 : ¬ (64 : Int) < (n' : Int) := by omega
  have hn' : n' ≤ 1000000 := by omega
  have hb0 : okBx b = true := okBx_ck.2 hck
  have hx0 : b.lo.x ≠ b.hi.x := by rw [elx, ehx]; exact gx
  have hy0 : b.lo.y ≠ b.hi.y := by rw [ely, ehy]; exact gy
  have ebx : b = ⟨⟨lx, ly⟩, ⟨hx, hy⟩⟩ := Bx.ext' (Pt.ext' elx ely) (Pt.ext' ehx ehy)
  have eL : cornL b = [⟨lx, ly⟩, ⟨hx, ly⟩, ⟨hx, hy⟩, ⟨lx, hy⟩] := by rw [ebx]; rfl
  have eP : [b.lo, b.hi] = [⟨lx, ly⟩, ⟨hx, hy⟩] := by rw [ebx]
  have SM := same_match ⟨k', bq, l'⟩ hb0 hx0 hy0
  have SD := same_dist p hb0 hx0 hy0
  have ST := same_touch hb0 hx0 hy0
  unfold boxO ringO at SM SD ST
  rw [eL, eP] at SM SD ST
  obtain ⟨m, hm⟩ : ∃ m : Bool, matchS ⟨3, [⟨lx, ly⟩, ⟨hx, hy⟩]⟩ ⟨k', bq, l'⟩ = m := ⟨_, rfl⟩
  rw [hm] at SM
  obtain ⟨n0, n1, n2, hd⟩ := fcs_ex (distF ⟨3, [⟨lx, ly⟩, ⟨hx, hy⟩]⟩ p)
  have HM1 : Hid (∀ w' g, Blk w' g 27 #[.int .i64 lx, .int .i64 ly, .int .i64 hx, .int .i64 hy] → Below w.heap.size w w' → Calls Tryz.prog 17 #[.agg #[.int .i64 3, .slice (some ⟨g, 0, none⟩) 2 2], .agg #[.int .i64 k', .int .i64 bq.lo.x, .int .i64 bq.lo.y, .int .i64 bq.hi.x, .int .i64 bq.hi.y, .slice A' n' c']] w' (Ret w' (.bool m))) := fun w' g hg hb => by
    have h := match_any w'.heap.size 2 2 n' c' 3 k' bq _ A' [⟨lx, ly⟩, ⟨hx, hy⟩] l' w' (ptsAt_block [⟨lx, ly⟩, ⟨hx, hy⟩] hg (Blk.lt hg) rfl (by intro j hj; match j, hj with | 0, _ => exact ⟨rfl, rfl⟩ | 1, _ => exact ⟨rfl, rfl⟩)) (pts_up (hl'.tr hb hB) (Nat.le_trans hB hb.size)) (Nat.le_refl _) (by decide) hn'
    rw [hm] at h
    exact h
  have HM2 : Hid (∀ w' g, Blk w' g 27 #[.int .i64 lx, .int .i64 ly, .int .i64 hx, .int .i64 ly, .int .i64 hx, .int .i64 hy, .int .i64 lx, .int .i64 hy] → Below w.heap.size w w' → Calls Tryz.prog 17 #[.agg #[.int .i64 4, .slice (some ⟨g, 0, none⟩) 4 4], .agg #[.int .i64 k', .int .i64 bq.lo.x, .int .i64 bq.lo.y, .int .i64 bq.hi.x, .int .i64 bq.hi.y, .slice A' n' c']] w' (Ret w' (.bool m))) := fun w' g hg hb => by
    have h := match_any w'.heap.size 4 4 n' c' 4 k' bq _ A' [⟨lx, ly⟩, ⟨hx, ly⟩, ⟨hx, hy⟩, ⟨lx, hy⟩] l' w' (ptsAt_block [⟨lx, ly⟩, ⟨hx, ly⟩, ⟨hx, hy⟩, ⟨lx, hy⟩] hg (Blk.lt hg) rfl (by intro j hj; match j, hj with | 0, _ => exact ⟨rfl, rfl⟩ | 1, _ => exact ⟨rfl, rfl⟩ | 2, _ => exact ⟨rfl, rfl⟩ | 3, _ => exact ⟨rfl, rfl⟩)) (pts_up (hl'.tr hb hB) (Nat.le_trans hB hb.size)) (Nat.le_refl _) (by decide) hn'
    rw [← SM] at h
    exact h
  have HD1 : Hid (∀ w' g, Blk w' g 27 #[.int .i64 lx, .int .i64 ly, .int .i64 hx, .int .i64 hy] → Calls Tryz.prog 18 #[.agg #[.int .i64 3, .slice (some ⟨g, 0, none⟩) 2 2], .agg #[.int .i64 p.x, .int .i64 p.y]] w' (Ret w' (.agg #[.int .u64 n0, .int .u64 n1, .int .u64 n2]))) := fun w' g hg => by
    have h := relDist_any w'.heap.size 2 2 3 _ [⟨lx, ly⟩, ⟨hx, hy⟩] p.x p.y w' (ptsAt_block [⟨lx, ly⟩, ⟨hx, hy⟩] hg (Blk.lt hg) rfl (by intro j hj; match j, hj with | 0, _ => exact ⟨rfl, rfl⟩ | 1, _ => exact ⟨rfl, rfl⟩)) (Nat.le_refl _) (by decide)
    rw [fV_fcs, show (⟨p.x, p.y⟩ : Pt) = p from rfl, hd] at h
    exact h
  have HD2 : Hid (∀ w' g, Blk w' g 27 #[.int .i64 lx, .int .i64 ly, .int .i64 hx, .int .i64 ly, .int .i64 hx, .int .i64 hy, .int .i64 lx, .int .i64 hy] → Calls Tryz.prog 18 #[.agg #[.int .i64 4, .slice (some ⟨g, 0, none⟩) 4 4], .agg #[.int .i64 p.x, .int .i64 p.y]] w' (Ret w' (.agg #[.int .u64 n0, .int .u64 n1, .int .u64 n2]))) := fun w' g hg => by
    have h := relDist_any w'.heap.size 4 4 4 _ [⟨lx, ly⟩, ⟨hx, ly⟩, ⟨hx, hy⟩, ⟨lx, hy⟩] p.x p.y w' (ptsAt_block [⟨lx, ly⟩, ⟨hx, ly⟩, ⟨hx, hy⟩, ⟨lx, hy⟩] hg (Blk.lt hg) rfl (by intro j hj; match j, hj with | 0, _ => exact ⟨rfl, rfl⟩ | 1, _ => exact ⟨rfl, rfl⟩ | 2, _ => exact ⟨rfl, rfl⟩ | 3, _ => exact ⟨rfl, rfl⟩)) (Nat.le_refl _) (by decide)
    rw [fV_fcs, show (⟨p.x, p.y⟩ : Pt) = p from rfl, ← SD, hd] at h
    exact h
  have HTc : Hid (∀ w' g g', Blk w' g 27 #[.int .i64 lx, .int .i64 ly, .int .i64 hx, .int .i64 hy] → Blk w' g' 27 #[.int .i64 lx, .int .i64 ly, .int .i64 hx, .int .i64 ly, .int .i64 hx, .int .i64 hy, .int .i64 lx, .int .i64 hy] → Calls Tryz.prog 11 #[.agg #[.int .i64 3, .slice (some ⟨g, 0, none⟩) 2 2], .agg #[.int .i64 4, .slice (some ⟨g', 0, none⟩) 4 4]] w' (Ret w' (.bool true))) := fun w' g g' hg hg' => by
    have h := touch_any w'.heap.size 2 2 4 4 3 4 _ _ [⟨lx, ly⟩, ⟨hx, hy⟩] [⟨lx, ly⟩, ⟨hx, ly⟩, ⟨hx, hy⟩, ⟨lx, hy⟩] w' (ptsAt_block [⟨lx, ly⟩, ⟨hx, hy⟩] hg (Blk.lt hg) rfl (by intro j hj; match j, hj with | 0, _ => exact ⟨rfl, rfl⟩ | 1, _ => exact ⟨rfl, rfl⟩)) (ptsAt_block [⟨lx, ly⟩, ⟨hx, ly⟩, ⟨hx, hy⟩, ⟨lx, hy⟩] hg' (Blk.lt hg') rfl (by intro j hj; match j, hj with | 0, _ => exact ⟨rfl, rfl⟩ | 1, _ => exact ⟨rfl, rfl⟩ | 2, _ => exact ⟨rfl, rfl⟩ | 3, _ => exact ⟨rfl, rfl⟩)) (Nat.le_refl _) (by decide) (by decide)
    rw [ST] at h
    exact h
  have HSm : Hid (∀ w' g g', Blk w' g 27 #[.int .i64 lx, .int .i64 ly, .int .i64 hx, .int .i64 hy] → Blk w' g' 27 #[.int .i64 lx, .int .i64 ly, .int .i64 hx, .int .i64 ly, .int .i64 hx, .int .i64 hy, .int .i64 lx, .int .i64 hy] → Calls Tryz.prog 13 #[.agg #[.int .i64 3, .slice (some ⟨g, 0, none⟩) 2 2], .agg #[.int .i64 4, .slice (some ⟨g', 0, none⟩) 4 4]] w' (Ret w' (.bool false))) := fun w' g g' hg hg' => by
    have h := same_any w'.heap.size 2 2 4 4 3 4 _ _ [⟨lx, ly⟩, ⟨hx, hy⟩] [⟨lx, ly⟩, ⟨hx, ly⟩, ⟨hx, hy⟩, ⟨lx, hy⟩] w' (ptsAt_block [⟨lx, ly⟩, ⟨hx, hy⟩] hg (Blk.lt hg) rfl (by intro j hj; match j, hj with | 0, _ => exact ⟨rfl, rfl⟩ | 1, _ => exact ⟨rfl, rfl⟩)) (ptsAt_block [⟨lx, ly⟩, ⟨hx, ly⟩, ⟨hx, hy⟩, ⟨lx, hy⟩] hg' (Blk.lt hg') rfl (by intro j hj; match j, hj with | 0, _ => exact ⟨rfl, rfl⟩ | 1, _ => exact ⟨rfl, rfl⟩ | 2, _ => exact ⟨rfl, rfl⟩ | 3, _ => exact ⟨rfl, rfl⟩)) (Nat.le_refl _) (by decide)
    exact h
  clear SM SD ST hd hm hck hb0 hx0 hy0 ebx eL eP elx ely ehx ehy
  go_enter Tryz.func7, Tryz.ntmps7
  go_wp2_with (go_at_call 29; refine (HC.out _).mono ?_; rintro e w1 ⟨rfl, hb1⟩; obtain ⟨hc1, hf1⟩ := bcell hb1; have hz1 := hb1.size; (try simp at hz1); have hy0 : w.heap.size < w1.heap.size := (by omega); have hy1 : w.heap.size + 1 < w1.heap.size := (by omega); have hy2 : w.heap.size + 1 + 1 < w1.heap.size := (by omega))
  refine wp_gen2 (fun w2 => Below w.heap.size w w2 ∧ Blk w2 (w.heap.size + 1) 31 #[.int .i64 k', .int .i64 bq.lo.x, .int .i64 bq.lo.y, .int .i64 bq.hi.x, .int .i64 bq.hi.y, .slice A' n' c'] ∧ Blk w2 (w.heap.size + 1 + 1) 27 #[.int .i64 p.x, .int .i64 p.y] ∧ Blk w2 w1.heap.size 27 #[.int .i64 lx, .int .i64 ly, .int .i64 hx, .int .i64 hy] ∧ Blk w2 (w1.heap.size + 1) 24 #[.int .i64 3, .slice (some ⟨w1.heap.size, 0, none⟩) 2 2] ∧ Blk w2 (w1.heap.size + 1 + 1) 27 #[.int .i64 lx, .int .i64 ly, .int .i64 hx, .int .i64 ly, .int .i64 hx, .int .i64 hy, .int .i64 lx, .int .i64 hy] ∧ Blk w2 (w1.heap.size + 1 + 1 + 1) 24 #[.int .i64 4, .slice (some ⟨w1.heap.size + 1 + 1, 0, none⟩) 4 4]) ⟨(by repeat (first | with_reducible exact Below.refl _ _ | with_reducible assumption | with_reducible refine al ?_ _ | with_reducible refine Below.drew ?_ | with_reducible refine Below.setCell ?_ (by first | (simp; done) | (simp; omega)) _ | with_reducible refine tr ?_ (by with_reducible assumption))), (by repeat (first | with_reducible assumption | with_reducible exact Blk.new (by simp) rfl | with_reducible refine Blk.alloc ?_ _ | with_reducible refine Blk.drew ?_ | with_reducible refine Blk.far ?_ (by simp; omega) _ | with_reducible refine Blk.tr ?_ (by with_reducible assumption))), (by repeat (first | with_reducible assumption | with_reducible exact Blk.new (by simp) rfl | with_reducible refine Blk.alloc ?_ _ | with_reducible refine Blk.drew ?_ | with_reducible refine Blk.far ?_ (by simp; omega) _ | with_reducible refine Blk.tr ?_ (by with_reducible assumption))), (by repeat (first | with_reducible assumption | with_reducible exact Blk.new (by simp) rfl | with_reducible refine Blk.alloc ?_ _ | with_reducible refine Blk.drew ?_ | with_reducible refine Blk.far ?_ (by simp; omega) _ | with_reducible refine Blk.tr ?_ (by with_reducible assumption))), (by repeat (first | with_reducible assumption | with_reducible exact Blk.new (by simp) rfl | with_reducible refine Blk.alloc ?_ _ | with_reducible refine Blk.drew ?_ | with_reducible refine Blk.far ?_ (by simp; omega) _ | with_reducible refine Blk.tr ?_ (by with_reducible assumption))), (by repeat (first | with_reducible assumption | with_reducible exact Blk.new (by simp) rfl | with_reducible refine Blk.alloc ?_ _ | with_reducible refine Blk.drew ?_ | with_reducible refine Blk.far ?_ (by simp; omega) _ | with_reducible refine Blk.tr ?_ (by with_reducible assumption))), (by repeat (first | with_reducible assumption | with_reducible exact Blk.new (by simp) rfl | with_reducible refine Blk.alloc ?_ _ | with_reducible refine Blk.drew ?_ | with_reducible refine Blk.far ?_ (by simp; omega) _ | with_reducible refine Blk.tr ?_ (by with_reducible assumption)))⟩ ?_
  clear hb1 hc1 hf1
  generalize w1.heap.size = G at *
  rintro w2 ⟨hb, b1, b2, b3, b4, b5, b6⟩
  have cc1 := b1.cell
  have cc2 := b2.cell
  have cc4 := b4.cell
  have cc6 := b6.cell
  have ll1 := b1.lt
  have ll2 := b2.lt
  have ll3 := b3.lt
  have ll4 := b4.lt
  have ll5 := b5.lt
  have ll6 := b6.lt
  clear hz1 hy1 hy2 gx ex1 gy ey1 g2 e2 e3 HC
  refine wp_region_below [0, 1, 3, 4, 2, 5, 6, 7, 8, 9, 11, 12, 10, 13, 14, 15, 16, 17, 18, 19, 20, 21, 22, 23, 24, 25, 26, 27, 28, 29, 30] (by kernel_rfl) (by kernel_rfl) (fun _ _ d _ _ h => by cases d <;> exact h) ?_
  simp only [List.map_cons, List.map_nil, List.getD_cons_zero, List.getD_cons_succ, bare, gslot, List.getElem?_cons_zero, List.getElem?_cons_succ, Option.bind_some]
  repeat' ((try simp only [Act.put, List.setIfInBounds_toArray, List.set_cons_zero, List.set_cons_succ]); first | (refine lexL_quiet (v := ?_) wantB_none rfl ?_ ?_; rotate_left; focus (intro wq hq; obtain ⟨hcq, hfq⟩ := bcell hq; go_simp; try with_reducible rfl)) | (refine lexL_loud wantB_none rfl (fun K hK => ?_); go_simp; ((first | (go_at_call 17; (with_reducible refine (HM1.out _ _ ?_ ?_).mono ?_); exact (by repeat (first | with_reducible assumption | with_reducible exact Blk.new (by simp) rfl | with_reducible refine Blk.alloc ?_ _ | with_reducible refine Blk.drew ?_ | with_reducible refine Blk.far ?_ (by simp; omega) _ | with_reducible refine Blk.tr ?_ (by with_reducible assumption))); exact (by repeat (first | with_reducible exact Below.refl _ _ | with_reducible assumption | with_reducible refine al ?_ _ | with_reducible refine Below.drew ?_ | with_reducible refine Below.setCell ?_ (by first | (simp; done) | (simp; omega)) _ | with_reducible refine tr ?_ (by with_reducible assumption))); rintro e w5 ⟨rfl, hb5⟩; obtain ⟨hc5, hf5⟩ := bcell hb5; have hz5 := hb5.size; (try simp at hz5); have q0 : w.heap.size + 1 < w5.heap.size := (by omega); have q1 : w.heap.size + 1 + 1 < w5.heap.size := (by omega); have q2 : G < w5.heap.size := (by omega); have q3 : G + 1 < w5.heap.size := (by omega); have q4 : G + 1 + 1 < w5.heap.size := (by omega); have q5 : G + 1 + 1 + 1 < w5.heap.size := (by omega)) | (go_at_call 17; (with_reducible refine (HM2.out _ _ ?_ ?_).mono ?_); exact (by repeat (first | with_reducible assumption | with_reducible exact Blk.new (by simp) rfl | with_reducible refine Blk.alloc ?_ _ | with_reducible refine Blk.drew ?_ | with_reducible refine Blk.far ?_ (by simp; omega) _ | with_reducible refine Blk.tr ?_ (by with_reducible assumption))); exact (by repeat (first | with_reducible exact Below.refl _ _ | with_reducible assumption | with_reducible refine al ?_ _ | with_reducible refine Below.drew ?_ | with_reducible refine Below.setCell ?_ (by first | (simp; done) | (simp; omega)) _ | with_reducible refine tr ?_ (by with_reducible assumption))); rintro e w5 ⟨rfl, hb5⟩; obtain ⟨hc5, hf5⟩ := bcell hb5; have hz5 := hb5.size; (try simp at hz5); have q0 : w.heap.size + 1 < w5.heap.size := (by omega); have q1 : w.heap.size + 1 + 1 < w5.heap.size := (by omega); have q2 : G < w5.heap.size := (by omega); have q3 : G + 1 < w5.heap.size := (by omega); have q4 : G + 1 + 1 < w5.heap.size := (by omega); have q5 : G + 1 + 1 + 1 < w5.heap.size := (by omega)) | (go_at_call 18; (with_reducible refine (HD1.out _ _ ?_).mono ?_); exact (by repeat (first | with_reducible assumption | with_reducible exact Blk.new (by simp) rfl | with_reducible refine Blk.alloc ?_ _ | with_reducible refine Blk.drew ?_ | with_reducible refine Blk.far ?_ (by simp; omega) _ | with_reducible refine Blk.tr ?_ (by with_reducible assumption))); rintro e w5 ⟨rfl, hb5⟩; obtain ⟨hc5, hf5⟩ := bcell hb5; have hz5 := hb5.size; (try simp at hz5); have q0 : w.heap.size + 1 < w5.heap.size := (by omega); have q1 : w.heap.size + 1 + 1 < w5.heap.size := (by omega); have q2 : G < w5.heap.size := (by omega); have q3 : G + 1 < w5.heap.size := (by omega); have q4 : G + 1 + 1 < w5.heap.size := (by omega); have q5 : G + 1 + 1 + 1 < w5.heap.size := (by omega)) | (go_at_call 18; (with_reducible refine (HD2.out _ _ ?_).mono ?_); exact (by repeat (first | with_reducible assumption | with_reducible exact Blk.new (by simp) rfl | with_reducible refine Blk.alloc ?_ _ | with_reducible refine Blk.drew ?_ | with_reducible refine Blk.far ?_ (by simp; omega) _ | with_reducible refine Blk.tr ?_ (by with_reducible assumption))); rintro e w5 ⟨rfl, hb5⟩; obtain ⟨hc5, hf5⟩ := bcell hb5; have hz5 := hb5.size; (try simp at hz5); have q0 : w.heap.size + 1 < w5.heap.size := (by omega); have q1 : w.heap.size + 1 + 1 < w5.heap.size := (by omega); have q2 : G < w5.heap.size := (by omega); have q3 : G + 1 < w5.heap.size := (by omega); have q4 : G + 1 + 1 < w5.heap.size := (by omega); have q5 : G + 1 + 1 + 1 < w5.heap.size := (by omega)) | (go_at_call 11; (with_reducible refine (HTc.out _ _ _ ?_ ?_).mono ?_); exact (by repeat (first | with_reducible assumption | with_reducible exact Blk.new (by simp) rfl | with_reducible refine Blk.alloc ?_ _ | with_reducible refine Blk.drew ?_ | with_reducible refine Blk.far ?_ (by simp; omega) _ | with_reducible refine Blk.tr ?_ (by with_reducible assumption))); exact (by repeat (first | with_reducible assumption | with_reducible exact Blk.new (by simp) rfl | with_reducible refine Blk.alloc ?_ _ | with_reducible refine Blk.drew ?_ | with_reducible refine Blk.far ?_ (by simp; omega) _ | with_reducible refine Blk.tr ?_ (by with_reducible assumption))); rintro e w5 ⟨rfl, hb5⟩; obtain ⟨hc5, hf5⟩ := bcell hb5; have hz5 := hb5.size; (try simp at hz5); have q0 : w.heap.size + 1 < w5.heap.size := (by omega); have q1 : w.heap.size + 1 + 1 < w5.heap.size := (by omega); have q2 : G < w5.heap.size := (by omega); have q3 : G + 1 < w5.heap.size := (by omega); have q4 : G + 1 + 1 < w5.heap.size := (by omega); have q5 : G + 1 + 1 + 1 < w5.heap.size := (by omega)) | (go_at_call 13; (with_reducible refine (HSm.out _ _ _ ?_ ?_).mono ?_); exact (by repeat (first | with_reducible assumption | with_reducible exact Blk.new (by simp) rfl | with_reducible refine Blk.alloc ?_ _ | with_reducible refine Blk.drew ?_ | with_reducible refine Blk.far ?_ (by simp; omega) _ | with_reducible refine Blk.tr ?_ (by with_reducible assumption))); exact (by repeat (first | with_reducible assumption | with_reducible exact Blk.new (by simp) rfl | with_reducible refine Blk.alloc ?_ _ | with_reducible refine Blk.drew ?_ | with_reducible refine Blk.far ?_ (by simp; omega) _ | with_reducible refine Blk.tr ?_ (by with_reducible assumption))); rintro e w5 ⟨rfl, hb5⟩; obtain ⟨hc5, hf5⟩ := bcell hb5; have hz5 := hb5.size; (try simp at hz5); have q0 : w.heap.size + 1 < w5.heap.size := (by omega); have q1 : w.heap.size + 1 + 1 < w5.heap.size := (by omega); have q2 : G < w5.heap.size := (by omega); have q3 : G + 1 < w5.heap.size := (by omega); have q4 : G + 1 + 1 < w5.heap.size := (by omega); have q5 : G + 1 + 1 + 1 < w5.heap.size := (by omega)) | (go_at_call 10; refine (awake_true _ (HT.out.tr (by repeat (first | with_reducible exact Below.refl _ _ | with_reducible assumption | with_reducible refine al ?_ _ | with_reducible refine Below.drew ?_ | with_reducible refine Below.setCell ?_ (by first | (simp; done) | (simp; omega)) _ | with_reducible refine tr ?_ (by with_reducible assumption))))).mono ?_; rintro e w5 ⟨rfl, hb5⟩; obtain ⟨hc5, hf5⟩ := bcell hb5; have hz5 := hb5.size; (try simp at hz5); have q0 : w.heap.size + 1 < w5.heap.size := (by omega); have q1 : w.heap.size + 1 + 1 < w5.heap.size := (by omega); have q2 : G < w5.heap.size := (by omega); have q3 : G + 1 < w5.heap.size := (by omega); have q4 : G + 1 + 1 < w5.heap.size := (by omega); have q5 : G + 1 + 1 + 1 < w5.heap.size := (by omega)) | skip) <;> (refine hK.out _ _ (by repeat (first | with_reducible exact Below.refl _ _ | with_reducible assumption | with_reducible refine al ?_ _ | with_reducible refine Below.drew ?_ | with_reducible refine Below.setCell ?_ (by first | (simp; done) | (simp; omega)) _ | with_reducible refine tr ?_ (by with_reducible assumption))) ?_; clear hK K))) | (refine lexL_on ?_ ?_; focus (simp only [List.getElem?_toArray, List.getElem?_cons_succ, List.getElem?_cons_zero, Bool.not_true, Bool.not_false]; done)) | (refine lexL_off ?_ ?_ ?_; (focus (simp only [List.getElem?_toArray, List.getElem?_cons_succ, List.getElem?_cons_zero, Bool.not_true, Bool.not_false]; done)); (focus (exact (by repeat (first | with_reducible exact Below.refl _ _ | with_reducible assumption | with_reducible refine al ?_ _ | with_reducible refine Below.drew ?_ | with_reducible refine Below.setCell ?_ (by first | (simp; done) | (simp; omega)) _ | with_reducible refine tr ?_ (by with_reducible assumption)))))) | (refine lexL_splitS (X := ?_) ?_ ?_ (fun hg => ?_) (fun hg => ?_); rotate_left; (focus (simp only [List.getElem?_toArray, List.getElem?_cons_succ, List.getElem?_cons_zero]; with_reducible rfl)); (focus (exact (by repeat (first | with_reducible exact Below.refl _ _ | with_reducible assumption | with_reducible refine al ?_ _ | with_reducible refine Below.drew ?_ | with_reducible refine Below.setCell ?_ (by first | (simp; done) | (simp; omega)) _ | with_reducible refine tr ?_ (by with_reducible assumption))))); all_goals (try simp only [Bool.not_true, Bool.not_false] at hg)))
  (all_goals try simp only [Act.put, List.setIfInBounds_toArray, List.set_cons_zero, List.set_cons_succ]); all_goals (refine lexL_nil ?_)
  go_wp2
  go_ret
  exact ⟨rfl, (by repeat (first | with_reducible exact Below.refl _ _ | with_reducible assumption | with_reducible refine al ?_ _ | with_reducible refine Below.drew ?_ | with_reducible refine Below.setCell ?_ (by first | (simp; done) | (simp; omega)) _ | with_reducible refine tr ?_ (by with_reducible assumption)))⟩
end Go.Proofs.YtknidfiokmghjaaGreatDoor
