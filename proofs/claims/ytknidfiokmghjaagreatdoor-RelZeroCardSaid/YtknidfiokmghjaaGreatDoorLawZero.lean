/-
  The walk of the statement RelZero.
-/
import Derived.Test.YtknidfiokmghjaaGreatDoorLawZeroC
set_option linter.unusedSimpArgs false
set_option linter.unusedVariables false
namespace Go.Proofs.YtknidfiokmghjaaGreatDoor
open Go.RowKit Pg

set_option maxHeartbeats 4000000 in
set_option maxRecDepth 20000 in
theorem relZero_walk (B n c : Nat) (k : Int) (p : Pt) (r : Bx) (A : Option Addr) (l : List Pt) (w : World) (hl : PtsAt w B A n l) (hB : B ≤ w.heap.size) (hT : ErrT w) :
    Calls Tryz.prog 8 #[obV k A n c, ptV p.x p.y, bxV r.lo.x r.lo.y r.hi.x r.hi.y] w (Ret w (.bool true)) := by
  have HT := Lib.hid hT
  obtain ⟨px, py⟩ := p
  obtain ⟨⟨ra, rb⟩, ⟨rc, rd⟩⟩ := r
  simp only
  obtain ⟨y, hy⟩ : ∃ y : Bool, (decide (n ≤ 64) && decide (ckOb ⟨k, l⟩ = 0)) = y := ⟨_, rfl⟩
  have HMy : Hid (∀ w', Below w.heap.size w w' → Calls Tryz.prog 21 #[.agg #[.int .i64 k, .slice A n c]] w' (Ret w' (.bool y))) := fun w' hb => by
    have h := mayOb_any B n c k A l w' (hl.tr hb hB) (Nat.le_trans hB hb.size)
    rw [hy] at h
    exact h
  cases y
  case false =>
    clear hT hy
    go_enter Tryz.func8, Tryz.ntmps8
    go_wp2_with (first | (go_at_call 21; (with_reducible refine (HMy.out _ ?_).mono ?_); exact (by repeat (first | with_reducible exact Below.refl _ _ | with_reducible assumption | with_reducible refine al ?_ _ | with_reducible refine Below.drew ?_ | with_reducible refine Below.setCell ?_ (by first | (simp; done) | (simp; omega)) _ | with_reducible refine tr ?_ (by with_reducible assumption))); rintro e w1 ⟨rfl, hb1⟩; obtain ⟨hc1, hf1⟩ := bcell hb1; have hz1 := hb1.size; (try simp at hz1); have hy0 : w.heap.size < w1.heap.size := (by omega); have hy1 : w.heap.size + 1 < w1.heap.size := (by omega); have hy2 : w.heap.size + 1 + 1 < w1.heap.size := (by omega)) | (go_at_call 10; refine (awake_true _ (HT.out.tr (by repeat (first | with_reducible exact Below.refl _ _ | with_reducible assumption | with_reducible refine al ?_ _ | with_reducible refine Below.drew ?_ | with_reducible refine Below.setCell ?_ (by first | (simp; done) | (simp; omega)) _ | with_reducible refine tr ?_ (by with_reducible assumption))))).mono ?_; rintro e w1 ⟨rfl, hb1⟩; obtain ⟨hc1, hf1⟩ := bcell hb1; have hz1 := hb1.size; (try simp at hz1); have hy0 : w.heap.size < w1.heap.size := (by omega); have hy1 : w.heap.size + 1 < w1.heap.size := (by omega); have hy2 : w.heap.size + 1 + 1 < w1.heap.size := (by omega)))
    go_ret
    exact ⟨rfl, (by repeat (first | with_reducible exact Below.refl _ _ | with_reducible assumption | with_reducible refine al ?_ _ | with_reducible refine Below.drew ?_ | with_reducible refine Below.setCell ?_ (by first | (simp; done) | (simp; omega)) _ | with_reducible refine tr ?_ (by with_reducible assumption)))⟩
  have hy2 : n ≤ 64 ∧ ckOb ⟨k, l⟩ = 0 := by simpa using hy
  obtain ⟨hn64, ho⟩ := hy2
  have hn : n ≤ 1000000 := by omega
  obtain ⟨q, hq⟩ : ∃ q : Bool, okPt ⟨px, py⟩ = q := ⟨_, rfl⟩
  have HPt : Hid (∀ w', Below w.heap.size w w' → Calls Tryz.prog 20 #[.agg #[.int .i64 px, .int .i64 py]] w' (Ret w' (.bool q))) := fun w' hb => by
    have h := rpoint_any px py w'
    rw [hq] at h
    exact h
  cases q
  case false =>
    clear hT hy ho hq
    go_enter Tryz.func8, Tryz.ntmps8
    go_wp2_with (first | (go_at_call 21; (with_reducible refine (HMy.out _ ?_).mono ?_); exact (by repeat (first | with_reducible exact Below.refl _ _ | with_reducible assumption | with_reducible refine al ?_ _ | with_reducible refine Below.drew ?_ | with_reducible refine Below.setCell ?_ (by first | (simp; done) | (simp; omega)) _ | with_reducible refine tr ?_ (by with_reducible assumption))); rintro e w1 ⟨rfl, hb1⟩; obtain ⟨hc1, hf1⟩ := bcell hb1; have hz1 := hb1.size; (try simp at hz1); have hy0 : w.heap.size < w1.heap.size := (by omega); have hy1 : w.heap.size + 1 < w1.heap.size := (by omega); have hy2 : w.heap.size + 1 + 1 < w1.heap.size := (by omega)) | (go_at_call 20; (with_reducible refine (HPt.out _ ?_).mono ?_); exact (by repeat (first | with_reducible exact Below.refl _ _ | with_reducible assumption | with_reducible refine al ?_ _ | with_reducible refine Below.drew ?_ | with_reducible refine Below.setCell ?_ (by first | (simp; done) | (simp; omega)) _ | with_reducible refine tr ?_ (by with_reducible assumption))); rintro e wp ⟨rfl, hbp⟩; obtain ⟨hcp, hfp⟩ := bcell hbp; have hzp := hbp.size; (try simp at hzp); have hyp0 : w.heap.size < wp.heap.size := (by omega); have hyp1 : w.heap.size + 1 < wp.heap.size := (by omega); have hyp2 : w.heap.size + 1 + 1 < wp.heap.size := (by omega)) | (go_at_call 10; refine (awake_true _ (HT.out.tr (by repeat (first | with_reducible exact Below.refl _ _ | with_reducible assumption | with_reducible refine al ?_ _ | with_reducible refine Below.drew ?_ | with_reducible refine Below.setCell ?_ (by first | (simp; done) | (simp; omega)) _ | with_reducible refine tr ?_ (by with_reducible assumption))))).mono ?_; rintro e w1 ⟨rfl, hb1⟩; obtain ⟨hc1, hf1⟩ := bcell hb1; have hz1 := hb1.size; (try simp at hz1); have hy0 : w.heap.size < w1.heap.size := (by omega); have hy1 : w.heap.size + 1 < w1.heap.size := (by omega); have hy2 : w.heap.size + 1 + 1 < w1.heap.size := (by omega)))
    go_ret
    exact ⟨rfl, (by repeat (first | with_reducible exact Below.refl _ _ | with_reducible assumption | with_reducible refine al ?_ _ | with_reducible refine Below.drew ?_ | with_reducible refine Below.setCell ?_ (by first | (simp; done) | (simp; omega)) _ | with_reducible refine tr ?_ (by with_reducible assumption)))⟩
  obtain ⟨ck, hck⟩ : ∃ ck, ckBox ⟨⟨ra, rb⟩, ⟨rc, rd⟩⟩ = ck := ⟨_, rfl⟩
  have HCk : Hid (∀ w', Below w.heap.size w w' → Calls Tryz.prog 29 #[.agg #[.int .i64 ra, .int .i64 rb, .int .i64 rc, .int .i64 rd]] w' (Ret w' (.int .i64 ck))) := fun w' hb => by
    have h := rcheckBox_any ra rb rc rd w'
    rw [hck] at h
    exact h
  by_cases hz : ck = 0
  case neg =>
    have hz1 : ((ck : Int) != 0) = true := by rw [bne_iff_ne]; omega
    clear hT hy ho hq hck hz
    go_enter Tryz.func8, Tryz.ntmps8
    go_wp2_with (first | (go_at_call 21; (with_reducible refine (HMy.out _ ?_).mono ?_); exact (by repeat (first | with_reducible exact Below.refl _ _ | with_reducible assumption | with_reducible refine al ?_ _ | with_reducible refine Below.drew ?_ | with_reducible refine Below.setCell ?_ (by first | (simp; done) | (simp; omega)) _ | with_reducible refine tr ?_ (by with_reducible assumption))); rintro e w1 ⟨rfl, hb1⟩; obtain ⟨hc1, hf1⟩ := bcell hb1; have hz1 := hb1.size; (try simp at hz1); have hy0 : w.heap.size < w1.heap.size := (by omega); have hy1 : w.heap.size + 1 < w1.heap.size := (by omega); have hy2 : w.heap.size + 1 + 1 < w1.heap.size := (by omega)) | (go_at_call 20; (with_reducible refine (HPt.out _ ?_).mono ?_); exact (by repeat (first | with_reducible exact Below.refl _ _ | with_reducible assumption | with_reducible refine al ?_ _ | with_reducible refine Below.drew ?_ | with_reducible refine Below.setCell ?_ (by first | (simp; done) | (simp; omega)) _ | with_reducible refine tr ?_ (by with_reducible assumption))); rintro e wp ⟨rfl, hbp⟩; obtain ⟨hcp, hfp⟩ := bcell hbp; have hzp := hbp.size; (try simp at hzp); have hyp0 : w.heap.size < wp.heap.size := (by omega); have hyp1 : w.heap.size + 1 < wp.heap.size := (by omega); have hyp2 : w.heap.size + 1 + 1 < wp.heap.size := (by omega)) | (go_at_call 29; (with_reducible refine (HCk.out _ ?_).mono ?_); exact (by repeat (first | with_reducible exact Below.refl _ _ | with_reducible assumption | with_reducible refine al ?_ _ | with_reducible refine Below.drew ?_ | with_reducible refine Below.setCell ?_ (by first | (simp; done) | (simp; omega)) _ | with_reducible refine tr ?_ (by with_reducible assumption))); rintro e wc ⟨rfl, hbc⟩; obtain ⟨hcc, hfc⟩ := bcell hbc; have hzc := hbc.size; (try simp at hzc); have hyc0 : w.heap.size < wc.heap.size := (by omega); have hyc1 : w.heap.size + 1 < wc.heap.size := (by omega); have hyc2 : w.heap.size + 1 + 1 < wc.heap.size := (by omega)) | (go_at_call 10; refine (awake_true _ (HT.out.tr (by repeat (first | with_reducible exact Below.refl _ _ | with_reducible assumption | with_reducible refine al ?_ _ | with_reducible refine Below.drew ?_ | with_reducible refine Below.setCell ?_ (by first | (simp; done) | (simp; omega)) _ | with_reducible refine tr ?_ (by with_reducible assumption))))).mono ?_; rintro e w1 ⟨rfl, hb1⟩; obtain ⟨hc1, hf1⟩ := bcell hb1; have hz1 := hb1.size; (try simp at hz1); have hy0 : w.heap.size < w1.heap.size := (by omega); have hy1 : w.heap.size + 1 < w1.heap.size := (by omega); have hy2 : w.heap.size + 1 + 1 < w1.heap.size := (by omega)))
    go_ret
    exact ⟨rfl, (by repeat (first | with_reducible exact Below.refl _ _ | with_reducible assumption | with_reducible refine al ?_ _ | with_reducible refine Below.drew ?_ | with_reducible refine Below.setCell ?_ (by first | (simp; done) | (simp; omega)) _ | with_reducible refine tr ?_ (by with_reducible assumption)))⟩
  subst hz
  have hr : okBx ⟨⟨ra, rb⟩, ⟨rc, rd⟩⟩ = true := okBx_ck hck
  have hX := bounds_okBx ho
  have hbF := bxF_ok hX hq
  obtain ⟨h, eh⟩ : ∃ h : Bool, matchS ⟨k, l⟩ ⟨3, ⟨⟨px, py⟩, ⟨0, 0⟩⟩, []⟩ = h := ⟨_, rfl⟩
  obtain ⟨i, ei⟩ : ∃ h : Bool, matchS ⟨k, l⟩ ⟨2, ⟨⟨ra, rb⟩, ⟨rc, rd⟩⟩, []⟩ = h := ⟨_, rfl⟩
  obtain ⟨m, em⟩ : ∃ h : Bool, matchS ⟨k, l⟩ ⟨1, ⟨⟨ra, rb⟩, ⟨rc, rd⟩⟩, []⟩ = h := ⟨_, rfl⟩
  obtain ⟨s, es⟩ : ∃ h : Bool, bhas ⟨⟨ra, rb⟩, ⟨rc, rd⟩⟩ ⟨px, py⟩ = h := ⟨_, rfl⟩
  have him : i = true → m = true := fun e => by subst e; rw [← em]; exact in_meets ho hck ei
  have hsm : h = true → s = true → m = true := fun e e' => by subst e e'; rw [← em]; exact has_meets ho hq hck eh es
  have hle := box_near ho hq
  have h0 := zero_has (p := ⟨px, py⟩) (q := ⟨0, 0⟩) (l := []) ho hq
  rw [eh] at h0
  have hdk := distF_ok ho hq
  have hin := match_in (l := []) ho hck
  rw [ei] at hin
  have hbm := meets_bounds (o := ⟨k, l⟩) ho hck
  rw [em] at hbm
  have H1 : Hid (∀ w', Below w.heap.size w w' → Calls Tryz.prog 17 #[.agg #[.int .i64 k, .slice A n c], .agg #[.int .i64 3, .int .i64 px, .int .i64 py, .int .i64 0, .int .i64 0, .slice none 0 0]] w' (Ret w' (.bool h))) := fun w' hb => by
    have h := match_any B n c 0 0 k 3 ⟨⟨px, py⟩, ⟨0, 0⟩⟩ A none l [] w' (hl.tr hb hB) ptsNil (Nat.le_trans hB hb.size) hn (by decide)
    rw [eh] at h
    exact h
  have H2 : Hid (∀ w', Below w.heap.size w w' → Calls Tryz.prog 17 #[.agg #[.int .i64 k, .slice A n c], .agg #[.int .i64 2, .int .i64 ra, .int .i64 rb, .int .i64 rc, .int .i64 rd, .slice none 0 0]] w' (Ret w' (.bool i))) := fun w' hb => by
    have h := match_any B n c 0 0 k 2 ⟨⟨ra, rb⟩, ⟨rc, rd⟩⟩ A none l [] w' (hl.tr hb hB) ptsNil (Nat.le_trans hB hb.size) hn (by decide)
    rw [ei] at h
    exact h
  have H3 : Hid (∀ w', Below w.heap.size w w' → Calls Tryz.prog 17 #[.agg #[.int .i64 k, .slice A n c], .agg #[.int .i64 1, .int .i64 ra, .int .i64 rb, .int .i64 rc, .int .i64 rd, .slice none 0 0]] w' (Ret w' (.bool m))) := fun w' hb => by
    have h := match_any B n c 0 0 k 1 ⟨⟨ra, rb⟩, ⟨rc, rd⟩⟩ A none l [] w' (hl.tr hb hB) ptsNil (Nat.le_trans hB hb.size) hn (by decide)
    rw [em] at h
    exact h
  obtain ⟨D, eD⟩ : ∃ D, distF ⟨k, l⟩ ⟨px, py⟩ = D := ⟨_, rfl⟩
  obtain ⟨X, eX⟩ : ∃ X, boundsS ⟨k, l⟩ = X := ⟨_, rfl⟩
  rw [eD] at h0 hle hdk
  rw [eX] at hX hbF hle hin hbm
  obtain ⟨f1, f0, fd, ef⟩ := fcs_ex (⟨boxN X ⟨px, py⟩, 1⟩ : Fr)
  have hDc : ∃ d1 d0 dd : Nat, fcs D = [.int .u64 d1, .int .u64 d0, .int .u64 dd] ∧ (((h = true ∧ (d1 : Int) = 0 ∧ (d0 : Int) = 0 ∧ (dd : Int) = 1) ∨ (h = false ∧ ¬ (d1 : Int) = 0) ∨ (h = false ∧ (d1 : Int) = 0 ∧ ¬ (d0 : Int) = 0) ∨ (h = false ∧ (d1 : Int) = 0 ∧ (d0 : Int) = 0 ∧ ¬ (dd : Int) = 1))) := by
    obtain ⟨num, den⟩ := D
    refine ⟨num / 18446744073709551616, num % 18446744073709551616, den, rfl, ?_⟩
    have hb1 := hdk.1
    simp only at hb1
    cases h
    · have h1 : ¬ ((⟨num, den⟩ : Fr) = ⟨0, 1⟩) := fun e => by rw [decide_eq_true e] at h0; cases h0
      have h2 : ¬ (num = 0 ∧ den = 1) := fun e => h1 (by rw [e.1, e.2])
      by_cases c1 : ((num / 18446744073709551616 : Nat) : Int) = 0
      · by_cases c2 : ((num % 18446744073709551616 : Nat) : Int) = 0
        · refine .inr (.inr (.inr ⟨rfl, c1, c2, fun c3 => h2 ⟨by omega, by omega⟩⟩))
        · exact .inr (.inr (.inl ⟨rfl, c1, c2⟩))
      · exact .inr (.inl ⟨rfl, c1⟩)
    · have h1 : (⟨num, den⟩ : Fr) = ⟨0, 1⟩ := of_decide_eq_true h0
      injection h1 with h2 h3
      subst h2 h3
      exact .inl ⟨rfl, by simp, by simp, by simp⟩
  obtain ⟨d1, d0, dd, ed, hD⟩ := hDc
  refine relZero_core A n c k px py ra rb rc rd X.lo.x X.lo.y X.hi.x X.hi.y (cmpF ⟨boxN X ⟨px, py⟩, 1⟩ D) d1 d0 dd f1 f0 fd h i m s w hT HMy HPt HCk H1 H2 H3 (fun w' hb => ?_) (fun w' hb => ?_) (fun w' hb => ?_) (fun hm1 w' hb => ?_) (fun w' hb => ?_) (fun w' hb => ?_) (fun w' hb => ?_) (fun w' hb => ?_) (fun w' hb => ?_) hle him hsm hD
  · have h := Bounds_ok B n c k A l w' (hl.tr hb hB) (Nat.le_trans hB hb.size) hn ho
    rw [eX] at h
    exact h
  · have h := relDist_any B n c k A l px py w' (hl.tr hb hB) (Nat.le_trans hB hb.size) hn
    rw [eD, fV_fcs, ed] at h
    exact h
  · have h := rboxInside_any X.lo.x X.lo.y X.hi.x X.hi.y ra rb rc rd w'
    rw [hin]
    exact h
  · have h := rboxMeets_any X.lo.x X.lo.y X.hi.x X.hi.y ra rb rc rd w'
    rw [show bmeets ⟨⟨X.lo.x, X.lo.y⟩, ⟨X.hi.x, X.hi.y⟩⟩ ⟨⟨ra, rb⟩, ⟨rc, rd⟩⟩ = true from hbm hm1] at h
    exact h
  · have h := rboxHas_any ra rb rc rd px py w'
    rw [es] at h
    exact h
  · have h := touch_any B n c n c k k A A l l w' (hl.tr hb hB) (hl.tr hb hB) (Nat.le_trans hB hb.size) hn hn
    rw [touch_self ho] at h
    exact h
  · have h := same_any B n c n c k k A A l l w' (hl.tr hb hB) (hl.tr hb hB) (Nat.le_trans hB hb.size) hn
    rw [show sameS k k l l = true by unfold sameS; rw [decide_eq_true rfl, ptsEq_refl]; rfl] at h
    exact h
  · have h := rboxDist_any X.lo.x X.lo.y X.hi.x X.hi.y px py w'
    rw [show bxF ⟨⟨X.lo.x, X.lo.y⟩, ⟨X.hi.x, X.hi.y⟩⟩ ⟨px, py⟩ = ⟨boxN X ⟨px, py⟩, 1⟩ from hbF.1, fV_fcs, ef] at h
    exact h
  · have h := rCmpD_any ⟨boxN X ⟨px, py⟩, 1⟩ D hbF.2 hdk w'
    rw [fV_fcs, fV_fcs, ef, ed] at h
    exact h
end Go.Proofs.YtknidfiokmghjaaGreatDoor