/-
  Contracts of the references of chapter 6: Touch, Rings.
-/
import Derived.Test.YtknidfiokmghjaaGreatDoorRefC
import Derived.Test.YtknidfiokmghjaaGreatDoorRefB
set_option linter.unusedSimpArgs false
set_option linter.unusedVariables false
namespace Go.Proofs.YtknidfiokmghjaaGreatDoor
open Go.RowKit Pg

theorem isBox_of {k : Int} {l : List Pt} (ho : ckOb ⟨k, l⟩ = 0) (hk : ¬ k = 4) : isBox ⟨k, l⟩ = true := by
  rcases bounds_k ho with h | h | h | h
  · subst h; rfl
  · subst h; rfl
  · subst h; rfl
  · exact absurd h hk
theorem bounds_of {k : Int} {l : List Pt} (ho : ckOb ⟨k, l⟩ = 0) (hk : ¬ k = 4) : boundsS ⟨k, l⟩ = obBox ⟨k, l⟩ := by
  unfold boundsS
  rw [isBox_of ho hk]
  rfl
theorem ring_of4 {l : List Pt} (ho : ckOb ⟨4, l⟩ = 0) : ckRing l = 0 := (ck_lens ho).2.2.2 rfl
theorem touch_no1 {a b : Ob} (h : ckOb a ≠ 0) : touchS a b = false := by unfold touchS; rw [decide_eq_false h]; rfl
theorem touch_no2 {a b : Ob} (h : ckOb b ≠ 0) : touchS a b = false := by unfold touchS; rw [decide_eq_false h, Bool.and_false]; rfl
theorem touch_yes {a b : Ob} (h : ckOb a = 0) (h' : ckOb b = 0) : touchS a b = meetsO a b := by unfold touchS; rw [decide_eq_true h, decide_eq_true h']; rfl
theorem touch_44 {l l' : List Pt} (ho : ckOb ⟨4, l⟩ = 0) (hq : ckOb ⟨4, l'⟩ = 0) : touchS ⟨4, l⟩ ⟨4, l'⟩ = ringsR l l' := by
  rw [touch_yes ho hq, ← ringsS_eq (ring_of4 ho) (ring_of4 hq)]
  rfl
theorem touch_4b {k : Int} {l l' : List Pt} (ho : ckOb ⟨4, l⟩ = 0) (hq : ckOb ⟨k, l'⟩ = 0) (hk : ¬ k = 4) : touchS ⟨4, l⟩ ⟨k, l'⟩ = ringBoxR l (boundsS ⟨k, l'⟩) := by
  rw [touch_yes ho hq, ← cutS_eq (ring_of4 ho) (bounds_okBx hq), bounds_of hq hk]
  unfold meetsO
  rw [isBox_of hq hk]
  rfl
theorem touch_b4 {k : Int} {l l' : List Pt} (ho : ckOb ⟨k, l⟩ = 0) (hq : ckOb ⟨4, l'⟩ = 0) (hk : ¬ k = 4) : touchS ⟨k, l⟩ ⟨4, l'⟩ = ringBoxR l' (boundsS ⟨k, l⟩) := by
  rw [touch_yes ho hq, ← cutS_eq (ring_of4 hq) (bounds_okBx ho), bounds_of ho hk]
  unfold meetsO
  rw [isBox_of ho hk]
  rfl
theorem touch_bb {k k' : Int} {l l' : List Pt} (ho : ckOb ⟨k, l⟩ = 0) (hq : ckOb ⟨k', l'⟩ = 0) (hk : ¬ k = 4) (hk' : ¬ k' = 4) : touchS ⟨k, l⟩ ⟨k', l'⟩ = bmeets (boundsS ⟨k, l⟩) (boundsS ⟨k', l'⟩) := by
  rw [touch_yes ho hq, bounds_of ho hk, bounds_of hq hk']
  unfold meetsO
  rw [isBox_of ho hk, isBox_of hq hk']
  rfl

set_option maxHeartbeats 4000000 in
set_option maxRecDepth 20000 in
theorem rTouch_any (B n c n' c' : Nat) (k k' : Int) (A A' : Option Addr) (l l' : List Pt) (w : World) (hl : PtsAt w B A n l) (hl' : PtsAt w B A' n' l') (hB : B ≤ w.heap.size) (hn : n ≤ 1000000) (hn' : n' ≤ 1000000) :
    Calls Tryz.prog 12 #[obV k A n c, obV k' A' n' c'] w (Ret w (.bool (touchS ⟨k, l⟩ ⟨k', l'⟩))) := by
  by_cases ho : ckOb ⟨k, l⟩ = 0
  case neg =>
    have HF : Hid (touchS ⟨k, l⟩ ⟨k', l'⟩ = false) := touch_no1 ho
    obtain ⟨m, hm⟩ : ∃ m : Nat, ckOb ⟨k, l⟩ = m := ⟨_, rfl⟩
    have hm0 : ((m : Int) != 0) = true := by rw [bne_iff_ne]; omega
    have HA := Lib.hid (fun w (h : PtsAt w B A n l) (hB : B ≤ w.heap.size) => rBounds_bad B n c k A l w h hB hn ho)
    rw [hm] at HA
    obtain ⟨Y, m', HB⟩ : ∃ (Y : Bx) (m' : Nat), Hid (∀ w, PtsAt w B A' n' l' → B ≤ w.heap.size → Calls Tryz.prog 25 #[obV k' A' n' c'] w (Ret w (.tuple #[bxW Y, .int .i64 m']))) := by
      by_cases hq : ckOb ⟨k', l'⟩ = 0
      · exact ⟨_, 0, fun w h hB => rBounds_ok B n' c' k' A' l' w h hB hn' hq⟩
      · exact ⟨_, _, fun w h hB => rBounds_bad B n' c' k' A' l' w h hB hn' hq⟩
    clear ho hm
    go_enter Tryz.func12, Tryz.ntmps12
    go_wp2_with (first | (go_at_call 25; have _hz := hza; refine (HB.out _ (hl'.tr (by repeat (first | with_reducible exact Below.refl _ _ | with_reducible assumption | with_reducible refine al ?_ _ | with_reducible refine Below.drew ?_ | with_reducible refine Below.setCell ?_ (by first | (simp; done) | (simp; omega)) _ | with_reducible refine tr ?_ (by with_reducible assumption))) hB) (Nat.le_trans hB (Below.size (B := w.heap.size) (w := w) (by repeat (first | with_reducible exact Below.refl _ _ | with_reducible assumption | with_reducible refine al ?_ _ | with_reducible refine Below.drew ?_ | with_reducible refine Below.setCell ?_ (by first | (simp; done) | (simp; omega)) _ | with_reducible refine tr ?_ (by with_reducible assumption)))))).mono ?_; rintro e w1 ⟨rfl, hb1⟩; obtain ⟨hc1, hf1⟩ := bcell hb1; have hz1 := hb1.size; (try simp at hz1)) | (go_at_call 25; refine (HA.out _ (hl.tr (by repeat (first | with_reducible exact Below.refl _ _ | with_reducible assumption | with_reducible refine al ?_ _ | with_reducible refine Below.drew ?_ | with_reducible refine Below.setCell ?_ (by first | (simp; done) | (simp; omega)) _ | with_reducible refine tr ?_ (by with_reducible assumption))) hB) (Nat.le_trans hB (Below.size (B := w.heap.size) (w := w) (by repeat (first | with_reducible exact Below.refl _ _ | with_reducible assumption | with_reducible refine al ?_ _ | with_reducible refine Below.drew ?_ | with_reducible refine Below.setCell ?_ (by first | (simp; done) | (simp; omega)) _ | with_reducible refine tr ?_ (by with_reducible assumption)))))).mono ?_; rintro e wa ⟨rfl, hba⟩; obtain ⟨hca, hfa⟩ := bcell hba; have hza := hba.size; (try simp at hza); have hy0 : w.heap.size < wa.heap.size := (by omega); have hy1 : w.heap.size + 1 < wa.heap.size := (by omega)))
    go_ret
    exact ⟨ret_bool HF.out.symm, (by repeat (first | with_reducible exact Below.refl _ _ | with_reducible assumption | with_reducible refine al ?_ _ | with_reducible refine Below.drew ?_ | with_reducible refine Below.setCell ?_ (by first | (simp; done) | (simp; omega)) _ | with_reducible refine tr ?_ (by with_reducible assumption)))⟩
  have HA := Lib.hid (fun w (h : PtsAt w B A n l) (hB : B ≤ w.heap.size) => rBounds_ok B n c k A l w h hB hn ho)
  by_cases hq : ckOb ⟨k', l'⟩ = 0
  case neg =>
    have HF : Hid (touchS ⟨k, l⟩ ⟨k', l'⟩ = false) := touch_no2 hq
    obtain ⟨m, hm⟩ : ∃ m : Nat, ckOb ⟨k', l'⟩ = m := ⟨_, rfl⟩
    have hm0 : ((m : Int) != 0) = true := by rw [bne_iff_ne]; omega
    have HB := Lib.hid (fun w (h : PtsAt w B A' n' l') (hB : B ≤ w.heap.size) => rBounds_bad B n' c' k' A' l' w h hB hn' hq)
    rw [hm] at HB
    obtain ⟨X, hX⟩ : ∃ X, boundsS ⟨k, l⟩ = X := ⟨_, rfl⟩
    rw [hX] at HA
    clear ho hq hm hX
    go_enter Tryz.func12, Tryz.ntmps12
    go_wp2_with (first | (go_at_call 25; have _hz := hza; refine (HB.out _ (hl'.tr (by repeat (first | with_reducible exact Below.refl _ _ | with_reducible assumption | with_reducible refine al ?_ _ | with_reducible refine Below.drew ?_ | with_reducible refine Below.setCell ?_ (by first | (simp; done) | (simp; omega)) _ | with_reducible refine tr ?_ (by with_reducible assumption))) hB) (Nat.le_trans hB (Below.size (B := w.heap.size) (w := w) (by repeat (first | with_reducible exact Below.refl _ _ | with_reducible assumption | with_reducible refine al ?_ _ | with_reducible refine Below.drew ?_ | with_reducible refine Below.setCell ?_ (by first | (simp; done) | (simp; omega)) _ | with_reducible refine tr ?_ (by with_reducible assumption)))))).mono ?_; rintro e w1 ⟨rfl, hb1⟩; obtain ⟨hc1, hf1⟩ := bcell hb1; have hz1 := hb1.size; (try simp at hz1)) | (go_at_call 25; refine (HA.out _ (hl.tr (by repeat (first | with_reducible exact Below.refl _ _ | with_reducible assumption | with_reducible refine al ?_ _ | with_reducible refine Below.drew ?_ | with_reducible refine Below.setCell ?_ (by first | (simp; done) | (simp; omega)) _ | with_reducible refine tr ?_ (by with_reducible assumption))) hB) (Nat.le_trans hB (Below.size (B := w.heap.size) (w := w) (by repeat (first | with_reducible exact Below.refl _ _ | with_reducible assumption | with_reducible refine al ?_ _ | with_reducible refine Below.drew ?_ | with_reducible refine Below.setCell ?_ (by first | (simp; done) | (simp; omega)) _ | with_reducible refine tr ?_ (by with_reducible assumption)))))).mono ?_; rintro e wa ⟨rfl, hba⟩; obtain ⟨hca, hfa⟩ := bcell hba; have hza := hba.size; (try simp at hza); have hy0 : w.heap.size < wa.heap.size := (by omega); have hy1 : w.heap.size + 1 < wa.heap.size := (by omega)))
    go_ret
    exact ⟨ret_bool HF.out.symm, (by repeat (first | with_reducible exact Below.refl _ _ | with_reducible assumption | with_reducible refine al ?_ _ | with_reducible refine Below.drew ?_ | with_reducible refine Below.setCell ?_ (by first | (simp; done) | (simp; omega)) _ | with_reducible refine tr ?_ (by with_reducible assumption)))⟩
  have HB := Lib.hid (fun w (h : PtsAt w B A' n' l') (hB : B ≤ w.heap.size) => rBounds_ok B n' c' k' A' l' w h hB hn' hq)
  by_cases hk : k = 4
  · subst hk
    by_cases hk' : k' = 4
    · subst hk'
      have HF : Hid (touchS ⟨4, l⟩ ⟨4, l'⟩ = ringsR l l') := touch_44 ho hq
      have g1 : 1 ≤ n := by have := ck_len (ring_of4 ho); rw [hl.1] at this; omega
      have g2 : 1 ≤ n' := by have := ck_len (ring_of4 hq); rw [hl'.1] at this; omega
      have HR := Lib.hid (fun w (h : PtsAt w B A n l) (h' : PtsAt w B A' n' l') (hB : B ≤ w.heap.size) => rrings_any B n c n' c' A A' l l' w h h' hB hn hn' g1 g2)
      obtain ⟨X, hX⟩ : ∃ X, boundsS ⟨4, l⟩ = X := ⟨_, rfl⟩
      rw [hX] at HA
      obtain ⟨Y, hY⟩ : ∃ X, boundsS ⟨4, l'⟩ = X := ⟨_, rfl⟩
      rw [hY] at HB
      clear ho hq hX hY
      go_enter Tryz.func12, Tryz.ntmps12
      go_wp2_with (first | (go_at_call 25; have _hz := hza; refine (HB.out _ (hl'.tr (by repeat (first | with_reducible exact Below.refl _ _ | with_reducible assumption | with_reducible refine al ?_ _ | with_reducible refine Below.drew ?_ | with_reducible refine Below.setCell ?_ (by first | (simp; done) | (simp; omega)) _ | with_reducible refine tr ?_ (by with_reducible assumption))) hB) (Nat.le_trans hB (Below.size (B := w.heap.size) (w := w) (by repeat (first | with_reducible exact Below.refl _ _ | with_reducible assumption | with_reducible refine al ?_ _ | with_reducible refine Below.drew ?_ | with_reducible refine Below.setCell ?_ (by first | (simp; done) | (simp; omega)) _ | with_reducible refine tr ?_ (by with_reducible assumption)))))).mono ?_; rintro e w1 ⟨rfl, hb1⟩; obtain ⟨hc1, hf1⟩ := bcell hb1; have hz1 := hb1.size; (try simp at hz1); have hy0 : w.heap.size < w1.heap.size := (by omega); have hy1 : w.heap.size + 1 < w1.heap.size := (by omega); have hya : wa.heap.size < w1.heap.size := (by omega)) | (go_at_call 25; refine (HA.out _ (hl.tr (by repeat (first | with_reducible exact Below.refl _ _ | with_reducible assumption | with_reducible refine al ?_ _ | with_reducible refine Below.drew ?_ | with_reducible refine Below.setCell ?_ (by first | (simp; done) | (simp; omega)) _ | with_reducible refine tr ?_ (by with_reducible assumption))) hB) (Nat.le_trans hB (Below.size (B := w.heap.size) (w := w) (by repeat (first | with_reducible exact Below.refl _ _ | with_reducible assumption | with_reducible refine al ?_ _ | with_reducible refine Below.drew ?_ | with_reducible refine Below.setCell ?_ (by first | (simp; done) | (simp; omega)) _ | with_reducible refine tr ?_ (by with_reducible assumption)))))).mono ?_; rintro e wa ⟨rfl, hba⟩; obtain ⟨hca, hfa⟩ := bcell hba; have hza := hba.size; (try simp at hza); have hy0 : w.heap.size < wa.heap.size := (by omega); have hy1 : w.heap.size + 1 < wa.heap.size := (by omega)) | (go_at_call 39; refine (HR.out _ (hl.tr (by repeat (first | with_reducible exact Below.refl _ _ | with_reducible assumption | with_reducible refine al ?_ _ | with_reducible refine Below.drew ?_ | with_reducible refine Below.setCell ?_ (by first | (simp; done) | (simp; omega)) _ | with_reducible refine tr ?_ (by with_reducible assumption))) hB) (hl'.tr (by repeat (first | with_reducible exact Below.refl _ _ | with_reducible assumption | with_reducible refine al ?_ _ | with_reducible refine Below.drew ?_ | with_reducible refine Below.setCell ?_ (by first | (simp; done) | (simp; omega)) _ | with_reducible refine tr ?_ (by with_reducible assumption))) hB) (Nat.le_trans hB (Below.size (B := w.heap.size) (w := w) (by repeat (first | with_reducible exact Below.refl _ _ | with_reducible assumption | with_reducible refine al ?_ _ | with_reducible refine Below.drew ?_ | with_reducible refine Below.setCell ?_ (by first | (simp; done) | (simp; omega)) _ | with_reducible refine tr ?_ (by with_reducible assumption)))))).mono ?_; rintro e w2 ⟨rfl, hb2⟩))
      go_ret
      exact ⟨ret_bool HF.out.symm, (by repeat (first | with_reducible exact Below.refl _ _ | with_reducible assumption | with_reducible refine al ?_ _ | with_reducible refine Below.drew ?_ | with_reducible refine Below.setCell ?_ (by first | (simp; done) | (simp; omega)) _ | with_reducible refine tr ?_ (by with_reducible assumption)))⟩
    · have HF : Hid (touchS ⟨4, l⟩ ⟨k', l'⟩ = ringBoxR l (boundsS ⟨k', l'⟩)) := touch_4b ho hq hk'
      obtain ⟨X, hX⟩ : ∃ X, boundsS ⟨4, l⟩ = X := ⟨_, rfl⟩
      rw [hX] at HA
      obtain ⟨Y, hY⟩ : ∃ X, boundsS ⟨k', l'⟩ = X := ⟨_, rfl⟩
      rw [hY] at HB HF
      have HR := Lib.hid (fun w (h : PtsAt w B A n l) (hB : B ≤ w.heap.size) => rringBox_any B n c Y A l w h hB hn)
      clear ho hq hX hY
      go_enter Tryz.func12, Tryz.ntmps12
      go_wp2_with (first | (go_at_call 25; have _hz := hza; refine (HB.out _ (hl'.tr (by repeat (first | with_reducible exact Below.refl _ _ | with_reducible assumption | with_reducible refine al ?_ _ | with_reducible refine Below.drew ?_ | with_reducible refine Below.setCell ?_ (by first | (simp; done) | (simp; omega)) _ | with_reducible refine tr ?_ (by with_reducible assumption))) hB) (Nat.le_trans hB (Below.size (B := w.heap.size) (w := w) (by repeat (first | with_reducible exact Below.refl _ _ | with_reducible assumption | with_reducible refine al ?_ _ | with_reducible refine Below.drew ?_ | with_reducible refine Below.setCell ?_ (by first | (simp; done) | (simp; omega)) _ | with_reducible refine tr ?_ (by with_reducible assumption)))))).mono ?_; rintro e w1 ⟨rfl, hb1⟩; obtain ⟨hc1, hf1⟩ := bcell hb1; have hz1 := hb1.size; (try simp at hz1); have hy0 : w.heap.size < w1.heap.size := (by omega); have hy1 : w.heap.size + 1 < w1.heap.size := (by omega); have hya : wa.heap.size < w1.heap.size := (by omega)) | (go_at_call 25; refine (HA.out _ (hl.tr (by repeat (first | with_reducible exact Below.refl _ _ | with_reducible assumption | with_reducible refine al ?_ _ | with_reducible refine Below.drew ?_ | with_reducible refine Below.setCell ?_ (by first | (simp; done) | (simp; omega)) _ | with_reducible refine tr ?_ (by with_reducible assumption))) hB) (Nat.le_trans hB (Below.size (B := w.heap.size) (w := w) (by repeat (first | with_reducible exact Below.refl _ _ | with_reducible assumption | with_reducible refine al ?_ _ | with_reducible refine Below.drew ?_ | with_reducible refine Below.setCell ?_ (by first | (simp; done) | (simp; omega)) _ | with_reducible refine tr ?_ (by with_reducible assumption)))))).mono ?_; rintro e wa ⟨rfl, hba⟩; obtain ⟨hca, hfa⟩ := bcell hba; have hza := hba.size; (try simp at hza); have hy0 : w.heap.size < wa.heap.size := (by omega); have hy1 : w.heap.size + 1 < wa.heap.size := (by omega)) | (go_at_call 40; refine (HR.out _ (hl.tr (by repeat (first | with_reducible exact Below.refl _ _ | with_reducible assumption | with_reducible refine al ?_ _ | with_reducible refine Below.drew ?_ | with_reducible refine Below.setCell ?_ (by first | (simp; done) | (simp; omega)) _ | with_reducible refine tr ?_ (by with_reducible assumption))) hB) (Nat.le_trans hB (Below.size (B := w.heap.size) (w := w) (by repeat (first | with_reducible exact Below.refl _ _ | with_reducible assumption | with_reducible refine al ?_ _ | with_reducible refine Below.drew ?_ | with_reducible refine Below.setCell ?_ (by first | (simp; done) | (simp; omega)) _ | with_reducible refine tr ?_ (by with_reducible assumption)))))).mono ?_; rintro e w2 ⟨rfl, hb2⟩))
      go_ret
      exact ⟨ret_bool HF.out.symm, (by repeat (first | with_reducible exact Below.refl _ _ | with_reducible assumption | with_reducible refine al ?_ _ | with_reducible refine Below.drew ?_ | with_reducible refine Below.setCell ?_ (by first | (simp; done) | (simp; omega)) _ | with_reducible refine tr ?_ (by with_reducible assumption)))⟩
  · by_cases hk' : k' = 4
    · subst hk'
      have HF : Hid (touchS ⟨k, l⟩ ⟨4, l'⟩ = ringBoxR l' (boundsS ⟨k, l⟩)) := touch_b4 ho hq hk
      obtain ⟨X, hX⟩ : ∃ X, boundsS ⟨k, l⟩ = X := ⟨_, rfl⟩
      rw [hX] at HA HF
      obtain ⟨Y, hY⟩ : ∃ X, boundsS ⟨4, l'⟩ = X := ⟨_, rfl⟩
      rw [hY] at HB
      have HR := Lib.hid (fun w (h : PtsAt w B A' n' l') (hB : B ≤ w.heap.size) => rringBox_any B n' c' X A' l' w h hB hn')
      clear ho hq hX hY
      go_enter Tryz.func12, Tryz.ntmps12
      go_wp2_with (first | (go_at_call 25; have _hz := hza; refine (HB.out _ (hl'.tr (by repeat (first | with_reducible exact Below.refl _ _ | with_reducible assumption | with_reducible refine al ?_ _ | with_reducible refine Below.drew ?_ | with_reducible refine Below.setCell ?_ (by first | (simp; done) | (simp; omega)) _ | with_reducible refine tr ?_ (by with_reducible assumption))) hB) (Nat.le_trans hB (Below.size (B := w.heap.size) (w := w) (by repeat (first | with_reducible exact Below.refl _ _ | with_reducible assumption | with_reducible refine al ?_ _ | with_reducible refine Below.drew ?_ | with_reducible refine Below.setCell ?_ (by first | (simp; done) | (simp; omega)) _ | with_reducible refine tr ?_ (by with_reducible assumption)))))).mono ?_; rintro e w1 ⟨rfl, hb1⟩; obtain ⟨hc1, hf1⟩ := bcell hb1; have hz1 := hb1.size; (try simp at hz1); have hy0 : w.heap.size < w1.heap.size := (by omega); have hy1 : w.heap.size + 1 < w1.heap.size := (by omega); have hya : wa.heap.size < w1.heap.size := (by omega)) | (go_at_call 25; refine (HA.out _ (hl.tr (by repeat (first | with_reducible exact Below.refl _ _ | with_reducible assumption | with_reducible refine al ?_ _ | with_reducible refine Below.drew ?_ | with_reducible refine Below.setCell ?_ (by first | (simp; done) | (simp; omega)) _ | with_reducible refine tr ?_ (by with_reducible assumption))) hB) (Nat.le_trans hB (Below.size (B := w.heap.size) (w := w) (by repeat (first | with_reducible exact Below.refl _ _ | with_reducible assumption | with_reducible refine al ?_ _ | with_reducible refine Below.drew ?_ | with_reducible refine Below.setCell ?_ (by first | (simp; done) | (simp; omega)) _ | with_reducible refine tr ?_ (by with_reducible assumption)))))).mono ?_; rintro e wa ⟨rfl, hba⟩; obtain ⟨hca, hfa⟩ := bcell hba; have hza := hba.size; (try simp at hza); have hy0 : w.heap.size < wa.heap.size := (by omega); have hy1 : w.heap.size + 1 < wa.heap.size := (by omega)) | (go_at_call 40; refine (HR.out _ (hl'.tr (by repeat (first | with_reducible exact Below.refl _ _ | with_reducible assumption | with_reducible refine al ?_ _ | with_reducible refine Below.drew ?_ | with_reducible refine Below.setCell ?_ (by first | (simp; done) | (simp; omega)) _ | with_reducible refine tr ?_ (by with_reducible assumption))) hB) (Nat.le_trans hB (Below.size (B := w.heap.size) (w := w) (by repeat (first | with_reducible exact Below.refl _ _ | with_reducible assumption | with_reducible refine al ?_ _ | with_reducible refine Below.drew ?_ | with_reducible refine Below.setCell ?_ (by first | (simp; done) | (simp; omega)) _ | with_reducible refine tr ?_ (by with_reducible assumption)))))).mono ?_; rintro e w2 ⟨rfl, hb2⟩))
      go_ret
      exact ⟨ret_bool HF.out.symm, (by repeat (first | with_reducible exact Below.refl _ _ | with_reducible assumption | with_reducible refine al ?_ _ | with_reducible refine Below.drew ?_ | with_reducible refine Below.setCell ?_ (by first | (simp; done) | (simp; omega)) _ | with_reducible refine tr ?_ (by with_reducible assumption)))⟩
    · have HF : Hid (touchS ⟨k, l⟩ ⟨k', l'⟩ = bmeets (boundsS ⟨k, l⟩) (boundsS ⟨k', l'⟩)) := touch_bb ho hq hk hk'
      obtain ⟨X, hX⟩ : ∃ X, boundsS ⟨k, l⟩ = X := ⟨_, rfl⟩
      rw [hX] at HA HF
      obtain ⟨Y, hY⟩ : ∃ X, boundsS ⟨k', l'⟩ = X := ⟨_, rfl⟩
      rw [hY] at HB HF
      have HR := Lib.hid (fun w => rboxMeets_any X.lo.x X.lo.y X.hi.x X.hi.y Y.lo.x Y.lo.y Y.hi.x Y.hi.y w)
      clear ho hq hX hY
      go_enter Tryz.func12, Tryz.ntmps12
      go_wp2_with (first | (go_at_call 25; have _hz := hza; refine (HB.out _ (hl'.tr (by repeat (first | with_reducible exact Below.refl _ _ | with_reducible assumption | with_reducible refine al ?_ _ | with_reducible refine Below.drew ?_ | with_reducible refine Below.setCell ?_ (by first | (simp; done) | (simp; omega)) _ | with_reducible refine tr ?_ (by with_reducible assumption))) hB) (Nat.le_trans hB (Below.size (B := w.heap.size) (w := w) (by repeat (first | with_reducible exact Below.refl _ _ | with_reducible assumption | with_reducible refine al ?_ _ | with_reducible refine Below.drew ?_ | with_reducible refine Below.setCell ?_ (by first | (simp; done) | (simp; omega)) _ | with_reducible refine tr ?_ (by with_reducible assumption)))))).mono ?_; rintro e w1 ⟨rfl, hb1⟩; obtain ⟨hc1, hf1⟩ := bcell hb1; have hz1 := hb1.size; (try simp at hz1); have hy0 : w.heap.size < w1.heap.size := (by omega); have hy1 : w.heap.size + 1 < w1.heap.size := (by omega); have hya : wa.heap.size < w1.heap.size := (by omega)) | (go_at_call 25; refine (HA.out _ (hl.tr (by repeat (first | with_reducible exact Below.refl _ _ | with_reducible assumption | with_reducible refine al ?_ _ | with_reducible refine Below.drew ?_ | with_reducible refine Below.setCell ?_ (by first | (simp; done) | (simp; omega)) _ | with_reducible refine tr ?_ (by with_reducible assumption))) hB) (Nat.le_trans hB (Below.size (B := w.heap.size) (w := w) (by repeat (first | with_reducible exact Below.refl _ _ | with_reducible assumption | with_reducible refine al ?_ _ | with_reducible refine Below.drew ?_ | with_reducible refine Below.setCell ?_ (by first | (simp; done) | (simp; omega)) _ | with_reducible refine tr ?_ (by with_reducible assumption)))))).mono ?_; rintro e wa ⟨rfl, hba⟩; obtain ⟨hca, hfa⟩ := bcell hba; have hza := hba.size; (try simp at hza); have hy0 : w.heap.size < wa.heap.size := (by omega); have hy1 : w.heap.size + 1 < wa.heap.size := (by omega)) | (go_at_call 31; refine (HR.out _).mono ?_; rintro e w2 ⟨rfl, hb2⟩))
      go_ret
      exact ⟨ret_bool HF.out.symm, (by repeat (first | with_reducible exact Below.refl _ _ | with_reducible assumption | with_reducible refine al ?_ _ | with_reducible refine Below.drew ?_ | with_reducible refine Below.setCell ?_ (by first | (simp; done) | (simp; omega)) _ | with_reducible refine tr ?_ (by with_reducible assumption)))⟩

set_option maxHeartbeats 2000000 in
theorem rRings_any (B n c n' c' : Nat) (A A' : Option Addr) (l l' : List Pt) (w : World) (hl : PtsAt w B A n l) (hl' : PtsAt w B A' n' l') (hB : B ≤ w.heap.size) (hn : n ≤ 1000000) (hn' : n' ≤ 1000000) :
    Calls Tryz.prog 16 #[.slice A n c, .slice A' n' c'] w (Ret w (.bool (ringsT l l'))) := by
  obtain ⟨m, hm⟩ : ∃ m : Nat, ckRing l = m := ⟨_, rfl⟩
  obtain ⟨m', hm'⟩ : ∃ m : Nat, ckRing l' = m := ⟨_, rfl⟩
  have HA := Lib.hid (fun w (h : PtsAt w B A n l) (hB : B ≤ w.heap.size) => rcheckRing_any B n c A l w h hB hn)
  have HB := Lib.hid (fun w (h : PtsAt w B A' n' l') (hB : B ≤ w.heap.size) => rcheckRing_any B n' c' A' l' w h hB hn')
  rw [← ckRing_eq, hm] at HA
  rw [← ckRing_eq, hm'] at HB
  by_cases ho : m = 0
  · by_cases hq : m' = 0
    · subst ho hq
      have HF : Hid (ringsT l l' = ringsR l l') := by unfold Hid ringsT; rw [decide_eq_true hm, decide_eq_true hm']; rfl
      have g1 : 1 ≤ n := by have := ck_len hm; rw [hl.1] at this; omega
      have g2 : 1 ≤ n' := by have := ck_len hm'; rw [hl'.1] at this; omega
      have HR := Lib.hid (fun w (h : PtsAt w B A n l) (h' : PtsAt w B A' n' l') (hB : B ≤ w.heap.size) => rrings_any B n c n' c' A A' l l' w h h' hB hn hn' g1 g2)
      clear hm hm'
      go_enter Tryz.func16, Tryz.ntmps16
      go_wp2_with (first | (go_at_call 45; have _hz := hza; refine (HB.out _ (hl'.tr (by repeat (first | with_reducible exact Below.refl _ _ | with_reducible assumption | with_reducible refine al ?_ _ | with_reducible refine Below.drew ?_ | with_reducible refine Below.setCell ?_ (by first | (simp; done) | (simp; omega)) _ | with_reducible refine tr ?_ (by with_reducible assumption))) hB) (Nat.le_trans hB (Below.size (B := w.heap.size) (w := w) (by repeat (first | with_reducible exact Below.refl _ _ | with_reducible assumption | with_reducible refine al ?_ _ | with_reducible refine Below.drew ?_ | with_reducible refine Below.setCell ?_ (by first | (simp; done) | (simp; omega)) _ | with_reducible refine tr ?_ (by with_reducible assumption)))))).mono ?_; rintro e w1 ⟨id1, rfl, hb1⟩; obtain ⟨hc1, hf1⟩ := bcell hb1; have hz1 := hb1.size; (try simp at hz1)) | (go_at_call 45; refine (HA.out _ (hl.tr (by repeat (first | with_reducible exact Below.refl _ _ | with_reducible assumption | with_reducible refine al ?_ _ | with_reducible refine Below.drew ?_ | with_reducible refine Below.setCell ?_ (by first | (simp; done) | (simp; omega)) _ | with_reducible refine tr ?_ (by with_reducible assumption))) hB) (Nat.le_trans hB (Below.size (B := w.heap.size) (w := w) (by repeat (first | with_reducible exact Below.refl _ _ | with_reducible assumption | with_reducible refine al ?_ _ | with_reducible refine Below.drew ?_ | with_reducible refine Below.setCell ?_ (by first | (simp; done) | (simp; omega)) _ | with_reducible refine tr ?_ (by with_reducible assumption)))))).mono ?_; rintro e wa ⟨ida, rfl, hba⟩; obtain ⟨hca, hfa⟩ := bcell hba; have hza := hba.size; (try simp at hza)) | (go_at_call 39; refine (HR.out _ (hl.tr (by repeat (first | with_reducible exact Below.refl _ _ | with_reducible assumption | with_reducible refine al ?_ _ | with_reducible refine Below.drew ?_ | with_reducible refine Below.setCell ?_ (by first | (simp; done) | (simp; omega)) _ | with_reducible refine tr ?_ (by with_reducible assumption))) hB) (hl'.tr (by repeat (first | with_reducible exact Below.refl _ _ | with_reducible assumption | with_reducible refine al ?_ _ | with_reducible refine Below.drew ?_ | with_reducible refine Below.setCell ?_ (by first | (simp; done) | (simp; omega)) _ | with_reducible refine tr ?_ (by with_reducible assumption))) hB) (Nat.le_trans hB (Below.size (B := w.heap.size) (w := w) (by repeat (first | with_reducible exact Below.refl _ _ | with_reducible assumption | with_reducible refine al ?_ _ | with_reducible refine Below.drew ?_ | with_reducible refine Below.setCell ?_ (by first | (simp; done) | (simp; omega)) _ | with_reducible refine tr ?_ (by with_reducible assumption)))))).mono ?_; rintro e w2 ⟨rfl, hb2⟩))
      go_ret
      exact ⟨ret_bool HF.out.symm, (by repeat (first | with_reducible exact Below.refl _ _ | with_reducible assumption | with_reducible refine al ?_ _ | with_reducible refine Below.drew ?_ | with_reducible refine Below.setCell ?_ (by first | (simp; done) | (simp; omega)) _ | with_reducible refine tr ?_ (by with_reducible assumption)))⟩
    · subst ho
      have hz : ((m' : Int) == 0) = false := by rw [beq_eq_false_iff_ne]; omega
      have HF : Hid (ringsT l l' = false) := rings_one (.inr (by omega))
      clear hm hm' hq
      go_enter Tryz.func16, Tryz.ntmps16
      go_wp2_with (first | (go_at_call 45; have _hz := hza; refine (HB.out _ (hl'.tr (by repeat (first | with_reducible exact Below.refl _ _ | with_reducible assumption | with_reducible refine al ?_ _ | with_reducible refine Below.drew ?_ | with_reducible refine Below.setCell ?_ (by first | (simp; done) | (simp; omega)) _ | with_reducible refine tr ?_ (by with_reducible assumption))) hB) (Nat.le_trans hB (Below.size (B := w.heap.size) (w := w) (by repeat (first | with_reducible exact Below.refl _ _ | with_reducible assumption | with_reducible refine al ?_ _ | with_reducible refine Below.drew ?_ | with_reducible refine Below.setCell ?_ (by first | (simp; done) | (simp; omega)) _ | with_reducible refine tr ?_ (by with_reducible assumption)))))).mono ?_; rintro e w1 ⟨id1, rfl, hb1⟩; obtain ⟨hc1, hf1⟩ := bcell hb1; have hz1 := hb1.size; (try simp at hz1)) | (go_at_call 45; refine (HA.out _ (hl.tr (by repeat (first | with_reducible exact Below.refl _ _ | with_reducible assumption | with_reducible refine al ?_ _ | with_reducible refine Below.drew ?_ | with_reducible refine Below.setCell ?_ (by first | (simp; done) | (simp; omega)) _ | with_reducible refine tr ?_ (by with_reducible assumption))) hB) (Nat.le_trans hB (Below.size (B := w.heap.size) (w := w) (by repeat (first | with_reducible exact Below.refl _ _ | with_reducible assumption | with_reducible refine al ?_ _ | with_reducible refine Below.drew ?_ | with_reducible refine Below.setCell ?_ (by first | (simp; done) | (simp; omega)) _ | with_reducible refine tr ?_ (by with_reducible assumption)))))).mono ?_; rintro e wa ⟨ida, rfl, hba⟩; obtain ⟨hca, hfa⟩ := bcell hba; have hza := hba.size; (try simp at hza)))
      go_ret
      exact ⟨ret_bool HF.out.symm, (by repeat (first | with_reducible exact Below.refl _ _ | with_reducible assumption | with_reducible refine al ?_ _ | with_reducible refine Below.drew ?_ | with_reducible refine Below.setCell ?_ (by first | (simp; done) | (simp; omega)) _ | with_reducible refine tr ?_ (by with_reducible assumption)))⟩
  · have hz : ((m : Int) == 0) = false := by rw [beq_eq_false_iff_ne]; omega
    have HF : Hid (ringsT l l' = false) := rings_one (.inl (by omega))
    clear hm hm' ho
    go_enter Tryz.func16, Tryz.ntmps16
    go_wp2_with (first | (go_at_call 45; have _hz := hza; refine (HB.out _ (hl'.tr (by repeat (first | with_reducible exact Below.refl _ _ | with_reducible assumption | with_reducible refine al ?_ _ | with_reducible refine Below.drew ?_ | with_reducible refine Below.setCell ?_ (by first | (simp; done) | (simp; omega)) _ | with_reducible refine tr ?_ (by with_reducible assumption))) hB) (Nat.le_trans hB (Below.size (B := w.heap.size) (w := w) (by repeat (first | with_reducible exact Below.refl _ _ | with_reducible assumption | with_reducible refine al ?_ _ | with_reducible refine Below.drew ?_ | with_reducible refine Below.setCell ?_ (by first | (simp; done) | (simp; omega)) _ | with_reducible refine tr ?_ (by with_reducible assumption)))))).mono ?_; rintro e w1 ⟨id1, rfl, hb1⟩; obtain ⟨hc1, hf1⟩ := bcell hb1; have hz1 := hb1.size; (try simp at hz1)) | (go_at_call 45; refine (HA.out _ (hl.tr (by repeat (first | with_reducible exact Below.refl _ _ | with_reducible assumption | with_reducible refine al ?_ _ | with_reducible refine Below.drew ?_ | with_reducible refine Below.setCell ?_ (by first | (simp; done) | (simp; omega)) _ | with_reducible refine tr ?_ (by with_reducible assumption))) hB) (Nat.le_trans hB (Below.size (B := w.heap.size) (w := w) (by repeat (first | with_reducible exact Below.refl _ _ | with_reducible assumption | with_reducible refine al ?_ _ | with_reducible refine Below.drew ?_ | with_reducible refine Below.setCell ?_ (by first | (simp; done) | (simp; omega)) _ | with_reducible refine tr ?_ (by with_reducible assumption)))))).mono ?_; rintro e wa ⟨ida, rfl, hba⟩; obtain ⟨hca, hfa⟩ := bcell hba; have hza := hba.size; (try simp at hza)))
    go_ret
    exact ⟨ret_bool HF.out.symm, (by repeat (first | with_reducible exact Below.refl _ _ | with_reducible assumption | with_reducible refine al ?_ _ | with_reducible refine Below.drew ?_ | with_reducible refine Below.setCell ?_ (by first | (simp; done) | (simp; omega)) _ | with_reducible refine tr ?_ (by with_reducible assumption)))⟩
end Go.Proofs.YtknidfiokmghjaaGreatDoor
