/-
  The walk of the statement RelTouches.
-/
import Derived.Test.YtknidfiokmghjaaGreatDoorRefD
import Derived.Test.YtknidfiokmghjaaGreatDoorLawChecks
set_option linter.unusedSimpArgs false
set_option linter.unusedVariables false
namespace Go.Proofs.YtknidfiokmghjaaGreatDoor
open Go.RowKit Pg

theorem touch_swap (k k' : Int) (l l' : List Pt) : touchS ⟨k', l'⟩ ⟨k, l⟩ = touchS ⟨k, l⟩ ⟨k', l'⟩ := by
  by_cases ho : ckOb ⟨k, l⟩ = 0
  case neg => rw [touch_no1 ho, touch_no2 ho]
  by_cases hq : ckOb ⟨k', l'⟩ = 0
  case neg => rw [touch_no1 hq, touch_no2 hq]
  by_cases hk : k = 4
  · subst hk
    by_cases hk' : k' = 4
    · subst hk'
      rw [touch_44 ho hq, touch_44 hq ho, ringsR_swap]
    · rw [touch_4b ho hq hk', touch_b4 hq ho hk']
  · by_cases hk' : k' = 4
    · subst hk'
      rw [touch_4b hq ho hk, touch_b4 ho hq hk]
    · rw [touch_bb ho hq hk hk', touch_bb hq ho hk' hk, bmeets_swap]

theorem small_q (k : Int) (A : Option Addr) (n c : Nat) (w : World) :
    Calls Tryz.prog 9 #[.agg #[.int .i64 k, .slice A n c], .agg #[.int .i64 0, .int .i64 0, .int .i64 0, .int .i64 0, .int .i64 0, .slice none 0 0]] w (Ret w (.bool (decide (n ≤ 70)))) := by
  have h := small_any k 0 A none n c 0 0 bzero w
  rw [decide_eq_true (show (0 : Nat) ≤ 70 by decide), Bool.and_true] at h
  exact h

set_option maxHeartbeats 4000000 in
set_option maxRecDepth 20000 in
theorem relTouches_walk (B n c n' c' : Nat) (k k' : Int) (A A' : Option Addr) (l l' : List Pt) (w : World) (hl : PtsAt w B A n l) (hl' : PtsAt w B A' n' l') (hB : B ≤ w.heap.size) (hT : ErrT w) :
    Calls Tryz.prog 3 #[obV k A n c, obV k' A' n' c'] w (Ret w (.bool true)) := by
  have HT := Lib.hid hT
  clear hT
  have HSa := Lib.hid (fun w => small_q k A n c w)
  have HSb := Lib.hid (fun w => small_q k' A' n' c' w)
  by_cases h1 : n ≤ 70
  case neg =>
    rw [decide_eq_false h1] at HSa
    clear h1
    go_enter Tryz.func3, Tryz.ntmps3
    go_wp2_with (first | (go_at_call 9; (with_reducible refine (HSa.out _).mono ?_); rintro e w1 ⟨rfl, hb1⟩; obtain ⟨hc1, hf1⟩ := bcell hb1; have hz1 := hb1.size; (try simp at hz1); have hy0 : w.heap.size < w1.heap.size := (by omega); have hy1 : w.heap.size + 1 < w1.heap.size := (by omega)) | (go_at_call 10; refine (awake_true _ (HT.out.tr (by repeat (first | with_reducible exact Below.refl _ _ | with_reducible assumption | with_reducible refine al ?_ _ | with_reducible refine Below.drew ?_ | with_reducible refine Below.setCell ?_ (by first | (simp; done) | (simp; omega)) _ | with_reducible refine tr ?_ (by with_reducible assumption))))).mono ?_; rintro e w1 ⟨rfl, hb1⟩; obtain ⟨hc1, hf1⟩ := bcell hb1; have hz1 := hb1.size; (try simp at hz1); have hy0 : w.heap.size < w1.heap.size := (by omega); have hy1 : w.heap.size + 1 < w1.heap.size := (by omega)))
    go_ret
    exact ⟨rfl, (by repeat (first | with_reducible exact Below.refl _ _ | with_reducible assumption | with_reducible refine al ?_ _ | with_reducible refine Below.drew ?_ | with_reducible refine Below.setCell ?_ (by first | (simp; done) | (simp; omega)) _ | with_reducible refine tr ?_ (by with_reducible assumption)))⟩
  rw [decide_eq_true h1] at HSa
  by_cases h2 : n' ≤ 70
  case neg =>
    rw [decide_eq_false h2] at HSb
    clear h1 h2
    go_enter Tryz.func3, Tryz.ntmps3
    go_wp2_with (first | (go_at_call 9; (with_reducible refine (HSa.out _).mono ?_); rintro e w1 ⟨rfl, hb1⟩; obtain ⟨hc1, hf1⟩ := bcell hb1; have hz1 := hb1.size; (try simp at hz1); have hy0 : w.heap.size < w1.heap.size := (by omega); have hy1 : w.heap.size + 1 < w1.heap.size := (by omega)) | (go_at_call 9; (with_reducible refine (HSb.out _).mono ?_); rintro e w1 ⟨rfl, hb1⟩; obtain ⟨hc1, hf1⟩ := bcell hb1; have hz1 := hb1.size; (try simp at hz1); have hy0 : w.heap.size < w1.heap.size := (by omega); have hy1 : w.heap.size + 1 < w1.heap.size := (by omega)) | (go_at_call 10; refine (awake_true _ (HT.out.tr (by repeat (first | with_reducible exact Below.refl _ _ | with_reducible assumption | with_reducible refine al ?_ _ | with_reducible refine Below.drew ?_ | with_reducible refine Below.setCell ?_ (by first | (simp; done) | (simp; omega)) _ | with_reducible refine tr ?_ (by with_reducible assumption))))).mono ?_; rintro e w1 ⟨rfl, hb1⟩; obtain ⟨hc1, hf1⟩ := bcell hb1; have hz1 := hb1.size; (try simp at hz1); have hy0 : w.heap.size < w1.heap.size := (by omega); have hy1 : w.heap.size + 1 < w1.heap.size := (by omega)))
    go_ret
    exact ⟨rfl, (by repeat (first | with_reducible exact Below.refl _ _ | with_reducible assumption | with_reducible refine al ?_ _ | with_reducible refine Below.drew ?_ | with_reducible refine Below.setCell ?_ (by first | (simp; done) | (simp; omega)) _ | with_reducible refine tr ?_ (by with_reducible assumption)))⟩
  rw [decide_eq_true h2] at HSb
  have hn : n ≤ 1000000 := by omega
  have hn' : n' ≤ 1000000 := by omega
  clear h1 h2
  obtain ⟨t, ht⟩ : ∃ t : Bool, touchS ⟨k, l⟩ ⟨k', l'⟩ = t := ⟨_, rfl⟩
  obtain ⟨s, hs⟩ : ∃ t : Bool, sameS k k' l l' = t := ⟨_, rfl⟩
  obtain ⟨r, hr⟩ : ∃ t : Bool, ringsT l l' = t := ⟨_, rfl⟩
  have H1 : Hid (∀ w', Below w.heap.size w w' → Calls Tryz.prog 11 #[.agg #[.int .i64 k, .slice A n c], .agg #[.int .i64 k', .slice A' n' c']] w' (Ret w' (.bool t))) := fun w' hb => by
    have h := touch_any B n c n' c' k k' A A' l l' w' (hl.tr hb hB) (hl'.tr hb hB) (Nat.le_trans hB hb.size) hn hn'
    rw [ht] at h
    exact h
  have H2 : Hid (∀ w', Below w.heap.size w w' → Calls Tryz.prog 11 #[.agg #[.int .i64 k', .slice A' n' c'], .agg #[.int .i64 k, .slice A n c]] w' (Ret w' (.bool t))) := fun w' hb => by
    have h := touch_any B n' c' n c k' k A' A l' l w' (hl'.tr hb hB) (hl.tr hb hB) (Nat.le_trans hB hb.size) hn' hn
    rw [touch_swap, ht] at h
    exact h
  have H3 : Hid (∀ w', Below w.heap.size w w' → Calls Tryz.prog 12 #[.agg #[.int .i64 k, .slice A n c], .agg #[.int .i64 k', .slice A' n' c']] w' (Ret w' (.bool t))) := fun w' hb => by
    have h := rTouch_any B n c n' c' k k' A A' l l' w' (hl.tr hb hB) (hl'.tr hb hB) (Nat.le_trans hB hb.size) hn hn'
    rw [ht] at h
    exact h
  have H4 : Hid (∀ w', Below w.heap.size w w' → Calls Tryz.prog 13 #[.agg #[.int .i64 k, .slice A n c], .agg #[.int .i64 k', .slice A' n' c']] w' (Ret w' (.bool s))) := fun w' hb => by
    have h := same_any B n c n' c' k k' A A' l l' w' (hl.tr hb hB) (hl'.tr hb hB) (Nat.le_trans hB hb.size) hn
    rw [hs] at h
    exact h
  have H5 : Hid (∀ w', Below w.heap.size w w' → Calls Tryz.prog 14 #[.agg #[.int .i64 k, .slice A n c], .agg #[.int .i64 k', .slice A' n' c']] w' (Ret w' (.bool s))) := fun w' hb => by
    have h := rsame_any B n c n' c' k k' A A' l l' w' (hl.tr hb hB) (hl'.tr hb hB) (Nat.le_trans hB hb.size) hn
    rw [hs] at h
    exact h
  have H6 : Hid (∀ w', Below w.heap.size w w' → Calls Tryz.prog 15 #[.slice A n c, .slice A' n' c'] w' (Ret w' (.bool r))) := fun w' hb => by
    have h := Rings_any B n c n' c' A A' l l' w' (hl.tr hb hB) (hl'.tr hb hB) (Nat.le_trans hB hb.size) hn hn'
    rw [hr] at h
    exact h
  have H7 : Hid (∀ w', Below w.heap.size w w' → Calls Tryz.prog 16 #[.slice A n c, .slice A' n' c'] w' (Ret w' (.bool r))) := fun w' hb => by
    have h := rRings_any B n c n' c' A A' l l' w' (hl.tr hb hB) (hl'.tr hb hB) (Nat.le_trans hB hb.size) hn hn'
    rw [hr] at h
    exact h
  clear ht hs hr
  go_enter Tryz.func3, Tryz.ntmps3
  go_wp2_with (first | (go_at_call 9; (with_reducible refine (HSa.out _).mono ?_); rintro e w1 ⟨rfl, hb1⟩; obtain ⟨hc1, hf1⟩ := bcell hb1; have hz1 := hb1.size; (try simp at hz1); have hy0 : w.heap.size < w1.heap.size := (by omega); have hy1 : w.heap.size + 1 < w1.heap.size := (by omega)) | (go_at_call 9; (with_reducible refine (HSb.out _).mono ?_); rintro e w1 ⟨rfl, hb1⟩; obtain ⟨hc1, hf1⟩ := bcell hb1; have hz1 := hb1.size; (try simp at hz1); have hy0 : w.heap.size < w1.heap.size := (by omega); have hy1 : w.heap.size + 1 < w1.heap.size := (by omega)))
  refine wp_region_below [0, 1, 3, 4, 2, 5, 6, 7, 8, 9, 11, 12, 10, 13, 14, 15, 16, 17, 18, 20, 21, 19, 22, 23, 24, 25, 26, 27, 28, 29, 31, 32, 33, 34, 30, 35, 36, 37, 38, 39, 40, 41] (by kernel_rfl) (by kernel_rfl) (fun _ _ d _ _ h => by cases d <;> exact h) ?_
  simp only [List.map_cons, List.map_nil, List.getD_cons_zero, List.getD_cons_succ, bare, gslot, List.getElem?_cons_zero, List.getElem?_cons_succ, Option.bind_some]
  repeat' ((try simp only [Act.put, List.setIfInBounds_toArray, List.set_cons_zero, List.set_cons_succ]); first | (refine lexL_quiet (v := ?_) wantB_none rfl ?_ ?_; rotate_left; focus (intro wq hq; obtain ⟨hcq, hfq⟩ := bcell hq; go_simp; try with_reducible rfl)) | (refine lexL_loud wantB_none rfl (fun K hK => ?_); go_simp; ((first | (go_at_call 11; (with_reducible refine (H1.out _ ?_).mono ?_); exact (by repeat (first | with_reducible exact Below.refl _ _ | with_reducible assumption | with_reducible refine al ?_ _ | with_reducible refine Below.drew ?_ | with_reducible refine Below.setCell ?_ (by first | (simp; done) | (simp; omega)) _ | with_reducible refine tr ?_ (by with_reducible assumption))); rintro e w1 ⟨rfl, hb1⟩; obtain ⟨hc1, hf1⟩ := bcell hb1; have hz1 := hb1.size; (try simp at hz1); have hy0 : w.heap.size < w1.heap.size := (by omega); have hy1 : w.heap.size + 1 < w1.heap.size := (by omega)) | (go_at_call 11; (with_reducible refine (H2.out _ ?_).mono ?_); exact (by repeat (first | with_reducible exact Below.refl _ _ | with_reducible assumption | with_reducible refine al ?_ _ | with_reducible refine Below.drew ?_ | with_reducible refine Below.setCell ?_ (by first | (simp; done) | (simp; omega)) _ | with_reducible refine tr ?_ (by with_reducible assumption))); rintro e w1 ⟨rfl, hb1⟩; obtain ⟨hc1, hf1⟩ := bcell hb1; have hz1 := hb1.size; (try simp at hz1); have hy0 : w.heap.size < w1.heap.size := (by omega); have hy1 : w.heap.size + 1 < w1.heap.size := (by omega)) | (go_at_call 12; (with_reducible refine (H3.out _ ?_).mono ?_); exact (by repeat (first | with_reducible exact Below.refl _ _ | with_reducible assumption | with_reducible refine al ?_ _ | with_reducible refine Below.drew ?_ | with_reducible refine Below.setCell ?_ (by first | (simp; done) | (simp; omega)) _ | with_reducible refine tr ?_ (by with_reducible assumption))); rintro e w1 ⟨rfl, hb1⟩; obtain ⟨hc1, hf1⟩ := bcell hb1; have hz1 := hb1.size; (try simp at hz1); have hy0 : w.heap.size < w1.heap.size := (by omega); have hy1 : w.heap.size + 1 < w1.heap.size := (by omega)) | (go_at_call 13; (with_reducible refine (H4.out _ ?_).mono ?_); exact (by repeat (first | with_reducible exact Below.refl _ _ | with_reducible assumption | with_reducible refine al ?_ _ | with_reducible refine Below.drew ?_ | with_reducible refine Below.setCell ?_ (by first | (simp; done) | (simp; omega)) _ | with_reducible refine tr ?_ (by with_reducible assumption))); rintro e w1 ⟨rfl, hb1⟩; obtain ⟨hc1, hf1⟩ := bcell hb1; have hz1 := hb1.size; (try simp at hz1); have hy0 : w.heap.size < w1.heap.size := (by omega); have hy1 : w.heap.size + 1 < w1.heap.size := (by omega)) | (go_at_call 14; (with_reducible refine (H5.out _ ?_).mono ?_); exact (by repeat (first | with_reducible exact Below.refl _ _ | with_reducible assumption | with_reducible refine al ?_ _ | with_reducible refine Below.drew ?_ | with_reducible refine Below.setCell ?_ (by first | (simp; done) | (simp; omega)) _ | with_reducible refine tr ?_ (by with_reducible assumption))); rintro e w1 ⟨rfl, hb1⟩; obtain ⟨hc1, hf1⟩ := bcell hb1; have hz1 := hb1.size; (try simp at hz1); have hy0 : w.heap.size < w1.heap.size := (by omega); have hy1 : w.heap.size + 1 < w1.heap.size := (by omega)) | (go_at_call 15; (with_reducible refine (H6.out _ ?_).mono ?_); exact (by repeat (first | with_reducible exact Below.refl _ _ | with_reducible assumption | with_reducible refine al ?_ _ | with_reducible refine Below.drew ?_ | with_reducible refine Below.setCell ?_ (by first | (simp; done) | (simp; omega)) _ | with_reducible refine tr ?_ (by with_reducible assumption))); rintro e w1 ⟨rfl, hb1⟩; obtain ⟨hc1, hf1⟩ := bcell hb1; have hz1 := hb1.size; (try simp at hz1); have hy0 : w.heap.size < w1.heap.size := (by omega); have hy1 : w.heap.size + 1 < w1.heap.size := (by omega)) | (go_at_call 16; (with_reducible refine (H7.out _ ?_).mono ?_); exact (by repeat (first | with_reducible exact Below.refl _ _ | with_reducible assumption | with_reducible refine al ?_ _ | with_reducible refine Below.drew ?_ | with_reducible refine Below.setCell ?_ (by first | (simp; done) | (simp; omega)) _ | with_reducible refine tr ?_ (by with_reducible assumption))); rintro e w1 ⟨rfl, hb1⟩; obtain ⟨hc1, hf1⟩ := bcell hb1; have hz1 := hb1.size; (try simp at hz1); have hy0 : w.heap.size < w1.heap.size := (by omega); have hy1 : w.heap.size + 1 < w1.heap.size := (by omega)) | (go_at_call 10; refine (awake_true _ (HT.out.tr (by repeat (first | with_reducible exact Below.refl _ _ | with_reducible assumption | with_reducible refine al ?_ _ | with_reducible refine Below.drew ?_ | with_reducible refine Below.setCell ?_ (by first | (simp; done) | (simp; omega)) _ | with_reducible refine tr ?_ (by with_reducible assumption))))).mono ?_; rintro e w1 ⟨rfl, hb1⟩; obtain ⟨hc1, hf1⟩ := bcell hb1; have hz1 := hb1.size; (try simp at hz1); have hy0 : w.heap.size < w1.heap.size := (by omega); have hy1 : w.heap.size + 1 < w1.heap.size := (by omega)) | skip) <;> (refine hK.out _ _ (by repeat (first | with_reducible exact Below.refl _ _ | with_reducible assumption | with_reducible refine al ?_ _ | with_reducible refine Below.drew ?_ | with_reducible refine Below.setCell ?_ (by first | (simp; done) | (simp; omega)) _ | with_reducible refine tr ?_ (by with_reducible assumption))) ?_; clear hK K))) | (refine lexL_on ?_ ?_; focus (simp only [List.getElem?_toArray, List.getElem?_cons_succ, List.getElem?_cons_zero, Bool.not_true, Bool.not_false]; done)) | (refine lexL_off ?_ ?_ ?_; (focus (simp only [List.getElem?_toArray, List.getElem?_cons_succ, List.getElem?_cons_zero, Bool.not_true, Bool.not_false]; done)); (focus (exact (by repeat (first | with_reducible exact Below.refl _ _ | with_reducible assumption | with_reducible refine al ?_ _ | with_reducible refine Below.drew ?_ | with_reducible refine Below.setCell ?_ (by first | (simp; done) | (simp; omega)) _ | with_reducible refine tr ?_ (by with_reducible assumption)))))) | (refine lexL_splitS (X := ?_) ?_ ?_ (fun hg => ?_) (fun hg => ?_); rotate_left; (focus (simp only [List.getElem?_toArray, List.getElem?_cons_succ, List.getElem?_cons_zero]; with_reducible rfl)); (focus (exact (by repeat (first | with_reducible exact Below.refl _ _ | with_reducible assumption | with_reducible refine al ?_ _ | with_reducible refine Below.drew ?_ | with_reducible refine Below.setCell ?_ (by first | (simp; done) | (simp; omega)) _ | with_reducible refine tr ?_ (by with_reducible assumption))))); all_goals (try simp only [Bool.not_true, Bool.not_false] at hg)))
  (all_goals try simp only [Act.put, List.setIfInBounds_toArray, List.set_cons_zero, List.set_cons_succ]); all_goals (refine lexL_nil ?_)
  go_wp2
  go_ret
  exact ⟨rfl, (by repeat (first | with_reducible exact Below.refl _ _ | with_reducible assumption | with_reducible refine al ?_ _ | with_reducible refine Below.drew ?_ | with_reducible refine Below.setCell ?_ (by first | (simp; done) | (simp; omega)) _ | with_reducible refine tr ?_ (by with_reducible assumption)))⟩
end Go.Proofs.YtknidfiokmghjaaGreatDoor
