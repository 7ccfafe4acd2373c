/-
  Contracts of package rel: rings.
-/
import Derived.Test.YtmaogalgganhgaaGreatDoorRel3
set_option linter.unusedSimpArgs false
set_option linter.unusedVariables false
namespace Go.Proofs.YtmaogalgganhgaaGreatDoor
open Go.RowKit Pg

theorem crossAny_t {a b : List Pt} {i k : Nat} (hi : i < a.length) (hk : k < b.length) (h : meetS (pt a i) (nx a i) (pt b k) (nx b k) = true) : crossAny a b = true :=
  any_range_true _ (fun i => (List.range b.length).any fun k => meetS (pt a i) (nx a i) (pt b k) (nx b k)) i hi (any_range_true _ (fun k => meetS (pt a i) (nx a i) (pt b k) (nx b k)) k hk h)
theorem crossAny_f {a b : List Pt} (h : ∀ i, i < a.length → ∀ k, k < b.length → meetS (pt a i) (nx a i) (pt b k) (nx b k) = false) : crossAny a b = false :=
  any_range_false _ _ fun i hi => any_range_false _ _ fun k hk => h i hi k hk

set_option maxHeartbeats 2000000 in
set_option maxRecDepth 20000 in
theorem rings_ok (B n c n' c' : Nat) (A A' : Option Addr) (l l' : List Pt) (w : World) (hl : PtsAt w B A n l) (hl' : PtsAt w B A' n' l') (hB : B ≤ w.heap.size) (hck : ckRing l = 0) (hck' : ckRing l' = 0) :
    Calls Tryz.prog 100 #[.slice A n c, .slice A' n' c'] w (Ret w (.bool (ringsS l l'))) := by
  have h3 : 3 ≤ n ∧ n ≤ 64 := by have := ck_len hck; rw [hl.1] at this; exact this
  have h3' : 3 ≤ n' ∧ n' ≤ 64 := by have := ck_len hck'; rw [hl'.1] at this; exact this
  have HC := Lib.hid hck
  have HC' := Lib.hid hck'
  clear hck hck'
  cases hm : bmeets ⟨⟨(ringBx l).lo.x, (ringBx l).lo.y⟩, ⟨(ringBx l).hi.x, (ringBx l).hi.y⟩⟩ ⟨⟨(ringBx l').lo.x, (ringBx l').lo.y⟩, ⟨(ringBx l').hi.x, (ringBx l').hi.y⟩⟩
  · have HM := Lib.hid hm
    clear hm
    have HF : Hid (ringsS l l' = false) := by unfold Hid ringsS; rw [show bmeets (ringBx l) (ringBx l') = false from HM.out]; rfl
    go_enter Tryz.func100, Tryz.ntmps100
    go_wp2_with (first | (go_at_call 103; have _hz := hz1; refine (ringBox_ok B n' c' A' l' _ (hl'.tr (by repeat (first | with_reducible exact Below.refl _ _ | with_reducible assumption | with_reducible refine al ?_ _ | with_reducible refine Below.drew ?_ | with_reducible refine Below.setCell ?_ (by first | (simp; done) | (simp; omega)) _ | with_reducible refine tr ?_ (by with_reducible assumption))) hB) (Nat.le_trans hB (Below.size (B := w.heap.size) (w := w) (by repeat (first | with_reducible exact Below.refl _ _ | with_reducible assumption | with_reducible refine al ?_ _ | with_reducible refine Below.drew ?_ | with_reducible refine Below.setCell ?_ (by first | (simp; done) | (simp; omega)) _ | with_reducible refine tr ?_ (by with_reducible assumption))))) HC'.out).mono ?_; rintro e w2 ⟨rfl, hb2⟩; obtain ⟨hc2, hf2⟩ := bcell hb2; have hz2 := hb2.size; (try simp at hz2); have hy2 : w1.heap.size < w2.heap.size := (by omega)) | (go_at_call 103; refine (ringBox_ok B n c A l _ (hl.tr (by repeat (first | with_reducible exact Below.refl _ _ | with_reducible assumption | with_reducible refine al ?_ _ | with_reducible refine Below.drew ?_ | with_reducible refine Below.setCell ?_ (by first | (simp; done) | (simp; omega)) _ | with_reducible refine tr ?_ (by with_reducible assumption))) hB) (Nat.le_trans hB (Below.size (B := w.heap.size) (w := w) (by repeat (first | with_reducible exact Below.refl _ _ | with_reducible assumption | with_reducible refine al ?_ _ | with_reducible refine Below.drew ?_ | with_reducible refine Below.setCell ?_ (by first | (simp; done) | (simp; omega)) _ | with_reducible refine tr ?_ (by with_reducible assumption))))) HC.out).mono ?_; rintro e w1 ⟨rfl, hb1⟩; obtain ⟨hc1, hf1⟩ := bcell hb1; have hz1 := hb1.size; (try simp at hz1)) | (go_at_call 98; refine (meets_any _ _ _ _ _ _ _ _ _).mono ?_; rw [HM.out]; rintro e w1 ⟨rfl, hb1⟩; obtain ⟨hc1, hf1⟩ := bcell hb1; have hz1 := hb1.size; (try simp at hz1)))
    go_ret
    exact ⟨ret_bool HF.out.symm, (by repeat (first | with_reducible exact Below.refl _ _ | with_reducible assumption | with_reducible refine al ?_ _ | with_reducible refine Below.drew ?_ | with_reducible refine Below.setCell ?_ (by first | (simp; done) | (simp; omega)) _ | with_reducible refine tr ?_ (by with_reducible assumption)))⟩
  · have HM := Lib.hid hm
    clear hm
    have HF : Hid (ringsS l l' = (crossAny l l' || (rhas l (pt l' 0) || rhas l' (pt l 0)))) := by unfold Hid ringsS; rw [show bmeets (ringBx l) (ringBx l') = true from HM.out]; rfl
    go_enter Tryz.func100, Tryz.ntmps100
    go_wp2_with (first | (go_at_call 103; have _hz := hz1; refine (ringBox_ok B n' c' A' l' _ (hl'.tr (by repeat (first | with_reducible exact Below.refl _ _ | with_reducible assumption | with_reducible refine al ?_ _ | with_reducible refine Below.drew ?_ | with_reducible refine Below.setCell ?_ (by first | (simp; done) | (simp; omega)) _ | with_reducible refine tr ?_ (by with_reducible assumption))) hB) (Nat.le_trans hB (Below.size (B := w.heap.size) (w := w) (by repeat (first | with_reducible exact Below.refl _ _ | with_reducible assumption | with_reducible refine al ?_ _ | with_reducible refine Below.drew ?_ | with_reducible refine Below.setCell ?_ (by first | (simp; done) | (simp; omega)) _ | with_reducible refine tr ?_ (by with_reducible assumption))))) HC'.out).mono ?_; rintro e w2 ⟨rfl, hb2⟩; obtain ⟨hc2, hf2⟩ := bcell hb2; have hz2 := hb2.size; (try simp at hz2); have hy2 : w1.heap.size < w2.heap.size := (by omega)) | (go_at_call 103; refine (ringBox_ok B n c A l _ (hl.tr (by repeat (first | with_reducible exact Below.refl _ _ | with_reducible assumption | with_reducible refine al ?_ _ | with_reducible refine Below.drew ?_ | with_reducible refine Below.setCell ?_ (by first | (simp; done) | (simp; omega)) _ | with_reducible refine tr ?_ (by with_reducible assumption))) hB) (Nat.le_trans hB (Below.size (B := w.heap.size) (w := w) (by repeat (first | with_reducible exact Below.refl _ _ | with_reducible assumption | with_reducible refine al ?_ _ | with_reducible refine Below.drew ?_ | with_reducible refine Below.setCell ?_ (by first | (simp; done) | (simp; omega)) _ | with_reducible refine tr ?_ (by with_reducible assumption))))) HC.out).mono ?_; rintro e w1 ⟨rfl, hb1⟩; obtain ⟨hc1, hf1⟩ := bcell hb1; have hz1 := hb1.size; (try simp at hz1)) | (go_at_call 98; refine (meets_any _ _ _ _ _ _ _ _ _).mono ?_; rw [HM.out]; rintro e w1 ⟨rfl, hb1⟩; obtain ⟨hc1, hf1⟩ := bcell hb1; have hz1 := hb1.size; (try simp at hz1)))
    have hb0 : Below w.heap.size w w1 := (by repeat (first | with_reducible exact Below.refl _ _ | with_reducible assumption | with_reducible refine al ?_ _ | with_reducible refine Below.drew ?_ | with_reducible refine Below.setCell ?_ (by first | (simp; done) | (simp; omega)) _ | with_reducible refine tr ?_ (by with_reducible assumption)))
    clear hb1 hc1 hf1 hb2 hc2 hf2 _hz hz1
    have hd1 : decide ((1 : Int) ≤ 0) = false := rfl
    go_loopw [29] (fun i wr => ∃ k : Nat, k ≤ n ∧ i = .int .i64 k ∧ Hid (∀ j, j < k → ∀ m, m < n' → meetS (pt l j) (nx l j) (pt l' m) (nx l' m) = false) ∧ Below w.heap.size w wr) (fun i _ => n - (intOf i).toNat)
    case atStart => exact ⟨0, Nat.zero_le _, rfl, fun j hj => by omega, hb0⟩
    case round =>
      obtain ⟨k, hk, rfl, hno, hb⟩ := hrel
      by_cases hlt : k < n
      · obtain ⟨b, off, rfl, hab, c0, c1⟩ := (hl.below (hb.mono hB)).at_ hlt
        have hbs := hb.size
        have hbw : b < wr.heap.size := by omega
        have hk0 : (k : Int) < (n : Int) := by omega
        obtain ⟨wo, hwo⟩ : ∃ wo : World, wo = wr := ⟨_, rfl⟩
        subst hwo
        go_wp2
        go_loopw [36] (fun i wr => ∃ m : Nat, m ≤ n' ∧ i = .int .i64 m ∧ Hid (∀ j, j < m → meetS (pt l k) (nx l k) (pt l' j) (nx l' j) = false) ∧ Blk wr wo.heap.size 26 #[.int .i64 (pt l k).x, .int .i64 (pt l k).y] ∧ Below w.heap.size w wr) (fun i _ => n' - (intOf i).toNat)
        case atStart => exact ⟨0, Nat.zero_le _, rfl, fun j hj => by omega, Blk.new rfl rfl, (by repeat (first | with_reducible exact Below.refl _ _ | with_reducible assumption | with_reducible refine al ?_ _ | with_reducible refine Below.drew ?_ | with_reducible refine Below.setCell ?_ (by first | (simp; done) | (simp; omega)) _ | with_reducible refine tr ?_ (by with_reducible assumption)))⟩
        case round =>
          obtain ⟨q, hq, rfl, hnq, hP, hb3⟩ := hrel
          by_cases hqt : q < n'
          · obtain ⟨b', off', rfl, hab', d0, d1⟩ := (hl'.below (hb3.mono hB)).at_ hqt
            obtain ⟨c2, c3⟩ := nx_of (hl.below (hb3.mono hB)) hlt
            obtain ⟨d2, d3⟩ := nx_of (hl'.below (hb3.mono hB)) hqt
            have hPl := hP.lt
            have hPc := hP.cell
            have hbs3 := hb3.size
            have hbw0 : b < wr.heap.size := by omega
            have hbw1 : b < wr.heap.size + 1 := by omega
            have hbw2 : b' < wr.heap.size := by omega
            have hbw3 : b' < wr.heap.size + 1 := by omega
            have hpw1 : wo.heap.size < wr.heap.size + 1 := by omega
            have hq0 : (q : Int) < (n' : Int) := by omega
            obtain ⟨m, hm, hwr, htm, hml⟩ := step_of hlt (by omega)
            rw [hm] at c2 c3
            clear hm
            obtain ⟨m', hm', hwr', htm', hml'⟩ := step_of hqt (by omega)
            rw [hm'] at d2 d3
            clear hm'
            have hn0 : ¬ n = 0 := by omega
            have hn0' : ¬ n' = 0 := by omega
            have hml0 : (m : Int) < (n : Int) := by omega
            have hml0' : (m' : Int) < (n' : Int) := by omega
            go_wp2_with fail
            refine wp_region_belowI (by kernel_rfl) (by kernel_rfl) (fun _ _ d _ _ h => by cases d <;> exact h) ?_
            simp only [List.map_cons, List.map_nil, List.getD_cons_zero, List.getD_cons_succ, bare, gslot, List.getElem?_cons_zero, List.getElem?_cons_succ, Option.bind_some]
            repeat' ((try simp only [Act.put, List.setIfInBounds_toArray, List.set_cons_zero, List.set_cons_succ]); first | (refine lexL_quiet (v := ?_) wantB_none rfl ?_ ?_; rotate_left; focus (intro wq hq; obtain ⟨hcq, hfq⟩ := bcell hq; go_simp; try with_reducible rfl)) | (refine lexL_loud wantB_none rfl (fun K hK => ?_); go_simp; ((first | (go_at_call 142; refine (meet_any _ _ _ _ _ _ _ _ _).mono ?_; rintro e w1 ⟨rfl, hb1⟩; obtain ⟨hc1, hf1⟩ := bcell hb1; have hz1 := hb1.size; (try simp at hz1)) | skip) <;> (refine hK.out _ _ (by repeat (first | with_reducible exact Below.refl _ _ | with_reducible assumption | with_reducible refine al ?_ _ | with_reducible refine Below.drew ?_ | with_reducible refine Below.setCell ?_ (by first | (simp; done) | (simp; omega)) _ | with_reducible refine tr ?_ (by with_reducible assumption))) ?_; clear hK K))) | (refine lexL_on ?_ ?_; focus (simp only [List.getElem?_toArray, List.getElem?_cons_succ, List.getElem?_cons_zero, Bool.not_true, Bool.not_false]; done)) | (refine lexL_off ?_ ?_ ?_; (focus (simp only [List.getElem?_toArray, List.getElem?_cons_succ, List.getElem?_cons_zero, Bool.not_true, Bool.not_false]; done)); (focus (exact (by repeat (first | with_reducible exact Below.refl _ _ | with_reducible assumption | with_reducible refine al ?_ _ | with_reducible refine Below.drew ?_ | with_reducible refine Below.setCell ?_ (by first | (simp; done) | (simp; omega)) _ | with_reducible refine tr ?_ (by with_reducible assumption)))))) | (refine lexL_splitS (X := ?_) ?_ ?_ (fun hg => ?_) (fun hg => ?_); rotate_left; (focus (simp only [List.getElem?_toArray, List.getElem?_cons_succ, List.getElem?_cons_zero]; with_reducible rfl)); (focus (exact (by repeat (first | with_reducible exact Below.refl _ _ | with_reducible assumption | with_reducible refine al ?_ _ | with_reducible refine Below.drew ?_ | with_reducible refine Below.setCell ?_ (by first | (simp; done) | (simp; omega)) _ | with_reducible refine tr ?_ (by with_reducible assumption))))); all_goals (try simp only [Bool.not_true, Bool.not_false] at hg)))
            (all_goals try simp only [Act.put, List.setIfInBounds_toArray, List.set_cons_zero, List.set_cons_succ]); all_goals (refine lexL_nil ?_)
            go_wp2
            · go_ret
              exact ⟨ret_bool (by rw [HF.out, crossAny_t (i := k) (k := q) (by rw [hl.1]; exact hlt) (by rw [hl'.1]; exact hqt) (by assumption)]; rfl), (by repeat (first | with_reducible exact Below.refl _ _ | with_reducible assumption | with_reducible refine al ?_ _ | with_reducible refine Below.drew ?_ | with_reducible refine Below.setCell ?_ (by first | (simp; done) | (simp; omega)) _ | with_reducible refine tr ?_ (by with_reducible assumption)))⟩
            · have hf : meetS ⟨(pt l k).x, (pt l k).y⟩ ⟨(nx l k).x, (nx l k).y⟩ ⟨(pt l' q).x, (pt l' q).y⟩ ⟨(nx l' q).x, (nx l' q).y⟩ = false := by first | assumption | (simpa using (by assumption : ¬ meetS ⟨(pt l k).x, (pt l k).y⟩ ⟨(nx l k).x, (nx l k).y⟩ ⟨(pt l' q).x, (pt l' q).y⟩ ⟨(nx l' q).x, (nx l' q).y⟩ = true))
              have HN := Lib.hid hf
              clear hf
              go_roundw
              case rel => exact ⟨q + 1, by omega, by go_num, fun j hj => by
                by_cases e : j = q
                · subst e; exact HN.out
                · exact hnq.out j (by omega), (by repeat (first | with_reducible assumption | with_reducible exact Blk.new (by simp) rfl | with_reducible refine Blk.alloc ?_ _ | with_reducible refine Blk.drew ?_ | with_reducible refine Blk.far ?_ (by simp; omega) _ | with_reducible refine Blk.tr ?_ (by with_reducible assumption))), (by repeat (first | with_reducible exact Below.refl _ _ | with_reducible assumption | with_reducible refine al ?_ _ | with_reducible refine Below.drew ?_ | with_reducible refine Below.setCell ?_ (by first | (simp; done) | (simp; omega)) _ | with_reducible refine tr ?_ (by with_reducible assumption)))⟩
              case measure => simp [intOf]; omega
          · go_wp2
            go_roundw
            case rel => exact ⟨k + 1, by omega, by go_num, fun j hj p hp => by
              by_cases e : j = k
              · subst e; exact hnq.out p (by omega)
              · exact hno.out j (by omega) p hp, (by repeat (first | with_reducible exact Below.refl _ _ | with_reducible assumption | with_reducible refine al ?_ _ | with_reducible refine Below.drew ?_ | with_reducible refine Below.setCell ?_ (by first | (simp; done) | (simp; omega)) _ | with_reducible refine tr ?_ (by with_reducible assumption)))⟩
            case measure => simp [intOf]; omega
      · have HG : Hid (ringsS l l' = (rhas l (pt l' 0) || rhas l' (pt l 0))) := by
          unfold Hid
          rw [HF.out, crossAny_f (fun i hi p hp => hno.out i (by rw [hl.1] at hi; omega) p (by rw [← hl'.1]; exact hp))]
          rfl
        obtain ⟨b, off, rfl, hab, c0, c1⟩ := (hl.below (hb.mono hB)).at_ (k := 0) (by omega)
        obtain ⟨b', off', rfl, hab', d0, d1⟩ := (hl'.below (hb.mono hB)).at_ (k := 0) (by omega)
        simp only [Nat.zero_mul, Nat.add_zero] at c0 c1 d0 d1
        have hbs := hb.size
        have hbw : b < wr.heap.size := by omega
        have hbw' : b' < wr.heap.size := by omega
        have hn1 : 0 < n := by omega
        have hn1' : 0 < n' := by omega
        go_wp2_with (first | (go_at_call 54; have _hz := hza; refine (rhas_any B n' c' _ _ _ l' _ (hl'.tr (by repeat (first | with_reducible exact Below.refl _ _ | with_reducible assumption | with_reducible refine al ?_ _ | with_reducible refine Below.drew ?_ | with_reducible refine Below.setCell ?_ (by first | (simp; done) | (simp; omega)) _ | with_reducible refine tr ?_ (by with_reducible assumption))) hB) (Nat.le_trans hB (Below.size (B := w.heap.size) (w := w) (by repeat (first | with_reducible exact Below.refl _ _ | with_reducible assumption | with_reducible refine al ?_ _ | with_reducible refine Below.drew ?_ | with_reducible refine Below.setCell ?_ (by first | (simp; done) | (simp; omega)) _ | with_reducible refine tr ?_ (by with_reducible assumption))))) (by omega)).mono ?_; rintro e w1 ⟨rfl, hb1⟩; obtain ⟨hc1, hf1⟩ := bcell hb1; have hz1 := hb1.size; (try simp at hz1)) | (go_at_call 54; refine (rhas_any B n c _ _ _ l _ (hl.tr (by repeat (first | with_reducible exact Below.refl _ _ | with_reducible assumption | with_reducible refine al ?_ _ | with_reducible refine Below.drew ?_ | with_reducible refine Below.setCell ?_ (by first | (simp; done) | (simp; omega)) _ | with_reducible refine tr ?_ (by with_reducible assumption))) hB) (Nat.le_trans hB (Below.size (B := w.heap.size) (w := w) (by repeat (first | with_reducible exact Below.refl _ _ | with_reducible assumption | with_reducible refine al ?_ _ | with_reducible refine Below.drew ?_ | with_reducible refine Below.setCell ?_ (by first | (simp; done) | (simp; omega)) _ | with_reducible refine tr ?_ (by with_reducible assumption))))) (by omega)).mono ?_; rintro e wa ⟨rfl, hba⟩; obtain ⟨hca, hfa⟩ := bcell hba; have hza := hba.size; (try simp at hza)))
        all_goals go_ret
        all_goals exact ⟨ret_bool (by rw [HG.out]; first | (rw [show rhas l (pt l' 0) = true by assumption]; rfl) | (rw [show rhas l (pt l' 0) = false from Bool.eq_false_iff.2 (by assumption)]; rfl)), (by repeat (first | with_reducible exact Below.refl _ _ | with_reducible assumption | with_reducible refine al ?_ _ | with_reducible refine Below.drew ?_ | with_reducible refine Below.setCell ?_ (by first | (simp; done) | (simp; omega)) _ | with_reducible refine tr ?_ (by with_reducible assumption)))⟩
end Go.Proofs.YtmaogalgganhgaaGreatDoor
