/-
  Contracts of the references of chapters 5 and 6: CheckRing, Check, CheckQuery.
  Contracts of the references of chapter 6: Check, CheckQuery.
-/
import Derived.Test.YtjdgibpjlhpanaaGreatDoorRef3
set_option linter.unusedSimpArgs false
set_option linter.unusedVariables false
namespace Go.Proofs.YtjdgibpjlhpanaaGreatDoor
open Go.RowKit Pg

/-- two numbers: an error's, and a place -/
def Ret2 (w : World) (k : Nat) : Ending → World → Prop := fun e w' => ∃ id : Int, e = .returned (.tuple #[.int .i64 k, .int .i64 id]) ∧ Below w.heap.size w w'
theorem ret2_of {w w' : World} {k : Nat} {id : Int} (h : Below w.heap.size w w') : Ret2 w k (.returned (.tuple #[.int .i64 k, .int .i64 id])) w' := ⟨id, rfl, h⟩

def badC (l : List Pt) (i j : Nat) : Bool := decide (i < j) && (decide (pt l i = pt l j) || clash l i j)
theorem clashAny_t {l : List Pt} {i k : Nat} (hi : i < l.length) (hk : k < l.length) (h : badC l i k = true) : clashAny l = true :=
  any_range_true _ _ i hi (any_range_true _ _ k hk h)
theorem clashAny_f {l : List Pt} (h : ∀ i, i < l.length → ∀ k, k < l.length → badC l i k = false) : clashAny l = false :=
  any_range_false _ _ fun i hi => any_range_false _ _ fun k hk => h i hi k hk

set_option maxHeartbeats 2000000 in
set_option maxRecDepth 20000 in
theorem rcheckRing_all (B n c : Nat) (A : Option Addr) (l : List Pt) (w : World) (hl : PtsAt w B A n l) (hB : B ≤ w.heap.size) :
    Calls Tryz.prog 44 #[.slice A n c] w (Ret2 w (ckRingR l)) := by
  by_cases hlen : n < 3 ∨ 64 < n
  · have HK : Hid (ckRingR l = 3) := by unfold Hid ckRingR; rw [hl.1, if_pos hlen]
    rcases hlen with h | h
    all_goals
      go_enter Tryz.func44, Tryz.ntmps44
      go_wp2
      go_ret2
      rw [HK.out]
      exact ret2_of (by repeat (first | with_reducible exact Below.refl _ _ | with_reducible assumption | with_reducible refine al ?_ _ | with_reducible refine Below.drew ?_ | with_reducible refine Below.setCell ?_ (by first | (simp; done) | (simp; omega)) _ | with_reducible refine tr ?_ (by with_reducible assumption)))
  · have h3 : 3 ≤ n := by omega
    have h64 : n ≤ 64 := by omega
    have hn : n ≤ 1000000 := by omega
    clear hlen
    have hd3 : decide ((n : Int) < 3) = false := by simp; omega
    have hd64 : decide ((64 : Int) < (n : Int)) = false := by simp; omega
    have HK : Hid (ckRingR l = if l.all okPt then (if clashAny l then 4 else 0) else 2) := by unfold Hid ckRingR; rw [hl.1, if_neg (by omega)]
    go_enter Tryz.func44, Tryz.ntmps44
    go_wp2
    go_loopw [5] (fun i wr => ∃ k : Nat, k ≤ n ∧ i = .int .i64 k ∧ (l.take k).all okPt = true ∧ Below w.heap.size w wr) (fun i _ => n - (intOf i).toNat)
    case atStart => exact ⟨0, Nat.zero_le _, rfl, by simp, Below.refl _ _⟩
    case round =>
      obtain ⟨k, hk, rfl, hall, hb⟩ := hrel
      by_cases hlt : k < n
      · obtain ⟨b, off, rfl, hab, c0, c1⟩ := (hl.below (hb.mono hB)).at_ hlt
        have Hp := Lib.hid (all_take_succ okPt l k _ (pt_of (by rw [hl.1]; exact hlt)))
        have Hf := Lib.hid (all_false_of okPt l k _ (pt_of (by rw [hl.1]; exact hlt)))
        have Ha := Lib.hid hall
        clear hall
        cases hx : okPt (pt l k)
        case true =>
          have HE : Hid (okPt ⟨(pt l k).x, (pt l k).y⟩ = true) := hx
          have Hx := Lib.hid hx
          clear hx
          go_wp2_with (go_at_call 10; refine (rpoint_any _ _ _).mono ?_; rw [HE.out]; rintro e w1 ⟨rfl, hb1⟩; obtain ⟨hc1, hf1⟩ := bcell hb1; have hz1 := hb1.size; (try simp at hz1))
          go_roundw
          case rel => exact ⟨k + 1, by omega, by go_num, by rw [Hp.out, Ha.out, Hx.out]; rfl, (by repeat (first | with_reducible exact Below.refl _ _ | with_reducible assumption | with_reducible refine al ?_ _ | with_reducible refine Below.drew ?_ | with_reducible refine Below.setCell ?_ (by first | (simp; done) | (simp; omega)) _ | with_reducible refine tr ?_ (by with_reducible assumption)))⟩
          case measure => simp [intOf]; omega
        case false =>
          have HE : Hid (okPt ⟨(pt l k).x, (pt l k).y⟩ = false) := hx
          have HK2 : Hid (ckRingR l = 2) := by unfold Hid; rw [HK.out, Hf.out hx]; rfl
          clear hx
          go_wp2_with (go_at_call 10; refine (rpoint_any _ _ _).mono ?_; rw [HE.out]; rintro e w1 ⟨rfl, hb1⟩; obtain ⟨hc1, hf1⟩ := bcell hb1; have hz1 := hb1.size; (try simp at hz1))
          go_ret2
          rw [HK2.out]
          exact ret2_of (by repeat (first | with_reducible exact Below.refl _ _ | with_reducible assumption | with_reducible refine al ?_ _ | with_reducible refine Below.drew ?_ | with_reducible refine Below.setCell ?_ (by first | (simp; done) | (simp; omega)) _ | with_reducible refine tr ?_ (by with_reducible assumption)))
      · have hkn : l.length ≤ k := by rw [hl.1]; omega
        rw [List.take_of_length_le hkn] at hall
        have HK2 : Hid (ckRingR l = if clashAny l then 4 else 0) := by unfold Hid; rw [HK.out, hall]; rfl
        have HA := Lib.hid hall
        clear hall
        obtain ⟨wo, hwo⟩ : ∃ wo : World, wo = wr := ⟨_, rfl⟩
        subst hwo
        go_wp2
        go_loopw [6, 7] (fun i _ wr => ∃ k : Nat, k ≤ n ∧ i = .int .i64 k ∧ Hid (∀ j, j < k → ∀ m, m < n → badC l j m = false) ∧ Below w.heap.size w wr) (fun i _ _ => n - (intOf i).toNat)
        case atStart => exact ⟨0, Nat.zero_le _, rfl, fun j hj => by omega, hb⟩
        case round =>
          obtain ⟨i, hi, rfl, hbad, hb2⟩ := hrel
          by_cases hil : i < n
          · obtain ⟨wp, hwp⟩ : ∃ wp : World, wp = wr := ⟨_, rfl⟩
            subst hwp
            go_wp2
            go_loopw [7] (fun i2 wr => ∃ m : Nat, i < m ∧ m ≤ n ∧ i2 = .int .i64 m ∧ Hid (∀ j, j < m → badC l i j = false) ∧ Below w.heap.size w wr) (fun i2 _ => n - (intOf i2).toNat)
            case atStart => exact ⟨i + 1, by omega, by omega, by go_num, fun j hj => by unfold badC; rw [decide_eq_false (by omega)]; rfl, hb2⟩
            case round =>
              obtain ⟨m, him, hm, rfl, hbm, hb3⟩ := hrel
              by_cases hml : m < n
              · have hB3 : B ≤ wr.heap.size := by have := hb3.size; omega
                obtain ⟨b, off, rfl, hab, c0, c1⟩ := (hl.below (hb3.mono hB)).at_ hil
                obtain ⟨_, _, ho, _, d0, d1⟩ := (hl.below (hb3.mono hB)).at_ hml
                injection ho with ho
                injection ho with ho1 ho2
                subst ho1 ho2
                have hbw : b < wr.heap.size := by omega
                have hil0 : (i : Int) < (n : Int) := by omega
                have hml0 : (m : Int) < (n : Int) := by omega
                by_cases he : pt l i = pt l m
                · have ex : (pt l i).x = (pt l m).x := by rw [he]
                  have ey : (pt l i).y = (pt l m).y := by rw [he]
                  have HK3 : Hid (ckRingR l = 4) := by unfold Hid; rw [HK2.out, clashAny_t (i := i) (k := m) (by rw [hl.1]; exact hil) (by rw [hl.1]; exact hml) (by unfold badC; rw [decide_eq_true him, decide_eq_true he]; rfl)]; rfl
                  have HE := Lib.hid he
                  clear he
                  go_wp2_with fail
                  refine wp_region_belowI (by kernel_rfl) (by kernel_rfl) (fun _ _ d _ _ h => by cases d <;> exact h) ?_
                  simp only [List.map_cons, List.map_nil, List.getD_cons_zero, List.getD_cons_succ, bare, gslot, List.getElem?_cons_zero, List.getElem?_cons_succ, Option.bind_some]
                  repeat' ((try simp only [Act.put, List.setIfInBounds_toArray, List.set_cons_zero, List.set_cons_succ]); first | (refine lexL_quiet (v := ?_) wantB_none rfl ?_ ?_; rotate_left; focus (intro wq hq; obtain ⟨hcq, hfq⟩ := bcell hq; go_simp; try with_reducible rfl)) | (refine lexL_loud wantB_none rfl (fun K hK => ?_); go_simp; ((first | fail | skip) <;> (refine hK.out _ _ (by repeat (first | with_reducible exact Below.refl _ _ | with_reducible assumption | with_reducible refine al ?_ _ | with_reducible refine Below.drew ?_ | with_reducible refine Below.setCell ?_ (by first | (simp; done) | (simp; omega)) _ | with_reducible refine tr ?_ (by with_reducible assumption))) ?_; clear hK K))) | (refine lexL_on ?_ ?_; focus (simp only [List.getElem?_toArray, List.getElem?_cons_succ, List.getElem?_cons_zero, Bool.not_true, Bool.not_false]; done)) | (refine lexL_off ?_ ?_ ?_; (focus (simp only [List.getElem?_toArray, List.getElem?_cons_succ, List.getElem?_cons_zero, Bool.not_true, Bool.not_false]; done)); (focus (exact (by repeat (first | with_reducible exact Below.refl _ _ | with_reducible assumption | with_reducible refine al ?_ _ | with_reducible refine Below.drew ?_ | with_reducible refine Below.setCell ?_ (by first | (simp; done) | (simp; omega)) _ | with_reducible refine tr ?_ (by with_reducible assumption)))))) | (refine lexL_splitS (X := ?_) ?_ ?_ (fun hg => ?_) (fun hg => ?_); rotate_left; (focus (simp only [List.getElem?_toArray, List.getElem?_cons_succ, List.getElem?_cons_zero]; with_reducible rfl)); (focus (exact (by repeat (first | with_reducible exact Below.refl _ _ | with_reducible assumption | with_reducible refine al ?_ _ | with_reducible refine Below.drew ?_ | with_reducible refine Below.setCell ?_ (by first | (simp; done) | (simp; omega)) _ | with_reducible refine tr ?_ (by with_reducible assumption))))); all_goals (try simp only [Bool.not_true, Bool.not_false] at hg)))
                  (all_goals try simp only [Act.put, List.setIfInBounds_toArray, List.set_cons_zero, List.set_cons_succ]); all_goals (refine lexL_nil ?_)
                  go_wp2
                  go_ret2
                  rw [HK3.out]
                  exact ret2_of (by repeat (first | with_reducible exact Below.refl _ _ | with_reducible assumption | with_reducible refine al ?_ _ | with_reducible refine Below.drew ?_ | with_reducible refine Below.setCell ?_ (by first | (simp; done) | (simp; omega)) _ | with_reducible refine tr ?_ (by with_reducible assumption)))
                · have hne : ¬ ((pt l i).x = (pt l m).x ∧ (pt l i).y = (pt l m).y) := fun h => he (Pt.ext' h.1 h.2)
                  have k1 : ¬ (pt l i).x = (pt l m).x ∨ ((pt l i).x = (pt l m).x ∧ ¬ (pt l i).y = (pt l m).y) := by omega
                  have HE := Lib.hid he
                  clear he hne
                  cases hs : clash l i m
                  · have HS := Lib.hid hs
                    rcases k1 with k1 | ⟨k0, k1⟩
                    all_goals
                      go_wp2_with fail
                      refine wp_region_belowI (by kernel_rfl) (by kernel_rfl) (fun _ _ d _ _ h => by cases d <;> exact h) ?_
                      simp only [List.map_cons, List.map_nil, List.getD_cons_zero, List.getD_cons_succ, bare, gslot, List.getElem?_cons_zero, List.getElem?_cons_succ, Option.bind_some]
                      repeat' ((try simp only [Act.put, List.setIfInBounds_toArray, List.set_cons_zero, List.set_cons_succ]); first | (refine lexL_quiet (v := ?_) wantB_none rfl ?_ ?_; rotate_left; focus (intro wq hq; obtain ⟨hcq, hfq⟩ := bcell hq; go_simp; try with_reducible rfl)) | (refine lexL_loud wantB_none rfl (fun K hK => ?_); go_simp; ((first | (go_at_call 93; refine (rclash_ok B n c i m _ l _ (hl.tr (by repeat (first | with_reducible exact Below.refl _ _ | with_reducible assumption | with_reducible refine al ?_ _ | with_reducible refine Below.drew ?_ | with_reducible refine Below.setCell ?_ (by first | (simp; done) | (simp; omega)) _ | with_reducible refine tr ?_ (by with_reducible assumption))) hB) (Nat.le_trans hB (Below.size (B := w.heap.size) (w := w) (by repeat (first | with_reducible exact Below.refl _ _ | with_reducible assumption | with_reducible refine al ?_ _ | with_reducible refine Below.drew ?_ | with_reducible refine Below.setCell ?_ (by first | (simp; done) | (simp; omega)) _ | with_reducible refine tr ?_ (by with_reducible assumption))))) hn him hml HA.out).mono ?_; rw [HS.out]; rintro e w1 ⟨rfl, hb1⟩; obtain ⟨hc1, hf1⟩ := bcell hb1; have hz1 := hb1.size; (try simp at hz1)) | skip) <;> (refine hK.out _ _ (by repeat (first | with_reducible exact Below.refl _ _ | with_reducible assumption | with_reducible refine al ?_ _ | with_reducible refine Below.drew ?_ | with_reducible refine Below.setCell ?_ (by first | (simp; done) | (simp; omega)) _ | with_reducible refine tr ?_ (by with_reducible assumption))) ?_; clear hK K))) | (refine lexL_on ?_ ?_; focus (simp only [List.getElem?_toArray, List.getElem?_cons_succ, List.getElem?_cons_zero, Bool.not_true, Bool.not_false]; done)) | (refine lexL_off ?_ ?_ ?_; (focus (simp only [List.getElem?_toArray, List.getElem?_cons_succ, List.getElem?_cons_zero, Bool.not_true, Bool.not_false]; done)); (focus (exact (by repeat (first | with_reducible exact Below.refl _ _ | with_reducible assumption | with_reducible refine al ?_ _ | with_reducible refine Below.drew ?_ | with_reducible refine Below.setCell ?_ (by first | (simp; done) | (simp; omega)) _ | with_reducible refine tr ?_ (by with_reducible assumption)))))) | (refine lexL_splitS (X := ?_) ?_ ?_ (fun hg => ?_) (fun hg => ?_); rotate_left; (focus (simp only [List.getElem?_toArray, List.getElem?_cons_succ, List.getElem?_cons_zero]; with_reducible rfl)); (focus (exact (by repeat (first | with_reducible exact Below.refl _ _ | with_reducible assumption | with_reducible refine al ?_ _ | with_reducible refine Below.drew ?_ | with_reducible refine Below.setCell ?_ (by first | (simp; done) | (simp; omega)) _ | with_reducible refine tr ?_ (by with_reducible assumption))))); all_goals (try simp only [Bool.not_true, Bool.not_false] at hg)))
                      (all_goals try simp only [Act.put, List.setIfInBounds_toArray, List.set_cons_zero, List.set_cons_succ]); all_goals (refine lexL_nil ?_)
                      go_wp2
                      go_roundw
                      case rel => exact ⟨m + 1, by omega, by omega, by go_num, fun j hj => by
                        by_cases e : j = m
                        · subst e; unfold badC; rw [decide_eq_false HE.out, HS.out]; simp
                        · exact hbm.out j (by omega), (by repeat (first | with_reducible exact Below.refl _ _ | with_reducible assumption | with_reducible refine al ?_ _ | with_reducible refine Below.drew ?_ | with_reducible refine Below.setCell ?_ (by first | (simp; done) | (simp; omega)) _ | with_reducible refine tr ?_ (by with_reducible assumption)))⟩
                      case measure => simp [intOf]; omega
                  · have HS := Lib.hid hs
                    have HK3 : Hid (ckRingR l = 4) := by unfold Hid; rw [HK2.out, clashAny_t (i := i) (k := m) (by rw [hl.1]; exact hil) (by rw [hl.1]; exact hml) (by unfold badC; rw [decide_eq_true him, HS.out]; simp)]; rfl
                    rcases k1 with k1 | ⟨k0, k1⟩
                    all_goals
                      go_wp2_with fail
                      refine wp_region_belowI (by kernel_rfl) (by kernel_rfl) (fun _ _ d _ _ h => by cases d <;> exact h) ?_
                      simp only [List.map_cons, List.map_nil, List.getD_cons_zero, List.getD_cons_succ, bare, gslot, List.getElem?_cons_zero, List.getElem?_cons_succ, Option.bind_some]
                      repeat' ((try simp only [Act.put, List.setIfInBounds_toArray, List.set_cons_zero, List.set_cons_succ]); first | (refine lexL_quiet (v := ?_) wantB_none rfl ?_ ?_; rotate_left; focus (intro wq hq; obtain ⟨hcq, hfq⟩ := bcell hq; go_simp; try with_reducible rfl)) | (refine lexL_loud wantB_none rfl (fun K hK => ?_); go_simp; ((first | (go_at_call 93; refine (rclash_ok B n c i m _ l _ (hl.tr (by repeat (first | with_reducible exact Below.refl _ _ | with_reducible assumption | with_reducible refine al ?_ _ | with_reducible refine Below.drew ?_ | with_reducible refine Below.setCell ?_ (by first | (simp; done) | (simp; omega)) _ | with_reducible refine tr ?_ (by with_reducible assumption))) hB) (Nat.le_trans hB (Below.size (B := w.heap.size) (w := w) (by repeat (first | with_reducible exact Below.refl _ _ | with_reducible assumption | with_reducible refine al ?_ _ | with_reducible refine Below.drew ?_ | with_reducible refine Below.setCell ?_ (by first | (simp; done) | (simp; omega)) _ | with_reducible refine tr ?_ (by with_reducible assumption))))) hn him hml HA.out).mono ?_; rw [HS.out]; rintro e w1 ⟨rfl, hb1⟩; obtain ⟨hc1, hf1⟩ := bcell hb1; have hz1 := hb1.size; (try simp at hz1)) | skip) <;> (refine hK.out _ _ (by repeat (first | with_reducible exact Below.refl _ _ | with_reducible assumption | with_reducible refine al ?_ _ | with_reducible refine Below.drew ?_ | with_reducible refine Below.setCell ?_ (by first | (simp; done) | (simp; omega)) _ | with_reducible refine tr ?_ (by with_reducible assumption))) ?_; clear hK K))) | (refine lexL_on ?_ ?_; focus (simp only [List.getElem?_toArray, List.getElem?_cons_succ, List.getElem?_cons_zero, Bool.not_true, Bool.not_false]; done)) | (refine lexL_off ?_ ?_ ?_; (focus (simp only [List.getElem?_toArray, List.getElem?_cons_succ, List.getElem?_cons_zero, Bool.not_true, Bool.not_false]; done)); (focus (exact (by repeat (first | with_reducible exact Below.refl _ _ | with_reducible assumption | with_reducible refine al ?_ _ | with_reducible refine Below.drew ?_ | with_reducible refine Below.setCell ?_ (by first | (simp; done) | (simp; omega)) _ | with_reducible refine tr ?_ (by with_reducible assumption)))))) | (refine lexL_splitS (X := ?_) ?_ ?_ (fun hg => ?_) (fun hg => ?_); rotate_left; (focus (simp only [List.getElem?_toArray, List.getElem?_cons_succ, List.getElem?_cons_zero]; with_reducible rfl)); (focus (exact (by repeat (first | with_reducible exact Below.refl _ _ | with_reducible assumption | with_reducible refine al ?_ _ | with_reducible refine Below.drew ?_ | with_reducible refine Below.setCell ?_ (by first | (simp; done) | (simp; omega)) _ | with_reducible refine tr ?_ (by with_reducible assumption))))); all_goals (try simp only [Bool.not_true, Bool.not_false] at hg)))
                      (all_goals try simp only [Act.put, List.setIfInBounds_toArray, List.set_cons_zero, List.set_cons_succ]); all_goals (refine lexL_nil ?_)
                      go_wp2
                      go_ret2
                      rw [HK3.out]
                      exact ret2_of (by repeat (first | with_reducible exact Below.refl _ _ | with_reducible assumption | with_reducible refine al ?_ _ | with_reducible refine Below.drew ?_ | with_reducible refine Below.setCell ?_ (by first | (simp; done) | (simp; omega)) _ | with_reducible refine tr ?_ (by with_reducible assumption)))
              · go_wp2
                go_roundw
                case rel => exact ⟨i + 1, by omega, by go_num, fun j hj q hq => by
                  by_cases e : j = i
                  · subst e; exact hbm.out q (by omega)
                  · exact hbad.out j (by omega) q hq, (by repeat (first | with_reducible exact Below.refl _ _ | with_reducible assumption | with_reducible refine al ?_ _ | with_reducible refine Below.drew ?_ | with_reducible refine Below.setCell ?_ (by first | (simp; done) | (simp; omega)) _ | with_reducible refine tr ?_ (by with_reducible assumption)))⟩
                case measure => simp [intOf]; omega
          · have HK3 : Hid (ckRingR l = 0) := by unfold Hid; rw [HK2.out, clashAny_f (fun j hj m hm => hbad.out j (by rw [hl.1] at hj; omega) m (by rw [← hl.1]; exact hm))]; rfl
            go_wp2
            go_ret2
            rw [HK3.out]
            exact ret2_of (by repeat (first | with_reducible exact Below.refl _ _ | with_reducible assumption | with_reducible refine al ?_ _ | with_reducible refine Below.drew ?_ | with_reducible refine Below.setCell ?_ (by first | (simp; done) | (simp; omega)) _ | with_reducible refine tr ?_ (by with_reducible assumption)))
theorem rcheckRing_any (B n c : Nat) (A : Option Addr) (l : List Pt) (w : World) (hl : PtsAt w B A n l) (hB : B ≤ w.heap.size) (hn : n ≤ 1000000) :
    Calls Tryz.prog 44 #[.slice A n c] w (Ret2 w (ckRingR l)) := rcheckRing_all B n c A l w hl hB

end Go.Proofs.YtjdgibpjlhpanaaGreatDoor
set_option linter.unusedSimpArgs false
set_option linter.unusedVariables false
namespace Go.Proofs.YtjdgibpjlhpanaaGreatDoor
open Go.RowKit Pg

set_option maxHeartbeats 1000000 in
set_option maxRecDepth 20000 in
theorem rcheck_any (B n c : Nat) (k : Int) (A : Option Addr) (l : List Pt) (w : World) (hl : PtsAt w B A n l) (hB : B ≤ w.heap.size) (hn : n ≤ 1000000) :
    Calls Tryz.prog 13 #[obV k A n c] w (Ret w (.int .i64 (ckObR ⟨k, l⟩))) := by
  by_cases k1 : k = 1
  · subst k1
    by_cases h : n = 1
    · subst h
      obtain ⟨b, off, rfl, hab, c0, c1⟩ := hl.at_ (k := 0) (by omega)
      simp only [Nat.zero_mul, Nat.add_zero] at c0 c1
      have hbw : b < w.heap.size := by omega
      have hbw1 : b < w.heap.size + 1 := by omega
      cases ho : okPt (pt l 0)
      · have HF : Hid (ckObR ⟨1, l⟩ = 2) := by simp [Hid, ckObR, hl.1, ho]
        have HO : Hid (okPt ⟨(pt l 0).x, (pt l 0).y⟩ = false) := ho
        clear ho
        go_enter Tryz.func13, Tryz.ntmps13
        go_wp2_with (go_at_call 10; refine (rpoint_any _ _ _).mono ?_; rw [HO.out]; rintro e w1 ⟨rfl, hb1⟩; obtain ⟨hc1, hf1⟩ := bcell hb1; have hz1 := hb1.size; (try simp at hz1); have hy0 : w.heap.size < w1.heap.size := (by omega); have hbz : b < w1.heap.size := (by omega))
        go_ret
        exact ⟨by rw [HF.out]; rfl, (by repeat (first | with_reducible exact Below.refl _ _ | with_reducible assumption | with_reducible refine al ?_ _ | with_reducible refine Below.drew ?_ | with_reducible refine Below.setCell ?_ (by first | (simp; done) | (simp; omega)) _ | with_reducible refine tr ?_ (by with_reducible assumption)))⟩
      · have HF : Hid (ckObR ⟨1, l⟩ = 0) := by simp [Hid, ckObR, hl.1, ho]
        have HO : Hid (okPt ⟨(pt l 0).x, (pt l 0).y⟩ = true) := ho
        clear ho
        go_enter Tryz.func13, Tryz.ntmps13
        go_wp2_with (go_at_call 10; refine (rpoint_any _ _ _).mono ?_; rw [HO.out]; rintro e w1 ⟨rfl, hb1⟩; obtain ⟨hc1, hf1⟩ := bcell hb1; have hz1 := hb1.size; (try simp at hz1); have hy0 : w.heap.size < w1.heap.size := (by omega); have hbz : b < w1.heap.size := (by omega))
        refine wp_region_belowI (by kernel_rfl) (by kernel_rfl) (fun _ _ d _ _ h => by cases d <;> exact h) ?_
        simp only [List.map_cons, List.map_nil, List.getD_cons_zero, List.getD_cons_succ, bare, gslot, List.getElem?_cons_zero, List.getElem?_cons_succ, Option.bind_some]
        repeat' ((try simp only [Act.put, List.setIfInBounds_toArray, List.set_cons_zero, List.set_cons_succ]); first | (refine lexL_quiet (v := ?_) wantB_none rfl ?_ ?_; rotate_left; focus (intro wq hq; obtain ⟨hcq, hfq⟩ := bcell hq; go_simp; try with_reducible rfl)) | (refine lexL_loud wantB_none rfl (fun K hK => ?_); go_simp; ((first | fail | skip) <;> (refine hK.out _ _ (by repeat (first | with_reducible exact Below.refl _ _ | with_reducible assumption | with_reducible refine al ?_ _ | with_reducible refine Below.drew ?_ | with_reducible refine Below.setCell ?_ (by first | (simp; done) | (simp; omega)) _ | with_reducible refine tr ?_ (by with_reducible assumption))) ?_; clear hK K))) | (refine lexL_on ?_ ?_; focus (simp only [List.getElem?_toArray, List.getElem?_cons_succ, List.getElem?_cons_zero, Bool.not_true, Bool.not_false]; done)) | (refine lexL_off ?_ ?_ ?_; (focus (simp only [List.getElem?_toArray, List.getElem?_cons_succ, List.getElem?_cons_zero, Bool.not_true, Bool.not_false]; done)); (focus (exact (by repeat (first | with_reducible exact Below.refl _ _ | with_reducible assumption | with_reducible refine al ?_ _ | with_reducible refine Below.drew ?_ | with_reducible refine Below.setCell ?_ (by first | (simp; done) | (simp; omega)) _ | with_reducible refine tr ?_ (by with_reducible assumption)))))) | (refine lexL_splitS (X := ?_) ?_ ?_ (fun hg => ?_) (fun hg => ?_); rotate_left; (focus (simp only [List.getElem?_toArray, List.getElem?_cons_succ, List.getElem?_cons_zero]; with_reducible rfl)); (focus (exact (by repeat (first | with_reducible exact Below.refl _ _ | with_reducible assumption | with_reducible refine al ?_ _ | with_reducible refine Below.drew ?_ | with_reducible refine Below.setCell ?_ (by first | (simp; done) | (simp; omega)) _ | with_reducible refine tr ?_ (by with_reducible assumption))))); all_goals (try simp only [Bool.not_true, Bool.not_false] at hg)))
        (all_goals try simp only [Act.put, List.setIfInBounds_toArray, List.set_cons_zero, List.set_cons_succ]); all_goals (refine lexL_nil ?_)
        go_wp2
        go_ret
        exact ⟨by rw [HF.out]; rfl, (by repeat (first | with_reducible exact Below.refl _ _ | with_reducible assumption | with_reducible refine al ?_ _ | with_reducible refine Below.drew ?_ | with_reducible refine Below.setCell ?_ (by first | (simp; done) | (simp; omega)) _ | with_reducible refine tr ?_ (by with_reducible assumption)))⟩
    · have HF : Hid (ckObR ⟨1, l⟩ = 3) := by simp [Hid, ckObR, hl.1, h]
      have hne : ¬ (n : Int) = 1 := by omega
      go_enter Tryz.func13, Tryz.ntmps13
      go_wp2
      go_ret
      exact ⟨by rw [HF.out]; rfl, (by repeat (first | with_reducible exact Below.refl _ _ | with_reducible assumption | with_reducible refine al ?_ _ | with_reducible refine Below.drew ?_ | with_reducible refine Below.setCell ?_ (by first | (simp; done) | (simp; omega)) _ | with_reducible refine tr ?_ (by with_reducible assumption)))⟩
  by_cases k2 : k = 2
  · subst k2
    by_cases h : n = 1
    · subst h
      obtain ⟨b, off, rfl, hab, c0, c1⟩ := hl.at_ (k := 0) (by omega)
      simp only [Nat.zero_mul, Nat.add_zero] at c0 c1
      have hbw : b < w.heap.size := by omega
      have hbw1 : b < w.heap.size + 1 := by omega
      cases ho : okPt (pt l 0)
      · have HF : Hid (ckObR ⟨2, l⟩ = 2) := by simp [Hid, ckObR, ckInt, hl.1, ho]
        have HO : Hid (okPt ⟨(pt l 0).x, (pt l 0).y⟩ = false) := ho
        clear ho
        go_enter Tryz.func13, Tryz.ntmps13
        go_wp2_with (go_at_call 10; refine (rpoint_any _ _ _).mono ?_; rw [HO.out]; rintro e w1 ⟨rfl, hb1⟩; obtain ⟨hc1, hf1⟩ := bcell hb1; have hz1 := hb1.size; (try simp at hz1); have hy0 : w.heap.size < w1.heap.size := (by omega); have hbz : b < w1.heap.size := (by omega))
        go_ret
        exact ⟨by rw [HF.out]; rfl, (by repeat (first | with_reducible exact Below.refl _ _ | with_reducible assumption | with_reducible refine al ?_ _ | with_reducible refine Below.drew ?_ | with_reducible refine Below.setCell ?_ (by first | (simp; done) | (simp; omega)) _ | with_reducible refine tr ?_ (by with_reducible assumption)))⟩
      · have HF : Hid (ckObR ⟨2, l⟩ = if (pt l 0).y < (pt l 0).x then 1 else 0) := by simp [Hid, ckObR, ckInt, hl.1, ho]
        have HO : Hid (okPt ⟨(pt l 0).x, (pt l 0).y⟩ = true) := ho
        clear ho
        by_cases hlt : (pt l 0).y < (pt l 0).x
        all_goals
          go_enter Tryz.func13, Tryz.ntmps13
          go_wp2_with (go_at_call 10; refine (rpoint_any _ _ _).mono ?_; rw [HO.out]; rintro e w1 ⟨rfl, hb1⟩; obtain ⟨hc1, hf1⟩ := bcell hb1; have hz1 := hb1.size; (try simp at hz1); have hy0 : w.heap.size < w1.heap.size := (by omega); have hbz : b < w1.heap.size := (by omega))
          refine wp_region_belowI (by kernel_rfl) (by kernel_rfl) (fun _ _ d _ _ h => by cases d <;> exact h) ?_
          simp only [List.map_cons, List.map_nil, List.getD_cons_zero, List.getD_cons_succ, bare, gslot, List.getElem?_cons_zero, List.getElem?_cons_succ, Option.bind_some]
          repeat' ((try simp only [Act.put, List.setIfInBounds_toArray, List.set_cons_zero, List.set_cons_succ]); first | (refine lexL_quiet (v := ?_) wantB_none rfl ?_ ?_; rotate_left; focus (intro wq hq; obtain ⟨hcq, hfq⟩ := bcell hq; go_simp; try with_reducible rfl)) | (refine lexL_loud wantB_none rfl (fun K hK => ?_); go_simp; ((first | fail | skip) <;> (refine hK.out _ _ (by repeat (first | with_reducible exact Below.refl _ _ | with_reducible assumption | with_reducible refine al ?_ _ | with_reducible refine Below.drew ?_ | with_reducible refine Below.setCell ?_ (by first | (simp; done) | (simp; omega)) _ | with_reducible refine tr ?_ (by with_reducible assumption))) ?_; clear hK K))) | (refine lexL_on ?_ ?_; focus (simp only [List.getElem?_toArray, List.getElem?_cons_succ, List.getElem?_cons_zero, Bool.not_true, Bool.not_false]; done)) | (refine lexL_off ?_ ?_ ?_; (focus (simp only [List.getElem?_toArray, List.getElem?_cons_succ, List.getElem?_cons_zero, Bool.not_true, Bool.not_false]; done)); (focus (exact (by repeat (first | with_reducible exact Below.refl _ _ | with_reducible assumption | with_reducible refine al ?_ _ | with_reducible refine Below.drew ?_ | with_reducible refine Below.setCell ?_ (by first | (simp; done) | (simp; omega)) _ | with_reducible refine tr ?_ (by with_reducible assumption)))))) | (refine lexL_splitS (X := ?_) ?_ ?_ (fun hg => ?_) (fun hg => ?_); rotate_left; (focus (simp only [List.getElem?_toArray, List.getElem?_cons_succ, List.getElem?_cons_zero]; with_reducible rfl)); (focus (exact (by repeat (first | with_reducible exact Below.refl _ _ | with_reducible assumption | with_reducible refine al ?_ _ | with_reducible refine Below.drew ?_ | with_reducible refine Below.setCell ?_ (by first | (simp; done) | (simp; omega)) _ | with_reducible refine tr ?_ (by with_reducible assumption))))); all_goals (try simp only [Bool.not_true, Bool.not_false] at hg)))
          (all_goals try simp only [Act.put, List.setIfInBounds_toArray, List.set_cons_zero, List.set_cons_succ]); all_goals (refine lexL_nil ?_)
          go_wp2
          go_ret
          exact ⟨by rw [HF.out]; first | (rw [if_pos (by omega)]; rfl) | (rw [if_neg (by omega)]; rfl), (by repeat (first | with_reducible exact Below.refl _ _ | with_reducible assumption | with_reducible refine al ?_ _ | with_reducible refine Below.drew ?_ | with_reducible refine Below.setCell ?_ (by first | (simp; done) | (simp; omega)) _ | with_reducible refine tr ?_ (by with_reducible assumption)))⟩
    · have HF : Hid (ckObR ⟨2, l⟩ = 3) := by simp [Hid, ckObR, hl.1, h]
      have hne : ¬ (n : Int) = 1 := by omega
      go_enter Tryz.func13, Tryz.ntmps13
      go_wp2
      go_ret
      exact ⟨by rw [HF.out]; rfl, (by repeat (first | with_reducible exact Below.refl _ _ | with_reducible assumption | with_reducible refine al ?_ _ | with_reducible refine Below.drew ?_ | with_reducible refine Below.setCell ?_ (by first | (simp; done) | (simp; omega)) _ | with_reducible refine tr ?_ (by with_reducible assumption)))⟩
  by_cases k3 : k = 3
  · subst k3
    by_cases h : n = 2
    · subst h
      have HF : Hid (ckObR ⟨3, l⟩ = ckBox ⟨⟨(pt l 0).x, (pt l 0).y⟩, ⟨(pt l 1).x, (pt l 1).y⟩⟩) := by simp [Hid, ckObR, hl.1]
      obtain ⟨b, off, rfl, hab, c0, c1⟩ := hl.at_ (k := 0) (by omega)
      obtain ⟨b', off', he, hab', c2, c3⟩ := hl.at_ (k := 1) (by omega)
      injection he with he
      injection he with he1 he2
      subst he1 he2
      simp only [Nat.zero_mul, Nat.add_zero, Nat.one_mul] at c0 c1 c2 c3
      have hbw : b < w.heap.size := by omega
      have hbw1 : b < w.heap.size + 1 := by omega
      go_enter Tryz.func13, Tryz.ntmps13
      go_wp2_with fail
      refine wp_region_belowI (by kernel_rfl) (by kernel_rfl) (fun _ _ d _ _ h => by cases d <;> exact h) ?_
      simp only [List.map_cons, List.map_nil, List.getD_cons_zero, List.getD_cons_succ, bare, gslot, List.getElem?_cons_zero, List.getElem?_cons_succ, Option.bind_some]
      repeat' ((try simp only [Act.put, List.setIfInBounds_toArray, List.set_cons_zero, List.set_cons_succ]); first | (refine lexL_quiet (v := ?_) wantB_none rfl ?_ ?_; rotate_left; focus (intro wq hq; obtain ⟨hcq, hfq⟩ := bcell hq; go_simp; try with_reducible rfl)) | (refine lexL_loud wantB_none rfl (fun K hK => ?_); go_simp; ((first | (go_at_call 43; refine (rcheckBox_any _ _ _ _ _).mono ?_; rintro e w1 ⟨rfl, hb1⟩; obtain ⟨hc1, hf1⟩ := bcell hb1; have hz1 := hb1.size; (try simp at hz1); have hy0 : w.heap.size < w1.heap.size := (by omega)) | skip) <;> (refine hK.out _ _ (by repeat (first | with_reducible exact Below.refl _ _ | with_reducible assumption | with_reducible refine al ?_ _ | with_reducible refine Below.drew ?_ | with_reducible refine Below.setCell ?_ (by first | (simp; done) | (simp; omega)) _ | with_reducible refine tr ?_ (by with_reducible assumption))) ?_; clear hK K))) | (refine lexL_on ?_ ?_; focus (simp only [List.getElem?_toArray, List.getElem?_cons_succ, List.getElem?_cons_zero, Bool.not_true, Bool.not_false]; done)) | (refine lexL_off ?_ ?_ ?_; (focus (simp only [List.getElem?_toArray, List.getElem?_cons_succ, List.getElem?_cons_zero, Bool.not_true, Bool.not_false]; done)); (focus (exact (by repeat (first | with_reducible exact Below.refl _ _ | with_reducible assumption | with_reducible refine al ?_ _ | with_reducible refine Below.drew ?_ | with_reducible refine Below.setCell ?_ (by first | (simp; done) | (simp; omega)) _ | with_reducible refine tr ?_ (by with_reducible assumption)))))) | (refine lexL_splitS (X := ?_) ?_ ?_ (fun hg => ?_) (fun hg => ?_); rotate_left; (focus (simp only [List.getElem?_toArray, List.getElem?_cons_succ, List.getElem?_cons_zero]; with_reducible rfl)); (focus (exact (by repeat (first | with_reducible exact Below.refl _ _ | with_reducible assumption | with_reducible refine al ?_ _ | with_reducible refine Below.drew ?_ | with_reducible refine Below.setCell ?_ (by first | (simp; done) | (simp; omega)) _ | with_reducible refine tr ?_ (by with_reducible assumption))))); all_goals (try simp only [Bool.not_true, Bool.not_false] at hg)))
      (all_goals try simp only [Act.put, List.setIfInBounds_toArray, List.set_cons_zero, List.set_cons_succ]); all_goals (refine lexL_nil ?_)
      go_wp2
      go_ret
      exact ⟨by rw [HF.out]; first | done | rfl, (by repeat (first | with_reducible exact Below.refl _ _ | with_reducible assumption | with_reducible refine al ?_ _ | with_reducible refine Below.drew ?_ | with_reducible refine Below.setCell ?_ (by first | (simp; done) | (simp; omega)) _ | with_reducible refine tr ?_ (by with_reducible assumption)))⟩
    · have HF : Hid (ckObR ⟨3, l⟩ = 3) := by simp [Hid, ckObR, hl.1, h]
      have hne : ¬ (n : Int) = 2 := by omega
      go_enter Tryz.func13, Tryz.ntmps13
      go_wp2
      go_ret
      exact ⟨by rw [HF.out]; rfl, (by repeat (first | with_reducible exact Below.refl _ _ | with_reducible assumption | with_reducible refine al ?_ _ | with_reducible refine Below.drew ?_ | with_reducible refine Below.setCell ?_ (by first | (simp; done) | (simp; omega)) _ | with_reducible refine tr ?_ (by with_reducible assumption)))⟩
  by_cases k4 : k = 4
  · subst k4
    have HF : Hid (ckObR ⟨4, l⟩ = ckRingR l) := by simp [Hid, ckObR]
    go_enter Tryz.func13, Tryz.ntmps13
    go_wp2_with (go_at_call 44; refine (rcheckRing_any B n c A l _ (hl.tr (by repeat (first | with_reducible exact Below.refl _ _ | with_reducible assumption | with_reducible refine al ?_ _ | with_reducible refine Below.drew ?_ | with_reducible refine Below.setCell ?_ (by first | (simp; done) | (simp; omega)) _ | with_reducible refine tr ?_ (by with_reducible assumption))) hB) (Nat.le_trans hB (Below.size (B := w.heap.size) (w := w) (by repeat (first | with_reducible exact Below.refl _ _ | with_reducible assumption | with_reducible refine al ?_ _ | with_reducible refine Below.drew ?_ | with_reducible refine Below.setCell ?_ (by first | (simp; done) | (simp; omega)) _ | with_reducible refine tr ?_ (by with_reducible assumption))))) hn).mono ?_; rintro e w1 ⟨id1, rfl, hb1⟩; obtain ⟨hc1, hf1⟩ := bcell hb1; have hz1 := hb1.size; (try simp at hz1))
    go_ret
    exact ⟨by rw [HF.out]; first | done | rfl, (by repeat (first | with_reducible exact Below.refl _ _ | with_reducible assumption | with_reducible refine al ?_ _ | with_reducible refine Below.drew ?_ | with_reducible refine Below.setCell ?_ (by first | (simp; done) | (simp; omega)) _ | with_reducible refine tr ?_ (by with_reducible assumption)))⟩
  · have HF : Hid (ckObR ⟨k, l⟩ = 5) := by simp [Hid, ckObR, k1, k2, k3, k4]
    go_enter Tryz.func13, Tryz.ntmps13
    go_wp2
    go_ret
    exact ⟨by rw [HF.out]; rfl, (by repeat (first | with_reducible exact Below.refl _ _ | with_reducible assumption | with_reducible refine al ?_ _ | with_reducible refine Below.drew ?_ | with_reducible refine Below.setCell ?_ (by first | (simp; done) | (simp; omega)) _ | with_reducible refine tr ?_ (by with_reducible assumption)))⟩

set_option maxHeartbeats 1000000 in
set_option maxRecDepth 20000 in
theorem rquery_all (B n c : Nat) (k : Int) (b : Bx) (A : Option Addr) (l : List Pt) (w : World) (hl : PtsAt w B A n l) (hB : B ≤ w.heap.size) :
    Calls Tryz.prog 9 #[quV k b A n c] w (Ret w (.int .i64 (ckQuR ⟨k, b, l⟩))) := by
  by_cases k12 : k = 1 ∨ k = 2
  · have HF : Hid (ckQuR ⟨k, b, l⟩ = ckBox ⟨⟨b.lo.x, b.lo.y⟩, ⟨b.hi.x, b.hi.y⟩⟩) := by rcases k12 with rfl | rfl <;> simp [Hid, ckQuR]
    rcases k12 with rfl | rfl
    all_goals
      go_enter Tryz.func9, Tryz.ntmps9
      go_wp2_with (go_at_call 43; refine (rcheckBox_any _ _ _ _ _).mono ?_; rintro e w1 ⟨rfl, hb1⟩; obtain ⟨hc1, hf1⟩ := bcell hb1; have hz1 := hb1.size; (try simp at hz1); have hy0 : w.heap.size < w1.heap.size := (by omega))
      go_ret
      exact ⟨by rw [HF.out]; first | done | rfl, (by repeat (first | with_reducible exact Below.refl _ _ | with_reducible assumption | with_reducible refine al ?_ _ | with_reducible refine Below.drew ?_ | with_reducible refine Below.setCell ?_ (by first | (simp; done) | (simp; omega)) _ | with_reducible refine tr ?_ (by with_reducible assumption)))⟩
  have k1 : ¬ k = 1 := fun h => k12 (.inl h)
  have k2 : ¬ k = 2 := fun h => k12 (.inr h)
  clear k12
  by_cases k3 : k = 3
  · subst k3
    cases ho : okPt b.lo
    · have HF : Hid (ckQuR ⟨3, b, l⟩ = 2) := by simp [Hid, ckQuR, ho]
      have HO : Hid (okPt ⟨b.lo.x, b.lo.y⟩ = false) := ho
      clear ho
      go_enter Tryz.func9, Tryz.ntmps9
      go_wp2_with (go_at_call 10; refine (rpoint_any _ _ _).mono ?_; rw [HO.out]; rintro e w1 ⟨rfl, hb1⟩; obtain ⟨hc1, hf1⟩ := bcell hb1; have hz1 := hb1.size; (try simp at hz1); have hy0 : w.heap.size < w1.heap.size := (by omega))
      go_ret
      exact ⟨by rw [HF.out]; rfl, (by repeat (first | with_reducible exact Below.refl _ _ | with_reducible assumption | with_reducible refine al ?_ _ | with_reducible refine Below.drew ?_ | with_reducible refine Below.setCell ?_ (by first | (simp; done) | (simp; omega)) _ | with_reducible refine tr ?_ (by with_reducible assumption)))⟩
    · have HF : Hid (ckQuR ⟨3, b, l⟩ = 0) := by simp [Hid, ckQuR, ho]
      have HO : Hid (okPt ⟨b.lo.x, b.lo.y⟩ = true) := ho
      clear ho
      go_enter Tryz.func9, Tryz.ntmps9
      go_wp2_with (go_at_call 10; refine (rpoint_any _ _ _).mono ?_; rw [HO.out]; rintro e w1 ⟨rfl, hb1⟩; obtain ⟨hc1, hf1⟩ := bcell hb1; have hz1 := hb1.size; (try simp at hz1); have hy0 : w.heap.size < w1.heap.size := (by omega))
      go_ret
      exact ⟨by rw [HF.out]; rfl, (by repeat (first | with_reducible exact Below.refl _ _ | with_reducible assumption | with_reducible refine al ?_ _ | with_reducible refine Below.drew ?_ | with_reducible refine Below.setCell ?_ (by first | (simp; done) | (simp; omega)) _ | with_reducible refine tr ?_ (by with_reducible assumption)))⟩
  by_cases k4 : k = 4
  · subst k4
    have HF : Hid (ckQuR ⟨4, b, l⟩ = ckRingR l) := by simp [Hid, ckQuR]
    go_enter Tryz.func9, Tryz.ntmps9
    go_wp2_with (go_at_call 44; refine (rcheckRing_all B n c A l _ (hl.tr (by repeat (first | with_reducible exact Below.refl _ _ | with_reducible assumption | with_reducible refine al ?_ _ | with_reducible refine Below.drew ?_ | with_reducible refine Below.setCell ?_ (by first | (simp; done) | (simp; omega)) _ | with_reducible refine tr ?_ (by with_reducible assumption))) hB) (Nat.le_trans hB (Below.size (B := w.heap.size) (w := w) (by repeat (first | with_reducible exact Below.refl _ _ | with_reducible assumption | with_reducible refine al ?_ _ | with_reducible refine Below.drew ?_ | with_reducible refine Below.setCell ?_ (by first | (simp; done) | (simp; omega)) _ | with_reducible refine tr ?_ (by with_reducible assumption)))))).mono ?_; rintro e w1 ⟨id1, rfl, hb1⟩; obtain ⟨hc1, hf1⟩ := bcell hb1; have hz1 := hb1.size; (try simp at hz1))
    go_ret
    exact ⟨by rw [HF.out]; first | done | rfl, (by repeat (first | with_reducible exact Below.refl _ _ | with_reducible assumption | with_reducible refine al ?_ _ | with_reducible refine Below.drew ?_ | with_reducible refine Below.setCell ?_ (by first | (simp; done) | (simp; omega)) _ | with_reducible refine tr ?_ (by with_reducible assumption)))⟩
  · have HF : Hid (ckQuR ⟨k, b, l⟩ = 5) := by simp [Hid, ckQuR, k1, k2, k3, k4]
    go_enter Tryz.func9, Tryz.ntmps9
    go_wp2
    go_ret
    exact ⟨by rw [HF.out]; rfl, (by repeat (first | with_reducible exact Below.refl _ _ | with_reducible assumption | with_reducible refine al ?_ _ | with_reducible refine Below.drew ?_ | with_reducible refine Below.setCell ?_ (by first | (simp; done) | (simp; omega)) _ | with_reducible refine tr ?_ (by with_reducible assumption)))⟩
theorem rquery_any (B n c : Nat) (k : Int) (b : Bx) (A : Option Addr) (l : List Pt) (w : World) (hl : PtsAt w B A n l) (hB : B ≤ w.heap.size) (hn : n ≤ 1000000) :
    Calls Tryz.prog 9 #[quV k b A n c] w (Ret w (.int .i64 (ckQuR ⟨k, b, l⟩))) := rquery_all B n c k b A l w hl hB
end Go.Proofs.YtjdgibpjlhpanaaGreatDoor
