/-
  Contracts of the references of chapters 4 to 6: edge, has, corners, MeetsBox, ringBox, rings.
-/
import Derived.Test.YtknidfiokmghjaaGreatDoorRef6
import Derived.Test.YtknidfiokmghjaaGreatDoorRef4
import Derived.Test.YtknidfiokmghjaaGreatDoorPlain7
set_option linter.unusedSimpArgs false
set_option linter.unusedVariables false
namespace Go.Proofs.YtknidfiokmghjaaGreatDoor
open Go.RowKit Pg

set_option maxHeartbeats 1000000 in
set_option maxRecDepth 20000 in
theorem redge_any (B n c : Nat) (px py : Int) (A : Option Addr) (l : List Pt) (w : World) (hl : PtsAt w B A n l) (hB : B ≤ w.heap.size) (hn : n ≤ 1000000) :
    Calls Tryz.prog 97 #[.slice A n c, ptV px py] w (Ret w (.bool (edgeB l ⟨px, py⟩))) := by
  go_enter Tryz.func97, Tryz.ntmps97
  go_wp2
  go_loopw [5] (fun i wr => ∃ k : Nat, k ≤ n ∧ i = .int .i64 k ∧ Hid (∀ j, j < k → onS (pt l j) (nx l j) ⟨px, py⟩ = false) ∧ Blk wr w.heap.size 27 #[.int .i64 px, .int .i64 py] ∧ Below w.heap.size w wr) (fun i _ => n - (intOf i).toNat)
  case atStart => exact ⟨0, Nat.zero_le _, rfl, fun j hj => by omega, Blk.new rfl rfl, (by repeat (first | with_reducible exact Below.refl _ _ | with_reducible assumption | with_reducible refine al ?_ _ | with_reducible refine Below.drew ?_ | with_reducible refine Below.setCell ?_ (by first | (simp; done) | (simp; omega)) _ | with_reducible refine tr ?_ (by with_reducible assumption)))⟩
  case round =>
    obtain ⟨k, hk, rfl, hno, hP, hb⟩ := hrel
    by_cases hlt : k < n
    · obtain ⟨b, off, rfl, hab, c0, c1⟩ := (hl.below (hb.mono hB)).at_ hlt
      obtain ⟨c2, c3⟩ := nx_of (hl.below (hb.mono hB)) hlt
      have hPl := hP.lt
      have hPc := hP.cell
      have hbs := hb.size
      have hbw : b < wr.heap.size := by omega
      have hk0 : (k : Int) < (n : Int) := by omega
      have hk3 : (0 : Int) ≤ (k : Int) + 1 := by omega
      obtain ⟨m, hm, hwr, htm, hml⟩ := step_of hlt hn
      rw [hm] at c2 c3
      clear hm
      have hn0 : ¬ n = 0 := by omega
      have hml0 : (m : Int) < (n : Int) := by omega
      go_wp2_with fail
      refine wp_region_belowI (by kernel_rfl) (by kernel_rfl) (fun _ _ d _ _ h => by cases d <;> exact h) ?_
      simp only [List.map_cons, List.map_nil, List.getD_cons_zero, List.getD_cons_succ, bare, gslot, List.getElem?_cons_zero, List.getElem?_cons_succ, Option.bind_some]
      repeat' ((try simp only [Act.put, List.setIfInBounds_toArray, List.set_cons_zero, List.set_cons_succ]); first | (refine lexL_quiet (v := ?_) wantB_none rfl ?_ ?_; rotate_left; focus (intro wq hq; obtain ⟨hcq, hfq⟩ := bcell hq; go_simp; try with_reducible rfl)) | (refine lexL_loud wantB_none rfl (fun K hK => ?_); go_simp; ((first | (go_at_call 113; refine (ron_any _ _ _ _ _ _ _).mono ?_; rintro e w1 ⟨rfl, hb1⟩; obtain ⟨hc1, hf1⟩ := bcell hb1; have hz1 := hb1.size; (try simp at hz1)) | skip) <;> (refine hK.out _ _ (by repeat (first | with_reducible exact Below.refl _ _ | with_reducible assumption | with_reducible refine al ?_ _ | with_reducible refine Below.drew ?_ | with_reducible refine Below.setCell ?_ (by first | (simp; done) | (simp; omega)) _ | with_reducible refine tr ?_ (by with_reducible assumption))) ?_; clear hK K))) | (refine lexL_on ?_ ?_; focus (simp only [List.getElem?_toArray, List.getElem?_cons_succ, List.getElem?_cons_zero, Bool.not_true, Bool.not_false]; done)) | (refine lexL_off ?_ ?_ ?_; (focus (simp only [List.getElem?_toArray, List.getElem?_cons_succ, List.getElem?_cons_zero, Bool.not_true, Bool.not_false]; done)); (focus (exact (by repeat (first | with_reducible exact Below.refl _ _ | with_reducible assumption | with_reducible refine al ?_ _ | with_reducible refine Below.drew ?_ | with_reducible refine Below.setCell ?_ (by first | (simp; done) | (simp; omega)) _ | with_reducible refine tr ?_ (by with_reducible assumption)))))) | (refine lexL_splitS (X := ?_) ?_ ?_ (fun hg => ?_) (fun hg => ?_); rotate_left; (focus (simp only [List.getElem?_toArray, List.getElem?_cons_succ, List.getElem?_cons_zero]; with_reducible rfl)); (focus (exact (by repeat (first | with_reducible exact Below.refl _ _ | with_reducible assumption | with_reducible refine al ?_ _ | with_reducible refine Below.drew ?_ | with_reducible refine Below.setCell ?_ (by first | (simp; done) | (simp; omega)) _ | with_reducible refine tr ?_ (by with_reducible assumption))))); all_goals (try simp only [Bool.not_true, Bool.not_false] at hg)))
      (all_goals try simp only [Act.put, List.setIfInBounds_toArray, List.set_cons_zero, List.set_cons_succ]); all_goals (refine lexL_nil ?_)
      go_wp2
      · go_ret
        exact ⟨ret_bool (any_range_true _ (fun j => onS (pt l j) (nx l j) ⟨px, py⟩) k (by rw [hl.1]; exact hlt) (by assumption)).symm, (by repeat (first | with_reducible exact Below.refl _ _ | with_reducible assumption | with_reducible refine al ?_ _ | with_reducible refine Below.drew ?_ | with_reducible refine Below.setCell ?_ (by first | (simp; done) | (simp; omega)) _ | with_reducible refine tr ?_ (by with_reducible assumption)))⟩
      · have hf : onS ⟨(pt l k).x, (pt l k).y⟩ ⟨(nx l k).x, (nx l k).y⟩ ⟨px, py⟩ = false := by first | assumption | (simpa using (by assumption : ¬ onS ⟨(pt l k).x, (pt l k).y⟩ ⟨(nx l k).x, (nx l k).y⟩ ⟨px, py⟩ = true))
        have HF := Lib.hid hf
        clear hf
        go_roundw
        case rel => exact ⟨k + 1, by omega, by go_num, fun j hj => by
          by_cases e : j = k
          · subst e; exact HF.out
          · exact hno.out j (by omega), (by repeat (first | with_reducible assumption | with_reducible exact Blk.new (by simp) rfl | with_reducible refine Blk.alloc ?_ _ | with_reducible refine Blk.drew ?_ | with_reducible refine Blk.far ?_ (by simp; omega) _ | with_reducible refine Blk.tr ?_ (by with_reducible assumption))), (by repeat (first | with_reducible exact Below.refl _ _ | with_reducible assumption | with_reducible refine al ?_ _ | with_reducible refine Below.drew ?_ | with_reducible refine Below.setCell ?_ (by first | (simp; done) | (simp; omega)) _ | with_reducible refine tr ?_ (by with_reducible assumption)))⟩
        case measure => simp [intOf]; omega
    · have HF : Hid (edgeB l ⟨px, py⟩ = false) := any_range_false _ _ fun j hj => hno.out j (by rw [hl.1] at hj; omega)
      go_wp2
      go_ret
      exact ⟨ret_bool HF.out.symm, hb⟩

theorem rxor3 {A B C : Prop} [Decidable A] [Decidable B] [Decidable C] {p : Bool} (h : A ∧ B ∧ C) : Value.bool (!p) = Value.bool (xor p (decide A && decide B && decide C)) := by
  rw [decide_eq_true h.1, decide_eq_true h.2.1, decide_eq_true h.2.2]; simp
theorem rxor0 {A B C : Prop} [Decidable A] [Decidable B] [Decidable C] {p : Bool} (h : ¬ (A ∧ B ∧ C)) : Value.bool p = Value.bool (xor p (decide A && decide B && decide C)) := by
  have : (decide A && decide B && decide C) = false := by
    cases hd : (decide A && decide B && decide C)
    · rfl
    · simp at hd; exact absurd ⟨hd.1.1, hd.1.2, hd.2⟩ h
  rw [this]; simp

set_option maxHeartbeats 2000000 in
set_option maxRecDepth 20000 in
theorem rhas2_any (B n c : Nat) (px py : Int) (A : Option Addr) (l : List Pt) (w : World) (hl : PtsAt w B A n l) (hB : B ≤ w.heap.size) (hn : n ≤ 1000000) :
    Calls Tryz.prog 59 #[.slice A n c, ptV px py] w (Ret w (.bool (rhasR l ⟨px, py⟩))) := by
  cases he : edgeB l ⟨px, py⟩
  case true =>
    have HG : Hid (rhasR l ⟨px, py⟩ = true) := by unfold Hid rhasR; rw [he]; rfl
    have HEB := Lib.hid he
    clear he
    go_enter Tryz.func59, Tryz.ntmps59
    go_wp2_with (go_at_call 97; refine (redge_any B n c _ _ A l _ (hl.tr (by repeat (first | with_reducible exact Below.refl _ _ | with_reducible assumption | with_reducible refine al ?_ _ | with_reducible refine Below.drew ?_ | with_reducible refine Below.setCell ?_ (by first | (simp; done) | (simp; omega)) _ | with_reducible refine tr ?_ (by with_reducible assumption))) hB) (Nat.le_trans hB (Below.size (B := w.heap.size) (w := w) (by repeat (first | with_reducible exact Below.refl _ _ | with_reducible assumption | with_reducible refine al ?_ _ | with_reducible refine Below.drew ?_ | with_reducible refine Below.setCell ?_ (by first | (simp; done) | (simp; omega)) _ | with_reducible refine tr ?_ (by with_reducible assumption))))) hn).mono ?_; rw [HEB.out]; rintro e w1 ⟨rfl, hb1⟩; obtain ⟨hc1, hf1⟩ := bcell hb1; have hz1 := hb1.size; (try simp at hz1); have hy0 : w.heap.size < w1.heap.size := (by omega))
    go_ret
    exact ⟨ret_bool HG.out.symm, (by repeat (first | with_reducible exact Below.refl _ _ | with_reducible assumption | with_reducible refine al ?_ _ | with_reducible refine Below.drew ?_ | with_reducible refine Below.setCell ?_ (by first | (simp; done) | (simp; omega)) _ | with_reducible refine tr ?_ (by with_reducible assumption)))⟩
  case false =>
    have HG : Hid (rhasR l ⟨px, py⟩ = parity l ⟨px, py⟩ l.length) := by unfold Hid rhasR; rw [he]; rfl
    have HEB := Lib.hid he
    clear he
    go_enter Tryz.func59, Tryz.ntmps59
    go_wp2_with (go_at_call 97; refine (redge_any B n c _ _ A l _ (hl.tr (by repeat (first | with_reducible exact Below.refl _ _ | with_reducible assumption | with_reducible refine al ?_ _ | with_reducible refine Below.drew ?_ | with_reducible refine Below.setCell ?_ (by first | (simp; done) | (simp; omega)) _ | with_reducible refine tr ?_ (by with_reducible assumption))) hB) (Nat.le_trans hB (Below.size (B := w.heap.size) (w := w) (by repeat (first | with_reducible exact Below.refl _ _ | with_reducible assumption | with_reducible refine al ?_ _ | with_reducible refine Below.drew ?_ | with_reducible refine Below.setCell ?_ (by first | (simp; done) | (simp; omega)) _ | with_reducible refine tr ?_ (by with_reducible assumption))))) hn).mono ?_; rw [HEB.out]; rintro e w1 ⟨rfl, hb1⟩; obtain ⟨hc1, hf1⟩ := bcell hb1; have hz1 := hb1.size; (try simp at hz1); have hy0 : w.heap.size < w1.heap.size := (by omega))
    have hP0 : Blk w1 w.heap.size 27 #[.int .i64 px, .int .i64 py] := (by repeat (first | with_reducible assumption | with_reducible exact Blk.new (by simp) rfl | with_reducible refine Blk.alloc ?_ _ | with_reducible refine Blk.drew ?_ | with_reducible refine Blk.far ?_ (by simp; omega) _ | with_reducible refine Blk.tr ?_ (by with_reducible assumption)))
    have hb0 : Below w.heap.size w w1 := (by repeat (first | with_reducible exact Below.refl _ _ | with_reducible assumption | with_reducible refine al ?_ _ | with_reducible refine Below.drew ?_ | with_reducible refine Below.setCell ?_ (by first | (simp; done) | (simp; omega)) _ | with_reducible refine tr ?_ (by with_reducible assumption)))
    go_loopw [5, 6, 7, 8] (fun s i _ _ wr => ∃ k : Nat, k ≤ n ∧ i = .int .i64 k ∧ s = .bool (parity l ⟨px, py⟩ k) ∧ Blk wr w.heap.size 27 #[.int .i64 px, .int .i64 py] ∧ Below w.heap.size w wr) (fun _ i _ _ _ => n - (intOf i).toNat)
    case atStart => exact ⟨0, Nat.zero_le _, rfl, rfl, hP0, hb0⟩
    case round =>
      obtain ⟨k, hk, rfl, rfl, hP, hb⟩ := hrel
      by_cases hlt : k < n
      · obtain ⟨b, off, rfl, hab, c0, c1⟩ := (hl.below (hb.mono hB)).at_ hlt
        obtain ⟨c2, c3⟩ := nx_of (hl.below (hb.mono hB)) hlt
        have hPl := hP.lt
        have hPc := hP.cell
        have hbs := hb.size
        have hbw : b < wr.heap.size := by omega
        have hbw1 : b < wr.heap.size + 1 := by omega
        have hk0 : (k : Int) < (n : Int) := by omega
        have hk3 : (0 : Int) ≤ (k : Int) + 1 := by omega
        obtain ⟨m, hm, hwr, htm, hml⟩ := step_of hlt hn
        rw [hm] at c2 c3
        clear hm hb0 hP0 hb1 hc1 hf1 hz1
        have hn0 : ¬ n = 0 := by omega
        have hml0 : (m : Int) < (n : Int) := by omega
        have HX : Hid (parity l ⟨px, py⟩ (k + 1) = xor (parity l ⟨px, py⟩ k) (crossesB ⟨(pt l k).x, (pt l k).y⟩ ⟨(nx l k).x, (nx l k).y⟩ ⟨px, py⟩)) := rfl
        by_cases hsw : (nx l k).y < (pt l k).y
        all_goals
          go_wp2_with (go_at_call 98; refine (rcross_any _ _ _ _ _ _ _).mono ?_; rintro e w1 ⟨rfl, hb1⟩; obtain ⟨hc1, hf1⟩ := bcell hb1; have hz1 := hb1.size; (try simp at hz1); have hyr : wr.heap.size < w1.heap.size := (by omega); have hyr1 : wr.heap.size + 1 < w1.heap.size := (by omega); have hyr0 : w.heap.size < w1.heap.size := (by omega))
          all_goals
            go_roundw
            case rel => exact ⟨k + 1, by omega, by go_num, by rw [HX.out, crossesB]; (first | rw [if_pos (by simpa using hsw)] | rw [if_neg (by simp only [Int.not_lt]; simpa using hsw)]); (first | exact rxor3 ⟨by (try dsimp only); omega, by (try dsimp only); omega, by (try dsimp only); omega⟩ | exact rxor0 (by (try dsimp only); omega)), (by repeat (first | with_reducible assumption | with_reducible exact Blk.new (by simp) rfl | with_reducible refine Blk.alloc ?_ _ | with_reducible refine Blk.drew ?_ | with_reducible refine Blk.far ?_ (by simp; omega) _ | with_reducible refine Blk.tr ?_ (by with_reducible assumption))), (by repeat (first | with_reducible exact Below.refl _ _ | with_reducible assumption | with_reducible refine al ?_ _ | with_reducible refine Below.drew ?_ | with_reducible refine Below.setCell ?_ (by first | (simp; done) | (simp; omega)) _ | with_reducible refine tr ?_ (by with_reducible assumption)))⟩
            case measure => simp [intOf]; omega
      · have HL : Hid (k = n) := by unfold Hid; omega
        have HR : Hid (rhasR l ⟨px, py⟩ = parity l ⟨px, py⟩ k) := by unfold Hid; rw [HG.out, HL.out, hl.1]
        go_wp2
        go_ret
        exact ⟨ret_bool HR.out.symm, hb⟩
end Go.Proofs.YtknidfiokmghjaaGreatDoor
