/-
  Contracts of package ring: edge, Has.
-/
import Derived.Test.YtknidfiokmghjaaDoorRingCk
import Derived.Test.YtknidfiokmghjaaDoorWords2
set_option linter.unusedSimpArgs false
set_option linter.unusedVariables false
namespace Go.Proofs.YtknidfiokmghjaaDoor
open Go.RowKit Pg

set_option maxHeartbeats 1000000 in
theorem edge_any (B n c : Nat) (px py : Int) (A : Option Addr) (l : List Pt) (w : World) (hl : PtsAt w B A n l) (hB : B ≤ w.heap.size) (hn : n ≤ 1000000) :
    Calls Tryd.prog 74 #[.slice A n c, ptV px py] w (Ret w (.bool (edgeB l ⟨px, py⟩))) := by
  go_enter Tryd.func74, Tryd.ntmps74
  go_wp2
  go_loopw [8] (fun i wr => ∃ k : Nat, k ≤ n ∧ i = .int .i64 k ∧ Hid (∀ j, j < k → onS (pt l j) (nx l j) ⟨px, py⟩ = false) ∧ Blk wr w.heap.size 26 #[.int .i64 px, .int .i64 py] ∧ Below w.heap.size w wr) (fun i _ => n - (intOf i).toNat)
  case atStart => exact ⟨0, Nat.zero_le _, rfl, fun j hj => by omega, Blk.new rfl rfl, (by repeat (first | with_reducible exact Below.refl _ _ | with_reducible assumption | with_reducible refine al ?_ _ | with_reducible refine Below.drew ?_ | with_reducible refine Below.setCell ?_ (by first | (simp; done) | (simp; omega)) _ | with_reducible refine tr ?_ (by with_reducible assumption)))⟩
  case round =>
    obtain ⟨k, hk, rfl, hno, hP, hb⟩ := hrel
    by_cases hlt : k < n
    · obtain ⟨b, off, rfl, hab, c0, c1⟩ := (hl.below (hb.mono hB)).at_ hlt
      have hPl := hP.lt
      have hPc := hP.cell
      have hbw : b < wr.heap.size := by omega
      have hk0 : (k : Int) < (n : Int) := by omega
      go_wp2_with fail
      refine wp_region_below [0, 1, 2, 3, 4, 5, 7, 6, 8] (by kernel_rfl) (by kernel_rfl) (fun _ _ d _ _ h => by cases d <;> exact h) ?_
      simp only [List.map_cons, List.map_nil, List.getD_cons_zero, List.getD_cons_succ, bare, gslot, List.getElem?_cons_zero, List.getElem?_cons_succ, Option.bind_some]
      repeat' ((try simp only [Act.put, List.setIfInBounds_toArray, List.set_cons_zero, List.set_cons_succ]); first | (refine lexL_quiet (v := ?_) wantB_none rfl ?_ ?_; rotate_left; focus (intro wq hq; obtain ⟨hcq, hfq⟩ := bcell hq; go_simp; try with_reducible rfl)) | (refine lexL_loud wantB_none rfl (fun K hK => ?_); go_simp; ((first | (go_at_call 70; refine (next_any B n c k _ l _ (hl.tr (by repeat (first | with_reducible exact Below.refl _ _ | with_reducible assumption | with_reducible refine al ?_ _ | with_reducible refine Below.drew ?_ | with_reducible refine Below.setCell ?_ (by first | (simp; done) | (simp; omega)) _ | with_reducible refine tr ?_ (by with_reducible assumption))) hB) (Nat.le_trans hB (Below.size (B := w.heap.size) (w := w) (by repeat (first | with_reducible exact Below.refl _ _ | with_reducible assumption | with_reducible refine al ?_ _ | with_reducible refine Below.drew ?_ | with_reducible refine Below.setCell ?_ (by first | (simp; done) | (simp; omega)) _ | with_reducible refine tr ?_ (by with_reducible assumption))))) hn hlt).mono ?_; rintro e w1 ⟨rfl, hb1⟩; obtain ⟨hc1, hf1⟩ := bcell hb1; have hz1 := hb1.size; (try simp at hz1); have hy0 : w.heap.size < w1.heap.size := (by omega)) | (go_at_call 71; refine (on_any _ _ _ _ _ _ _).mono ?_; rintro e w1 ⟨rfl, hb1⟩; obtain ⟨hc1, hf1⟩ := bcell hb1; have hz1 := hb1.size; (try simp at hz1); have hy0 : w.heap.size < w1.heap.size := (by omega)) | skip) <;> (refine hK.out _ _ (by repeat (first | with_reducible exact Below.refl _ _ | with_reducible assumption | with_reducible refine al ?_ _ | with_reducible refine Below.drew ?_ | with_reducible refine Below.setCell ?_ (by first | (simp; done) | (simp; omega)) _ | with_reducible refine tr ?_ (by with_reducible assumption))) ?_; clear hK K))) | (refine lexL_on ?_ ?_; focus (simp only [List.getElem?_toArray, List.getElem?_cons_succ, List.getElem?_cons_zero, Bool.not_true, Bool.not_false]; done)) | (refine lexL_off ?_ ?_ ?_; (focus (simp only [List.getElem?_toArray, List.getElem?_cons_succ, List.getElem?_cons_zero, Bool.not_true, Bool.not_false]; done)); (focus (exact (by repeat (first | with_reducible exact Below.refl _ _ | with_reducible assumption | with_reducible refine al ?_ _ | with_reducible refine Below.drew ?_ | with_reducible refine Below.setCell ?_ (by first | (simp; done) | (simp; omega)) _ | with_reducible refine tr ?_ (by with_reducible assumption)))))) | (refine lexL_splitS (X := ?_) ?_ ?_ (fun hg => ?_) (fun hg => ?_); rotate_left; (focus (simp only [List.getElem?_toArray, List.getElem?_cons_succ, List.getElem?_cons_zero]; with_reducible rfl)); (focus (exact (by repeat (first | with_reducible exact Below.refl _ _ | with_reducible assumption | with_reducible refine al ?_ _ | with_reducible refine Below.drew ?_ | with_reducible refine Below.setCell ?_ (by first | (simp; done) | (simp; omega)) _ | with_reducible refine tr ?_ (by with_reducible assumption))))); all_goals (try simp only [Bool.not_true, Bool.not_false] at hg)))
      (all_goals try simp only [Act.put, List.setIfInBounds_toArray, List.set_cons_zero, List.set_cons_succ]); all_goals (refine lexL_nil ?_)
      go_wp2
      · go_ret
        exact ⟨ret_bool (any_range_true _ (fun j => onS (pt l j) (nx l j) ⟨px, py⟩) k (by rw [hl.1]; exact hlt) (by assumption)).symm, (by repeat (first | with_reducible exact Below.refl _ _ | with_reducible assumption | with_reducible refine al ?_ _ | with_reducible refine Below.drew ?_ | with_reducible refine Below.setCell ?_ (by first | (simp; done) | (simp; omega)) _ | with_reducible refine tr ?_ (by with_reducible assumption)))⟩
      · have hf : onS ⟨(pt l k).x, (pt l k).y⟩ ⟨(nx l k).x, (nx l k).y⟩ ⟨px, py⟩ = false := by first | assumption | (simpa using (by assumption : ¬ onS ⟨(pt l k).x, (pt l k).y⟩ ⟨(nx l k).x, (nx l k).y⟩ ⟨px, py⟩ = true))
        have HF := Lib.hid hf
        clear hf
        go_roundw
        case rel => exact ⟨k + 1, by omega, by go_num, fun j hj => by
          by_cases e : j = k
          · subst e; exact HF.out
          · exact hno.out j (by omega), (by repeat (first | with_reducible assumption | with_reducible exact Blk.new (by simp) rfl | with_reducible refine Blk.alloc ?_ _ | with_reducible refine Blk.drew ?_ | with_reducible refine Blk.far ?_ (by simp; omega) _ | with_reducible refine Blk.tr ?_ (by with_reducible assumption))), (by repeat (first | with_reducible exact Below.refl _ _ | with_reducible assumption | with_reducible refine al ?_ _ | with_reducible refine Below.drew ?_ | with_reducible refine Below.setCell ?_ (by first | (simp; done) | (simp; omega)) _ | with_reducible refine tr ?_ (by with_reducible assumption)))⟩
        case measure => simp [intOf]; omega
    · have HF : Hid (edgeB l ⟨px, py⟩ = false) := any_range_false _ _ fun j hj => hno.out j (by rw [hl.1] at hj; omega)
      go_wp2
      go_ret
      exact ⟨ret_bool HF.out.symm, hb⟩

theorem check_ok (B n c : Nat) (A : Option Addr) (l : List Pt) (w : World) (hl : PtsAt w B A n l) (hB : B ≤ w.heap.size) (hn : n ≤ 1000000) (h : ckRing l = 0) :
    Calls Tryd.prog 44 #[.slice A n c] w (Ret w .nilIface) := by
  refine (check_any B n c A l w hl hB hn).mono ?_
  rintro e w' ⟨v, he, hv, hb⟩
  rcases hv with ⟨_, hv⟩ | ⟨hv, _⟩
  · exact ⟨by rw [he, hv], hb⟩
  · exact absurd h hv
theorem check_bad (B n c : Nat) (A : Option Addr) (l : List Pt) (w : World) (hl : PtsAt w B A n l) (hB : B ≤ w.heap.size) (hn : n ≤ 1000000) (h : ckRing l ≠ 0) :
    Calls Tryd.prog 44 #[.slice A n c] w fun e w' => ∃ g, e = .returned (.iface 55 (.pointer (some ⟨g, 0, none⟩))) ∧ Hid (∃ (s : ByteArray) (id : Int), Blk w' g 59 #[.string s, .int .i64 id, .iface 66 (.int .i64 (ckRing l))]) ∧ Below w.heap.size w w' := by
  refine (check_any B n c A l w hl hB hn).mono ?_
  rintro e w' ⟨v, he, hv, hb⟩
  rcases hv with ⟨hv, _⟩ | ⟨_, g, s, id, hv, hB'⟩
  · exact absurd hv h
  · exact ⟨g, by rw [he, hv]; rfl, ⟨s, id, by rw [← errV_pos h]; exact hB'⟩, hb⟩
end Go.Proofs.YtknidfiokmghjaaDoor
