/-
  Contracts of package rel: cut.
-/
import Derived.Test.YtjdgibpjlhpanaaGreatDoorRel2
import Derived.Test.YtjdgibpjlhpanaaGreatDoorGeo
set_option linter.unusedSimpArgs false
set_option linter.unusedVariables false
namespace Go.Proofs.YtjdgibpjlhpanaaGreatDoor
open Go.RowKit Pg

/-- the next corner's cells, at the same block -/
theorem nx_of {w : World} {B n b off k : Nat} {l : List Pt} (hl : PtsAt w B (some ⟨b, off, none⟩) n l) (hk : k < n) :
    w.cell? ⟨b, off + (k + 1) % n * 2, none⟩ = some (.int .i64 (nx l k).x) ∧ w.cell? ⟨b, off + (k + 1) % n * 2 + 1, none⟩ = some (.int .i64 (nx l k).y) := by
  obtain ⟨b', off', e, _, c0, c1⟩ := hl.at_ (k := (k + 1) % n) (Nat.mod_lt _ (by omega))
  injection e with e
  injection e with e1 e2
  subst e1 e2
  rw [nx, hl.1]
  exact ⟨c0, c1⟩

theorem cutS_t {l : List Pt} {b : Bx} {k : Nat} (hk : k < l.length) (h : mbox (pt l k) (nx l k) b = true) : cutS l b = true := by
  unfold cutS
  rw [any_range_true _ (fun j => mbox (pt l j) (nx l j) b) k hk h]
  rfl
/-- the step to the next corner, as the machine reckons it -/
theorem step_of {k n : Nat} (hk : k < n) (hn : n ≤ 1000000) : ∃ m : Nat, (k + 1) % n = m ∧ IntKind.i64.wrap ((k : Int) + 1) = (k : Int) + 1 ∧ ((k : Int) + 1).tmod (n : Int) = (m : Int) ∧ m < n := by
  refine ⟨(k + 1) % n, rfl, IntWalk.i64_in _ (by omega), ?_, Nat.mod_lt _ (by omega)⟩
  rw [Int.tmod_eq_emod_of_nonneg (by omega), Int.natCast_emod]
  rfl

set_option maxHeartbeats 1000000 in
set_option maxRecDepth 20000 in
theorem cut_any (B n c : Nat) (b0 : Bx) (A : Option Addr) (l : List Pt) (w : World) (hl : PtsAt w B A n l) (hB : B ≤ w.heap.size) (hn : n ≤ 1000000) :
    Calls Tryz.prog 99 #[.slice A n c, bxW b0] w (Ret w (.bool (cutS l b0))) := by
  go_enter Tryz.func99, Tryz.ntmps99
  go_wp2
  go_loopw [9] (fun i wr => ∃ k : Nat, k ≤ n ∧ i = .int .i64 k ∧ Hid (∀ j, j < k → mbox (pt l j) (nx l j) b0 = false) ∧ Blk wr w.heap.size 28 #[.int .i64 b0.lo.x, .int .i64 b0.lo.y, .int .i64 b0.hi.x, .int .i64 b0.hi.y] ∧ Below w.heap.size w wr) (fun i _ => n - (intOf i).toNat)
  case atStart => exact ⟨0, Nat.zero_le _, rfl, fun j hj => by omega, Blk.new rfl rfl, (by repeat (first | with_reducible exact Below.refl _ _ | with_reducible assumption | with_reducible refine al ?_ _ | with_reducible refine Below.drew ?_ | with_reducible refine Below.setCell ?_ (by first | (simp; done) | (simp; omega)) _ | with_reducible refine tr ?_ (by with_reducible assumption)))⟩
  case round =>
    obtain ⟨k, hk, rfl, hno, hP, hb⟩ := hrel
    by_cases hlt : k < n
    · obtain ⟨b, off, rfl, hab, c0, c1⟩ := (hl.below (hb.mono hB)).at_ hlt
      obtain ⟨c2, c3⟩ := nx_of (hl.below (hb.mono hB)) hlt
      have hPl := hP.lt
      have hPc := hP.cell
      have hPl := hP.lt
      have hbs := hb.size
      have hbw : b < wr.heap.size := by omega
      have hbw1 : b < wr.heap.size + 1 := by omega
      have hpw1 : w.heap.size < wr.heap.size + 1 := by omega
      have hk0 : (k : Int) < (n : Int) := by omega
      obtain ⟨m, hm, hwr, htm, hml⟩ := step_of hlt hn
      rw [hm] at c2 c3
      clear hm
      have hn0 : ¬ n = 0 := by omega
      have hml0 : (m : Int) < (n : Int) := by omega
      go_wp2_with fail
      refine wp_region_belowI (by kernel_rfl) (by kernel_rfl) (fun _ _ d _ _ h => by cases d <;> exact h) ?_
      simp only [List.map_cons, List.map_nil, List.getD_cons_zero, List.getD_cons_succ, bare, gslot, List.getElem?_cons_zero, List.getElem?_cons_succ, Option.bind_some]
      repeat' ((try simp only [Act.put, List.setIfInBounds_toArray, List.set_cons_zero, List.set_cons_succ]); first | (refine lexL_quiet (v := ?_) wantB_none rfl ?_ ?_; rotate_left; focus (intro wq hq; obtain ⟨hcq, hfq⟩ := bcell hq; go_simp; try with_reducible rfl)) | (refine lexL_loud wantB_none rfl (fun K hK => ?_); go_simp; ((first | (go_at_call 141; refine (meetsBox_any _ _ _ _ _ _ _ _ _).mono ?_; rintro e w1 ⟨rfl, hb1⟩; obtain ⟨hc1, hf1⟩ := bcell hb1; have hz1 := hb1.size; (try simp at hz1); have hy0 : w.heap.size < w1.heap.size := (by omega)) | skip) <;> (refine hK.out _ _ (by repeat (first | with_reducible exact Below.refl _ _ | with_reducible assumption | with_reducible refine al ?_ _ | with_reducible refine Below.drew ?_ | with_reducible refine Below.setCell ?_ (by first | (simp; done) | (simp; omega)) _ | with_reducible refine tr ?_ (by with_reducible assumption))) ?_; clear hK K))) | (refine lexL_on ?_ ?_; focus (simp only [List.getElem?_toArray, List.getElem?_cons_succ, List.getElem?_cons_zero, Bool.not_true, Bool.not_false]; done)) | (refine lexL_off ?_ ?_ ?_; (focus (simp only [List.getElem?_toArray, List.getElem?_cons_succ, List.getElem?_cons_zero, Bool.not_true, Bool.not_false]; done)); (focus (exact (by repeat (first | with_reducible exact Below.refl _ _ | with_reducible assumption | with_reducible refine al ?_ _ | with_reducible refine Below.drew ?_ | with_reducible refine Below.setCell ?_ (by first | (simp; done) | (simp; omega)) _ | with_reducible refine tr ?_ (by with_reducible assumption)))))) | (refine lexL_splitS (X := ?_) ?_ ?_ (fun hg => ?_) (fun hg => ?_); rotate_left; (focus (simp only [List.getElem?_toArray, List.getElem?_cons_succ, List.getElem?_cons_zero]; with_reducible rfl)); (focus (exact (by repeat (first | with_reducible exact Below.refl _ _ | with_reducible assumption | with_reducible refine al ?_ _ | with_reducible refine Below.drew ?_ | with_reducible refine Below.setCell ?_ (by first | (simp; done) | (simp; omega)) _ | with_reducible refine tr ?_ (by with_reducible assumption))))); all_goals (try simp only [Bool.not_true, Bool.not_false] at hg)))
      (all_goals try simp only [Act.put, List.setIfInBounds_toArray, List.set_cons_zero, List.set_cons_succ]); all_goals (refine lexL_nil ?_)
      go_wp2
      · go_ret
        exact ⟨ret_bool (cutS_t (by rw [hl.1]; exact hlt) (by assumption)).symm, (by repeat (first | with_reducible exact Below.refl _ _ | with_reducible assumption | with_reducible refine al ?_ _ | with_reducible refine Below.drew ?_ | with_reducible refine Below.setCell ?_ (by first | (simp; done) | (simp; omega)) _ | with_reducible refine tr ?_ (by with_reducible assumption)))⟩
      · have hf : mbox ⟨(pt l k).x, (pt l k).y⟩ ⟨(nx l k).x, (nx l k).y⟩ ⟨⟨b0.lo.x, b0.lo.y⟩, ⟨b0.hi.x, b0.hi.y⟩⟩ = false := by first | assumption | (simpa using (by assumption : ¬ mbox ⟨(pt l k).x, (pt l k).y⟩ ⟨(nx l k).x, (nx l k).y⟩ ⟨⟨b0.lo.x, b0.lo.y⟩, ⟨b0.hi.x, b0.hi.y⟩⟩ = true))
        have HF := Lib.hid hf
        clear hf
        go_roundw
        case rel => exact ⟨k + 1, by omega, by go_num, fun j hj => by
          by_cases e : j = k
          · subst e; exact HF.out
          · exact hno.out j (by omega), (by repeat (first | with_reducible assumption | with_reducible exact Blk.new (by simp) rfl | with_reducible refine Blk.alloc ?_ _ | with_reducible refine Blk.drew ?_ | with_reducible refine Blk.far ?_ (by first | (simp; done) | (simp; omega)) _ | with_reducible refine Blk.tr ?_ (by with_reducible assumption))), (by repeat (first | with_reducible exact Below.refl _ _ | with_reducible assumption | with_reducible refine al ?_ _ | with_reducible refine Below.drew ?_ | with_reducible refine Below.setCell ?_ (by first | (simp; done) | (simp; omega)) _ | with_reducible refine tr ?_ (by with_reducible assumption)))⟩
        case measure => simp [intOf]; omega
    · have HF : Hid (cutS l b0 = rhas l b0.lo) := by
        have h : (List.range l.length).any (fun j => mbox (pt l j) (nx l j) b0) = false := any_range_false _ _ fun j hj => hno.out j (by rw [hl.1] at hj; omega)
        unfold Hid cutS
        rw [h]; rfl
      have hPc := hP.cell
      have hPl := hP.lt
      go_wp2_with (go_at_call 54; refine (rhas_any B n c _ _ A l _ (hl.tr (by repeat (first | with_reducible exact Below.refl _ _ | with_reducible assumption | with_reducible refine al ?_ _ | with_reducible refine Below.drew ?_ | with_reducible refine Below.setCell ?_ (by first | (simp; done) | (simp; omega)) _ | with_reducible refine tr ?_ (by with_reducible assumption))) hB) (Nat.le_trans hB (Below.size (B := w.heap.size) (w := w) (by repeat (first | with_reducible exact Below.refl _ _ | with_reducible assumption | with_reducible refine al ?_ _ | with_reducible refine Below.drew ?_ | with_reducible refine Below.setCell ?_ (by first | (simp; done) | (simp; omega)) _ | with_reducible refine tr ?_ (by with_reducible assumption))))) hn).mono ?_; rintro e w1 ⟨rfl, hb1⟩; obtain ⟨hc1, hf1⟩ := bcell hb1; have hz1 := hb1.size; (try simp at hz1); have hy0 : w.heap.size < w1.heap.size := (by omega))
      go_ret
      exact ⟨ret_bool HF.out.symm, (by repeat (first | with_reducible exact Below.refl _ _ | with_reducible assumption | with_reducible refine al ?_ _ | with_reducible refine Below.drew ?_ | with_reducible refine Below.setCell ?_ (by first | (simp; done) | (simp; omega)) _ | with_reducible refine tr ?_ (by with_reducible assumption)))⟩
end Go.Proofs.YtjdgibpjlhpanaaGreatDoor
