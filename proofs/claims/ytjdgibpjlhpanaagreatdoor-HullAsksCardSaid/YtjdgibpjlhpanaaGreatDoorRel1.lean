/-
  Contracts of package rel: box, verts, interval.
-/
import Derived.Test.YtjdgibpjlhpanaaGreatDoorRingBox
import Derived.Test.YtjdgibpjlhpanaaGreatDoorLex
set_option linter.unusedSimpArgs false
set_option linter.unusedVariables false
namespace Go.Proofs.YtjdgibpjlhpanaaGreatDoor
open Go.RowKit Pg

abbrev obV (k : Int) (A : Option Addr) (n c : Nat) : Value := .agg #[.int .i64 k, .slice A n c]
abbrev bxW (b : Bx) : Value := bxV b.lo.x b.lo.y b.hi.x b.hi.y

set_option maxHeartbeats 1000000 in
set_option maxRecDepth 20000 in
theorem box_any (B n c : Nat) (k : Int) (A : Option Addr) (l : List Pt) (w : World) (hl : PtsAt w B A n l) (hB : B ≤ w.heap.size) (h1 : k = 1 ∨ k = 2 → 1 ≤ n) (h2 : k = 3 → 2 ≤ n) :
    Calls Tryz.prog 52 #[obV k A n c] w (Ret w (.tuple #[bxW (obBox ⟨k, l⟩), .bool (isBox ⟨k, l⟩)])) := by
  by_cases k1 : k = 1
  · subst k1
    have hn := h1 (.inl rfl)
    obtain ⟨b, off, rfl, hab, c0, c1⟩ := hl.at_ (k := 0) hn
    have hn' : 0 < n := by omega
    have hbw : b < w.heap.size := by omega
    have hbw1 : b < w.heap.size + 1 := by omega
    have hbw2 : b < w.heap.size + 1 + 1 := by omega
    simp only [Nat.zero_mul, Nat.add_zero] at c0 c1
    have HR : Hid (obBox ⟨1, l⟩ = ⟨pt l 0, pt l 0⟩) := by simp [Hid, obBox]
    go_enter Tryz.func52, Tryz.ntmps52
    go_wp2_with fail
    refine wp_region_belowB (w.heap.size + 1) [0, 1, 2, 3, 4, 5, 6, 7, 8, 9, 10] (by kernel_rfl) (by kernel_rfl) (fun _ _ d _ _ h => by cases d <;> exact h) ?_
    simp only [List.map_cons, List.map_nil, List.getD_cons_zero, List.getD_cons_succ, bare, gslot, List.getElem?_cons_zero, List.getElem?_cons_succ, Option.bind_some]
    repeat' ((try simp only [Act.put, List.setIfInBounds_toArray, List.set_cons_zero, List.set_cons_succ]); first | (refine lexL_quiet (v := ?_) wantB_none rfl ?_ ?_; rotate_left; focus (intro wq hq; obtain ⟨hcq, hfq⟩ := bcellB hq; go_simp; try with_reducible rfl)) | (refine lexL_loud wantB_none rfl (fun K hK => ?_); go_simp; ((first | fail | skip) <;> (refine hK.out _ _ (by first | with_reducible exact swapB1 | with_reducible exact Below.drew swapB1 | exact (by repeat (first | with_reducible exact Below.refl _ _ | with_reducible assumption | with_reducible refine al ?_ _ | with_reducible refine Below.drew ?_ | with_reducible refine Below.setCell ?_ (by first | (simp; done) | (simp; omega)) _ | with_reducible refine tr ?_ (by with_reducible assumption)))) ?_; clear hK K))) | (refine lexL_on ?_ ?_; focus (simp only [List.getElem?_toArray, List.getElem?_cons_succ, List.getElem?_cons_zero, Bool.not_true, Bool.not_false]; done)) | (refine lexL_off ?_ ?_ ?_; (focus (simp only [List.getElem?_toArray, List.getElem?_cons_succ, List.getElem?_cons_zero, Bool.not_true, Bool.not_false]; done)); (focus (exact (by first | with_reducible exact swapB1 | with_reducible exact Below.drew swapB1 | exact (by repeat (first | with_reducible exact Below.refl _ _ | with_reducible assumption | with_reducible refine al ?_ _ | with_reducible refine Below.drew ?_ | with_reducible refine Below.setCell ?_ (by first | (simp; done) | (simp; omega)) _ | with_reducible refine tr ?_ (by with_reducible assumption))))))) | (refine lexL_splitS (X := ?_) ?_ ?_ (fun hg => ?_) (fun hg => ?_); rotate_left; (focus (simp only [List.getElem?_toArray, List.getElem?_cons_succ, List.getElem?_cons_zero]; with_reducible rfl)); (focus (exact (by first | with_reducible exact swapB1 | with_reducible exact Below.drew swapB1 | exact (by repeat (first | with_reducible exact Below.refl _ _ | with_reducible assumption | with_reducible refine al ?_ _ | with_reducible refine Below.drew ?_ | with_reducible refine Below.setCell ?_ (by first | (simp; done) | (simp; omega)) _ | with_reducible refine tr ?_ (by with_reducible assumption)))))); all_goals (try simp only [Bool.not_true, Bool.not_false] at hg)))
    (all_goals try simp only [Act.put, List.setIfInBounds_toArray, List.set_cons_zero, List.set_cons_succ]); all_goals (refine lexL_nil ?_)
    go_wp2
    exact bodyPost_ret (v := .tuple #[bxW (obBox ⟨1, l⟩), .bool (isBox ⟨1, l⟩)]) (by simp [results, Tryz.results52, go_sem, HR.out, isBox]) rfl ⟨rfl, (by repeat (first | with_reducible exact Below.refl _ _ | with_reducible assumption | with_reducible refine al ?_ _ | with_reducible refine Below.drew ?_ | with_reducible refine Below.setCell ?_ (by first | (simp; done) | (simp; omega)) _ | with_reducible refine tr ?_ (by with_reducible assumption)))⟩
  by_cases k2 : k = 2
  · subst k2
    have hn := h1 (.inr rfl)
    obtain ⟨b, off, rfl, hab, c0, c1⟩ := hl.at_ (k := 0) hn
    have hn' : 0 < n := by omega
    have hbw : b < w.heap.size := by omega
    have hbw1 : b < w.heap.size + 1 := by omega
    have hbw2 : b < w.heap.size + 1 + 1 := by omega
    simp only [Nat.zero_mul, Nat.add_zero] at c0 c1
    have HR : Hid (obBox ⟨2, l⟩ = ⟨⟨(pt l 0).x, 0⟩, ⟨(pt l 0).y, 0⟩⟩) := by simp [Hid, obBox]
    go_enter Tryz.func52, Tryz.ntmps52
    go_wp2_with fail
    refine wp_region_belowB (w.heap.size + 1) [0, 1, 2, 3, 4, 5, 6, 7, 8, 9, 10, 11, 12, 13, 14] (by kernel_rfl) (by kernel_rfl) (fun _ _ d _ _ h => by cases d <;> exact h) ?_
    simp only [List.map_cons, List.map_nil, List.getD_cons_zero, List.getD_cons_succ, bare, gslot, List.getElem?_cons_zero, List.getElem?_cons_succ, Option.bind_some]
    repeat' ((try simp only [Act.put, List.setIfInBounds_toArray, List.set_cons_zero, List.set_cons_succ]); first | (refine lexL_quiet (v := ?_) wantB_none rfl ?_ ?_; rotate_left; focus (intro wq hq; obtain ⟨hcq, hfq⟩ := bcellB hq; go_simp; try with_reducible rfl)) | (refine lexL_loud wantB_none rfl (fun K hK => ?_); go_simp; ((first | fail | skip) <;> (refine hK.out _ _ (by first | with_reducible exact swapB1 | with_reducible exact Below.drew swapB1 | exact (by repeat (first | with_reducible exact Below.refl _ _ | with_reducible assumption | with_reducible refine al ?_ _ | with_reducible refine Below.drew ?_ | with_reducible refine Below.setCell ?_ (by first | (simp; done) | (simp; omega)) _ | with_reducible refine tr ?_ (by with_reducible assumption)))) ?_; clear hK K))) | (refine lexL_on ?_ ?_; focus (simp only [List.getElem?_toArray, List.getElem?_cons_succ, List.getElem?_cons_zero, Bool.not_true, Bool.not_false]; done)) | (refine lexL_off ?_ ?_ ?_; (focus (simp only [List.getElem?_toArray, List.getElem?_cons_succ, List.getElem?_cons_zero, Bool.not_true, Bool.not_false]; done)); (focus (exact (by first | with_reducible exact swapB1 | with_reducible exact Below.drew swapB1 | exact (by repeat (first | with_reducible exact Below.refl _ _ | with_reducible assumption | with_reducible refine al ?_ _ | with_reducible refine Below.drew ?_ | with_reducible refine Below.setCell ?_ (by first | (simp; done) | (simp; omega)) _ | with_reducible refine tr ?_ (by with_reducible assumption))))))) | (refine lexL_splitS (X := ?_) ?_ ?_ (fun hg => ?_) (fun hg => ?_); rotate_left; (focus (simp only [List.getElem?_toArray, List.getElem?_cons_succ, List.getElem?_cons_zero]; with_reducible rfl)); (focus (exact (by first | with_reducible exact swapB1 | with_reducible exact Below.drew swapB1 | exact (by repeat (first | with_reducible exact Below.refl _ _ | with_reducible assumption | with_reducible refine al ?_ _ | with_reducible refine Below.drew ?_ | with_reducible refine Below.setCell ?_ (by first | (simp; done) | (simp; omega)) _ | with_reducible refine tr ?_ (by with_reducible assumption)))))); all_goals (try simp only [Bool.not_true, Bool.not_false] at hg)))
    (all_goals try simp only [Act.put, List.setIfInBounds_toArray, List.set_cons_zero, List.set_cons_succ]); all_goals (refine lexL_nil ?_)
    go_wp2
    exact bodyPost_ret (v := .tuple #[bxW (obBox ⟨2, l⟩), .bool (isBox ⟨2, l⟩)]) (by simp [results, Tryz.results52, go_sem, HR.out, isBox]) rfl ⟨rfl, (by repeat (first | with_reducible exact Below.refl _ _ | with_reducible assumption | with_reducible refine al ?_ _ | with_reducible refine Below.drew ?_ | with_reducible refine Below.setCell ?_ (by first | (simp; done) | (simp; omega)) _ | with_reducible refine tr ?_ (by with_reducible assumption)))⟩
  by_cases k3 : k = 3
  · subst k3
    have hn := h2 rfl
    obtain ⟨b, off, rfl, hab, c0, c1⟩ := hl.at_ (k := 0) (by omega)
    obtain ⟨b', off', he, hab', c2, c3⟩ := hl.at_ (k := 1) (by omega)
    injection he with he
    injection he with he1 he2
    subst he1 he2
    have hn' : 0 < n := by omega
    have hn2 : 1 < n := by omega
    have hn3 : (1 : Int) < n := by omega
    have hbw : b < w.heap.size := by omega
    have hbw1 : b < w.heap.size + 1 := by omega
    have hbw2 : b < w.heap.size + 1 + 1 := by omega
    simp only [Nat.zero_mul, Nat.add_zero, Nat.one_mul] at c0 c1 c2 c3
    have HR : Hid (obBox ⟨3, l⟩ = ⟨pt l 0, pt l 1⟩) := by simp [Hid, obBox]
    go_enter Tryz.func52, Tryz.ntmps52
    go_wp2_with fail
    refine wp_region_belowB (w.heap.size + 1) [0, 1, 2, 3, 4, 5, 6, 7, 8, 9, 10] (by kernel_rfl) (by kernel_rfl) (fun _ _ d _ _ h => by cases d <;> exact h) ?_
    simp only [List.map_cons, List.map_nil, List.getD_cons_zero, List.getD_cons_succ, bare, gslot, List.getElem?_cons_zero, List.getElem?_cons_succ, Option.bind_some]
    repeat' ((try simp only [Act.put, List.setIfInBounds_toArray, List.set_cons_zero, List.set_cons_succ]); first | (refine lexL_quiet (v := ?_) wantB_none rfl ?_ ?_; rotate_left; focus (intro wq hq; obtain ⟨hcq, hfq⟩ := bcellB hq; go_simp; try with_reducible rfl)) | (refine lexL_loud wantB_none rfl (fun K hK => ?_); go_simp; ((first | fail | skip) <;> (refine hK.out _ _ (by first | with_reducible exact swapB1 | with_reducible exact Below.drew swapB1 | exact (by repeat (first | with_reducible exact Below.refl _ _ | with_reducible assumption | with_reducible refine al ?_ _ | with_reducible refine Below.drew ?_ | with_reducible refine Below.setCell ?_ (by first | (simp; done) | (simp; omega)) _ | with_reducible refine tr ?_ (by with_reducible assumption)))) ?_; clear hK K))) | (refine lexL_on ?_ ?_; focus (simp only [List.getElem?_toArray, List.getElem?_cons_succ, List.getElem?_cons_zero, Bool.not_true, Bool.not_false]; done)) | (refine lexL_off ?_ ?_ ?_; (focus (simp only [List.getElem?_toArray, List.getElem?_cons_succ, List.getElem?_cons_zero, Bool.not_true, Bool.not_false]; done)); (focus (exact (by first | with_reducible exact swapB1 | with_reducible exact Below.drew swapB1 | exact (by repeat (first | with_reducible exact Below.refl _ _ | with_reducible assumption | with_reducible refine al ?_ _ | with_reducible refine Below.drew ?_ | with_reducible refine Below.setCell ?_ (by first | (simp; done) | (simp; omega)) _ | with_reducible refine tr ?_ (by with_reducible assumption))))))) | (refine lexL_splitS (X := ?_) ?_ ?_ (fun hg => ?_) (fun hg => ?_); rotate_left; (focus (simp only [List.getElem?_toArray, List.getElem?_cons_succ, List.getElem?_cons_zero]; with_reducible rfl)); (focus (exact (by first | with_reducible exact swapB1 | with_reducible exact Below.drew swapB1 | exact (by repeat (first | with_reducible exact Below.refl _ _ | with_reducible assumption | with_reducible refine al ?_ _ | with_reducible refine Below.drew ?_ | with_reducible refine Below.setCell ?_ (by first | (simp; done) | (simp; omega)) _ | with_reducible refine tr ?_ (by with_reducible assumption)))))); all_goals (try simp only [Bool.not_true, Bool.not_false] at hg)))
    (all_goals try simp only [Act.put, List.setIfInBounds_toArray, List.set_cons_zero, List.set_cons_succ]); all_goals (refine lexL_nil ?_)
    go_wp2
    exact bodyPost_ret (v := .tuple #[bxW (obBox ⟨3, l⟩), .bool (isBox ⟨3, l⟩)]) (by simp [results, Tryz.results52, go_sem, HR.out, isBox]) rfl ⟨rfl, (by repeat (first | with_reducible exact Below.refl _ _ | with_reducible assumption | with_reducible refine al ?_ _ | with_reducible refine Below.drew ?_ | with_reducible refine Below.setCell ?_ (by first | (simp; done) | (simp; omega)) _ | with_reducible refine tr ?_ (by with_reducible assumption)))⟩
  · have HR : Hid (obBox ⟨k, l⟩ = bzero) := by simp [Hid, obBox, k1, k2, k3]
    have HI : Hid (isBox ⟨k, l⟩ = false) := by simp [Hid, isBox, k1, k2, k3]
    go_enter Tryz.func52, Tryz.ntmps52
    go_wp2
    exact bodyPost_ret (v := .tuple #[bxW (obBox ⟨k, l⟩), .bool (isBox ⟨k, l⟩)]) (by simp [results, Tryz.results52, go_sem, HR.out, HI.out, bzero]) rfl ⟨rfl, (by repeat (first | with_reducible exact Below.refl _ _ | with_reducible assumption | with_reducible refine al ?_ _ | with_reducible refine Below.drew ?_ | with_reducible refine Below.setCell ?_ (by first | (simp; done) | (simp; omega)) _ | with_reducible refine tr ?_ (by with_reducible assumption)))⟩

set_option maxHeartbeats 400000 in
theorem verts_any (k : Int) (w : World) : Calls Tryz.prog 95 #[.int .i64 k] w (Ret w (.int .i64 (if k = 3 then 2 else 1))) := by
  by_cases h : k = 3
  all_goals
    go_enter Tryz.func95, Tryz.ntmps95
    go_wp2
    go_ret
    exact ⟨rfl, (by repeat (first | with_reducible exact Below.refl _ _ | with_reducible assumption | with_reducible refine al ?_ _ | with_reducible refine Below.drew ?_ | with_reducible refine Below.setCell ?_ (by first | (simp; done) | (simp; omega)) _ | with_reducible refine tr ?_ (by with_reducible assumption)))⟩

set_option maxHeartbeats 400000 in
theorem interval_any (x y : Int) (w : World) : Calls Tryz.prog 96 #[ptV x y] w (Ret w (errV (ckInt ⟨x, y⟩))) := by
  cases h : okPt ⟨x, y⟩
  · have HE : Hid (errV (if okPt ⟨x, y⟩ = true then 0 else 2) = .iface 131 (.int .i64 2)) := by unfold Hid; rw [h]; rfl
    have HF : Hid (ckInt ⟨x, y⟩ = 2) := by simp [Hid, ckInt, h]
    clear h
    go_enter Tryz.func96, Tryz.ntmps96
    go_wp2_with (go_at_call 51; refine (checkPoint_any _ _ _).mono ?_; rw [HE.out]; rintro e w1 ⟨rfl, hb1⟩; obtain ⟨hc1, hf1⟩ := bcell hb1; have hz1 := hb1.size; (try simp at hz1); have hy0 : w.heap.size < w1.heap.size := (by omega))
    go_ret
    exact ⟨by rw [HF.out]; rfl, (by repeat (first | with_reducible exact Below.refl _ _ | with_reducible assumption | with_reducible refine al ?_ _ | with_reducible refine Below.drew ?_ | with_reducible refine Below.setCell ?_ (by first | (simp; done) | (simp; omega)) _ | with_reducible refine tr ?_ (by with_reducible assumption)))⟩
  · have HE : Hid (errV (if okPt ⟨x, y⟩ = true then 0 else 2) = .nilIface) := by unfold Hid; rw [h]; rfl
    have HF : Hid (ckInt ⟨x, y⟩ = if y < x then 1 else 0) := by simp [Hid, ckInt, h]
    clear h
    by_cases hlt : y < x
    all_goals
      go_enter Tryz.func96, Tryz.ntmps96
      go_wp2_with (go_at_call 51; refine (checkPoint_any _ _ _).mono ?_; rw [HE.out]; rintro e w1 ⟨rfl, hb1⟩; obtain ⟨hc1, hf1⟩ := bcell hb1; have hz1 := hb1.size; (try simp at hz1); have hy0 : w.heap.size < w1.heap.size := (by omega))
      go_ret
      exact ⟨by rw [HF.out]; first | (rw [if_pos (by omega)]; rfl) | (rw [if_neg (by omega)]; rfl), (by repeat (first | with_reducible exact Below.refl _ _ | with_reducible assumption | with_reducible refine al ?_ _ | with_reducible refine Below.drew ?_ | with_reducible refine Below.setCell ?_ (by first | (simp; done) | (simp; omega)) _ | with_reducible refine tr ?_ (by with_reducible assumption)))⟩
end Go.Proofs.YtjdgibpjlhpanaaGreatDoor
