/-
  Contracts of the references of chapter 6: ringBox, rings, Rings.
-/
import Derived.Test.YtknidfiokmghjaaGreatDoorRef9
set_option linter.unusedSimpArgs false
set_option linter.unusedVariables false
namespace Go.Proofs.YtknidfiokmghjaaGreatDoor
open Go.RowKit Pg

theorem rbox_t {l : List Pt} {b : Bx} {k : Nat} (hk : k < l.length) (h : mboxR (pt l k) (nx l k) b = true) : ringBoxR l b = true := by
  unfold ringBoxR
  rw [any_range_true _ (fun i => mboxR (pt l i) (nx l i) b) k hk h, Bool.or_true]

set_option maxHeartbeats 1000000 in
set_option maxRecDepth 20000 in
theorem rringBox_any (B n c : Nat) (r : Bx) (A : Option Addr) (l : List Pt) (w : World) (hl : PtsAt w B A n l) (hB : B ≤ w.heap.size) (hn : n ≤ 1000000) :
    Calls Tryz.prog 40 #[.slice A n c, bxV r.lo.x r.lo.y r.hi.x r.hi.y] w (Ret w (.bool (ringBoxR l r))) := by
  cases h0 : rhasR l ⟨r.lo.x, r.lo.y⟩
  case true =>
    have HG : Hid (ringBoxR l r = true) := by
      have h1 : rhasR l r.lo = true := h0
      unfold Hid ringBoxR
      rw [h1, Bool.true_or]
    have H0 := Lib.hid h0
    clear h0
    go_enter Tryz.func40, Tryz.ntmps40
    go_wp2_with (go_at_call 59; refine (rhas2_any B n c _ _ A l _ (hl.tr (by repeat (first | with_reducible exact Below.refl _ _ | with_reducible assumption | with_reducible refine al ?_ _ | with_reducible refine Below.drew ?_ | with_reducible refine Below.setCell ?_ (by first | (simp; done) | (simp; omega)) _ | with_reducible refine tr ?_ (by with_reducible assumption))) hB) (Nat.le_trans hB (Below.size (B := w.heap.size) (w := w) (by repeat (first | with_reducible exact Below.refl _ _ | with_reducible assumption | with_reducible refine al ?_ _ | with_reducible refine Below.drew ?_ | with_reducible refine Below.setCell ?_ (by first | (simp; done) | (simp; omega)) _ | with_reducible refine tr ?_ (by with_reducible assumption))))) hn).mono ?_; rw [H0.out]; rintro e w1 ⟨rfl, hb1⟩; obtain ⟨hc1, hf1⟩ := bcell hb1; have hz1 := hb1.size; (try simp at hz1); have hy0 : w.heap.size < w1.heap.size := (by omega))
    go_ret
    exact ⟨ret_bool HG.out.symm, (by repeat (first | with_reducible exact Below.refl _ _ | with_reducible assumption | with_reducible refine al ?_ _ | with_reducible refine Below.drew ?_ | with_reducible refine Below.setCell ?_ (by first | (simp; done) | (simp; omega)) _ | with_reducible refine tr ?_ (by with_reducible assumption)))⟩
  case false =>
    have H0 := Lib.hid h0
    clear h0
    go_enter Tryz.func40, Tryz.ntmps40
    go_wp2_with (go_at_call 59; refine (rhas2_any B n c _ _ A l _ (hl.tr (by repeat (first | with_reducible exact Below.refl _ _ | with_reducible assumption | with_reducible refine al ?_ _ | with_reducible refine Below.drew ?_ | with_reducible refine Below.setCell ?_ (by first | (simp; done) | (simp; omega)) _ | with_reducible refine tr ?_ (by with_reducible assumption))) hB) (Nat.le_trans hB (Below.size (B := w.heap.size) (w := w) (by repeat (first | with_reducible exact Below.refl _ _ | with_reducible assumption | with_reducible refine al ?_ _ | with_reducible refine Below.drew ?_ | with_reducible refine Below.setCell ?_ (by first | (simp; done) | (simp; omega)) _ | with_reducible refine tr ?_ (by with_reducible assumption))))) hn).mono ?_; rw [H0.out]; rintro e wc ⟨rfl, hbc⟩; obtain ⟨hcc, hfc⟩ := bcell hbc; have hzc := hbc.size; (try simp at hzc); have hyc : w.heap.size < wc.heap.size := (by omega))
    have hP0 : Blk wc w.heap.size 29 #[.int .i64 r.lo.x, .int .i64 r.lo.y, .int .i64 r.hi.x, .int .i64 r.hi.y] := (by repeat (first | with_reducible assumption | with_reducible exact Blk.new (by simp) rfl | with_reducible refine Blk.alloc ?_ _ | with_reducible refine Blk.drew ?_ | with_reducible refine Blk.far ?_ (by simp; omega) _ | with_reducible refine Blk.tr ?_ (by with_reducible assumption)))
    have hb0 : Below w.heap.size w wc := (by repeat (first | with_reducible exact Below.refl _ _ | with_reducible assumption | with_reducible refine al ?_ _ | with_reducible refine Below.drew ?_ | with_reducible refine Below.setCell ?_ (by first | (simp; done) | (simp; omega)) _ | with_reducible refine tr ?_ (by with_reducible assumption)))
    go_loopw [5] (fun i wr => ∃ k : Nat, k ≤ n ∧ i = .int .i64 k ∧ Hid (∀ j, j < k → mboxR (pt l j) (nx l j) r = false) ∧ Blk wr w.heap.size 29 #[.int .i64 r.lo.x, .int .i64 r.lo.y, .int .i64 r.hi.x, .int .i64 r.hi.y] ∧ Below w.heap.size w wr) (fun i _ => n - (intOf i).toNat)
    case atStart => exact ⟨0, Nat.zero_le _, rfl, fun j hj => by omega, hP0, hb0⟩
    case round =>
      obtain ⟨k, hk, rfl, hno, hP, hb⟩ := hrel
      clear hP0 hb0 hbc hcc hfc hzc hyc
      by_cases hlt : k < n
      · obtain ⟨b, off, rfl, hab, c0, c1⟩ := (hl.below (hb.mono hB)).at_ hlt
        obtain ⟨c2, c3⟩ := nx_of (hl.below (hb.mono hB)) hlt
        have hPl := hP.lt
        have hPc := hP.cell
        have hbs := hb.size
        have hbw : b < wr.heap.size := by omega
        have hk0 : (k : Int) < (n : Int) := by omega
        have hk3 : (0 : Int) ≤ (k : Int) + 1 := by omega
        obtain ⟨m, hm, hwr, htm, hml⟩ := step_of hlt hn
        rw [hm] at c2 c3
        clear hm
        have hn0 : ¬ n = 0 := by omega
        have hml0 : (m : Int) < (n : Int) := by omega
        go_wp2_with fail
        refine wp_region_belowI (by kernel_rfl) (by kernel_rfl) (fun _ _ d _ _ h => by cases d <;> exact h) ?_
        simp only [List.map_cons, List.map_nil, List.getD_cons_zero, List.getD_cons_succ, bare, gslot, List.getElem?_cons_zero, List.getElem?_cons_succ, Option.bind_some]
        repeat' ((try simp only [Act.put, List.setIfInBounds_toArray, List.set_cons_zero, List.set_cons_succ]); first | (refine lexL_quiet (v := ?_) wantB_none rfl ?_ ?_; rotate_left; focus (intro wq hq; obtain ⟨hcq, hfq⟩ := bcell hq; go_simp; try with_reducible rfl)) | (refine lexL_loud wantB_none rfl (fun K hK => ?_); go_simp; ((first | (go_at_call 73; refine (rmeetsBox_any _ _ _ _ r _).mono ?_; rintro e w1 ⟨rfl, hb1⟩; obtain ⟨hc1, hf1⟩ := bcell hb1; have hz1 := hb1.size; (try simp at hz1)) | skip) <;> (refine hK.out _ _ (by repeat (first | with_reducible exact Below.refl _ _ | with_reducible assumption | with_reducible refine al ?_ _ | with_reducible refine Below.drew ?_ | with_reducible refine Below.setCell ?_ (by first | (simp; done) | (simp; omega)) _ | with_reducible refine tr ?_ (by with_reducible assumption))) ?_; clear hK K))) | (refine lexL_on ?_ ?_; focus (simp only [List.getElem?_toArray, List.getElem?_cons_succ, List.getElem?_cons_zero, Bool.not_true, Bool.not_false]; done)) | (refine lexL_off ?_ ?_ ?_; (focus (simp only [List.getElem?_toArray, List.getElem?_cons_succ, List.getElem?_cons_zero, Bool.not_true, Bool.not_false]; done)); (focus (exact (by repeat (first | with_reducible exact Below.refl _ _ | with_reducible assumption | with_reducible refine al ?_ _ | with_reducible refine Below.drew ?_ | with_reducible refine Below.setCell ?_ (by first | (simp; done) | (simp; omega)) _ | with_reducible refine tr ?_ (by with_reducible assumption)))))) | (refine lexL_splitS (X := ?_) ?_ ?_ (fun hg => ?_) (fun hg => ?_); rotate_left; (focus (simp only [List.getElem?_toArray, List.getElem?_cons_succ, List.getElem?_cons_zero]; with_reducible rfl)); (focus (exact (by repeat (first | with_reducible exact Below.refl _ _ | with_reducible assumption | with_reducible refine al ?_ _ | with_reducible refine Below.drew ?_ | with_reducible refine Below.setCell ?_ (by first | (simp; done) | (simp; omega)) _ | with_reducible refine tr ?_ (by with_reducible assumption))))); all_goals (try simp only [Bool.not_true, Bool.not_false] at hg)))
        (all_goals try simp only [Act.put, List.setIfInBounds_toArray, List.set_cons_zero, List.set_cons_succ]); all_goals (refine lexL_nil ?_)
        go_wp2
        · go_ret
          exact ⟨ret_bool (rbox_t (by rw [hl.1]; exact hlt) (by assumption)).symm, (by repeat (first | with_reducible exact Below.refl _ _ | with_reducible assumption | with_reducible refine al ?_ _ | with_reducible refine Below.drew ?_ | with_reducible refine Below.setCell ?_ (by first | (simp; done) | (simp; omega)) _ | with_reducible refine tr ?_ (by with_reducible assumption)))⟩
        · have hf : mboxR ⟨(pt l k).x, (pt l k).y⟩ ⟨(nx l k).x, (nx l k).y⟩ r = false := by first | assumption | (simpa using (by assumption : ¬ mboxR ⟨(pt l k).x, (pt l k).y⟩ ⟨(nx l k).x, (nx l k).y⟩ r = true))
          have HF := Lib.hid hf
          clear hf
          go_roundw
          case rel => exact ⟨k + 1, by omega, by go_num, fun j hj => by
            by_cases e : j = k
            · subst e; exact HF.out
            · exact hno.out j (by omega), (by repeat (first | with_reducible assumption | with_reducible exact Blk.new (by simp) rfl | with_reducible refine Blk.alloc ?_ _ | with_reducible refine Blk.drew ?_ | with_reducible refine Blk.far ?_ (by simp; omega) _ | with_reducible refine Blk.tr ?_ (by with_reducible assumption))), (by repeat (first | with_reducible exact Below.refl _ _ | with_reducible assumption | with_reducible refine al ?_ _ | with_reducible refine Below.drew ?_ | with_reducible refine Below.setCell ?_ (by first | (simp; done) | (simp; omega)) _ | with_reducible refine tr ?_ (by with_reducible assumption)))⟩
          case measure => simp [intOf]; omega
      · have HF : Hid (ringBoxR l r = false) := by
          have h1 : rhasR l r.lo = false := H0.out
          unfold Hid ringBoxR
          rw [h1, any_range_false _ _ fun j hj => hno.out j (by rw [hl.1] at hj; omega)]
          rfl
        go_wp2
        go_ret
        exact ⟨ret_bool HF.out.symm, hb⟩

theorem crossAny2_t {a b : List Pt} {i k : Nat} (hi : i < a.length) (hk : k < b.length) (h : meetS (pt a i) (nx a i) (pt b k) (nx b k) = true) : crossAny a b = true :=
  any_range_true _ _ i hi (any_range_true _ _ k hk h)
theorem crossAny2_f {a b : List Pt} (h : ∀ i, i < a.length → ∀ k, k < b.length → meetS (pt a i) (nx a i) (pt b k) (nx b k) = false) : crossAny a b = false :=
  any_range_false _ _ fun i hi => any_range_false _ _ fun k hk => h i hi k hk

set_option maxHeartbeats 2000000 in
set_option maxRecDepth 20000 in
theorem rrings_any (B n c n' c' : Nat) (A A' : Option Addr) (l l' : List Pt) (w : World) (hl : PtsAt w B A n l) (hl' : PtsAt w B A' n' l') (hB : B ≤ w.heap.size) (hn : n ≤ 1000000) (hn' : n' ≤ 1000000) (h1 : 1 ≤ n) (h1' : 1 ≤ n') :
    Calls Tryz.prog 39 #[.slice A n c, .slice A' n' c'] w (Ret w (.bool (ringsR l l'))) := by
  obtain ⟨b, off, rfl, hab, c0, c1⟩ := hl.at_ (k := 0) (by omega)
  obtain ⟨b', off', rfl, hab', d0, d1⟩ := hl'.at_ (k := 0) (by omega)
  simp only [Nat.zero_mul, Nat.add_zero] at c0 c1 d0 d1
  have hbw : b < w.heap.size := by omega
  have hbw' : b' < w.heap.size := by omega
  have hn1 : 0 < n := by omega
  have hn1' : 0 < n' := by omega
  cases e1 : rhasR l ⟨(pt l' 0).x, (pt l' 0).y⟩
  case true =>
    have HG : Hid (ringsR l l' = true) := by
      have h1 : rhasR l (pt l' 0) = true := e1
      unfold Hid ringsR
      rw [h1, Bool.true_or, Bool.true_or]
    have E1 := Lib.hid e1
    clear e1
    go_enter Tryz.func39, Tryz.ntmps39
    go_wp2_with (go_at_call 59; refine (rhas2_any B n c _ _ _ l _ (hl.tr (by repeat (first | with_reducible exact Below.refl _ _ | with_reducible assumption | with_reducible refine al ?_ _ | with_reducible refine Below.drew ?_ | with_reducible refine Below.setCell ?_ (by first | (simp; done) | (simp; omega)) _ | with_reducible refine tr ?_ (by with_reducible assumption))) hB) (Nat.le_trans hB (Below.size (B := w.heap.size) (w := w) (by repeat (first | with_reducible exact Below.refl _ _ | with_reducible assumption | with_reducible refine al ?_ _ | with_reducible refine Below.drew ?_ | with_reducible refine Below.setCell ?_ (by first | (simp; done) | (simp; omega)) _ | with_reducible refine tr ?_ (by with_reducible assumption))))) hn).mono ?_; rw [E1.out]; rintro e w1 ⟨rfl, hb1⟩; obtain ⟨hc1, hf1⟩ := bcell hb1; have hz1 := hb1.size; (try simp at hz1))
    go_ret
    exact ⟨ret_bool HG.out.symm, (by repeat (first | with_reducible exact Below.refl _ _ | with_reducible assumption | with_reducible refine al ?_ _ | with_reducible refine Below.drew ?_ | with_reducible refine Below.setCell ?_ (by first | (simp; done) | (simp; omega)) _ | with_reducible refine tr ?_ (by with_reducible assumption)))⟩
  cases e2 : rhasR l' ⟨(pt l 0).x, (pt l 0).y⟩
  case true =>
    have HG : Hid (ringsR l l' = true) := by
      have h1 : rhasR l' (pt l 0) = true := e2
      unfold Hid ringsR
      rw [h1, Bool.or_true, Bool.true_or]
    have E1 := Lib.hid e1
    have E2 := Lib.hid e2
    clear e1 e2
    go_enter Tryz.func39, Tryz.ntmps39
    go_wp2_with (first | (go_at_call 59; have _hz := hza; refine (rhas2_any B n' c' _ _ _ l' _ (hl'.tr (by repeat (first | with_reducible exact Below.refl _ _ | with_reducible assumption | with_reducible refine al ?_ _ | with_reducible refine Below.drew ?_ | with_reducible refine Below.setCell ?_ (by first | (simp; done) | (simp; omega)) _ | with_reducible refine tr ?_ (by with_reducible assumption))) hB) (Nat.le_trans hB (Below.size (B := w.heap.size) (w := w) (by repeat (first | with_reducible exact Below.refl _ _ | with_reducible assumption | with_reducible refine al ?_ _ | with_reducible refine Below.drew ?_ | with_reducible refine Below.setCell ?_ (by first | (simp; done) | (simp; omega)) _ | with_reducible refine tr ?_ (by with_reducible assumption))))) hn').mono ?_; rw [E2.out]; rintro e w1 ⟨rfl, hb1⟩; obtain ⟨hc1, hf1⟩ := bcell hb1; have hz1 := hb1.size; (try simp at hz1)) | (go_at_call 59; refine (rhas2_any B n c _ _ _ l _ (hl.tr (by repeat (first | with_reducible exact Below.refl _ _ | with_reducible assumption | with_reducible refine al ?_ _ | with_reducible refine Below.drew ?_ | with_reducible refine Below.setCell ?_ (by first | (simp; done) | (simp; omega)) _ | with_reducible refine tr ?_ (by with_reducible assumption))) hB) (Nat.le_trans hB (Below.size (B := w.heap.size) (w := w) (by repeat (first | with_reducible exact Below.refl _ _ | with_reducible assumption | with_reducible refine al ?_ _ | with_reducible refine Below.drew ?_ | with_reducible refine Below.setCell ?_ (by first | (simp; done) | (simp; omega)) _ | with_reducible refine tr ?_ (by with_reducible assumption))))) hn).mono ?_; rw [E1.out]; rintro e wa ⟨rfl, hba⟩; obtain ⟨hca, hfa⟩ := bcell hba; have hza := hba.size; (try simp at hza); have hbx : b < wa.heap.size := (by omega)))
    go_ret
    exact ⟨ret_bool HG.out.symm, (by repeat (first | with_reducible exact Below.refl _ _ | with_reducible assumption | with_reducible refine al ?_ _ | with_reducible refine Below.drew ?_ | with_reducible refine Below.setCell ?_ (by first | (simp; done) | (simp; omega)) _ | with_reducible refine tr ?_ (by with_reducible assumption)))⟩
  have HF : Hid (ringsR l l' = crossAny l l') := by
    have h1 : rhasR l (pt l' 0) = false := e1
    have h2 : rhasR l' (pt l 0) = false := e2
    unfold Hid ringsR
    rw [h1, h2]
    rfl
  have E1 := Lib.hid e1
  have E2 := Lib.hid e2
  clear e1 e2
  go_enter Tryz.func39, Tryz.ntmps39
  go_wp2_with (first | (go_at_call 59; have _hz := hza; refine (rhas2_any B n' c' _ _ _ l' _ (hl'.tr (by repeat (first | with_reducible exact Below.refl _ _ | with_reducible assumption | with_reducible refine al ?_ _ | with_reducible refine Below.drew ?_ | with_reducible refine Below.setCell ?_ (by first | (simp; done) | (simp; omega)) _ | with_reducible refine tr ?_ (by with_reducible assumption))) hB) (Nat.le_trans hB (Below.size (B := w.heap.size) (w := w) (by repeat (first | with_reducible exact Below.refl _ _ | with_reducible assumption | with_reducible refine al ?_ _ | with_reducible refine Below.drew ?_ | with_reducible refine Below.setCell ?_ (by first | (simp; done) | (simp; omega)) _ | with_reducible refine tr ?_ (by with_reducible assumption))))) hn').mono ?_; rw [E2.out]; rintro e wc ⟨rfl, hbc⟩; obtain ⟨hcc, hfc⟩ := bcell hbc; have hzc := hbc.size; (try simp at hzc)) | (go_at_call 59; refine (rhas2_any B n c _ _ _ l _ (hl.tr (by repeat (first | with_reducible exact Below.refl _ _ | with_reducible assumption | with_reducible refine al ?_ _ | with_reducible refine Below.drew ?_ | with_reducible refine Below.setCell ?_ (by first | (simp; done) | (simp; omega)) _ | with_reducible refine tr ?_ (by with_reducible assumption))) hB) (Nat.le_trans hB (Below.size (B := w.heap.size) (w := w) (by repeat (first | with_reducible exact Below.refl _ _ | with_reducible assumption | with_reducible refine al ?_ _ | with_reducible refine Below.drew ?_ | with_reducible refine Below.setCell ?_ (by first | (simp; done) | (simp; omega)) _ | with_reducible refine tr ?_ (by with_reducible assumption))))) hn).mono ?_; rw [E1.out]; rintro e wa ⟨rfl, hba⟩; obtain ⟨hca, hfa⟩ := bcell hba; have hza := hba.size; (try simp at hza); have hbx : b < wa.heap.size := (by omega)))
  have hb0 : Below w.heap.size w wc := (by repeat (first | with_reducible exact Below.refl _ _ | with_reducible assumption | with_reducible refine al ?_ _ | with_reducible refine Below.drew ?_ | with_reducible refine Below.setCell ?_ (by first | (simp; done) | (simp; omega)) _ | with_reducible refine tr ?_ (by with_reducible assumption)))
  clear c0 c1 d0 d1 hba hca hfa hza hbx hbc hcc hfc hzc
  go_loopw [5, 6] (fun i _ wr => ∃ k : Nat, k ≤ n ∧ i = .int .i64 k ∧ Hid (∀ j, j < k → ∀ p, p < n' → meetS (pt l j) (nx l j) (pt l' p) (nx l' p) = false) ∧ Below w.heap.size w wr) (fun i _ _ => n - (intOf i).toNat)
  case atStart => exact ⟨0, Nat.zero_le _, rfl, fun j hj => by omega, hb0⟩
  case round =>
    obtain ⟨k, hk, rfl, hno, hb⟩ := hrel
    clear hb0
    by_cases hlt : k < n
    · obtain ⟨wo, hwo⟩ : ∃ wo : World, wo = wr := ⟨_, rfl⟩
      subst hwo
      go_wp2
      go_loopw [6] (fun i wr => ∃ q : Nat, q ≤ n' ∧ i = .int .i64 q ∧ Hid (∀ p, p < q → meetS (pt l k) (nx l k) (pt l' p) (nx l' p) = false) ∧ Below w.heap.size w wr) (fun i _ => n' - (intOf i).toNat)
      case atStart => exact ⟨0, Nat.zero_le _, rfl, fun j hj => by omega, hb⟩
      case round =>
        obtain ⟨q, hq, rfl, hnq, hb3⟩ := hrel
        by_cases hqt : q < n'
        · obtain ⟨_, _, ho, _, c0, c1⟩ := (hl.below (hb3.mono hB)).at_ hlt
          injection ho with ho
          injection ho with ho1 ho2
          subst ho1 ho2
          obtain ⟨_, _, ho, _, d0, d1⟩ := (hl'.below (hb3.mono hB)).at_ hqt
          injection ho with ho
          injection ho with ho1 ho2
          subst ho1 ho2
          obtain ⟨c2, c3⟩ := nx_of (hl.below (hb3.mono hB)) hlt
          obtain ⟨d2, d3⟩ := nx_of (hl'.below (hb3.mono hB)) hqt
          have hbs3 := hb3.size
          have hbw0 : b < wr.heap.size := by omega
          have hbw2 : b' < wr.heap.size := by omega
          have hk0 : (k : Int) < (n : Int) := by omega
          have hq0 : (q : Int) < (n' : Int) := by omega
          have hk3 : (0 : Int) ≤ (k : Int) + 1 := by omega
          have hq3 : (0 : Int) ≤ (q : Int) + 1 := by omega
          obtain ⟨m, hm, hwr, htm, hml⟩ := step_of hlt hn
          rw [hm] at c2 c3
          clear hm
          obtain ⟨m', hm', hwr', htm', hml'⟩ := step_of hqt hn'
          rw [hm'] at d2 d3
          clear hm'
          have hn0 : ¬ n = 0 := by omega
          have hn0' : ¬ n' = 0 := by omega
          have hml0 : (m : Int) < (n : Int) := by omega
          have hml0' : (m' : Int) < (n' : Int) := by omega
          go_wp2_with fail
          refine wp_region_belowI (by kernel_rfl) (by kernel_rfl) (fun _ _ d _ _ h => by cases d <;> exact h) ?_
          simp only [List.map_cons, List.map_nil, List.getD_cons_zero, List.getD_cons_succ, bare, gslot, List.getElem?_cons_zero, List.getElem?_cons_succ, Option.bind_some]
          repeat' ((try simp only [Act.put, List.setIfInBounds_toArray, List.set_cons_zero, List.set_cons_succ]); first | (refine lexL_quiet (v := ?_) wantB_none rfl ?_ ?_; rotate_left; focus (intro wq hq; obtain ⟨hcq, hfq⟩ := bcell hq; go_simp; try with_reducible rfl)) | (refine lexL_loud wantB_none rfl (fun K hK => ?_); go_simp; ((first | (go_at_call 72; refine (rmeet_any _ _ _ _ _ _ _ _ _).mono ?_; rintro e w1 ⟨rfl, hb1⟩; obtain ⟨hc1, hf1⟩ := bcell hb1; have hz1 := hb1.size; (try simp at hz1)) | skip) <;> (refine hK.out _ _ (by repeat (first | with_reducible exact Below.refl _ _ | with_reducible assumption | with_reducible refine al ?_ _ | with_reducible refine Below.drew ?_ | with_reducible refine Below.setCell ?_ (by first | (simp; done) | (simp; omega)) _ | with_reducible refine tr ?_ (by with_reducible assumption))) ?_; clear hK K))) | (refine lexL_on ?_ ?_; focus (simp only [List.getElem?_toArray, List.getElem?_cons_succ, List.getElem?_cons_zero, Bool.not_true, Bool.not_false]; done)) | (refine lexL_off ?_ ?_ ?_; (focus (simp only [List.getElem?_toArray, List.getElem?_cons_succ, List.getElem?_cons_zero, Bool.not_true, Bool.not_false]; done)); (focus (exact (by repeat (first | with_reducible exact Below.refl _ _ | with_reducible assumption | with_reducible refine al ?_ _ | with_reducible refine Below.drew ?_ | with_reducible refine Below.setCell ?_ (by first | (simp; done) | (simp; omega)) _ | with_reducible refine tr ?_ (by with_reducible assumption)))))) | (refine lexL_splitS (X := ?_) ?_ ?_ (fun hg => ?_) (fun hg => ?_); rotate_left; (focus (simp only [List.getElem?_toArray, List.getElem?_cons_succ, List.getElem?_cons_zero]; with_reducible rfl)); (focus (exact (by repeat (first | with_reducible exact Below.refl _ _ | with_reducible assumption | with_reducible refine al ?_ _ | with_reducible refine Below.drew ?_ | with_reducible refine Below.setCell ?_ (by first | (simp; done) | (simp; omega)) _ | with_reducible refine tr ?_ (by with_reducible assumption))))); all_goals (try simp only [Bool.not_true, Bool.not_false] at hg)))
          (all_goals try simp only [Act.put, List.setIfInBounds_toArray, List.set_cons_zero, List.set_cons_succ]); all_goals (refine lexL_nil ?_)
          go_wp2
          · go_ret
            exact ⟨ret_bool (by rw [HF.out, crossAny2_t (i := k) (k := q) (by rw [hl.1]; exact hlt) (by rw [hl'.1]; exact hqt) (by assumption)]), (by repeat (first | with_reducible exact Below.refl _ _ | with_reducible assumption | with_reducible refine al ?_ _ | with_reducible refine Below.drew ?_ | with_reducible refine Below.setCell ?_ (by first | (simp; done) | (simp; omega)) _ | with_reducible refine tr ?_ (by with_reducible assumption)))⟩
          · have hf : meetS ⟨(pt l k).x, (pt l k).y⟩ ⟨(nx l k).x, (nx l k).y⟩ ⟨(pt l' q).x, (pt l' q).y⟩ ⟨(nx l' q).x, (nx l' q).y⟩ = false := by first | assumption | (simpa using (by assumption : ¬ meetS ⟨(pt l k).x, (pt l k).y⟩ ⟨(nx l k).x, (nx l k).y⟩ ⟨(pt l' q).x, (pt l' q).y⟩ ⟨(nx l' q).x, (nx l' q).y⟩ = true))
            have HN := Lib.hid hf
            clear hf
            go_roundw
            case rel => exact ⟨q + 1, by omega, by go_num, fun j hj => by
              by_cases e : j = q
              · subst e; exact HN.out
              · exact hnq.out j (by omega), (by repeat (first | with_reducible exact Below.refl _ _ | with_reducible assumption | with_reducible refine al ?_ _ | with_reducible refine Below.drew ?_ | with_reducible refine Below.setCell ?_ (by first | (simp; done) | (simp; omega)) _ | with_reducible refine tr ?_ (by with_reducible assumption)))⟩
            case measure => simp [intOf]; omega
        · go_wp2
          go_roundw
          case rel => exact ⟨k + 1, by omega, by go_num, fun j hj p hp => by
            by_cases e : j = k
            · subst e; exact hnq.out p (by omega)
            · exact hno.out j (by omega) p hp, (by repeat (first | with_reducible exact Below.refl _ _ | with_reducible assumption | with_reducible refine al ?_ _ | with_reducible refine Below.drew ?_ | with_reducible refine Below.setCell ?_ (by first | (simp; done) | (simp; omega)) _ | with_reducible refine tr ?_ (by with_reducible assumption)))⟩
          case measure => simp [intOf]; omega
    · have HR : Hid (ringsR l l' = false) := by
        unfold Hid
        rw [HF.out]
        exact crossAny2_f fun i hi p hp => hno.out i (by rw [hl.1] at hi; omega) p (by rw [← hl'.1]; exact hp)
      go_wp2
      go_ret
      exact ⟨ret_bool HR.out.symm, (by repeat (first | with_reducible exact Below.refl _ _ | with_reducible assumption | with_reducible refine al ?_ _ | with_reducible refine Below.drew ?_ | with_reducible refine Below.setCell ?_ (by first | (simp; done) | (simp; omega)) _ | with_reducible refine tr ?_ (by with_reducible assumption)))⟩
end Go.Proofs.YtknidfiokmghjaaGreatDoor
