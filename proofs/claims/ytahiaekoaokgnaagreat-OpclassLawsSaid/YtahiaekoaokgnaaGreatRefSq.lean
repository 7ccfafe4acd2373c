/-
  Contracts of the references: Add, sum, Square.
  Contract of the reference's BoxDist.
-/
import Derived.Test.YtahiaekoaokgnaaGreatUAll
import Derived.Test.YtahiaekoaokgnaaGreatRef1
import Derived.Test.YtahiaekoaokgnaaGreatPlainFr
import Derived.Test.YtahiaekoaokgnaaGreatDist1
set_option linter.unusedSimpArgs false
set_option linter.unusedVariables false
namespace Go.Proofs.YtahiaekoaokgnaaGreat
open Go.RowKit Pg

set_option maxHeartbeats 2000000 in
set_option maxRecDepth 20000 in
theorem rAdd_any (a b : Nat) (h : a + b < 340282366920938463463374607431768211456) (w : World) :
    Calls Tryz.prog 135 #[uV a, uV b] w (Ret w (.tuple #[uV (a + b), .bool false])) := by
  have HC := Lib.hid (fun w => rCmpU_any (a + b) a h (by omega) w)
  have hs : ¬ sgn (((a + b : Nat) : Int) - (a : Int)) < 0 := by unfold sgn; split <;> (try split) <;> omega
  have ea : a = a / 18446744073709551616 * 18446744073709551616 + a % 18446744073709551616 := by omega
  have eb : b = b / 18446744073709551616 * 18446744073709551616 + b % 18446744073709551616 := by omega
  have ec : a + b = (a + b) / 18446744073709551616 * 18446744073709551616 + (a + b) % 18446744073709551616 := by omega
  have h0 : a % 18446744073709551616 < 18446744073709551616 := by omega
  have h1 : b % 18446744073709551616 < 18446744073709551616 := by omega
  have h2 : (a + b) % 18446744073709551616 < 18446744073709551616 := by omega
  have h3 : (a + b) / 18446744073709551616 < 18446744073709551616 := by omega
  obtain ⟨F, eF⟩ : ∃ z, sgn (((a + b : Nat) : Int) - (a : Int)) = z := ⟨_, rfl⟩
  rw [eF] at HC hs
  simp only [uV] at HC ⊢
  obtain ⟨a1, e1⟩ : ∃ z, a / 18446744073709551616 = z := ⟨_, rfl⟩
  obtain ⟨a0, e0⟩ : ∃ z, a % 18446744073709551616 = z := ⟨_, rfl⟩
  obtain ⟨b1, e3⟩ : ∃ z, b / 18446744073709551616 = z := ⟨_, rfl⟩
  obtain ⟨b0, e2⟩ : ∃ z, b % 18446744073709551616 = z := ⟨_, rfl⟩
  obtain ⟨s1, e5⟩ : ∃ z, (a + b) / 18446744073709551616 = z := ⟨_, rfl⟩
  obtain ⟨s0, e4⟩ : ∃ z, (a + b) % 18446744073709551616 = z := ⟨_, rfl⟩
  rw [e5, e4, e1, e0] at HC
  rw [e1, e0] at ea
  rw [e3, e2] at eb
  rw [e5, e4] at ec
  rw [e0] at h0
  rw [e2] at h1
  rw [e4] at h2
  rw [e5] at h3
  rw [e1, e0, e3, e2, e5, e4]
  have w0 : IntKind.u64.wrap ((a0 : Int) + (b0 : Int)) = (s0 : Int) := by rw [IntKind.wrap_u64]; omega
  obtain ⟨t1, et1⟩ : ∃ z, a1 + b1 = z := ⟨_, rfl⟩
  have w1 : IntKind.u64.wrap ((a1 : Int) + (b1 : Int)) = (t1 : Int) := by rw [IntKind.wrap_u64]; omega
  by_cases hc : s0 < a0
  · have hc2 : (s0 : Int) < (a0 : Int) := by omega
    have w2 : IntKind.u64.wrap ((t1 : Int) + 1) = (s1 : Int) := by rw [IntKind.wrap_u64]; omega
    clear e0 e1 e2 e3 e4 e5 ea eb ec h0 h1 h2 h3 et1 hc h eF
    go_enter Tryz.func135, Tryz.ntmps135
    go_wp2_with fail
    refine wp_gen2 (fun w2 => Below w.heap.size w w2 ∧ Blk w2 w.heap.size 99 #[.int .u64 a1, .int .u64 a0] ∧ Blk w2 (w.heap.size + 1 + 1) 99 #[.int .u64 0, .int .u64 0] ∧ Blk w2 (w.heap.size + 1 + 1 + 1) 99 #[.int .u64 s1, .int .u64 s0]) ⟨bel, (((Blk.new rfl rfl).alloc _).alloc _).alloc _, (Blk.new (by simp) rfl).alloc _, Blk.new (by simp) rfl⟩ ?_
    rintro w2 ⟨hb, hA, hR, hS⟩
    have cA := hA.cell
    have cR := hR.cell
    have cS := hS.cell
    have fR := hR.frozen
    have lA := hA.lt
    have lR := hR.lt
    have lS := hS.lt
    have hn1 : w.heap.size ≠ w.heap.size + 1 + 1 := by omega
    have hn2 : w.heap.size + 1 + 1 + 1 ≠ w.heap.size + 1 + 1 := by omega
    refine wp_region_away (w.heap.size + 1 + 1) [0, 1, 2, 3, 4, 5, 6] (by kernel_rfl) (by kernel_rfl) (fun _ _ d _ _ h => by cases d <;> exact h) ?_
    simp only [List.map_cons, List.map_nil, List.getD_cons_zero, List.getD_cons_succ, bare, gslot, List.getElem?_cons_zero, List.getElem?_cons_succ, Option.bind_some]
    repeat' ((try simp only [Act.put, List.setIfInBounds_toArray, List.set_cons_zero, List.set_cons_succ]); first | (refine lexL_quiet (v := ?_) wantB_none rfl ?_ ?_; rotate_left; focus (intro wq hq; obtain ⟨hcq, hfq⟩ := acell hq; go_simp; try with_reducible rfl)) | (refine lexL_loud wantB_none rfl (fun K hK => ?_); go_simp; ((first | (go_at_call 94; (with_reducible refine (HC.out _).mono ?_); rintro e w5 ⟨rfl, hb5⟩; obtain ⟨hc5, hf5⟩ := bcell hb5; have hz5 := hb5.size; (try simp at hz5); have lR5 : w.heap.size + 1 + 1 < w5.heap.size := (by omega); have hR5 : Blk w5 (w.heap.size + 1 + 1) 99 #[.int .u64 0, .int .u64 0] := blkA; have c5 := hR5.cell; have f5 := hR5.frozen) | skip) <;> (refine hK.out _ _ (by repeat (first | with_reducible exact Away.refl _ _ | with_reducible assumption | with_reducible refine Away.drew ?_ | with_reducible refine Away.put ?_ _ _ | with_reducible refine Away.alloc ?_ _ | with_reducible refine Away.below ?_ (by with_reducible assumption))) ?_; clear hK K))) | (refine lexL_on ?_ ?_; focus (simp only [List.getElem?_toArray, List.getElem?_cons_succ, List.getElem?_cons_zero, Bool.not_true, Bool.not_false]; done)) | (refine lexL_off ?_ ?_ ?_; (focus (simp only [List.getElem?_toArray, List.getElem?_cons_succ, List.getElem?_cons_zero, Bool.not_true, Bool.not_false]; done)); (focus (exact (by repeat (first | with_reducible exact Away.refl _ _ | with_reducible assumption | with_reducible refine Away.drew ?_ | with_reducible refine Away.put ?_ _ _ | with_reducible refine Away.alloc ?_ _ | with_reducible refine Away.below ?_ (by with_reducible assumption)))))) | (refine lexL_splitS (X := ?_) ?_ ?_ (fun hg => ?_) (fun hg => ?_); rotate_left; (focus (simp only [List.getElem?_toArray, List.getElem?_cons_succ, List.getElem?_cons_zero]; with_reducible rfl)); (focus (exact (by repeat (first | with_reducible exact Away.refl _ _ | with_reducible assumption | with_reducible refine Away.drew ?_ | with_reducible refine Away.put ?_ _ _ | with_reducible refine Away.alloc ?_ _ | with_reducible refine Away.below ?_ (by with_reducible assumption))))); all_goals (try simp only [Bool.not_true, Bool.not_false] at hg)))
    (all_goals try simp only [Act.put, List.setIfInBounds_toArray, List.set_cons_zero, List.set_cons_succ]); all_goals (refine lexL_nil ?_)
    go_wp2
    refine post_gen2 (R := fun w2 => Blk w2 (w.heap.size + 1 + 1) 99 #[.int .u64 s1, .int .u64 s0] ∧ Below w.heap.size w w2) ⟨?_, bel⟩ ?_
    · repeat (first | with_reducible exact two_put (x := .int .u64 0) (y := .int .u64 0) blkA | (with_reducible refine Blk.new ?_ rfl; focus (simp; done)) | with_reducible refine Blk.alloc ?_ _ | with_reducible refine Blk.drew ?_)
    rintro w2 ⟨HR, hb2⟩
    have r0 := HR.cell 0
    have r1 := HR.cell 1
    simp only [List.getElem?_toArray, List.getElem?_cons_zero, List.getElem?_cons_succ] at r0 r1
    have hdec : decide (F < 0) = false := (by rw [decide_eq_false_iff_not]; omega); simp only [hdec]
    exact bodyPost_ret (v := .tuple #[.agg #[.int .u64 s1, .int .u64 s0], .bool false]) (by simp [results, Tryz.results135, go_sem, r0, r1]) rfl ⟨rfl, hb2⟩
  · have hc2 : ¬ (s0 : Int) < (a0 : Int) := by omega
    have w2 : t1 = s1 := by omega
    clear e0 e1 e2 e3 e4 e5 ea eb ec h0 h1 h2 h3 et1 hc h eF
    subst w2
    go_enter Tryz.func135, Tryz.ntmps135
    go_wp2_with fail
    refine wp_gen2 (fun w2 => Below w.heap.size w w2 ∧ Blk w2 w.heap.size 99 #[.int .u64 a1, .int .u64 a0] ∧ Blk w2 (w.heap.size + 1 + 1) 99 #[.int .u64 0, .int .u64 0] ∧ Blk w2 (w.heap.size + 1 + 1 + 1) 99 #[.int .u64 t1, .int .u64 s0]) ⟨bel, (((Blk.new rfl rfl).alloc _).alloc _).alloc _, (Blk.new (by simp) rfl).alloc _, Blk.new (by simp) rfl⟩ ?_
    rintro w2 ⟨hb, hA, hR, hS⟩
    have cA := hA.cell
    have cR := hR.cell
    have cS := hS.cell
    have fR := hR.frozen
    have lA := hA.lt
    have lR := hR.lt
    have lS := hS.lt
    have hn1 : w.heap.size ≠ w.heap.size + 1 + 1 := by omega
    have hn2 : w.heap.size + 1 + 1 + 1 ≠ w.heap.size + 1 + 1 := by omega
    refine wp_region_away (w.heap.size + 1 + 1) [0, 1, 2, 3, 4, 5, 6] (by kernel_rfl) (by kernel_rfl) (fun _ _ d _ _ h => by cases d <;> exact h) ?_
    simp only [List.map_cons, List.map_nil, List.getD_cons_zero, List.getD_cons_succ, bare, gslot, List.getElem?_cons_zero, List.getElem?_cons_succ, Option.bind_some]
    repeat' ((try simp only [Act.put, List.setIfInBounds_toArray, List.set_cons_zero, List.set_cons_succ]); first | (refine lexL_quiet (v := ?_) wantB_none rfl ?_ ?_; rotate_left; focus (intro wq hq; obtain ⟨hcq, hfq⟩ := acell hq; go_simp; try with_reducible rfl)) | (refine lexL_loud wantB_none rfl (fun K hK => ?_); go_simp; ((first | (go_at_call 94; (with_reducible refine (HC.out _).mono ?_); rintro e w5 ⟨rfl, hb5⟩; obtain ⟨hc5, hf5⟩ := bcell hb5; have hz5 := hb5.size; (try simp at hz5); have lR5 : w.heap.size + 1 + 1 < w5.heap.size := (by omega); have hR5 : Blk w5 (w.heap.size + 1 + 1) 99 #[.int .u64 0, .int .u64 0] := blkA; have c5 := hR5.cell; have f5 := hR5.frozen) | skip) <;> (refine hK.out _ _ (by repeat (first | with_reducible exact Away.refl _ _ | with_reducible assumption | with_reducible refine Away.drew ?_ | with_reducible refine Away.put ?_ _ _ | with_reducible refine Away.alloc ?_ _ | with_reducible refine Away.below ?_ (by with_reducible assumption))) ?_; clear hK K))) | (refine lexL_on ?_ ?_; focus (simp only [List.getElem?_toArray, List.getElem?_cons_succ, List.getElem?_cons_zero, Bool.not_true, Bool.not_false]; done)) | (refine lexL_off ?_ ?_ ?_; (focus (simp only [List.getElem?_toArray, List.getElem?_cons_succ, List.getElem?_cons_zero, Bool.not_true, Bool.not_false]; done)); (focus (exact (by repeat (first | with_reducible exact Away.refl _ _ | with_reducible assumption | with_reducible refine Away.drew ?_ | with_reducible refine Away.put ?_ _ _ | with_reducible refine Away.alloc ?_ _ | with_reducible refine Away.below ?_ (by with_reducible assumption)))))) | (refine lexL_splitS (X := ?_) ?_ ?_ (fun hg => ?_) (fun hg => ?_); rotate_left; (focus (simp only [List.getElem?_toArray, List.getElem?_cons_succ, List.getElem?_cons_zero]; with_reducible rfl)); (focus (exact (by repeat (first | with_reducible exact Away.refl _ _ | with_reducible assumption | with_reducible refine Away.drew ?_ | with_reducible refine Away.put ?_ _ _ | with_reducible refine Away.alloc ?_ _ | with_reducible refine Away.below ?_ (by with_reducible assumption))))); all_goals (try simp only [Bool.not_true, Bool.not_false] at hg)))
    (all_goals try simp only [Act.put, List.setIfInBounds_toArray, List.set_cons_zero, List.set_cons_succ]); all_goals (refine lexL_nil ?_)
    go_wp2
    refine post_gen2 (R := fun w2 => Blk w2 (w.heap.size + 1 + 1) 99 #[.int .u64 t1, .int .u64 s0] ∧ Below w.heap.size w w2) ⟨?_, bel⟩ ?_
    · repeat (first | with_reducible exact two_put (x := .int .u64 0) (y := .int .u64 0) blkA | (with_reducible refine Blk.new ?_ rfl; focus (simp; done)) | with_reducible refine Blk.alloc ?_ _ | with_reducible refine Blk.drew ?_)
    rintro w2 ⟨HR, hb2⟩
    have r0 := HR.cell 0
    have r1 := HR.cell 1
    simp only [List.getElem?_toArray, List.getElem?_cons_zero, List.getElem?_cons_succ] at r0 r1
    have hdec : decide (F < 0) = false := (by rw [decide_eq_false_iff_not]; omega); simp only [hdec]
    exact bodyPost_ret (v := .tuple #[.agg #[.int .u64 t1, .int .u64 s0], .bool false]) (by simp [results, Tryz.results135, go_sem, r0, r1]) rfl ⟨rfl, hb2⟩

set_option maxHeartbeats 1000000 in
set_option maxRecDepth 20000 in
theorem rsum_any (x y : Int) (h1 : -4294967296 ≤ x) (h2 : x ≤ 4294967296) (h3 : -4294967296 ≤ y) (h4 : y ≤ 4294967296) (w : World) :
    Calls Tryz.prog 96 #[.int .i64 x, .int .i64 y] w (Ret w (uV (sqs x y))) := by
  have b1 := sq_small h1 h2
  have b2 := sq_small h3 h4
  have H1 := Lib.hid (fun w => rSquareU_any x (by omega) (by omega) w)
  have H2 := Lib.hid (fun w => rSquareU_any y (by omega) (by omega) w)
  unfold sqs
  obtain ⟨N, hN⟩ : ∃ N, x.natAbs * x.natAbs = N := ⟨_, rfl⟩
  obtain ⟨M, hM⟩ : ∃ N, y.natAbs * y.natAbs = N := ⟨_, rfl⟩
  rw [hN] at b1 H1 ⊢
  rw [hM] at b2 H2 ⊢
  have H3 := Lib.hid (fun w => rAdd_any N M (by omega) w)
  simp only [uV] at H1 H2 H3 ⊢
  obtain ⟨hi, hhi⟩ : ∃ s, (N + M) / 18446744073709551616 = s := ⟨_, rfl⟩
  obtain ⟨lo, hlo⟩ : ∃ s, (N + M) % 18446744073709551616 = s := ⟨_, rfl⟩
  obtain ⟨n1, e1⟩ : ∃ s, N / 18446744073709551616 = s := ⟨_, rfl⟩
  obtain ⟨n0, e0⟩ : ∃ s, N % 18446744073709551616 = s := ⟨_, rfl⟩
  obtain ⟨m1, e3⟩ : ∃ s, M / 18446744073709551616 = s := ⟨_, rfl⟩
  obtain ⟨m0, e2⟩ : ∃ s, M % 18446744073709551616 = s := ⟨_, rfl⟩
  rw [hhi, hlo, e1, e0, e3, e2] at H3
  rw [e1, e0] at H1
  rw [e3, e2] at H2
  rw [hhi, hlo]
  clear hN hM b1 b2 hhi hlo h1 h2 h3 h4 e0 e1 e2 e3
  go_enter Tryz.func96, Tryz.ntmps96
  go_wp2_with (first | (go_at_call 101; have _h := hza; (with_reducible refine (H2.out _).mono ?_); rintro e w1 ⟨rfl, hb1⟩; obtain ⟨hc1, hf1⟩ := bcell hb1; have hz1 := hb1.size; (try simp at hz1); have hy0 : w.heap.size < w1.heap.size := (by omega)) | (go_at_call 101; (with_reducible refine (H1.out _).mono ?_); rintro e wa ⟨rfl, hba⟩; obtain ⟨hca, hfa⟩ := bcell hba; have hza := hba.size; (try simp at hza); have hya : w.heap.size < wa.heap.size := (by omega)) | (go_at_call 135; (with_reducible refine (H3.out _).mono ?_); rintro e w1 ⟨rfl, hb1⟩; obtain ⟨hc1, hf1⟩ := bcell hb1; have hz1 := hb1.size; (try simp at hz1); have hy0 : w.heap.size < w1.heap.size := (by omega)))
  refine post_gen2 (R := fun w2 => Blk w2 (w.heap.size) 99 #[.int .u64 hi, .int .u64 lo] ∧ Below w.heap.size w w2) ⟨?_, bel⟩ ?_
  · repeat (first | with_reducible exact two_put (x := .int .u64 0) (y := .int .u64 0) blkA | (with_reducible refine Blk.new ?_ rfl; focus (simp; done)) | with_reducible refine Blk.alloc ?_ _ | with_reducible refine Blk.drew ?_)
  rintro w2 ⟨HR, hb2⟩
  have r0 := HR.cell 0
  have r1 := HR.cell 1
  simp only [List.getElem?_toArray, List.getElem?_cons_zero, List.getElem?_cons_succ] at r0 r1
  exact bodyPost_ret (v := .agg #[.int .u64 hi, .int .u64 lo]) (by simp [results, Tryz.results96, go_sem, r0, r1]) rfl ⟨rfl, hb2⟩

theorem fV_low1 (n : Nat) : fV (lowF n 1) = fV ⟨n, 1⟩ := by rw [lowF_one]
/-- Lowest of a number over 1 -/
theorem rlow1_any (n : Nat) (hn : n < 340282366920938463463374607431768211456) (w : World) : Calls Tryz.prog 95 #[uV n, .int .u64 1] w (Ret w (fV ⟨n, 1⟩)) := by
  have h := rlowest_any n 1 hn (by decide) (by decide) w
  rw [lowF_one] at h
  exact h
theorem sqs_lt2 {x y : Int} (h1 : -4294967296 ≤ x) (h2 : x ≤ 4294967296) (h3 : -4294967296 ≤ y) (h4 : y ≤ 4294967296) : sqs x y < 340282366920938463463374607431768211456 := by
  have := sq_small h1 h2
  have := sq_small h3 h4
  unfold sqs
  omega

/-- the answer of the reference's Square -/
def sqF (a b : Pt) : Fr := if okPt a && okPt b then ⟨sqs (a.x - b.x) (a.y - b.y), 1⟩ else fNone

set_option maxHeartbeats 2000000 in
set_option maxRecDepth 20000 in
theorem rsquare_any (ax ay bx by_ : Int) (w : World) :
    Calls Tryz.prog 100 #[ptV ax ay, ptV bx by_] w (Ret w (fV (sqF ⟨ax, ay⟩ ⟨bx, by_⟩))) := by
  cases oa : okPt ⟨ax, ay⟩
  case false =>
    have HF : Hid (fV (sqF ⟨ax, ay⟩ ⟨bx, by_⟩) = .agg #[.int .u64 0, .int .u64 0, .int .u64 0]) := by unfold Hid sqF; rw [oa, fV_fcs]; rw [if_neg (by simp), fcs_none]
    go_enter Tryz.func100, Tryz.ntmps100
    go_wp2_with (go_at_call 24; refine (rpoint_any _ _ _).mono ?_; rintro e w1 ⟨rfl, hb1⟩; obtain ⟨hc1, hf1⟩ := bcell hb1; have hz1 := hb1.size; (try simp at hz1); have hy0 : w.heap.size < w1.heap.size := (by omega); have hy1 : w.heap.size + 1 < w1.heap.size := (by omega); have hy2 : w.heap.size + 1 + 1 < w1.heap.size := (by omega))
    refine post_gen2 (R := fun w2 => Blk w2 (w.heap.size + 1 + 1) 75 #[.int .u64 0, .int .u64 0, .int .u64 0] ∧ Below w.heap.size w w2) ⟨?_, bel⟩ ?_
    · repeat (first | with_reducible exact three_put (x := .int .u64 0) (y := .int .u64 0) (z := .int .u64 0) blkA | (with_reducible refine Blk.new ?_ rfl; focus (simp; done)) | with_reducible refine Blk.alloc ?_ _ | with_reducible refine Blk.drew ?_)
    rintro w2 ⟨HR, hb2⟩
    have r0 := HR.cell 0
    have r1 := HR.cell 1
    have r2 := HR.cell 2
    simp only [List.getElem?_toArray, List.getElem?_cons_zero, List.getElem?_cons_succ] at r0 r1 r2
    rw [HF.out]
    exact bodyPost_ret (v := .agg #[.int .u64 0, .int .u64 0, .int .u64 0]) (by simp [results, Tryz.results100, go_sem, r0, r1, r2]) rfl ⟨rfl, hb2⟩
  cases ob : okPt ⟨bx, by_⟩
  case false =>
    have HF : Hid (fV (sqF ⟨ax, ay⟩ ⟨bx, by_⟩) = .agg #[.int .u64 0, .int .u64 0, .int .u64 0]) := by unfold Hid sqF; rw [oa, ob, fV_fcs]; rw [if_neg (by simp), fcs_none]
    go_enter Tryz.func100, Tryz.ntmps100
    go_wp2_with (go_at_call 24; refine (rpoint_any _ _ _).mono ?_; rintro e w1 ⟨rfl, hb1⟩; obtain ⟨hc1, hf1⟩ := bcell hb1; have hz1 := hb1.size; (try simp at hz1); have hy0 : w.heap.size < w1.heap.size := (by omega); have hy1 : w.heap.size + 1 < w1.heap.size := (by omega); have hy2 : w.heap.size + 1 + 1 < w1.heap.size := (by omega))
    refine post_gen2 (R := fun w2 => Blk w2 (w.heap.size + 1 + 1) 75 #[.int .u64 0, .int .u64 0, .int .u64 0] ∧ Below w.heap.size w w2) ⟨?_, bel⟩ ?_
    · repeat (first | with_reducible exact three_put (x := .int .u64 0) (y := .int .u64 0) (z := .int .u64 0) blkA | (with_reducible refine Blk.new ?_ rfl; focus (simp; done)) | with_reducible refine Blk.alloc ?_ _ | with_reducible refine Blk.drew ?_)
    rintro w2 ⟨HR, hb2⟩
    have r0 := HR.cell 0
    have r1 := HR.cell 1
    have r2 := HR.cell 2
    simp only [List.getElem?_toArray, List.getElem?_cons_zero, List.getElem?_cons_succ] at r0 r1 r2
    rw [HF.out]
    exact bodyPost_ret (v := .agg #[.int .u64 0, .int .u64 0, .int .u64 0]) (by simp [results, Tryz.results100, go_sem, r0, r1, r2]) rfl ⟨rfl, hb2⟩
  have HF0 : fV (sqF ⟨ax, ay⟩ ⟨bx, by_⟩) = fV ⟨sqs (ax - bx) (ay - by_), 1⟩ := by unfold sqF; rw [oa, ob]; rfl
  obtain ⟨p1, p2, p3, p4⟩ := okPt_range oa
  obtain ⟨q1, q2, q3, q4⟩ := okPt_range ob
  simp only at p1 p2 p3 p4 q1 q2 q3 q4
  have e1 : IntKind.i64.wrap (ax - bx) = ax - bx := by rw [IntKind.wrap_i64]; omega
  have e2 : IntKind.i64.wrap (ay - by_) = ay - by_ := by rw [IntKind.wrap_i64]; omega
  have HS := Lib.hid (fun w => rsum_any (ax - bx) (ay - by_) (by omega) (by omega) (by omega) (by omega) w)
  have hn := sqs_lt2 (x := ax - bx) (y := ay - by_) (by omega) (by omega) (by omega) (by omega)
  obtain ⟨n, en⟩ : ∃ n, sqs (ax - bx) (ay - by_) = n := ⟨_, rfl⟩
  rw [en] at HS HF0 hn
  have HL := Lib.hid (fun w => rlow1_any n hn w)
  rw [fV_fcs] at HL
  rw [HF0, fV_fcs]
  obtain ⟨x, y, z, ed⟩ := fcs_ex ⟨n, 1⟩
  rw [ed] at HL ⊢
  simp only [uV] at HS HL
  obtain ⟨n1, en1⟩ : ∃ c, n / 18446744073709551616 = c := ⟨_, rfl⟩
  obtain ⟨n0, en0⟩ : ∃ c, n % 18446744073709551616 = c := ⟨_, rfl⟩
  rw [en1, en0] at HS HL
  clear p1 p2 p3 p4 q1 q2 q3 q4 en hn ed en1 en0 HF0
  go_enter Tryz.func100, Tryz.ntmps100
  go_wp2_with (first | (go_at_call 24; refine (rpoint_any _ _ _).mono ?_; rintro e w1 ⟨rfl, hb1⟩; obtain ⟨hc1, hf1⟩ := bcell hb1; have hz1 := hb1.size; (try simp at hz1); have hy0 : w.heap.size < w1.heap.size := (by omega); have hy1 : w.heap.size + 1 < w1.heap.size := (by omega); have hy2 : w.heap.size + 1 + 1 < w1.heap.size := (by omega)) | (go_at_call 96; (with_reducible refine (HS.out _).mono ?_); rintro e w1 ⟨rfl, hb1⟩; obtain ⟨hc1, hf1⟩ := bcell hb1; have hz1 := hb1.size; (try simp at hz1); have hy0 : w.heap.size < w1.heap.size := (by omega); have hy1 : w.heap.size + 1 < w1.heap.size := (by omega); have hy2 : w.heap.size + 1 + 1 < w1.heap.size := (by omega)) | (go_at_call 95; (with_reducible refine (HL.out _).mono ?_); rintro e w1 ⟨rfl, hb1⟩; obtain ⟨hc1, hf1⟩ := bcell hb1; have hz1 := hb1.size; (try simp at hz1); have hy0 : w.heap.size < w1.heap.size := (by omega); have hy1 : w.heap.size + 1 < w1.heap.size := (by omega); have hy2 : w.heap.size + 1 + 1 < w1.heap.size := (by omega)))
  refine post_gen2 (R := fun w2 => Blk w2 (w.heap.size + 1 + 1) 75 #[.int .u64 x, .int .u64 y, .int .u64 z] ∧ Below w.heap.size w w2) ⟨?_, bel⟩ ?_
  · repeat (first | with_reducible exact three_put (x := .int .u64 0) (y := .int .u64 0) (z := .int .u64 0) blkA | (with_reducible refine Blk.new ?_ rfl; focus (simp; done)) | with_reducible refine Blk.alloc ?_ _ | with_reducible refine Blk.drew ?_)
  rintro w2 ⟨HR, hb2⟩
  have r0 := HR.cell 0
  have r1 := HR.cell 1
  have r2 := HR.cell 2
  simp only [List.getElem?_toArray, List.getElem?_cons_zero, List.getElem?_cons_succ] at r0 r1 r2
  exact bodyPost_ret (v := .agg #[.int .u64 x, .int .u64 y, .int .u64 z]) (by simp [results, Tryz.results100, go_sem, r0, r1, r2]) rfl ⟨rfl, hb2⟩

/-- the reference's Square at points that may be -/
theorem rsquare_ok (a b : Pt) (ha : okPt a = true) (hb : okPt b = true) (w : World) : Calls Tryz.prog 100 #[ptV a.x a.y, ptV b.x b.y] w (Ret w (fV ⟨sqs (a.x - b.x) (a.y - b.y), 1⟩)) := by
  have h := rsquare_any a.x a.y b.x b.y w
  unfold sqF at h
  rw [show (⟨a.x, a.y⟩ : Pt) = a from rfl, show (⟨b.x, b.y⟩ : Pt) = b from rfl, ha, hb] at h
  exact h
end Go.Proofs.YtahiaekoaokgnaaGreat
set_option linter.unusedSimpArgs false
set_option linter.unusedVariables false
namespace Go.Proofs.YtahiaekoaokgnaaGreat
open Go.RowKit Pg

/-- the answer of the reference's BoxDist -/
def bxF (b : Bx) (p : Pt) : Fr := if okBx b && okPt p then ⟨boxN b p, 1⟩ else fNone

set_option maxHeartbeats 2000000 in
set_option maxRecDepth 20000 in
theorem rboxDist_any (a b c d x y : Int) (w : World) :
    Calls Tryz.prog 62 #[bxV a b c d, ptV x y] w (Ret w (fV (bxF ⟨⟨a, b⟩, ⟨c, d⟩⟩ ⟨x, y⟩))) := by
  have HCk := Lib.hid (fun w => rcheckBox_any a b c d w)
  cases ob : okBx ⟨⟨a, b⟩, ⟨c, d⟩⟩
  case false =>
    have HF : Hid (fV (bxF ⟨⟨a, b⟩, ⟨c, d⟩⟩ ⟨x, y⟩) = .agg #[.int .u64 0, .int .u64 0, .int .u64 0]) := by unfold Hid bxF; rw [ob, fV_fcs]; rw [if_neg (by simp), fcs_none]
    have hne : ckBox ⟨⟨a, b⟩, ⟨c, d⟩⟩ ≠ 0 := fun e => by rw [okBx_ck.2 e] at ob; cases ob
    obtain ⟨ck, eck⟩ : ∃ ck, ckBox ⟨⟨a, b⟩, ⟨c, d⟩⟩ = ck := ⟨_, rfl⟩
    rw [eck] at HCk hne
    have hc1 : ((ck : Int) != 0) = true := by rw [bne_iff_ne]; omega
    clear ob eck
    go_enter Tryz.func62, Tryz.ntmps62
    go_wp2_with (go_at_call 25; refine (HCk.out _).mono ?_; rintro e w1 ⟨rfl, hb1⟩; obtain ⟨hc1, hf1⟩ := bcell hb1; have hz1 := hb1.size; (try simp at hz1); have hy0 : w.heap.size < w1.heap.size := (by omega); have hy1 : w.heap.size + 1 < w1.heap.size := (by omega); have hy2 : w.heap.size + 1 + 1 < w1.heap.size := (by omega))
    refine post_gen2 (R := fun w2 => Blk w2 (w.heap.size + 1 + 1) 75 #[.int .u64 0, .int .u64 0, .int .u64 0] ∧ Below w.heap.size w w2) ⟨?_, bel⟩ ?_
    · repeat (first | with_reducible exact three_put (x := .int .u64 0) (y := .int .u64 0) (z := .int .u64 0) blkA | (with_reducible refine Blk.new ?_ rfl; focus (simp; done)) | with_reducible refine Blk.alloc ?_ _ | with_reducible refine Blk.drew ?_)
    rintro w2 ⟨HR, hb2⟩
    have r0 := HR.cell 0
    have r1 := HR.cell 1
    have r2 := HR.cell 2
    simp only [List.getElem?_toArray, List.getElem?_cons_zero, List.getElem?_cons_succ] at r0 r1 r2
    rw [HF.out]
    exact bodyPost_ret (v := .agg #[.int .u64 0, .int .u64 0, .int .u64 0]) (by simp [results, Tryz.results62, go_sem, r0, r1, r2]) rfl ⟨rfl, hb2⟩
  rw [okBx_ck.1 ob] at HCk
  cases op : okPt ⟨x, y⟩
  case false =>
    have HF : Hid (fV (bxF ⟨⟨a, b⟩, ⟨c, d⟩⟩ ⟨x, y⟩) = .agg #[.int .u64 0, .int .u64 0, .int .u64 0]) := by unfold Hid bxF; rw [ob, op, fV_fcs]; rw [if_neg (by simp), fcs_none]
    clear ob
    go_enter Tryz.func62, Tryz.ntmps62
    go_wp2_with (first | (go_at_call 25; refine (HCk.out _).mono ?_; rintro e w1 ⟨rfl, hb1⟩; obtain ⟨hc1, hf1⟩ := bcell hb1; have hz1 := hb1.size; (try simp at hz1); have hy0 : w.heap.size < w1.heap.size := (by omega); have hy1 : w.heap.size + 1 < w1.heap.size := (by omega); have hy2 : w.heap.size + 1 + 1 < w1.heap.size := (by omega)) | (go_at_call 24; refine (rpoint_any _ _ _).mono ?_; rintro e w1 ⟨rfl, hb1⟩; obtain ⟨hc1, hf1⟩ := bcell hb1; have hz1 := hb1.size; (try simp at hz1); have hy0 : w.heap.size < w1.heap.size := (by omega); have hy1 : w.heap.size + 1 < w1.heap.size := (by omega); have hy2 : w.heap.size + 1 + 1 < w1.heap.size := (by omega)))
    refine post_gen2 (R := fun w2 => Blk w2 (w.heap.size + 1 + 1) 75 #[.int .u64 0, .int .u64 0, .int .u64 0] ∧ Below w.heap.size w w2) ⟨?_, bel⟩ ?_
    · repeat (first | with_reducible exact three_put (x := .int .u64 0) (y := .int .u64 0) (z := .int .u64 0) blkA | (with_reducible refine Blk.new ?_ rfl; focus (simp; done)) | with_reducible refine Blk.alloc ?_ _ | with_reducible refine Blk.drew ?_)
    rintro w2 ⟨HR, hb2⟩
    have r0 := HR.cell 0
    have r1 := HR.cell 1
    have r2 := HR.cell 2
    simp only [List.getElem?_toArray, List.getElem?_cons_zero, List.getElem?_cons_succ] at r0 r1 r2
    rw [HF.out]
    exact bodyPost_ret (v := .agg #[.int .u64 0, .int .u64 0, .int .u64 0]) (by simp [results, Tryz.results62, go_sem, r0, r1, r2]) rfl ⟨rfl, hb2⟩
  have HF0 : fV (bxF ⟨⟨a, b⟩, ⟨c, d⟩⟩ ⟨x, y⟩) = fV ⟨sqs (gap x a c) (gap y b d), 1⟩ := by unfold bxF; rw [ob, op]; rfl
  obtain ⟨p1, p2, p3, p4⟩ := okPt_range op
  obtain ⟨⟨o1, o2⟩, o3, o4⟩ := (Pg.okBx_iff _).1 ob
  obtain ⟨q1, q2, q3, q4⟩ := okPt_range o1
  obtain ⟨r1, r2, r3, r4⟩ := okPt_range o2
  simp only at p1 p2 p3 p4 q1 q2 q3 q4 r1 r2 r3 r4
  have e1 : IntKind.i64.wrap (a - x) = a - x := by rw [IntKind.wrap_i64]; omega
  have e2 : IntKind.i64.wrap (x - c) = x - c := by rw [IntKind.wrap_i64]; omega
  have e3 : IntKind.i64.wrap (b - y) = b - y := by rw [IntKind.wrap_i64]; omega
  have e4 : IntKind.i64.wrap (y - d) = y - d := by rw [IntKind.wrap_i64]; omega
  have g1 : 0 ≤ gap x a c ∧ gap x a c ≤ 2147483646 := by unfold gap; omega
  have g2 : 0 ≤ gap y b d ∧ gap y b d ≤ 2147483646 := by unfold gap; omega
  have HS := Lib.hid (fun w => rsum_any (gap x a c) (gap y b d) (by omega) (by omega) (by omega) (by omega) w)
  have hn := sqs_lt2 (x := gap x a c) (y := gap y b d) (by omega) (by omega) (by omega) (by omega)
  obtain ⟨n, en⟩ : ∃ n, sqs (gap x a c) (gap y b d) = n := ⟨_, rfl⟩
  rw [en] at HS HF0 hn
  have HL := Lib.hid (fun w => rlow1_any n hn w)
  rw [fV_fcs] at HL
  rw [HF0, fV_fcs]
  obtain ⟨x', y', z', ed⟩ := fcs_ex ⟨n, 1⟩
  rw [ed] at HL ⊢
  simp only [uV] at HS HL
  obtain ⟨n1, en1⟩ : ∃ c, n / 18446744073709551616 = c := ⟨_, rfl⟩
  obtain ⟨n0, en0⟩ : ∃ c, n % 18446744073709551616 = c := ⟨_, rfl⟩
  rw [en1, en0] at HS HL
  have HGX : ∀ z, z = gap x a c → ∀ u, u = gap y b d → ∀ w, Calls Tryz.prog 96 #[.int .i64 z, .int .i64 u] w (Ret w (.agg #[.int .u64 n1, .int .u64 n0])) := fun z hz u hu w => by subst hz hu; exact HS.out w
  have HGH := Lib.hid HGX
  clear p1 p2 p3 p4 q1 q2 q3 q4 r1 r2 r3 r4 en hn ed en1 en0 HF0 ob HGX HS g1 g2 o1 o2
  go_enter Tryz.func62, Tryz.ntmps62
  go_wp2_with (first | (go_at_call 25; refine (HCk.out _).mono ?_; rintro e w1 ⟨rfl, hb1⟩; obtain ⟨hc1, hf1⟩ := bcell hb1; have hz1 := hb1.size; (try simp at hz1); have hy0 : w.heap.size < w1.heap.size := (by omega); have hy1 : w.heap.size + 1 < w1.heap.size := (by omega); have hy2 : w.heap.size + 1 + 1 < w1.heap.size := (by omega)) | (go_at_call 24; refine (rpoint_any _ _ _).mono ?_; rintro e w1 ⟨rfl, hb1⟩; obtain ⟨hc1, hf1⟩ := bcell hb1; have hz1 := hb1.size; (try simp at hz1); have hy0 : w.heap.size < w1.heap.size := (by omega); have hy1 : w.heap.size + 1 < w1.heap.size := (by omega); have hy2 : w.heap.size + 1 + 1 < w1.heap.size := (by omega)) | (go_at_call 96; refine (HGH.out _ ?_ _ ?_ _).mono ?_; (focus (unfold gap; omega)); (focus (unfold gap; omega)); rintro e w1 ⟨rfl, hb1⟩; obtain ⟨hc1, hf1⟩ := bcell hb1; have hz1 := hb1.size; (try simp at hz1); have hy0 : w.heap.size < w1.heap.size := (by omega); have hy1 : w.heap.size + 1 < w1.heap.size := (by omega); have hy2 : w.heap.size + 1 + 1 < w1.heap.size := (by omega)) | (go_at_call 95; (with_reducible refine (HL.out _).mono ?_); rintro e w1 ⟨rfl, hb1⟩; obtain ⟨hc1, hf1⟩ := bcell hb1; have hz1 := hb1.size; (try simp at hz1); have hy0 : w.heap.size < w1.heap.size := (by omega); have hy1 : w.heap.size + 1 < w1.heap.size := (by omega); have hy2 : w.heap.size + 1 + 1 < w1.heap.size := (by omega)))
  all_goals
    refine post_gen2 (R := fun w2 => Blk w2 (w.heap.size + 1 + 1) 75 #[.int .u64 x', .int .u64 y', .int .u64 z'] ∧ Below w.heap.size w w2) ⟨?_, bel⟩ ?_
    · repeat (first | with_reducible exact three_put (x := .int .u64 0) (y := .int .u64 0) (z := .int .u64 0) blkA | (with_reducible refine Blk.new ?_ rfl; focus (simp; done)) | with_reducible refine Blk.alloc ?_ _ | with_reducible refine Blk.drew ?_)
    rintro w2 ⟨HR, hb2⟩
    have r0 := HR.cell 0
    have r1 := HR.cell 1
    have r2 := HR.cell 2
    simp only [List.getElem?_toArray, List.getElem?_cons_zero, List.getElem?_cons_succ] at r0 r1 r2
    exact bodyPost_ret (v := .agg #[.int .u64 x', .int .u64 y', .int .u64 z']) (by simp [results, Tryz.results62, go_sem, r0, r1, r2]) rfl ⟨rfl, hb2⟩
end Go.Proofs.YtahiaekoaokgnaaGreat
