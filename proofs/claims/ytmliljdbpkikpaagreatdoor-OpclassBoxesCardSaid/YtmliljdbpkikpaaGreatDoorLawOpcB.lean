/-
  The walk of the statement OpclassBoxes.
-/
import Derived.Test.YtmliljdbpkikpaaGreatDoorOpcA
import Derived.Test.YtmliljdbpkikpaaGreatDoorSplR
import Derived.Test.YtmliljdbpkikpaaGreatDoorSums
import Derived.Test.YtmliljdbpkikpaaGreatDoorEncJ
set_option linter.unusedSimpArgs false
set_option linter.unusedVariables false
namespace Go.Proofs.YtmliljdbpkikpaaGreatDoor
open Go.RowKit Pg

theorem methodSplitB (v : Value) (w : World) : (Go.method 374 82 v "Split").run Tryz.prog w = .ok (162, v) w := by kernel_rfl
theorem methodUnionB (v : Value) (w : World) : (Go.method 374 82 v "Union").run Tryz.prog w = .ok (163, v) w := by kernel_rfl
theorem methodConsB (v : Value) (w : World) : (Go.method 374 82 v "Consistent").run Tryz.prog w = .ok (158, v) w := by kernel_rfl
theorem methodPenB (v : Value) (w : World) : (Go.method 374 82 v "Penalty").run Tryz.prog w = .ok (161, v) w := by kernel_rfl
theorem methodDistB (v : Value) (w : World) : (Go.method 374 82 v "Dist").run Tryz.prog w = .ok (159, v) w := by kernel_rfl

theorem nilAheadC (v : Value) (w : World) : (nilAhead 374 82 (.agg #[v]) "Consistent").run Tryz.prog w = .ok (some false) w := by kernel_rfl
theorem nilAheadD (v : Value) (w : World) : (nilAhead 374 82 (.agg #[v]) "Dist").run Tryz.prog w = .ok (some false) w := by kernel_rfl
theorem nilAheadP (v : Value) (w : World) : (nilAhead 374 82 (.agg #[v]) "Penalty").run Tryz.prog w = .ok (some false) w := by kernel_rfl
theorem ck_le15 (o : Ob) : ckOb o ≤ 15 := by
  unfold ckOb ckInt ckBox ckRing
  repeat' split
  all_goals omega
theorem Boxes_bad (k : Int) (w : World) (h : k < 1 ∨ 4 < k) : Calls Tryz.prog 14 #[.int .i64 k] w fun e w' => ∃ v, e = .returned (.tuple #[.nilIface, v]) ∧ ErrX w' v 5 classW k ∧ Below w.heap.size w w' := by
  have HN := Lib.hid (fun w => fnewX_any classW k (.iface 80 (.int .i64 5)) 5 w (errY_bare (k := 5)))
  rcases h with h | h
  · go_enter Tryz.func14, Tryz.ntmps14
    go_wp2_with (go_at_call 35; (with_reducible refine (HN.out _).mono ?_); rintro e w1 ⟨v1, rfl, hE1, hb1⟩)
    go_ret2
    exact ⟨_, rfl, hE1, (by repeat (first | with_reducible exact Below.refl _ _ | with_reducible assumption | with_reducible refine al ?_ _ | with_reducible refine Below.drew ?_ | with_reducible refine Below.setCell ?_ (by first | (simp; done) | (simp; omega)) _ | with_reducible refine tr ?_ (by with_reducible assumption)))⟩
  · have h2 : ¬ k < 1 := by omega
    go_enter Tryz.func14, Tryz.ntmps14
    go_wp2_with (go_at_call 35; (with_reducible refine (HN.out _).mono ?_); rintro e w1 ⟨v1, rfl, hE1, hb1⟩)
    go_ret2
    exact ⟨_, rfl, hE1, (by repeat (first | with_reducible exact Below.refl _ _ | with_reducible assumption | with_reducible refine al ?_ _ | with_reducible refine Below.drew ?_ | with_reducible refine Below.setCell ?_ (by first | (simp; done) | (simp; omega)) _ | with_reducible refine tr ?_ (by with_reducible assumption)))⟩
theorem bxF_okB (b : Bx) (p : Pt) : FrOk (bxF b p) := by
  unfold bxF
  split
  · rename_i h
    rw [Bool.and_eq_true] at h
    obtain ⟨⟨o1, o2⟩, o3, o4⟩ := (Pg.okBx_iff _).1 h.1
    obtain ⟨p1, p2, p3, p4⟩ := okPt_range h.2
    obtain ⟨q1, q2, q3, q4⟩ := okPt_range o1
    obtain ⟨r1, r2, r3, r4⟩ := okPt_range o2
    have g1 : 0 ≤ gap p.x b.lo.x b.hi.x ∧ gap p.x b.lo.x b.hi.x ≤ 2147483646 := by unfold gap; omega
    have g2 : 0 ≤ gap p.y b.lo.y b.hi.y ∧ gap p.y b.lo.y b.hi.y ≤ 2147483646 := by unfold gap; omega
    exact ⟨sqs_lt2 (by omega) (by omega) (by omega) (by omega), by simp only; omega⟩
  · exact ⟨by decide, by decide⟩
theorem farS_ok (k : List Nat) (p : Pt) : FrOk (farS k p) := by
  unfold farS
  split
  · exact ⟨by decide, by decide⟩
  · exact bxF_okB _ _
theorem adist_same (f : Fr) (h : FrOk f) (w : World) : Calls Tryz.prog 21 #[fV f, fV f] w (Ret w (.bool true)) := by
  have HC := Lib.hid (fun w => rCmpD_any f f h h w)
  rw [cmpF_self, fV_fcs] at HC
  rw [fV_fcs]
  obtain ⟨x, y, z, e⟩ := fcs_ex f
  rw [e] at HC ⊢
  clear e h
  go_enter Tryz.func21, Tryz.ntmps21
  go_wp2_with (go_at_call 11; (with_reducible refine (HC.out _).mono ?_); rintro e w1 ⟨rfl, hb1⟩; obtain ⟨hc1, hf1⟩ := bcell hb1; have hz1 := hb1.size; (try simp at hz1))
  go_ret
  exact ⟨rfl, (by repeat (first | with_reducible exact Below.refl _ _ | with_reducible assumption | with_reducible refine al ?_ _ | with_reducible refine Below.drew ?_ | with_reducible refine Below.setCell ?_ (by first | (simp; done) | (simp; omega)) _ | with_reducible refine tr ?_ (by with_reducible assumption)))⟩

set_option maxHeartbeats 8000000 in
set_option maxRecDepth 20000 in
theorem opclassBoxes_walk (B n c m cm r cr : Nat) (kind k k' : Int) (bq : Bx) (px py : Int) (A A2 A3 : Option Addr) (l : List Pt) (L : List (List Nat)) (rg : List Pt) (w : World) (hl : PtsAt w B A n l) (hL : RbsAt w B A2 m L) (h256 : ∀ l ∈ L, ∀ x ∈ l, x < 256) (hr : PtsAt w B A3 r rg) (hB : B ≤ w.heap.size) (hT : ErrT w) :
    Calls Tryz.prog 4 #[.int .i64 kind, obV k A n c, .slice A2 m cm, quV k' bq A3 r cr, ptV px py] w (Ret w (.bool true)) := by
  have HT := Lib.hid hT
  clear hT
  by_cases h70 : 70 < n
  · have h1 : (70 : Int) < (n : Int) := by omega
    clear hl hr hL
    go_enter Tryz.func4, Tryz.ntmps4
    go_wp2_with (go_at_call 13; refine (awake16_true _).mono ?_; rintro e w9 ⟨rfl, hb9⟩)
    go_ret
    exact ⟨rfl, (by repeat (first | with_reducible exact Below.refl _ _ | with_reducible assumption | with_reducible refine al ?_ _ | with_reducible refine Below.drew ?_ | with_reducible refine Below.setCell ?_ (by first | (simp; done) | (simp; omega)) _ | with_reducible refine tr ?_ (by with_reducible assumption)))⟩
  have h70' : ¬ (70 : Int) < (n : Int) := by omega
  by_cases r70 : 70 < r
  · have h1 : (70 : Int) < (r : Int) := by omega
    clear hl hr hL
    go_enter Tryz.func4, Tryz.ntmps4
    go_wp2_with (go_at_call 13; refine (awake16_true _).mono ?_; rintro e w9 ⟨rfl, hb9⟩)
    go_ret
    exact ⟨rfl, (by repeat (first | with_reducible exact Below.refl _ _ | with_reducible assumption | with_reducible refine al ?_ _ | with_reducible refine Below.drew ?_ | with_reducible refine Below.setCell ?_ (by first | (simp; done) | (simp; omega)) _ | with_reducible refine tr ?_ (by with_reducible assumption)))⟩
  have r70' : ¬ (70 : Int) < (r : Int) := by omega
  by_cases m40 : 40 < m
  · have h1 : (40 : Int) < (m : Int) := by omega
    clear hl hr hL
    go_enter Tryz.func4, Tryz.ntmps4
    go_wp2_with (go_at_call 13; refine (awake16_true _).mono ?_; rintro e w9 ⟨rfl, hb9⟩)
    go_ret
    exact ⟨rfl, (by repeat (first | with_reducible exact Below.refl _ _ | with_reducible assumption | with_reducible refine al ?_ _ | with_reducible refine Below.drew ?_ | with_reducible refine Below.setCell ?_ (by first | (simp; done) | (simp; omega)) _ | with_reducible refine tr ?_ (by with_reducible assumption)))⟩
  have m40' : ¬ (40 : Int) < (m : Int) := by omega
  have HTot : Hid (∀ W, Below w.heap.size w W → Calls Tryz.prog 12 #[.slice A2 m cm, .int .i64 2000] W fun e w' => ∃ t : Nat, e = .returned (.int .i64 t) ∧ (t ≤ 2000 → ∀ l ∈ L, l.length ≤ 2000) ∧ Below W.heap.size W w') := fun W hW => total_any B m cm 2000 A2 L W (hL.tr hW hB) (Nat.le_trans hB hW.size) (by omega) (by decide)
  have HL := Lib.hid hL
  have HP := Lib.hid hl
  have HR := Lib.hid hr
  have H256 := Lib.hid h256
  clear hl hr hL h256
  by_cases hkind : 1 ≤ kind ∧ kind ≤ 4
  case neg =>
    have HB1 := Lib.hid (fun w => Boxes_bad kind w (by omega))
    have HIs : Hid (∀ v w, ErrT w → ErrX w v 5 classW kind → Calls Tryz.prog 15 #[v, .int .i64 5, .string classW, .int .i64 kind] w (Ret w (.bool true))) := fun v w hw h => isX_true v 5 classW kind w hw h (by decide)
    have hk1 : (decide (kind < 1) || decide (4 < kind)) = true := by rw [Bool.or_eq_true, decide_eq_true_eq, decide_eq_true_eq]; omega
    have hk2 : kind < 1 ∨ ¬ kind < 1 ∧ 4 < kind := by omega
    clear hkind
    rcases hk2 with hk2 | ⟨hk2, hk3⟩
    · go_enter Tryz.func4, Tryz.ntmps4
      go_wp2_with (first | (go_at_call 12; (with_reducible refine (HTot.out _ (by repeat (first | with_reducible exact Below.refl _ _ | with_reducible assumption | with_reducible refine al ?_ _ | with_reducible refine Below.drew ?_ | with_reducible refine Below.setCell ?_ (by first | (simp; done) | (simp; omega)) _ | with_reducible refine tr ?_ (by with_reducible assumption)))).mono ?_); rintro e w1 ⟨t, rfl, ht, hb1⟩; obtain ⟨hc1, hf1⟩ := bcell hb1; have hz1 := hb1.size; (try simp at hz1); rcases Nat.lt_or_ge 2000 t with hq | hq; (have hq1 : (2000 : Int) < (t : Int) := (by omega)); clear ht; rotate_left; have hq1 : ¬ (2000 : Int) < (t : Int) := (by omega); have HLL := Lib.hid (ht hq); clear ht; rotate_left) | (go_at_call 14; (with_reducible refine (HB1.out _).mono ?_); rintro e w2 ⟨v2, rfl, hE2, hb2⟩) | (go_at_call 15; (with_reducible refine (HIs.out _ _ (HT.out.tr (by repeat (first | with_reducible exact Below.refl _ _ | with_reducible assumption | with_reducible refine al ?_ _ | with_reducible refine Below.drew ?_ | with_reducible refine Below.setCell ?_ (by first | (simp; done) | (simp; omega)) _ | with_reducible refine tr ?_ (by with_reducible assumption)))) hE2).mono ?_); rintro e w3 ⟨rfl, hb3⟩) | (go_at_call 13; refine (awake16_true _).mono ?_; rintro e w9 ⟨rfl, hb9⟩))
      all_goals go_ret
      all_goals exact ⟨rfl, (by repeat (first | with_reducible exact Below.refl _ _ | with_reducible assumption | with_reducible refine al ?_ _ | with_reducible refine Below.drew ?_ | with_reducible refine Below.setCell ?_ (by first | (simp; done) | (simp; omega)) _ | with_reducible refine tr ?_ (by with_reducible assumption)))⟩
    · go_enter Tryz.func4, Tryz.ntmps4
      go_wp2_with (first | (go_at_call 12; (with_reducible refine (HTot.out _ (by repeat (first | with_reducible exact Below.refl _ _ | with_reducible assumption | with_reducible refine al ?_ _ | with_reducible refine Below.drew ?_ | with_reducible refine Below.setCell ?_ (by first | (simp; done) | (simp; omega)) _ | with_reducible refine tr ?_ (by with_reducible assumption)))).mono ?_); rintro e w1 ⟨t, rfl, ht, hb1⟩; obtain ⟨hc1, hf1⟩ := bcell hb1; have hz1 := hb1.size; (try simp at hz1); rcases Nat.lt_or_ge 2000 t with hq | hq; (have hq1 : (2000 : Int) < (t : Int) := (by omega)); clear ht; rotate_left; have hq1 : ¬ (2000 : Int) < (t : Int) := (by omega); have HLL := Lib.hid (ht hq); clear ht; rotate_left) | (go_at_call 14; (with_reducible refine (HB1.out _).mono ?_); rintro e w2 ⟨v2, rfl, hE2, hb2⟩) | (go_at_call 15; (with_reducible refine (HIs.out _ _ (HT.out.tr (by repeat (first | with_reducible exact Below.refl _ _ | with_reducible assumption | with_reducible refine al ?_ _ | with_reducible refine Below.drew ?_ | with_reducible refine Below.setCell ?_ (by first | (simp; done) | (simp; omega)) _ | with_reducible refine tr ?_ (by with_reducible assumption)))) hE2).mono ?_); rintro e w3 ⟨rfl, hb3⟩) | (go_at_call 13; refine (awake16_true _).mono ?_; rintro e w9 ⟨rfl, hb9⟩))
      all_goals go_ret
      all_goals exact ⟨rfl, (by repeat (first | with_reducible exact Below.refl _ _ | with_reducible assumption | with_reducible refine al ?_ _ | with_reducible refine Below.drew ?_ | with_reducible refine Below.setCell ?_ (by first | (simp; done) | (simp; omega)) _ | with_reducible refine tr ?_ (by with_reducible assumption)))⟩
  have hk1 : ¬ kind < 1 := by omega
  have hk4 : ¬ 4 < kind := by omega
  have HBo := Lib.hid (fun w => Boxes_ok kind w (by omega) (by omega))
  have HMk := Lib.hid (fun W (hW : Below w.heap.size w W) => Make_any B n c kind k A l W (HP.out.tr hW hB) (Nat.le_trans hB hW.size) (by omega))
  have HrM := Lib.hid (fun W (hW : Below w.heap.size w W) => rMake_any B n c kind k A l W (HP.out.tr hW hB) (Nat.le_trans hB hW.size) (by omega))
  have hms : makeS kind ⟨k, l⟩ ≤ 15 := by unfold makeS; split; (exact ck_le15 _); omega
  obtain ⟨K, hK⟩ : ∃ K, makeK kind ⟨k, l⟩ = K := ⟨_, rfl⟩
  obtain ⟨e0, he0⟩ : ∃ e0, makeS kind ⟨k, l⟩ = e0 := ⟨_, rfl⟩
  rw [hK, he0] at HMk HrM
  rw [he0] at hms
  have hKl : K.length ≤ 1000000 := by
    rw [← hK]
    unfold makeK
    split
    · rename_i h
      unfold makeS at h
      split at h
      · have := (keyL_len (bounds_in (k := k) (l := l) h)).2
        omega
      · omega
    · simp
  have HIs := Lib.hid (fun v w (hw : ErrT w) h => isX_true v e0 classW k w hw h hms)
  have HSp := Lib.hid (fun W (hW : Below w.heap.size w W) (h : ∀ l ∈ L, l.length ≤ 2000) => Split_any (.int .i64 kind) B m cm A2 L W (HL.out.tr hW hB) (Nat.le_trans hB hW.size) (by omega) H256.out (fun l hl => Nat.le_trans (h l hl) (by decide)))
  have HrS := Lib.hid (fun W (hW : Below w.heap.size w W) (h : ∀ l ∈ L, l.length ≤ 2000) => rSplit_any B m cm A2 L W (HL.out.tr hW hB) (Nat.le_trans hB hW.size) (by omega) H256.out (fun l hl => Nat.le_trans (h l hl) (by decide)))
  have HUn := Lib.hid (fun W (hW : Below w.heap.size w W) (h : ∀ l ∈ L, l.length ≤ 2000) => Union_any (.int .i64 kind) B m cm A2 L W (HL.out.tr hW hB) (Nat.le_trans hB hW.size) (by omega) H256.out (fun l hl => Nat.le_trans (h l hl) (by decide)))
  have HrU := Lib.hid (fun W (hW : Below w.heap.size w W) (h : ∀ l ∈ L, l.length ≤ 2000) => rUnion_any B m cm A2 L W (HL.out.tr hW hB) (Nat.le_trans hB hW.size) (by omega) H256.out (fun l hl => Nat.le_trans (h l hl) (by decide)))
  have hUl : (unionK L).length ≤ 1000000 := by
    unfold unionK
    split
    · by_cases hne : boxesK L = []
      · rw [hne]
        exact Nat.le_trans (keyL_len (b := (union []).1) (by unfold inBx in64; simp [union, bzero])).2 (by decide)
      · exact Nat.le_trans (keyL_len (okBx_in (union_all hne (fun b hb => boxesK_ok hb)).2.1)).2 (by decide)
    · simp
  obtain ⟨U, hU⟩ : ∃ U, unionK L = U := ⟨_, rfl⟩
  rw [hU] at HUn HrU hUl
  obtain ⟨V, hV⟩ : ∃ V, splitS (L.map boxK) = V := ⟨_, rfl⟩
  have hVl : V.length = m := by rw [← hV, splitS_len, List.length_map, HL.out.1]
  rw [hV] at HSp HrS
  clear hU hV
  clear hkind hK he0
  have mM := methodMake
  have mS := methodSplitB
  have mU := methodUnionB
  go_enter Tryz.func4, Tryz.ntmps4
  go_wp2_with (first | (go_at_call 12; (with_reducible refine (HTot.out _ (by repeat (first | with_reducible exact Below.refl _ _ | with_reducible assumption | with_reducible refine al ?_ _ | with_reducible refine Below.drew ?_ | with_reducible refine Below.setCell ?_ (by first | (simp; done) | (simp; omega)) _ | with_reducible refine tr ?_ (by with_reducible assumption)))).mono ?_); rintro e w1 ⟨t, rfl, ht, hb1⟩; obtain ⟨hc1, hf1⟩ := bcell hb1; have hz1 := hb1.size; (try simp at hz1); have hy10 : w.heap.size < w1.heap.size := (by omega); have hy11 : w.heap.size + 1 < w1.heap.size := (by omega); have hy12 : w.heap.size + 1 + 1 < w1.heap.size := (by omega); rcases Nat.lt_or_ge 2000 t with hq | hq; (have hq1 : (2000 : Int) < (t : Int) := (by omega)); clear ht; rotate_left; have hq1 : ¬ (2000 : Int) < (t : Int) := (by omega); have HLL := Lib.hid (ht hq); clear ht hq; rotate_left) | (go_at_call 13; refine (awake16_true _).mono ?_; rintro e w20 ⟨rfl, hb20⟩) | (go_at_call 14; (with_reducible refine (HBo.out _).mono ?_); rintro e w2 ⟨rfl, hb2⟩; obtain ⟨hc2, hf2⟩ := bcell hb2; have hz2 := hb2.size; (try simp at hz2); have hy20 : w.heap.size < w2.heap.size := (by omega); have hy21 : w.heap.size + 1 < w2.heap.size := (by omega); have hy22 : w.heap.size + 1 + 1 < w2.heap.size := (by omega)) | (go_at_call 160; (with_reducible refine (HMk.out _ (by repeat (first | with_reducible exact Below.refl _ _ | with_reducible assumption | with_reducible refine al ?_ _ | with_reducible refine Below.drew ?_ | with_reducible refine Below.setCell ?_ (by first | (simp; done) | (simp; omega)) _ | with_reducible refine tr ?_ (by with_reducible assumption)))).mono ?_); rintro e w3 ⟨s3, v3, rfl, ho3, hE3, hb3⟩; obtain ⟨A3', c3, rfl, hB3, hl3, hn3, hm3⟩ := bys_of_own2 ho3; clear ho3; obtain ⟨hc3, hf3⟩ := bcell hb3; have hz3 := hb3.size; (try simp at hz3); have hy30 : w.heap.size < w3.heap.size := (by omega); have hy31 : w.heap.size + 1 < w3.heap.size := (by omega); have hy32 : w.heap.size + 1 + 1 < w3.heap.size := (by omega)) | (go_at_call 16; (with_reducible refine (HrM.out _ (by repeat (first | with_reducible exact Below.refl _ _ | with_reducible assumption | with_reducible refine al ?_ _ | with_reducible refine Below.drew ?_ | with_reducible refine Below.setCell ?_ (by first | (simp; done) | (simp; omega)) _ | with_reducible refine tr ?_ (by with_reducible assumption)))).mono ?_); rintro e w4 ⟨s4, rfl, ho4, hb4⟩; obtain ⟨A4', c4, rfl, hB4, hl4, hn4, hm4⟩ := bys_of_own2 ho4; clear ho4; obtain ⟨hc4, hf4⟩ := bcell hb4; have hz4 := hb4.size; (try simp at hz4); have hy40 : w.heap.size < w4.heap.size := (by omega); have hy41 : w.heap.size + 1 < w4.heap.size := (by omega); have hy42 : w.heap.size + 1 + 1 < w4.heap.size := (by omega)) | (go_at_call 162; (with_reducible refine (HSp.out _ (by repeat (first | with_reducible exact Below.refl _ _ | with_reducible assumption | with_reducible refine al ?_ _ | with_reducible refine Below.drew ?_ | with_reducible refine Below.setCell ?_ (by first | (simp; done) | (simp; omega)) _ | with_reducible refine tr ?_ (by with_reducible assumption))) HLL.out).mono ?_); rintro e w5 ⟨g5, rfl, hG5, hb5⟩; obtain ⟨hc5, hf5⟩ := bcell hb5; have hz5 := hb5.size; (try simp at hz5); have hy50 : w.heap.size < w5.heap.size := (by omega); have hy51 : w.heap.size + 1 < w5.heap.size := (by omega); have hy52 : w.heap.size + 1 + 1 < w5.heap.size := (by omega)) | (go_at_call 17; (with_reducible refine (HrS.out _ (by repeat (first | with_reducible exact Below.refl _ _ | with_reducible assumption | with_reducible refine al ?_ _ | with_reducible refine Below.drew ?_ | with_reducible refine Below.setCell ?_ (by first | (simp; done) | (simp; omega)) _ | with_reducible refine tr ?_ (by with_reducible assumption))) HLL.out).mono ?_); rintro e w6 ⟨g6, rfl, hG6, hb6⟩; obtain ⟨hc6, hf6⟩ := bcell hb6; have hz6 := hb6.size; (try simp at hz6); have hy60 : w.heap.size < w6.heap.size := (by omega); have hy61 : w.heap.size + 1 < w6.heap.size := (by omega); have hy62 : w.heap.size + 1 + 1 < w6.heap.size := (by omega)) | (go_at_call 18; have _z := hB10; refine (bytes_any w10.heap.size U.length c9 U.length c10 A9' A10' U U _ ((hB9.tr (by repeat (first | with_reducible exact Below.refl _ _ | with_reducible assumption | with_reducible refine al ?_ _ | with_reducible refine Below.drew ?_ | with_reducible refine Below.setCell ?_ (by first | (simp; done) | (simp; omega)) _ | with_reducible refine tr ?_ (by with_reducible assumption))) (Nat.le_refl _)).more (by omega)) (hB10.tr (by repeat (first | with_reducible exact Below.refl _ _ | with_reducible assumption | with_reducible refine al ?_ _ | with_reducible refine Below.drew ?_ | with_reducible refine Below.setCell ?_ (by first | (simp; done) | (simp; omega)) _ | with_reducible refine tr ?_ (by with_reducible assumption))) (Nat.le_refl _)) (by omega) hUl).mono ?_; rw [decide_eq_true (rfl : U = U)]; rintro e w11 ⟨rfl, hb11⟩) | (go_at_call 18; refine (bytes_any w4.heap.size K.length c3 K.length c4 A3' A4' K K _ ((hB3.tr (by repeat (first | with_reducible exact Below.refl _ _ | with_reducible assumption | with_reducible refine al ?_ _ | with_reducible refine Below.drew ?_ | with_reducible refine Below.setCell ?_ (by first | (simp; done) | (simp; omega)) _ | with_reducible refine tr ?_ (by with_reducible assumption))) (Nat.le_refl _)).more (by omega)) (hB4.tr (by repeat (first | with_reducible exact Below.refl _ _ | with_reducible assumption | with_reducible refine al ?_ _ | with_reducible refine Below.drew ?_ | with_reducible refine Below.setCell ?_ (by first | (simp; done) | (simp; omega)) _ | with_reducible refine tr ?_ (by with_reducible assumption))) (Nat.le_refl _)) (by omega) hKl).mono ?_; rw [decide_eq_true (rfl : K = K)]; rintro e w7 ⟨rfl, hb7⟩; obtain ⟨hc7, hf7⟩ := bcell hb7; have hz7 := hb7.size; (try simp at hz7); have hy70 : w.heap.size < w7.heap.size := (by omega); have hy71 : w.heap.size + 1 < w7.heap.size := (by omega); have hy72 : w.heap.size + 1 + 1 < w7.heap.size := (by omega)) | (go_at_call 15; (with_reducible refine (HIs.out _ _ (HT.out.tr (by repeat (first | with_reducible exact Below.refl _ _ | with_reducible assumption | with_reducible refine al ?_ _ | with_reducible refine Below.drew ?_ | with_reducible refine Below.setCell ?_ (by first | (simp; done) | (simp; omega)) _ | with_reducible refine tr ?_ (by with_reducible assumption)))) (hE3.tr (by repeat (first | with_reducible exact Below.refl _ _ | with_reducible assumption | with_reducible refine al ?_ _ | with_reducible refine Below.drew ?_ | with_reducible refine Below.setCell ?_ (by first | (simp; done) | (simp; omega)) _ | with_reducible refine tr ?_ (by with_reducible assumption))))).mono ?_); rintro e w8 ⟨rfl, hb8⟩; obtain ⟨hc8, hf8⟩ := bcell hb8; have hz8 := hb8.size; (try simp at hz8); have hy80 : w.heap.size < w8.heap.size := (by omega); have hy81 : w.heap.size + 1 < w8.heap.size := (by omega); have hy82 : w.heap.size + 1 + 1 < w8.heap.size := (by omega)) | (go_at_call 163; (with_reducible refine (HUn.out _ (by repeat (first | with_reducible exact Below.refl _ _ | with_reducible assumption | with_reducible refine al ?_ _ | with_reducible refine Below.drew ?_ | with_reducible refine Below.setCell ?_ (by first | (simp; done) | (simp; omega)) _ | with_reducible refine tr ?_ (by with_reducible assumption))) HLL.out).mono ?_); rintro e w9 ⟨s9, rfl, ho9, hb9⟩; obtain ⟨A9', c9, rfl, hB9, hl9, hn9, hm9⟩ := bys_of_own2 ho9; clear ho9; obtain ⟨hc9, hf9⟩ := bcell hb9; have hz9 := hb9.size; (try simp at hz9); have hy90 : w.heap.size < w9.heap.size := (by omega); have hy91 : w.heap.size + 1 < w9.heap.size := (by omega); have hy92 : w.heap.size + 1 + 1 < w9.heap.size := (by omega)) | (go_at_call 19; (with_reducible refine (HrU.out _ (by repeat (first | with_reducible exact Below.refl _ _ | with_reducible assumption | with_reducible refine al ?_ _ | with_reducible refine Below.drew ?_ | with_reducible refine Below.setCell ?_ (by first | (simp; done) | (simp; omega)) _ | with_reducible refine tr ?_ (by with_reducible assumption))) HLL.out).mono ?_); rintro e w10 ⟨s10, rfl, ho10, hb10⟩; obtain ⟨A10', c10, rfl, hB10, hl10, hn10, hm10⟩ := bys_of_own2 ho10; clear ho10; obtain ⟨hc10, hf10⟩ := bcell hb10; have hz10 := hb10.size; (try simp at hz10); have hy100 : w.heap.size < w10.heap.size := (by omega); have hy101 : w.heap.size + 1 < w10.heap.size := (by omega); have hy102 : w.heap.size + 1 + 1 < w10.heap.size := (by omega)))
  · go_ret
    exact ⟨rfl, (by repeat (first | with_reducible exact Below.refl _ _ | with_reducible assumption | with_reducible refine al ?_ _ | with_reducible refine Below.drew ?_ | with_reducible refine Below.setCell ?_ (by first | (simp; done) | (simp; omega)) _ | with_reducible refine tr ?_ (by with_reducible assumption)))⟩
  refine PgG.keep_world (R := fun w12 => Blk w12 (w.heap.size + 1) 44 #[.int .i64 k', .int .i64 bq.lo.x, .int .i64 bq.lo.y, .int .i64 bq.hi.x, .int .i64 bq.hi.y, .slice A3 r cr] ∧ Blk w12 (w.heap.size + 1 + 1) 35 #[.int .i64 px, .int .i64 py] ∧ Blk w12 g5 4 (V.map Value.bool).toArray ∧ Blk w12 g6 4 (V.map Value.bool).toArray ∧ Below w.heap.size w w12) ⟨(by repeat (first | with_reducible assumption | with_reducible exact Blk.new (by simp) rfl | with_reducible refine Blk.alloc ?_ _ | with_reducible refine Blk.drew ?_ | with_reducible refine Blk.far ?_ (by first | (simp; done) | (simp; omega)) _ | with_reducible refine Blk.tr ?_ (by with_reducible assumption))), (by repeat (first | with_reducible assumption | with_reducible exact Blk.new (by simp) rfl | with_reducible refine Blk.alloc ?_ _ | with_reducible refine Blk.drew ?_ | with_reducible refine Blk.far ?_ (by first | (simp; done) | (simp; omega)) _ | with_reducible refine Blk.tr ?_ (by with_reducible assumption))), (by repeat (first | with_reducible assumption | with_reducible exact Blk.new (by simp) rfl | with_reducible refine Blk.alloc ?_ _ | with_reducible refine Blk.drew ?_ | with_reducible refine Blk.far ?_ (by first | (simp; done) | (simp; omega)) _ | with_reducible refine Blk.tr ?_ (by with_reducible assumption))), (by repeat (first | with_reducible assumption | with_reducible exact Blk.new (by simp) rfl | with_reducible refine Blk.alloc ?_ _ | with_reducible refine Blk.drew ?_ | with_reducible refine Blk.far ?_ (by first | (simp; done) | (simp; omega)) _ | with_reducible refine Blk.tr ?_ (by with_reducible assumption))), (by repeat (first | with_reducible exact Below.refl _ _ | with_reducible assumption | with_reducible refine al ?_ _ | with_reducible refine Below.drew ?_ | with_reducible refine Below.setCell ?_ (by first | (simp; done) | (simp; omega)) _ | with_reducible refine tr ?_ (by with_reducible assumption)))⟩ ?_
  clear hc1 hf1 hz1 hb1 hy10 hy11 hy12 hc2 hf2 hz2 hb2 hy20 hy21 hy22 hc3 hf3 hz3 hb3 hy30 hy31 hy32 hc4 hf4 hz4 hb4 hy40 hy41 hy42 hc5 hf5 hz5 hb5 hy50 hy51 hy52 hc6 hf6 hz6 hb6 hy60 hy61 hy62 hc7 hf7 hz7 hb7 hy70 hy71 hy72 hc8 hf8 hz8 hb8 hy80 hy81 hy82 hc9 hf9 hz9 hb9 hy90 hy91 hy92 hc10 hf10 hz10 hb10 hy100 hy101 hy102 hb11 hG5 hG6 hB3 hB4 hB9 hB10 hE3 hq1 mM mS mU HBo HMk HrM HSp HrS HUn HrU HIs
  rintro w12 ⟨hQ, hPt, hG5, hG6, hbb⟩
  have mC := methodConsB
  have mP := methodPenB
  have mD := methodDistB
  have nC := nilAheadC
  have nD := nilAheadD
  have nP := nilAheadP
  go_loopw [19] (fun vi wr => ∃ i : Nat, i ≤ m ∧ vi = .int .i64 i ∧ Blk wr (w.heap.size + 1) 44 #[.int .i64 k', .int .i64 bq.lo.x, .int .i64 bq.lo.y, .int .i64 bq.hi.x, .int .i64 bq.hi.y, .slice A3 r cr] ∧ Blk wr (w.heap.size + 1 + 1) 35 #[.int .i64 px, .int .i64 py] ∧ Blk wr g5 4 (V.map Value.bool).toArray ∧ Blk wr g6 4 (V.map Value.bool).toArray ∧ Below w.heap.size w wr) (fun vi _ => m - (intOf vi).toNat)
  case atStart => exact ⟨0, by omega, rfl, hQ, hPt, hG5, hG6, hbb⟩
  case round =>
    clear hQ hPt hG5 hG6 hbb
    obtain ⟨i, hi, rfl, hQ, hPt, hG5, hG6, hbb⟩ := hrel
    by_cases hlt : i < m
    case neg =>
      obtain rfl : m = i := by omega
      go_wp2_with (go_at_call 13; refine (awake16_true _).mono ?_; rintro e w20 ⟨rfl, hb20⟩)
      go_ret
      exact ⟨rfl, (by repeat (first | with_reducible exact Below.refl _ _ | with_reducible assumption | with_reducible refine al ?_ _ | with_reducible refine Below.drew ?_ | with_reducible refine Below.setCell ?_ (by first | (simp; done) | (simp; omega)) _ | with_reducible refine tr ?_ (by with_reducible assumption)))⟩
    have hi1 : (i : Int) < (m : Int) := by omega
    have hm0 : (0 : Int) < (m : Int) := by omega
    have hm0n : 0 < m := by omega
    obtain ⟨b, off, A', n', c', rfl, hab, hcell, hby, he, hz, hnc⟩ := (HL.out.below (hbb.mono hB)).at_ hlt
    obtain ⟨b', off', A0, n0, c0, eb, _, hcell0, hby0, he0, hz0, hnc0⟩ := (HL.out.below (hbb.mono hB)).at_ (k := 0) (by omega)
    injection eb with eb
    injection eb with e1 e2
    subst e1 e2
    have hmem : L.getD i [] ∈ L := List.mem_of_getElem? he
    have hmem0 : L.getD 0 [] ∈ L := List.mem_of_getElem? he0
    have hbz := hbb.size
    have hBw : B ≤ wr.heap.size := by omega
    have hbw : b < wr.heap.size := by omega
    have hn1 : n' ≤ 1000000 := by rw [← hby.1]; exact Nat.le_trans (HLL.out _ hmem) (by decide)
    have hn2 : n0 ≤ 1000000 := by rw [← hby0.1]; exact Nat.le_trans (HLL.out _ hmem0) (by decide)
    have HCo := Lib.hid (fun W (hW : Below wr.heap.size wr W) => Cons_any (.int .i64 kind) B n' c' r cr k' bq A' A3 (L.getD i []) rg W (hby.tr hW hBw) (H256.out _ hmem) ((HR.out.below (hbb.mono hB)).tr hW hBw) (Nat.le_trans hBw hW.size) hn1 hnc (by omega))
    have HrC := Lib.hid (fun W (hW : Below wr.heap.size wr W) => rCons_any B n' c' r cr k' bq A' A3 (L.getD i []) rg W (hby.tr hW hBw) (H256.out _ hmem) ((HR.out.below (hbb.mono hB)).tr hW hBw) (Nat.le_trans hBw hW.size) hn1 hnc (by omega) hz)
    have HDi := Lib.hid (fun W (hW : Below wr.heap.size wr W) => kDist_any (.int .i64 kind) B n' c' px py A' (L.getD i []) W (hby.tr hW hBw) (H256.out _ hmem) (Nat.le_trans hBw hW.size) hn1 hnc)
    have HrD := Lib.hid (fun W (hW : Below wr.heap.size wr W) => rkDist_any B n' c' px py A' (L.getD i []) W (hby.tr hW hBw) (H256.out _ hmem) (Nat.le_trans hBw hW.size) hn1 hnc hz)
    have HAD := Lib.hid (fun W => adist_same (farS (L.getD i []) ⟨px, py⟩) (farS_ok _ _) W)
    have HPe := Lib.hid (fun W (hW : Below wr.heap.size wr W) => Pen_any (.int .i64 kind) B n0 c0 n' c' A0 A' (L.getD 0 []) (L.getD i []) W (hby0.tr hW hBw) (H256.out _ hmem0) (hby.tr hW hBw) (H256.out _ hmem) (Nat.le_trans hBw hW.size) hn2 hnc0 hn1 hnc)
    have HrP := Lib.hid (fun W (hW : Below wr.heap.size wr W) => rPen_any B n0 c0 n' c' A0 A' (L.getD 0 []) (L.getD i []) W (hby0.tr hW hBw) (H256.out _ hmem0) (hby.tr hW hBw) (H256.out _ hmem) (Nat.le_trans hBw hW.size) hn2 hnc0 hn1 hnc hz0 hz)
    obtain ⟨tb, htb⟩ : ∃ x, consS (L.getD i []) ⟨k', bq, rg⟩ = x := ⟨_, rfl⟩
    obtain ⟨d1, d2, d3, hd⟩ := fcs_ex (farS (L.getD i []) ⟨px, py⟩)
    obtain ⟨pe, hpe⟩ : ∃ x, penS (L.getD 0 []) (L.getD i []) = x := ⟨_, rfl⟩
    rw [htb] at HCo HrC
    rw [fV_fcs, hd] at HDi HrD HAD
    rw [hpe] at HPe HrP
    obtain ⟨sv, hsv⟩ : ∃ x, V[i]? = some x := ⟨_, List.getElem?_eq_getElem (by omega)⟩
    have c5 : wr.cell? ⟨g5, i, none⟩ = some (.bool sv) := by rw [hG5.cell, List.getElem?_toArray, List.getElem?_map, hsv]; rfl
    have c6 : wr.cell? ⟨g6, i, none⟩ = some (.bool sv) := by rw [hG6.cell, List.getElem?_toArray, List.getElem?_map, hsv]; rfl
    have l5 := hG5.lt
    have l6 := hG6.lt
    have cQ := hQ.cell
    have lQ := hQ.lt
    have cPt := hPt.cell
    have lPt := hPt.lt
    simp only [Nat.add_zero] at hcell0
    clear hby hby0 he he0 hmem hmem0 htb hd hpe hsv hz hz0
    go_wp2_with fail
    refine wp_region_below [0, 1, 2, 3, 4, 5, 6, 7, 8, 9, 10, 11, 12, 13, 14, 15, 20, 21, 22, 23, 24, 16, 17, 18, 19, 25, 26, 27, 28, 29, 30, 31, 32, 33, 34, 39, 40, 41, 42, 43, 35, 36, 37, 38, 44, 45, 46, 47, 48, 49, 50, 51, 52, 53, 54, 55, 56, 61, 62, 63, 64, 65, 66, 67, 57, 58, 59, 60, 68, 69, 70] (by kernel_rfl) (by kernel_rfl) (fun _ _ d _ _ h => by cases d <;> exact h) ?_
    simp only [List.map_cons, List.map_nil, List.getD_cons_zero, List.getD_cons_succ, bare, gslot, List.getElem?_cons_zero, List.getElem?_cons_succ, Option.bind_some]
    repeat' ((try simp only [Act.put, List.setIfInBounds_toArray, List.set_cons_zero, List.set_cons_succ]); first | (refine lexL_on ?_ ?_; focus (simp only [List.getElem?_toArray, List.getElem?_cons_succ, List.getElem?_cons_zero, Bool.not_true, Bool.not_false]; done)) | (refine lexL_off ?_ ?_ ?_; (focus (simp only [List.getElem?_toArray, List.getElem?_cons_succ, List.getElem?_cons_zero, Bool.not_true, Bool.not_false]; done)); (focus (exact (by repeat (first | with_reducible exact Below.refl _ _ | with_reducible assumption | with_reducible refine al ?_ _ | with_reducible refine Below.drew ?_ | with_reducible refine Below.setCell ?_ (by first | (simp; done) | (simp; omega)) _ | with_reducible refine tr ?_ (by with_reducible assumption)))))) | (refine lexL_splitS (X := ?_) ?_ ?_ (fun hg => ?_) (fun hg => ?_); rotate_left; (focus (simp only [List.getElem?_toArray, List.getElem?_cons_succ, List.getElem?_cons_zero]; with_reducible rfl)); (focus (exact (by repeat (first | with_reducible exact Below.refl _ _ | with_reducible assumption | with_reducible refine al ?_ _ | with_reducible refine Below.drew ?_ | with_reducible refine Below.setCell ?_ (by first | (simp; done) | (simp; omega)) _ | with_reducible refine tr ?_ (by with_reducible assumption))))); all_goals (try simp only [Bool.not_true, Bool.not_false] at hg)) | (refine lexL_quiet (v := ?_) wantB_none rfl ?_ ?_; rotate_left; focus (intro wq hq; obtain ⟨hcq, hfq⟩ := bcell hq; go_simp; try with_reducible rfl)) | (refine lexL_loud wantB_none rfl (fun K hK => ?_); go_simp; ((first |  (go_at_call 158; (with_reducible refine (HCo.out _ (by repeat (first | with_reducible exact Below.refl _ _ | with_reducible assumption | with_reducible refine al ?_ _ | with_reducible refine Below.drew ?_ | with_reducible refine Below.setCell ?_ (by first | (simp; done) | (simp; omega)) _ | with_reducible refine tr ?_ (by with_reducible assumption)))).mono ?_); rintro e wa ⟨rfl, hba⟩) | (go_at_call 20; (with_reducible refine (HrC.out _ (by repeat (first | with_reducible exact Below.refl _ _ | with_reducible assumption | with_reducible refine al ?_ _ | with_reducible refine Below.drew ?_ | with_reducible refine Below.setCell ?_ (by first | (simp; done) | (simp; omega)) _ | with_reducible refine tr ?_ (by with_reducible assumption)))).mono ?_); rintro e wb ⟨rfl, hbb2⟩) | (go_at_call 159; (with_reducible refine (HDi.out _ (by repeat (first | with_reducible exact Below.refl _ _ | with_reducible assumption | with_reducible refine al ?_ _ | with_reducible refine Below.drew ?_ | with_reducible refine Below.setCell ?_ (by first | (simp; done) | (simp; omega)) _ | with_reducible refine tr ?_ (by with_reducible assumption)))).mono ?_); rintro e wc ⟨rfl, hbc⟩) | (go_at_call 22; (with_reducible refine (HrD.out _ (by repeat (first | with_reducible exact Below.refl _ _ | with_reducible assumption | with_reducible refine al ?_ _ | with_reducible refine Below.drew ?_ | with_reducible refine Below.setCell ?_ (by first | (simp; done) | (simp; omega)) _ | with_reducible refine tr ?_ (by with_reducible assumption)))).mono ?_); rintro e wd ⟨rfl, hbd⟩) | (go_at_call 21; (with_reducible refine (HAD.out _).mono ?_); rintro e we ⟨rfl, hbe⟩) | (go_at_call 161; (with_reducible refine (HPe.out _ (by repeat (first | with_reducible exact Below.refl _ _ | with_reducible assumption | with_reducible refine al ?_ _ | with_reducible refine Below.drew ?_ | with_reducible refine Below.setCell ?_ (by first | (simp; done) | (simp; omega)) _ | with_reducible refine tr ?_ (by with_reducible assumption)))).mono ?_); rintro e wf ⟨rfl, hbf⟩) | (go_at_call 23; (with_reducible refine (HrP.out _ (by repeat (first | with_reducible exact Below.refl _ _ | with_reducible assumption | with_reducible refine al ?_ _ | with_reducible refine Below.drew ?_ | with_reducible refine Below.setCell ?_ (by first | (simp; done) | (simp; omega)) _ | with_reducible refine tr ?_ (by with_reducible assumption)))).mono ?_); rintro e wg ⟨rfl, hbg⟩) | skip) <;> (refine hK.out _ _ (by repeat (first | with_reducible exact Below.refl _ _ | with_reducible assumption | with_reducible refine al ?_ _ | with_reducible refine Below.drew ?_ | with_reducible refine Below.setCell ?_ (by first | (simp; done) | (simp; omega)) _ | with_reducible refine tr ?_ (by with_reducible assumption))) ?_; clear hK K))))
    (all_goals try simp only [Act.put, List.setIfInBounds_toArray, List.set_cons_zero, List.set_cons_succ]); all_goals (refine lexL_nil ?_)
    go_wp2_with fail
    go_roundw
    case rel => exact ⟨i + 1, by omega, by go_num, (by repeat (first | with_reducible assumption | with_reducible exact Blk.new (by simp) rfl | with_reducible refine Blk.alloc ?_ _ | with_reducible refine Blk.drew ?_ | with_reducible refine Blk.far ?_ (by first | (simp; done) | (simp; omega)) _ | with_reducible refine Blk.tr ?_ (by with_reducible assumption))), (by repeat (first | with_reducible assumption | with_reducible exact Blk.new (by simp) rfl | with_reducible refine Blk.alloc ?_ _ | with_reducible refine Blk.drew ?_ | with_reducible refine Blk.far ?_ (by first | (simp; done) | (simp; omega)) _ | with_reducible refine Blk.tr ?_ (by with_reducible assumption))), (by repeat (first | with_reducible assumption | with_reducible exact Blk.new (by simp) rfl | with_reducible refine Blk.alloc ?_ _ | with_reducible refine Blk.drew ?_ | with_reducible refine Blk.far ?_ (by first | (simp; done) | (simp; omega)) _ | with_reducible refine Blk.tr ?_ (by with_reducible assumption))), (by repeat (first | with_reducible assumption | with_reducible exact Blk.new (by simp) rfl | with_reducible refine Blk.alloc ?_ _ | with_reducible refine Blk.drew ?_ | with_reducible refine Blk.far ?_ (by first | (simp; done) | (simp; omega)) _ | with_reducible refine Blk.tr ?_ (by with_reducible assumption))), (by repeat (first | with_reducible exact Below.refl _ _ | with_reducible assumption | with_reducible refine al ?_ _ | with_reducible refine Below.drew ?_ | with_reducible refine Below.setCell ?_ (by first | (simp; done) | (simp; omega)) _ | with_reducible refine tr ?_ (by with_reducible assumption)))⟩
    case measure => simp [intOf]; omega
end Go.Proofs.YtmliljdbpkikpaaGreatDoor
