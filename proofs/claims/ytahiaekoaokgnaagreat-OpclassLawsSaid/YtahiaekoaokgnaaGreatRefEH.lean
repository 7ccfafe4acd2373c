/-
  Contracts of the references: BoxDist, SegDist.
  Contracts of the references: dot, SegDist.
  Contracts of the references of chapter 6: meetsBox, Match.
  Contracts of the references of chapter 6: Dist.
-/
import Derived.Test.YtahiaekoaokgnaaGreatRefSq
import Derived.Test.YtahiaekoaokgnaaGreatUAll
import Derived.Test.YtahiaekoaokgnaaGreatDist4
import Derived.Test.YtahiaekoaokgnaaGreatRef1
import Derived.Test.YtahiaekoaokgnaaGreatRefCD
import Derived.Test.YtahiaekoaokgnaaGreatPlainFr
set_option linter.unusedSimpArgs false
set_option linter.unusedVariables false
namespace Go.Proofs.YtahiaekoaokgnaaGreat
open Go.RowKit Pg

end Go.Proofs.YtahiaekoaokgnaaGreat
set_option linter.unusedSimpArgs false
set_option linter.unusedVariables false
namespace Go.Proofs.YtahiaekoaokgnaaGreat
open Go.RowKit Pg

set_option maxHeartbeats 400000 in
theorem rdot_any (ax ay bx by_ cx cy : Int) (h : (okPt ⟨ax, ay⟩ && okPt ⟨bx, by_⟩ && okPt ⟨cx, cy⟩) = true) (w : World) :
    Calls Tryz.prog 99 #[ptV ax ay, ptV bx by_, ptV cx cy] w (Ret w (.int .i64 (dotR ⟨ax, ay⟩ ⟨bx, by_⟩ ⟨cx, cy⟩))) := by
  have H : Hid (dotR ⟨ax, ay⟩ ⟨bx, by_⟩ ⟨cx, cy⟩ = (bx - ax) * (cx - ax) + (by_ - ay) * (cy - ay)) := rfl
  obtain ⟨⟨a1, a2⟩, ⟨a3, a4⟩, ⟨a5, a6⟩, ⟨a7, a8⟩⟩ := dot_bd h
  have b1 := mul_bd (m := 2147483646) (n := 2147483646) a1 a2 a3 a4
  have b2 := mul_bd (m := 2147483646) (n := 2147483646) a5 a6 a7 a8
  simp only at a1 a2 a3 a4 a5 a6 a7 a8 b1 b2
  obtain ⟨b1, b3⟩ := b1
  obtain ⟨b2, b4⟩ := b2
  go_enter Tryz.func99, Tryz.ntmps99
  go_wp2
  go_ret
  exact ⟨by rw [H.out]; rfl, bel⟩



set_option maxHeartbeats 4000000 in
set_option maxRecDepth 20000 in
theorem rsegDist_eq (ax ay px py : Int) (hok : (okPt ⟨ax, ay⟩ && okPt ⟨ax, ay⟩ && okPt ⟨px, py⟩) = true) (w : World) :
    Calls Tryz.prog 64 #[ptV ax ay, ptV ax ay, ptV px py] w (Ret w (fV (segF ⟨ax, ay⟩ ⟨ax, ay⟩ ⟨px, py⟩))) := by
  have HM := Lib.hid hok
  have h3 := hok
  simp only [Bool.and_eq_true] at h3
  obtain ⟨⟨oa, ob⟩, op⟩ := h3
  have hokd : (okPt ⟨ax, ay⟩ && okPt ⟨ax, ay⟩ && okPt ⟨px, py⟩) = true := by simp [oa, op]
  have HS1 : Hid (∀ w, Calls Tryz.prog 100 #[ptV ax ay, ptV px py] w (Ret w (fV ⟨sqs (ax - px) (ay - py), 1⟩))) := fun w => rsquare_ok ⟨ax, ay⟩ ⟨px, py⟩ oa op w
  have HS2 : Hid (∀ w, Calls Tryz.prog 100 #[ptV ax ay, ptV px py] w (Ret w (fV ⟨sqs (ax - px) (ay - py), 1⟩))) := fun w => rsquare_ok ⟨ax, ay⟩ ⟨px, py⟩ ob op w
  have HS3 : Hid (∀ w, Calls Tryz.prog 100 #[ptV ax ay, ptV ax ay] w (Ret w (fV ⟨sqs (ax - ax) (ay - ay), 1⟩))) := fun w => rsquare_ok ⟨ax, ay⟩ ⟨ax, ay⟩ oa ob w
  have HD1 := Lib.hid (fun w => rdot_any ax ay ax ay px py hok w)
  have HD2 := Lib.hid (fun w => rdot_any ax ay ax ay px py hokd w)
  have HE : segF ⟨ax, ay⟩ ⟨ax, ay⟩ ⟨px, py⟩ = if (⟨ax, ay⟩ : Pt) = ⟨ax, ay⟩ ∨ dotR ⟨ax, ay⟩ ⟨ax, ay⟩ ⟨px, py⟩ ≤ 0 then ⟨sqs (ax - px) (ay - py), 1⟩ else if dotR ⟨ax, ay⟩ ⟨ax, ay⟩ ⟨px, py⟩ ≤ 0 then ⟨sqs (ax - px) (ay - py), 1⟩ else lowF ((crossR ⟨ax, ay⟩ ⟨ax, ay⟩ ⟨px, py⟩).natAbs * (crossR ⟨ax, ay⟩ ⟨ax, ay⟩ ⟨px, py⟩).natAbs) (sqs (ax - ax) (ay - ay)) := by
    unfold segF; rw [hok]; rfl
  have he : (⟨ax, ay⟩ : Pt) = ⟨ax, ay⟩ := rfl
  rw [if_pos (.inl he)] at HE
  rw [fV_fcs] at HS1
  rw [HE, fV_fcs]
  obtain ⟨x, y, z, e⟩ := fcs_ex ⟨sqs (ax - px) (ay - py), 1⟩
  rw [e] at HS1 ⊢
  clear e HE HS2 HS3 HD1 HD2 hokd hok he
  go_enter Tryz.func64, Tryz.ntmps64
  go_wp2_with (first | (go_at_call 24; refine (rpoint_any _ _ _).mono ?_; rintro e w1 ⟨rfl, hb1⟩; obtain ⟨hc1, hf1⟩ := bcell hb1; have hz1 := hb1.size; (try simp at hz1); have hy0 : w.heap.size < w1.heap.size := (by omega); have hy1 : w.heap.size + 1 < w1.heap.size := (by omega); have hy2 : w.heap.size + 1 + 1 < w1.heap.size := (by omega); have hy3 : w.heap.size + 1 + 1 + 1 < w1.heap.size := (by omega)) | (go_at_call 100; (with_reducible refine (HS1.out _).mono ?_); rintro e w1 ⟨rfl, hb1⟩; obtain ⟨hc1, hf1⟩ := bcell hb1; have hz1 := hb1.size; (try simp at hz1); have hy0 : w.heap.size < w1.heap.size := (by omega); have hy1 : w.heap.size + 1 < w1.heap.size := (by omega); have hy2 : w.heap.size + 1 + 1 < w1.heap.size := (by omega); have hy3 : w.heap.size + 1 + 1 + 1 < w1.heap.size := (by omega)))
  refine post_gen2 (R := fun w2 => Blk w2 (w.heap.size + 1 + 1 + 1) 75 #[.int .u64 x, .int .u64 y, .int .u64 z] ∧ Below w.heap.size w w2) ⟨?_, bel⟩ ?_
  · repeat (first | with_reducible exact three_put (x := .int .u64 0) (y := .int .u64 0) (z := .int .u64 0) blkA | (with_reducible refine Blk.new ?_ rfl; focus (simp; done)) | with_reducible refine Blk.alloc ?_ _ | with_reducible refine Blk.drew ?_)
  rintro w2 ⟨HR, hb2⟩
  have r0 := HR.cell 0
  have r1 := HR.cell 1
  have r2 := HR.cell 2
  simp only [List.getElem?_toArray, List.getElem?_cons_zero, List.getElem?_cons_succ] at r0 r1 r2
  exact bodyPost_ret (v := .agg #[.int .u64 x, .int .u64 y, .int .u64 z]) (by simp [results, Tryz.results64, go_sem, r0, r1, r2]) rfl ⟨rfl, hb2⟩

set_option maxHeartbeats 4000000 in
set_option maxRecDepth 20000 in
theorem rsegDist_ne (ax ay bx by_ px py : Int) (hx : ¬ ax = bx) (hok : (okPt ⟨ax, ay⟩ && okPt ⟨bx, by_⟩ && okPt ⟨px, py⟩) = true) (w : World) :
    Calls Tryz.prog 64 #[ptV ax ay, ptV bx by_, ptV px py] w (Ret w (fV (segF ⟨ax, ay⟩ ⟨bx, by_⟩ ⟨px, py⟩))) := by
  have HM := Lib.hid hok
  have h3 := hok
  simp only [Bool.and_eq_true] at h3
  obtain ⟨⟨oa, ob⟩, op⟩ := h3
  have hokd : (okPt ⟨bx, by_⟩ && okPt ⟨ax, ay⟩ && okPt ⟨px, py⟩) = true := by rw [oa, ob, op]; rfl
  have HS1 : Hid (∀ w, Calls Tryz.prog 100 #[ptV ax ay, ptV px py] w (Ret w (fV ⟨sqs (ax - px) (ay - py), 1⟩))) := fun w => rsquare_ok ⟨ax, ay⟩ ⟨px, py⟩ oa op w
  have HS2 : Hid (∀ w, Calls Tryz.prog 100 #[ptV bx by_, ptV px py] w (Ret w (fV ⟨sqs (bx - px) (by_ - py), 1⟩))) := fun w => rsquare_ok ⟨bx, by_⟩ ⟨px, py⟩ ob op w
  have HS3 : Hid (∀ w, Calls Tryz.prog 100 #[ptV ax ay, ptV bx by_] w (Ret w (fV ⟨sqs (ax - bx) (ay - by_), 1⟩))) := fun w => rsquare_ok ⟨ax, ay⟩ ⟨bx, by_⟩ oa ob w
  have HD1 := Lib.hid (fun w => rdot_any ax ay bx by_ px py hok w)
  have HD2 := Lib.hid (fun w => rdot_any bx by_ ax ay px py hokd w)
  have HE : segF ⟨ax, ay⟩ ⟨bx, by_⟩ ⟨px, py⟩ = if (⟨ax, ay⟩ : Pt) = ⟨bx, by_⟩ ∨ dotR ⟨ax, ay⟩ ⟨bx, by_⟩ ⟨px, py⟩ ≤ 0 then ⟨sqs (ax - px) (ay - py), 1⟩ else if dotR ⟨bx, by_⟩ ⟨ax, ay⟩ ⟨px, py⟩ ≤ 0 then ⟨sqs (bx - px) (by_ - py), 1⟩ else lowF ((crossR ⟨ax, ay⟩ ⟨bx, by_⟩ ⟨px, py⟩).natAbs * (crossR ⟨ax, ay⟩ ⟨bx, by_⟩ ⟨px, py⟩).natAbs) (sqs (ax - bx) (ay - by_)) := by
    unfold segF; rw [hok]; rfl
  have he : ¬ (⟨ax, ay⟩ : Pt) = ⟨bx, by_⟩ := fun e => hx (congrArg Pt.x e)
  obtain ⟨d1, ed1⟩ : ∃ d, dotR ⟨ax, ay⟩ ⟨bx, by_⟩ ⟨px, py⟩ = d := ⟨_, rfl⟩
  obtain ⟨d2, ed2⟩ : ∃ d, dotR ⟨bx, by_⟩ ⟨ax, ay⟩ ⟨px, py⟩ = d := ⟨_, rfl⟩
  rw [ed1] at HD1 HE
  rw [ed2] at HD2 HE
  by_cases hd1 : d1 ≤ 0
  · rw [if_pos (.inr hd1)] at HE
    rw [fV_fcs] at HS1
    rw [HE, fV_fcs]
    obtain ⟨x, y, z, e⟩ := fcs_ex ⟨sqs (ax - px) (ay - py), 1⟩
    rw [e] at HS1 ⊢
    clear e HE HS2 HS3 HD2 hokd hok he ed1 ed2
    go_enter Tryz.func64, Tryz.ntmps64
    go_wp2_with (first | (go_at_call 24; refine (rpoint_any _ _ _).mono ?_; rintro e w1 ⟨rfl, hb1⟩; obtain ⟨hc1, hf1⟩ := bcell hb1; have hz1 := hb1.size; (try simp at hz1); have hy0 : w.heap.size < w1.heap.size := (by omega); have hy1 : w.heap.size + 1 < w1.heap.size := (by omega); have hy2 : w.heap.size + 1 + 1 < w1.heap.size := (by omega); have hy3 : w.heap.size + 1 + 1 + 1 < w1.heap.size := (by omega)) | (go_at_call 99; (with_reducible refine (HD1.out _).mono ?_); rintro e w1 ⟨rfl, hb1⟩; obtain ⟨hc1, hf1⟩ := bcell hb1; have hz1 := hb1.size; (try simp at hz1); have hy0 : w.heap.size < w1.heap.size := (by omega); have hy1 : w.heap.size + 1 < w1.heap.size := (by omega); have hy2 : w.heap.size + 1 + 1 < w1.heap.size := (by omega); have hy3 : w.heap.size + 1 + 1 + 1 < w1.heap.size := (by omega)) | (go_at_call 100; (with_reducible refine (HS1.out _).mono ?_); rintro e w1 ⟨rfl, hb1⟩; obtain ⟨hc1, hf1⟩ := bcell hb1; have hz1 := hb1.size; (try simp at hz1); have hy0 : w.heap.size < w1.heap.size := (by omega); have hy1 : w.heap.size + 1 < w1.heap.size := (by omega); have hy2 : w.heap.size + 1 + 1 < w1.heap.size := (by omega); have hy3 : w.heap.size + 1 + 1 + 1 < w1.heap.size := (by omega)))
    refine post_gen2 (R := fun w2 => Blk w2 (w.heap.size + 1 + 1 + 1) 75 #[.int .u64 x, .int .u64 y, .int .u64 z] ∧ Below w.heap.size w w2) ⟨?_, bel⟩ ?_
    · repeat (first | with_reducible exact three_put (x := .int .u64 0) (y := .int .u64 0) (z := .int .u64 0) blkA | (with_reducible refine Blk.new ?_ rfl; focus (simp; done)) | with_reducible refine Blk.alloc ?_ _ | with_reducible refine Blk.drew ?_)
    rintro w2 ⟨HR, hb2⟩
    have r0 := HR.cell 0
    have r1 := HR.cell 1
    have r2 := HR.cell 2
    simp only [List.getElem?_toArray, List.getElem?_cons_zero, List.getElem?_cons_succ] at r0 r1 r2
    exact bodyPost_ret (v := .agg #[.int .u64 x, .int .u64 y, .int .u64 z]) (by simp [results, Tryz.results64, go_sem, r0, r1, r2]) rfl ⟨rfl, hb2⟩
  by_cases hd2 : d2 ≤ 0
  · rw [if_neg (fun h => h.elim he hd1), if_pos hd2] at HE
    rw [fV_fcs] at HS2
    rw [HE, fV_fcs]
    obtain ⟨x, y, z, e⟩ := fcs_ex ⟨sqs (bx - px) (by_ - py), 1⟩
    rw [e] at HS2 ⊢
    clear e HE HS1 HS3 hokd hok he ed1 ed2
    go_enter Tryz.func64, Tryz.ntmps64
    go_wp2_with (first | (go_at_call 24; refine (rpoint_any _ _ _).mono ?_; rintro e w1 ⟨rfl, hb1⟩; obtain ⟨hc1, hf1⟩ := bcell hb1; have hz1 := hb1.size; (try simp at hz1); have hy0 : w.heap.size < w1.heap.size := (by omega); have hy1 : w.heap.size + 1 < w1.heap.size := (by omega); have hy2 : w.heap.size + 1 + 1 < w1.heap.size := (by omega); have hy3 : w.heap.size + 1 + 1 + 1 < w1.heap.size := (by omega)) | (go_at_call 99; (with_reducible refine (HD1.out _).mono ?_); rintro e w1 ⟨rfl, hb1⟩; obtain ⟨hc1, hf1⟩ := bcell hb1; have hz1 := hb1.size; (try simp at hz1); have hy0 : w.heap.size < w1.heap.size := (by omega); have hy1 : w.heap.size + 1 < w1.heap.size := (by omega); have hy2 : w.heap.size + 1 + 1 < w1.heap.size := (by omega); have hy3 : w.heap.size + 1 + 1 + 1 < w1.heap.size := (by omega)) | (go_at_call 99; (with_reducible refine (HD2.out _).mono ?_); rintro e w1 ⟨rfl, hb1⟩; obtain ⟨hc1, hf1⟩ := bcell hb1; have hz1 := hb1.size; (try simp at hz1); have hy0 : w.heap.size < w1.heap.size := (by omega); have hy1 : w.heap.size + 1 < w1.heap.size := (by omega); have hy2 : w.heap.size + 1 + 1 < w1.heap.size := (by omega); have hy3 : w.heap.size + 1 + 1 + 1 < w1.heap.size := (by omega)) | (go_at_call 100; (with_reducible refine (HS2.out _).mono ?_); rintro e w1 ⟨rfl, hb1⟩; obtain ⟨hc1, hf1⟩ := bcell hb1; have hz1 := hb1.size; (try simp at hz1); have hy0 : w.heap.size < w1.heap.size := (by omega); have hy1 : w.heap.size + 1 < w1.heap.size := (by omega); have hy2 : w.heap.size + 1 + 1 < w1.heap.size := (by omega); have hy3 : w.heap.size + 1 + 1 + 1 < w1.heap.size := (by omega)))
    refine post_gen2 (R := fun w2 => Blk w2 (w.heap.size + 1 + 1 + 1) 75 #[.int .u64 x, .int .u64 y, .int .u64 z] ∧ Below w.heap.size w w2) ⟨?_, bel⟩ ?_
    · repeat (first | with_reducible exact three_put (x := .int .u64 0) (y := .int .u64 0) (z := .int .u64 0) blkA | (with_reducible refine Blk.new ?_ rfl; focus (simp; done)) | with_reducible refine Blk.alloc ?_ _ | with_reducible refine Blk.drew ?_)
    rintro w2 ⟨HR, hb2⟩
    have r0 := HR.cell 0
    have r1 := HR.cell 1
    have r2 := HR.cell 2
    simp only [List.getElem?_toArray, List.getElem?_cons_zero, List.getElem?_cons_succ] at r0 r1 r2
    exact bodyPost_ret (v := .agg #[.int .u64 x, .int .u64 y, .int .u64 z]) (by simp [results, Tryz.results64, go_sem, r0, r1, r2]) rfl ⟨rfl, hb2⟩
  rw [if_neg (fun h => h.elim he hd1), if_neg hd2] at HE
  have hCb := crossR_bd hok
  have HC : Hid (∀ w, Calls Tryz.prog 98 #[ptV ax ay, ptV bx by_, ptV px py] w (Ret w (.int .i64 (crossR ⟨ax, ay⟩ ⟨bx, by_⟩ ⟨px, py⟩)))) := fun w => by
    have h := rcross_any ax ay bx by_ px py w
    unfold cross at h
    rw [if_pos hok] at h
    exact h
  have hDpos : 0 < sqs (ax - bx) (ay - by_) := sqs_pos (a := ⟨ax, ay⟩) (b := ⟨bx, by_⟩) he
  have hDlt : sqs (ax - bx) (ay - by_) < 18446744073709551616 := by
    obtain ⟨p1, p2, p3, p4⟩ := okPt_range oa
    obtain ⟨q1, q2, q3, q4⟩ := okPt_range ob
    simp only at p1 p2 p3 p4 q1 q2 q3 q4
    exact sqs_lt (by omega) (by omega) (by omega) (by omega)
  have HSm0 : Hid (∀ w, Calls Tryz.prog 96 #[.int .i64 (ax - bx), .int .i64 (ay - by_)] w (Ret w (uV (sqs (ax - bx) (ay - by_))))) := fun w => by
    obtain ⟨p1, p2, p3, p4⟩ := okPt_range oa
    obtain ⟨q1, q2, q3, q4⟩ := okPt_range ob
    simp only at p1 p2 p3 p4 q1 q2 q3 q4
    exact rsum_any _ _ (by omega) (by omega) (by omega) (by omega) w
  have ex1 : IntKind.i64.wrap (ax - bx) = ax - bx := by
    obtain ⟨p1, p2, p3, p4⟩ := okPt_range oa
    obtain ⟨q1, q2, q3, q4⟩ := okPt_range ob
    simp only at p1 p2 p3 p4 q1 q2 q3 q4
    rw [IntKind.wrap_i64]; omega
  have ex2 : IntKind.i64.wrap (ay - by_) = ay - by_ := by
    obtain ⟨p1, p2, p3, p4⟩ := okPt_range oa
    obtain ⟨q1, q2, q3, q4⟩ := okPt_range ob
    simp only at p1 p2 p3 p4 q1 q2 q3 q4
    rw [IntKind.wrap_i64]; omega
  have HQ0 := Lib.hid (fun w => rSquareU_any (crossR ⟨ax, ay⟩ ⟨bx, by_⟩ ⟨px, py⟩) (by omega) hCb.2 w)
  have hN := natAbs_sq_lt hCb.1 hCb.2
  obtain ⟨C, eC⟩ : ∃ c, crossR ⟨ax, ay⟩ ⟨bx, by_⟩ ⟨px, py⟩ = c := ⟨_, rfl⟩
  rw [eC] at HC HQ0 hN HE
  obtain ⟨N, eN⟩ : ∃ c, C.natAbs * C.natAbs = c := ⟨_, rfl⟩
  rw [eN] at HQ0 hN HE
  obtain ⟨D, eD⟩ : ∃ c, sqs (ax - bx) (ay - by_) = c := ⟨_, rfl⟩
  rw [eD] at HSm0 HE hDpos hDlt
  have HMk0 := Lib.hid (fun w => rlowest_any N D hN hDpos hDlt w)
  have hD1 : D / 18446744073709551616 = 0 := Nat.div_eq_of_lt hDlt
  have hD2 : D % 18446744073709551616 = D := Nat.mod_eq_of_lt hDlt
  have HSm : Hid (∀ w, Calls Tryz.prog 96 #[.int .i64 (ax - bx), .int .i64 (ay - by_)] w (Ret w (.agg #[.int .u64 0, .int .u64 D]))) := fun w => by
    have h := HSm0.out w
    simp only [uV, hD1, hD2] at h
    exact h
  rw [HE, fV_fcs]
  rw [fV_fcs] at HMk0
  obtain ⟨x, y, z, e⟩ := fcs_ex (lowF N D)
  rw [e] at HMk0 ⊢
  simp only [uV] at HQ0 HMk0
  obtain ⟨n1, en1⟩ : ∃ c, N / 18446744073709551616 = c := ⟨_, rfl⟩
  obtain ⟨n0, en0⟩ : ∃ c, N % 18446744073709551616 = c := ⟨_, rfl⟩
  rw [en1, en0] at HQ0 HMk0
  clear e HE HS1 HS2 HS3 HSm0 hokd hok he ed1 ed2 hCb hDpos hDlt hN eC eN eD hD1 hD2 en1 en0
  go_enter Tryz.func64, Tryz.ntmps64
  go_wp2_with (first | (go_at_call 24; refine (rpoint_any _ _ _).mono ?_; rintro e w1 ⟨rfl, hb1⟩; obtain ⟨hc1, hf1⟩ := bcell hb1; have hz1 := hb1.size; (try simp at hz1); have hy0 : w.heap.size < w1.heap.size := (by omega); have hy1 : w.heap.size + 1 < w1.heap.size := (by omega); have hy2 : w.heap.size + 1 + 1 < w1.heap.size := (by omega); have hy3 : w.heap.size + 1 + 1 + 1 < w1.heap.size := (by omega)) | (go_at_call 99; (with_reducible refine (HD1.out _).mono ?_); rintro e w1 ⟨rfl, hb1⟩; obtain ⟨hc1, hf1⟩ := bcell hb1; have hz1 := hb1.size; (try simp at hz1); have hy0 : w.heap.size < w1.heap.size := (by omega); have hy1 : w.heap.size + 1 < w1.heap.size := (by omega); have hy2 : w.heap.size + 1 + 1 < w1.heap.size := (by omega); have hy3 : w.heap.size + 1 + 1 + 1 < w1.heap.size := (by omega)) | (go_at_call 99; (with_reducible refine (HD2.out _).mono ?_); rintro e w1 ⟨rfl, hb1⟩; obtain ⟨hc1, hf1⟩ := bcell hb1; have hz1 := hb1.size; (try simp at hz1); have hy0 : w.heap.size < w1.heap.size := (by omega); have hy1 : w.heap.size + 1 < w1.heap.size := (by omega); have hy2 : w.heap.size + 1 + 1 < w1.heap.size := (by omega); have hy3 : w.heap.size + 1 + 1 + 1 < w1.heap.size := (by omega)))
  refine wp_gen2 (fun w2 => Below w.heap.size w w2 ∧ Blk w2 w.heap.size 52 #[.int .i64 ax, .int .i64 ay] ∧ Blk w2 (w.heap.size + 1) 52 #[.int .i64 bx, .int .i64 by_] ∧ Blk w2 (w.heap.size + 1 + 1) 52 #[.int .i64 px, .int .i64 py] ∧ Blk w2 (w.heap.size + 1 + 1 + 1) 75 #[.int .u64 0, .int .u64 0, .int .u64 0]) ⟨bel, blkA, blkA, blkA, blkA⟩ ?_
  clear hb1 hc1 hf1 HD1 HD2
  rintro w0 ⟨hb0, hA, hBB, hPP, hR⟩
  have hz0 := hb0.size
  have cA := hA.cell
  have cB := hBB.cell
  have cP := hPP.cell
  have lR := hR.lt
  have lA := hA.lt
  have lB := hBB.lt
  have lP := hPP.lt
  have cR := hR.cell
  have fR := hR.frozen
  have HFl : ∀ w, (Instr.field 99 (.agg #[.int .u64 0, .int .u64 D]) 1).run Tryz.prog w = .ok (.int .u64 D) w := fun w => by simp [Instr.field, asAgg, go_sem]
  refine wp_region_belowB (w.heap.size + 1 + 1 + 1) [0, 1, 2, 5, 6, 7, 8, 9, 10, 11, 12, 13, 14, 3, 4, 15, 16, 17, 18] (by kernel_rfl) (by kernel_rfl) (fun _ _ d _ _ h => by cases d <;> exact h) ?_
  simp only [List.map_cons, List.map_nil, List.getD_cons_zero, List.getD_cons_succ, bare, gslot, List.getElem?_cons_zero, List.getElem?_cons_succ, Option.bind_some]
  repeat' ((try simp only [Act.put, List.setIfInBounds_toArray, List.set_cons_zero, List.set_cons_succ]); first | (refine lexL_quiet (v := ?_) wantB_none rfl ?_ ?_; rotate_left; focus (intro wq hq; obtain ⟨hcq, hfq⟩ := bcellB hq; go_simp; try with_reducible rfl)) | (refine lexL_loud wantB_none rfl (fun K hK => ?_); go_simp; ((first | (go_at_call 98; (with_reducible refine (HC.out _).mono ?_); rintro e w5 ⟨rfl, hb5⟩; obtain ⟨hc5, hf5⟩ := bcell hb5; have hz5 := hb5.size; (try simp at hz5); have hbB : Below (w.heap.size + 1 + 1 + 1) w0 w5 := (Below.trans (by repeat (first | with_reducible exact Below.refl _ _ | with_reducible assumption | with_reducible refine Below.drew ?_)) (hb5.mono (by (try simp); omega))); have lR5 : w.heap.size + 1 + 1 + 1 < w5.heap.size := (by omega); have hR5 : Blk w5 (w.heap.size + 1 + 1 + 1) 75 #[.int .u64 0, .int .u64 0, .int .u64 0] := blkA; have hbz : Below w.heap.size w w5 := (Below.trans hb0 (hbB.mono (by omega))); have c5 := hR5.cell; have f5 := hR5.frozen) | (go_at_call 101; (with_reducible refine (HQ0.out _).mono ?_); rintro e w5 ⟨rfl, hb5⟩; obtain ⟨hc5, hf5⟩ := bcell hb5; have hz5 := hb5.size; (try simp at hz5); have hbB : Below (w.heap.size + 1 + 1 + 1) w0 w5 := (Below.trans (by repeat (first | with_reducible exact Below.refl _ _ | with_reducible assumption | with_reducible refine Below.drew ?_)) (hb5.mono (by (try simp); omega))); have lR5 : w.heap.size + 1 + 1 + 1 < w5.heap.size := (by omega); have hR5 : Blk w5 (w.heap.size + 1 + 1 + 1) 75 #[.int .u64 0, .int .u64 0, .int .u64 0] := blkA; have hbz : Below w.heap.size w w5 := (Below.trans hb0 (hbB.mono (by omega))); have c5 := hR5.cell; have f5 := hR5.frozen) | (go_at_call 96; (with_reducible refine (HSm.out _).mono ?_); rintro e w5 ⟨rfl, hb5⟩; obtain ⟨hc5, hf5⟩ := bcell hb5; have hz5 := hb5.size; (try simp at hz5); have hbB : Below (w.heap.size + 1 + 1 + 1) w0 w5 := (Below.trans (by repeat (first | with_reducible exact Below.refl _ _ | with_reducible assumption | with_reducible refine Below.drew ?_)) (hb5.mono (by (try simp); omega))); have lR5 : w.heap.size + 1 + 1 + 1 < w5.heap.size := (by omega); have hR5 : Blk w5 (w.heap.size + 1 + 1 + 1) 75 #[.int .u64 0, .int .u64 0, .int .u64 0] := blkA; have hbz : Below w.heap.size w w5 := (Below.trans hb0 (hbB.mono (by omega))); have c5 := hR5.cell; have f5 := hR5.frozen) | (go_at_call 95; (with_reducible refine (HMk0.out _).mono ?_); rintro e w5 ⟨rfl, hb5⟩; obtain ⟨hc5, hf5⟩ := bcell hb5; have hz5 := hb5.size; (try simp at hz5); have hbB : Below (w.heap.size + 1 + 1 + 1) w0 w5 := (Below.trans (by repeat (first | with_reducible exact Below.refl _ _ | with_reducible assumption | with_reducible refine Below.drew ?_)) (hb5.mono (by (try simp); omega))); have lR5 : w.heap.size + 1 + 1 + 1 < w5.heap.size := (by omega); have hR5 : Blk w5 (w.heap.size + 1 + 1 + 1) 75 #[.int .u64 0, .int .u64 0, .int .u64 0] := blkA; have hbz : Below w.heap.size w w5 := (Below.trans hb0 (hbB.mono (by omega))); have c5 := hR5.cell; have f5 := hR5.frozen) | skip) <;> (refine hK.out _ _ (by first | with_reducible exact swapB1 | with_reducible exact Below.drew swapB1 | exact bel) ?_; clear hK K))) | (refine lexL_on ?_ ?_; focus (simp only [List.getElem?_toArray, List.getElem?_cons_succ, List.getElem?_cons_zero, Bool.not_true, Bool.not_false]; done)) | (refine lexL_off ?_ ?_ ?_; (focus (simp only [List.getElem?_toArray, List.getElem?_cons_succ, List.getElem?_cons_zero, Bool.not_true, Bool.not_false]; done)); (focus (exact (by first | with_reducible exact swapB1 | with_reducible exact Below.drew swapB1 | exact bel)))) | (refine lexL_splitS (X := ?_) ?_ ?_ (fun hg => ?_) (fun hg => ?_); rotate_left; (focus (simp only [List.getElem?_toArray, List.getElem?_cons_succ, List.getElem?_cons_zero]; with_reducible rfl)); (focus (exact (by first | with_reducible exact swapB1 | with_reducible exact Below.drew swapB1 | exact bel))); all_goals (try simp only [Bool.not_true, Bool.not_false] at hg)))
  (all_goals try simp only [Act.put, List.setIfInBounds_toArray, List.set_cons_zero, List.set_cons_succ]); all_goals (refine lexL_nil ?_)
  go_wp2_with fail
  refine post_gen2 (R := fun w2 => Blk w2 (w.heap.size + 1 + 1 + 1) 75 #[.int .u64 x, .int .u64 y, .int .u64 z] ∧ Below w.heap.size w w2) ⟨?_, bel⟩ ?_
  · repeat (first | with_reducible exact three_put (x := .int .u64 0) (y := .int .u64 0) (z := .int .u64 0) blkA | (with_reducible refine Blk.new ?_ rfl; focus (simp; done)) | with_reducible refine Blk.alloc ?_ _ | with_reducible refine Blk.drew ?_)
  rintro w2 ⟨HR, hb2⟩
  have r0 := HR.cell 0
  have r1 := HR.cell 1
  have r2 := HR.cell 2
  simp only [List.getElem?_toArray, List.getElem?_cons_zero, List.getElem?_cons_succ] at r0 r1 r2
  exact bodyPost_ret (v := .agg #[.int .u64 x, .int .u64 y, .int .u64 z]) (by simp [results, Tryz.results64, go_sem, r0, r1, r2]) rfl ⟨rfl, hb2⟩

set_option maxHeartbeats 4000000 in
set_option maxRecDepth 20000 in
theorem rsegDist_ne2 (ax ay by_ px py : Int) (hx : ¬ ay = by_) (hok : (okPt ⟨ax, ay⟩ && okPt ⟨ax, by_⟩ && okPt ⟨px, py⟩) = true) (w : World) :
    Calls Tryz.prog 64 #[ptV ax ay, ptV ax by_, ptV px py] w (Ret w (fV (segF ⟨ax, ay⟩ ⟨ax, by_⟩ ⟨px, py⟩))) := by
  have HM := Lib.hid hok
  have h3 := hok
  simp only [Bool.and_eq_true] at h3
  obtain ⟨⟨oa, ob⟩, op⟩ := h3
  have hokd : (okPt ⟨ax, by_⟩ && okPt ⟨ax, ay⟩ && okPt ⟨px, py⟩) = true := by rw [oa, ob, op]; rfl
  have HS1 : Hid (∀ w, Calls Tryz.prog 100 #[ptV ax ay, ptV px py] w (Ret w (fV ⟨sqs (ax - px) (ay - py), 1⟩))) := fun w => rsquare_ok ⟨ax, ay⟩ ⟨px, py⟩ oa op w
  have HS2 : Hid (∀ w, Calls Tryz.prog 100 #[ptV ax by_, ptV px py] w (Ret w (fV ⟨sqs (ax - px) (by_ - py), 1⟩))) := fun w => rsquare_ok ⟨ax, by_⟩ ⟨px, py⟩ ob op w
  have HS3 : Hid (∀ w, Calls Tryz.prog 100 #[ptV ax ay, ptV ax by_] w (Ret w (fV ⟨sqs (ax - ax) (ay - by_), 1⟩))) := fun w => rsquare_ok ⟨ax, ay⟩ ⟨ax, by_⟩ oa ob w
  have HD1 := Lib.hid (fun w => rdot_any ax ay ax by_ px py hok w)
  have HD2 := Lib.hid (fun w => rdot_any ax by_ ax ay px py hokd w)
  have HE : segF ⟨ax, ay⟩ ⟨ax, by_⟩ ⟨px, py⟩ = if (⟨ax, ay⟩ : Pt) = ⟨ax, by_⟩ ∨ dotR ⟨ax, ay⟩ ⟨ax, by_⟩ ⟨px, py⟩ ≤ 0 then ⟨sqs (ax - px) (ay - py), 1⟩ else if dotR ⟨ax, by_⟩ ⟨ax, ay⟩ ⟨px, py⟩ ≤ 0 then ⟨sqs (ax - px) (by_ - py), 1⟩ else lowF ((crossR ⟨ax, ay⟩ ⟨ax, by_⟩ ⟨px, py⟩).natAbs * (crossR ⟨ax, ay⟩ ⟨ax, by_⟩ ⟨px, py⟩).natAbs) (sqs (ax - ax) (ay - by_)) := by
    unfold segF; rw [hok]; rfl
  have he : ¬ (⟨ax, ay⟩ : Pt) = ⟨ax, by_⟩ := fun e => hx (congrArg Pt.y e)
  obtain ⟨d1, ed1⟩ : ∃ d, dotR ⟨ax, ay⟩ ⟨ax, by_⟩ ⟨px, py⟩ = d := ⟨_, rfl⟩
  obtain ⟨d2, ed2⟩ : ∃ d, dotR ⟨ax, by_⟩ ⟨ax, ay⟩ ⟨px, py⟩ = d := ⟨_, rfl⟩
  rw [ed1] at HD1 HE
  rw [ed2] at HD2 HE
  by_cases hd1 : d1 ≤ 0
  · rw [if_pos (.inr hd1)] at HE
    rw [fV_fcs] at HS1
    rw [HE, fV_fcs]
    obtain ⟨x, y, z, e⟩ := fcs_ex ⟨sqs (ax - px) (ay - py), 1⟩
    rw [e] at HS1 ⊢
    clear e HE HS2 HS3 HD2 hokd hok he ed1 ed2
    go_enter Tryz.func64, Tryz.ntmps64
    go_wp2_with (first | (go_at_call 24; refine (rpoint_any _ _ _).mono ?_; rintro e w1 ⟨rfl, hb1⟩; obtain ⟨hc1, hf1⟩ := bcell hb1; have hz1 := hb1.size; (try simp at hz1); have hy0 : w.heap.size < w1.heap.size := (by omega); have hy1 : w.heap.size + 1 < w1.heap.size := (by omega); have hy2 : w.heap.size + 1 + 1 < w1.heap.size := (by omega); have hy3 : w.heap.size + 1 + 1 + 1 < w1.heap.size := (by omega)) | (go_at_call 99; (with_reducible refine (HD1.out _).mono ?_); rintro e w1 ⟨rfl, hb1⟩; obtain ⟨hc1, hf1⟩ := bcell hb1; have hz1 := hb1.size; (try simp at hz1); have hy0 : w.heap.size < w1.heap.size := (by omega); have hy1 : w.heap.size + 1 < w1.heap.size := (by omega); have hy2 : w.heap.size + 1 + 1 < w1.heap.size := (by omega); have hy3 : w.heap.size + 1 + 1 + 1 < w1.heap.size := (by omega)) | (go_at_call 100; (with_reducible refine (HS1.out _).mono ?_); rintro e w1 ⟨rfl, hb1⟩; obtain ⟨hc1, hf1⟩ := bcell hb1; have hz1 := hb1.size; (try simp at hz1); have hy0 : w.heap.size < w1.heap.size := (by omega); have hy1 : w.heap.size + 1 < w1.heap.size := (by omega); have hy2 : w.heap.size + 1 + 1 < w1.heap.size := (by omega); have hy3 : w.heap.size + 1 + 1 + 1 < w1.heap.size := (by omega)))
    refine post_gen2 (R := fun w2 => Blk w2 (w.heap.size + 1 + 1 + 1) 75 #[.int .u64 x, .int .u64 y, .int .u64 z] ∧ Below w.heap.size w w2) ⟨?_, bel⟩ ?_
    · repeat (first | with_reducible exact three_put (x := .int .u64 0) (y := .int .u64 0) (z := .int .u64 0) blkA | (with_reducible refine Blk.new ?_ rfl; focus (simp; done)) | with_reducible refine Blk.alloc ?_ _ | with_reducible refine Blk.drew ?_)
    rintro w2 ⟨HR, hb2⟩
    have r0 := HR.cell 0
    have r1 := HR.cell 1
    have r2 := HR.cell 2
    simp only [List.getElem?_toArray, List.getElem?_cons_zero, List.getElem?_cons_succ] at r0 r1 r2
    exact bodyPost_ret (v := .agg #[.int .u64 x, .int .u64 y, .int .u64 z]) (by simp [results, Tryz.results64, go_sem, r0, r1, r2]) rfl ⟨rfl, hb2⟩
  by_cases hd2 : d2 ≤ 0
  · rw [if_neg (fun h => h.elim he hd1), if_pos hd2] at HE
    rw [fV_fcs] at HS2
    rw [HE, fV_fcs]
    obtain ⟨x, y, z, e⟩ := fcs_ex ⟨sqs (ax - px) (by_ - py), 1⟩
    rw [e] at HS2 ⊢
    clear e HE HS1 HS3 hokd hok he ed1 ed2
    go_enter Tryz.func64, Tryz.ntmps64
    go_wp2_with (first | (go_at_call 24; refine (rpoint_any _ _ _).mono ?_; rintro e w1 ⟨rfl, hb1⟩; obtain ⟨hc1, hf1⟩ := bcell hb1; have hz1 := hb1.size; (try simp at hz1); have hy0 : w.heap.size < w1.heap.size := (by omega); have hy1 : w.heap.size + 1 < w1.heap.size := (by omega); have hy2 : w.heap.size + 1 + 1 < w1.heap.size := (by omega); have hy3 : w.heap.size + 1 + 1 + 1 < w1.heap.size := (by omega)) | (go_at_call 99; (with_reducible refine (HD1.out _).mono ?_); rintro e w1 ⟨rfl, hb1⟩; obtain ⟨hc1, hf1⟩ := bcell hb1; have hz1 := hb1.size; (try simp at hz1); have hy0 : w.heap.size < w1.heap.size := (by omega); have hy1 : w.heap.size + 1 < w1.heap.size := (by omega); have hy2 : w.heap.size + 1 + 1 < w1.heap.size := (by omega); have hy3 : w.heap.size + 1 + 1 + 1 < w1.heap.size := (by omega)) | (go_at_call 99; (with_reducible refine (HD2.out _).mono ?_); rintro e w1 ⟨rfl, hb1⟩; obtain ⟨hc1, hf1⟩ := bcell hb1; have hz1 := hb1.size; (try simp at hz1); have hy0 : w.heap.size < w1.heap.size := (by omega); have hy1 : w.heap.size + 1 < w1.heap.size := (by omega); have hy2 : w.heap.size + 1 + 1 < w1.heap.size := (by omega); have hy3 : w.heap.size + 1 + 1 + 1 < w1.heap.size := (by omega)) | (go_at_call 100; (with_reducible refine (HS2.out _).mono ?_); rintro e w1 ⟨rfl, hb1⟩; obtain ⟨hc1, hf1⟩ := bcell hb1; have hz1 := hb1.size; (try simp at hz1); have hy0 : w.heap.size < w1.heap.size := (by omega); have hy1 : w.heap.size + 1 < w1.heap.size := (by omega); have hy2 : w.heap.size + 1 + 1 < w1.heap.size := (by omega); have hy3 : w.heap.size + 1 + 1 + 1 < w1.heap.size := (by omega)))
    refine post_gen2 (R := fun w2 => Blk w2 (w.heap.size + 1 + 1 + 1) 75 #[.int .u64 x, .int .u64 y, .int .u64 z] ∧ Below w.heap.size w w2) ⟨?_, bel⟩ ?_
    · repeat (first | with_reducible exact three_put (x := .int .u64 0) (y := .int .u64 0) (z := .int .u64 0) blkA | (with_reducible refine Blk.new ?_ rfl; focus (simp; done)) | with_reducible refine Blk.alloc ?_ _ | with_reducible refine Blk.drew ?_)
    rintro w2 ⟨HR, hb2⟩
    have r0 := HR.cell 0
    have r1 := HR.cell 1
    have r2 := HR.cell 2
    simp only [List.getElem?_toArray, List.getElem?_cons_zero, List.getElem?_cons_succ] at r0 r1 r2
    exact bodyPost_ret (v := .agg #[.int .u64 x, .int .u64 y, .int .u64 z]) (by simp [results, Tryz.results64, go_sem, r0, r1, r2]) rfl ⟨rfl, hb2⟩
  rw [if_neg (fun h => h.elim he hd1), if_neg hd2] at HE
  have hCb := crossR_bd hok
  have HC : Hid (∀ w, Calls Tryz.prog 98 #[ptV ax ay, ptV ax by_, ptV px py] w (Ret w (.int .i64 (crossR ⟨ax, ay⟩ ⟨ax, by_⟩ ⟨px, py⟩)))) := fun w => by
    have h := rcross_any ax ay ax by_ px py w
    unfold cross at h
    rw [if_pos hok] at h
    exact h
  have hDpos : 0 < sqs (ax - ax) (ay - by_) := sqs_pos (a := ⟨ax, ay⟩) (b := ⟨ax, by_⟩) he
  have hDlt : sqs (ax - ax) (ay - by_) < 18446744073709551616 := by
    obtain ⟨p1, p2, p3, p4⟩ := okPt_range oa
    obtain ⟨q1, q2, q3, q4⟩ := okPt_range ob
    simp only at p1 p2 p3 p4 q1 q2 q3 q4
    exact sqs_lt (by omega) (by omega) (by omega) (by omega)
  have HSm0 : Hid (∀ w, Calls Tryz.prog 96 #[.int .i64 (ax - ax), .int .i64 (ay - by_)] w (Ret w (uV (sqs (ax - ax) (ay - by_))))) := fun w => by
    obtain ⟨p1, p2, p3, p4⟩ := okPt_range oa
    obtain ⟨q1, q2, q3, q4⟩ := okPt_range ob
    simp only at p1 p2 p3 p4 q1 q2 q3 q4
    exact rsum_any _ _ (by omega) (by omega) (by omega) (by omega) w
  have ex1 : IntKind.i64.wrap 0 = 0 := by rw [IntKind.wrap_i64]; rfl
  have ex2 : IntKind.i64.wrap (ay - by_) = ay - by_ := by
    obtain ⟨p1, p2, p3, p4⟩ := okPt_range oa
    obtain ⟨q1, q2, q3, q4⟩ := okPt_range ob
    simp only at p1 p2 p3 p4 q1 q2 q3 q4
    rw [IntKind.wrap_i64]; omega
  have HQ0 := Lib.hid (fun w => rSquareU_any (crossR ⟨ax, ay⟩ ⟨ax, by_⟩ ⟨px, py⟩) (by omega) hCb.2 w)
  have hN := natAbs_sq_lt hCb.1 hCb.2
  obtain ⟨C, eC⟩ : ∃ c, crossR ⟨ax, ay⟩ ⟨ax, by_⟩ ⟨px, py⟩ = c := ⟨_, rfl⟩
  rw [eC] at HC HQ0 hN HE
  obtain ⟨N, eN⟩ : ∃ c, C.natAbs * C.natAbs = c := ⟨_, rfl⟩
  rw [eN] at HQ0 hN HE
  obtain ⟨D, eD⟩ : ∃ c, sqs (ax - ax) (ay - by_) = c := ⟨_, rfl⟩
  rw [eD] at HSm0 HE hDpos hDlt
  have HMk0 := Lib.hid (fun w => rlowest_any N D hN hDpos hDlt w)
  have hD1 : D / 18446744073709551616 = 0 := Nat.div_eq_of_lt hDlt
  have hD2 : D % 18446744073709551616 = D := Nat.mod_eq_of_lt hDlt
  have HSm : Hid (∀ w, Calls Tryz.prog 96 #[.int .i64 0, .int .i64 (ay - by_)] w (Ret w (.agg #[.int .u64 0, .int .u64 D]))) := fun w => by
    have h := HSm0.out w
    simp only [uV, hD1, hD2, Int.sub_self] at h
    exact h
  rw [HE, fV_fcs]
  rw [fV_fcs] at HMk0
  obtain ⟨x, y, z, e⟩ := fcs_ex (lowF N D)
  rw [e] at HMk0 ⊢
  simp only [uV] at HQ0 HMk0
  obtain ⟨n1, en1⟩ : ∃ c, N / 18446744073709551616 = c := ⟨_, rfl⟩
  obtain ⟨n0, en0⟩ : ∃ c, N % 18446744073709551616 = c := ⟨_, rfl⟩
  rw [en1, en0] at HQ0 HMk0
  clear e HE HS1 HS2 HS3 HSm0 hokd hok he ed1 ed2 hCb hDpos hDlt hN eC eN eD hD1 hD2 en1 en0
  go_enter Tryz.func64, Tryz.ntmps64
  go_wp2_with (first | (go_at_call 24; refine (rpoint_any _ _ _).mono ?_; rintro e w1 ⟨rfl, hb1⟩; obtain ⟨hc1, hf1⟩ := bcell hb1; have hz1 := hb1.size; (try simp at hz1); have hy0 : w.heap.size < w1.heap.size := (by omega); have hy1 : w.heap.size + 1 < w1.heap.size := (by omega); have hy2 : w.heap.size + 1 + 1 < w1.heap.size := (by omega); have hy3 : w.heap.size + 1 + 1 + 1 < w1.heap.size := (by omega)) | (go_at_call 99; (with_reducible refine (HD1.out _).mono ?_); rintro e w1 ⟨rfl, hb1⟩; obtain ⟨hc1, hf1⟩ := bcell hb1; have hz1 := hb1.size; (try simp at hz1); have hy0 : w.heap.size < w1.heap.size := (by omega); have hy1 : w.heap.size + 1 < w1.heap.size := (by omega); have hy2 : w.heap.size + 1 + 1 < w1.heap.size := (by omega); have hy3 : w.heap.size + 1 + 1 + 1 < w1.heap.size := (by omega)) | (go_at_call 99; (with_reducible refine (HD2.out _).mono ?_); rintro e w1 ⟨rfl, hb1⟩; obtain ⟨hc1, hf1⟩ := bcell hb1; have hz1 := hb1.size; (try simp at hz1); have hy0 : w.heap.size < w1.heap.size := (by omega); have hy1 : w.heap.size + 1 < w1.heap.size := (by omega); have hy2 : w.heap.size + 1 + 1 < w1.heap.size := (by omega); have hy3 : w.heap.size + 1 + 1 + 1 < w1.heap.size := (by omega)))
  refine wp_gen2 (fun w2 => Below w.heap.size w w2 ∧ Blk w2 w.heap.size 52 #[.int .i64 ax, .int .i64 ay] ∧ Blk w2 (w.heap.size + 1) 52 #[.int .i64 ax, .int .i64 by_] ∧ Blk w2 (w.heap.size + 1 + 1) 52 #[.int .i64 px, .int .i64 py] ∧ Blk w2 (w.heap.size + 1 + 1 + 1) 75 #[.int .u64 0, .int .u64 0, .int .u64 0]) ⟨bel, blkA, blkA, blkA, blkA⟩ ?_
  clear hb1 hc1 hf1 HD1 HD2
  rintro w0 ⟨hb0, hA, hBB, hPP, hR⟩
  have hz0 := hb0.size
  have cA := hA.cell
  have cB := hBB.cell
  have cP := hPP.cell
  have lR := hR.lt
  have lA := hA.lt
  have lB := hBB.lt
  have lP := hPP.lt
  have cR := hR.cell
  have fR := hR.frozen
  have HFl : ∀ w, (Instr.field 99 (.agg #[.int .u64 0, .int .u64 D]) 1).run Tryz.prog w = .ok (.int .u64 D) w := fun w => by simp [Instr.field, asAgg, go_sem]
  refine wp_region_belowB (w.heap.size + 1 + 1 + 1) [0, 1, 2, 5, 6, 7, 8, 9, 10, 11, 12, 13, 14, 3, 4, 15, 16, 17, 18] (by kernel_rfl) (by kernel_rfl) (fun _ _ d _ _ h => by cases d <;> exact h) ?_
  simp only [List.map_cons, List.map_nil, List.getD_cons_zero, List.getD_cons_succ, bare, gslot, List.getElem?_cons_zero, List.getElem?_cons_succ, Option.bind_some]
  repeat' ((try simp only [Act.put, List.setIfInBounds_toArray, List.set_cons_zero, List.set_cons_succ]); first | (refine lexL_quiet (v := ?_) wantB_none rfl ?_ ?_; rotate_left; focus (intro wq hq; obtain ⟨hcq, hfq⟩ := bcellB hq; go_simp; try with_reducible rfl)) | (refine lexL_loud wantB_none rfl (fun K hK => ?_); go_simp; ((first | (go_at_call 98; (with_reducible refine (HC.out _).mono ?_); rintro e w5 ⟨rfl, hb5⟩; obtain ⟨hc5, hf5⟩ := bcell hb5; have hz5 := hb5.size; (try simp at hz5); have hbB : Below (w.heap.size + 1 + 1 + 1) w0 w5 := (Below.trans (by repeat (first | with_reducible exact Below.refl _ _ | with_reducible assumption | with_reducible refine Below.drew ?_)) (hb5.mono (by (try simp); omega))); have lR5 : w.heap.size + 1 + 1 + 1 < w5.heap.size := (by omega); have hR5 : Blk w5 (w.heap.size + 1 + 1 + 1) 75 #[.int .u64 0, .int .u64 0, .int .u64 0] := blkA; have hbz : Below w.heap.size w w5 := (Below.trans hb0 (hbB.mono (by omega))); have c5 := hR5.cell; have f5 := hR5.frozen) | (go_at_call 101; (with_reducible refine (HQ0.out _).mono ?_); rintro e w5 ⟨rfl, hb5⟩; obtain ⟨hc5, hf5⟩ := bcell hb5; have hz5 := hb5.size; (try simp at hz5); have hbB : Below (w.heap.size + 1 + 1 + 1) w0 w5 := (Below.trans (by repeat (first | with_reducible exact Below.refl _ _ | with_reducible assumption | with_reducible refine Below.drew ?_)) (hb5.mono (by (try simp); omega))); have lR5 : w.heap.size + 1 + 1 + 1 < w5.heap.size := (by omega); have hR5 : Blk w5 (w.heap.size + 1 + 1 + 1) 75 #[.int .u64 0, .int .u64 0, .int .u64 0] := blkA; have hbz : Below w.heap.size w w5 := (Below.trans hb0 (hbB.mono (by omega))); have c5 := hR5.cell; have f5 := hR5.frozen) | (go_at_call 96; (with_reducible refine (HSm.out _).mono ?_); rintro e w5 ⟨rfl, hb5⟩; obtain ⟨hc5, hf5⟩ := bcell hb5; have hz5 := hb5.size; (try simp at hz5); have hbB : Below (w.heap.size + 1 + 1 + 1) w0 w5 := (Below.trans (by repeat (first | with_reducible exact Below.refl _ _ | with_reducible assumption | with_reducible refine Below.drew ?_)) (hb5.mono (by (try simp); omega))); have lR5 : w.heap.size + 1 + 1 + 1 < w5.heap.size := (by omega); have hR5 : Blk w5 (w.heap.size + 1 + 1 + 1) 75 #[.int .u64 0, .int .u64 0, .int .u64 0] := blkA; have hbz : Below w.heap.size w w5 := (Below.trans hb0 (hbB.mono (by omega))); have c5 := hR5.cell; have f5 := hR5.frozen) | (go_at_call 95; (with_reducible refine (HMk0.out _).mono ?_); rintro e w5 ⟨rfl, hb5⟩; obtain ⟨hc5, hf5⟩ := bcell hb5; have hz5 := hb5.size; (try simp at hz5); have hbB : Below (w.heap.size + 1 + 1 + 1) w0 w5 := (Below.trans (by repeat (first | with_reducible exact Below.refl _ _ | with_reducible assumption | with_reducible refine Below.drew ?_)) (hb5.mono (by (try simp); omega))); have lR5 : w.heap.size + 1 + 1 + 1 < w5.heap.size := (by omega); have hR5 : Blk w5 (w.heap.size + 1 + 1 + 1) 75 #[.int .u64 0, .int .u64 0, .int .u64 0] := blkA; have hbz : Below w.heap.size w w5 := (Below.trans hb0 (hbB.mono (by omega))); have c5 := hR5.cell; have f5 := hR5.frozen) | skip) <;> (refine hK.out _ _ (by first | with_reducible exact swapB1 | with_reducible exact Below.drew swapB1 | exact bel) ?_; clear hK K))) | (refine lexL_on ?_ ?_; focus (simp only [List.getElem?_toArray, List.getElem?_cons_succ, List.getElem?_cons_zero, Bool.not_true, Bool.not_false]; done)) | (refine lexL_off ?_ ?_ ?_; (focus (simp only [List.getElem?_toArray, List.getElem?_cons_succ, List.getElem?_cons_zero, Bool.not_true, Bool.not_false]; done)); (focus (exact (by first | with_reducible exact swapB1 | with_reducible exact Below.drew swapB1 | exact bel)))) | (refine lexL_splitS (X := ?_) ?_ ?_ (fun hg => ?_) (fun hg => ?_); rotate_left; (focus (simp only [List.getElem?_toArray, List.getElem?_cons_succ, List.getElem?_cons_zero]; with_reducible rfl)); (focus (exact (by first | with_reducible exact swapB1 | with_reducible exact Below.drew swapB1 | exact bel))); all_goals (try simp only [Bool.not_true, Bool.not_false] at hg)))
  (all_goals try simp only [Act.put, List.setIfInBounds_toArray, List.set_cons_zero, List.set_cons_succ]); all_goals (refine lexL_nil ?_)
  go_wp2_with fail
  refine post_gen2 (R := fun w2 => Blk w2 (w.heap.size + 1 + 1 + 1) 75 #[.int .u64 x, .int .u64 y, .int .u64 z] ∧ Below w.heap.size w w2) ⟨?_, bel⟩ ?_
  · repeat (first | with_reducible exact three_put (x := .int .u64 0) (y := .int .u64 0) (z := .int .u64 0) blkA | (with_reducible refine Blk.new ?_ rfl; focus (simp; done)) | with_reducible refine Blk.alloc ?_ _ | with_reducible refine Blk.drew ?_)
  rintro w2 ⟨HR, hb2⟩
  have r0 := HR.cell 0
  have r1 := HR.cell 1
  have r2 := HR.cell 2
  simp only [List.getElem?_toArray, List.getElem?_cons_zero, List.getElem?_cons_succ] at r0 r1 r2
  exact bodyPost_ret (v := .agg #[.int .u64 x, .int .u64 y, .int .u64 z]) (by simp [results, Tryz.results64, go_sem, r0, r1, r2]) rfl ⟨rfl, hb2⟩

set_option maxHeartbeats 4000000 in
set_option maxRecDepth 20000 in
theorem rsegDist_any (ax ay bx by_ px py : Int) (w : World) :
    Calls Tryz.prog 64 #[ptV ax ay, ptV bx by_, ptV px py] w (Ret w (fV (segF ⟨ax, ay⟩ ⟨bx, by_⟩ ⟨px, py⟩))) := by
  cases oa : okPt ⟨ax, ay⟩
  case false =>
    have HF : Hid (fV (segF ⟨ax, ay⟩ ⟨bx, by_⟩ ⟨px, py⟩) = .agg #[.int .u64 0, .int .u64 0, .int .u64 0]) := by unfold Hid segF; rw [oa, fV_fcs]; rw [if_neg (by simp), fcs_none]
    go_enter Tryz.func64, Tryz.ntmps64
    go_wp2_with (go_at_call 24; refine (rpoint_any _ _ _).mono ?_; rintro e w1 ⟨rfl, hb1⟩; obtain ⟨hc1, hf1⟩ := bcell hb1; have hz1 := hb1.size; (try simp at hz1); have hy0 : w.heap.size < w1.heap.size := (by omega); have hy1 : w.heap.size + 1 < w1.heap.size := (by omega); have hy2 : w.heap.size + 1 + 1 < w1.heap.size := (by omega); have hy3 : w.heap.size + 1 + 1 + 1 < w1.heap.size := (by omega))
    refine post_gen2 (R := fun w2 => Blk w2 (w.heap.size + 1 + 1 + 1) 75 #[.int .u64 0, .int .u64 0, .int .u64 0] ∧ Below w.heap.size w w2) ⟨?_, bel⟩ ?_
    · repeat (first | with_reducible exact three_put (x := .int .u64 0) (y := .int .u64 0) (z := .int .u64 0) blkA | (with_reducible refine Blk.new ?_ rfl; focus (simp; done)) | with_reducible refine Blk.alloc ?_ _ | with_reducible refine Blk.drew ?_)
    rintro w2 ⟨HR, hb2⟩
    have r0 := HR.cell 0
    have r1 := HR.cell 1
    have r2 := HR.cell 2
    simp only [List.getElem?_toArray, List.getElem?_cons_zero, List.getElem?_cons_succ] at r0 r1 r2
    rw [HF.out]
    exact bodyPost_ret (v := .agg #[.int .u64 0, .int .u64 0, .int .u64 0]) (by simp [results, Tryz.results64, go_sem, r0, r1, r2]) rfl ⟨rfl, hb2⟩
  cases ob : okPt ⟨bx, by_⟩
  case false =>
    have HF : Hid (fV (segF ⟨ax, ay⟩ ⟨bx, by_⟩ ⟨px, py⟩) = .agg #[.int .u64 0, .int .u64 0, .int .u64 0]) := by unfold Hid segF; rw [ob, fV_fcs]; rw [if_neg (by simp), fcs_none]
    go_enter Tryz.func64, Tryz.ntmps64
    go_wp2_with (go_at_call 24; refine (rpoint_any _ _ _).mono ?_; rintro e w1 ⟨rfl, hb1⟩; obtain ⟨hc1, hf1⟩ := bcell hb1; have hz1 := hb1.size; (try simp at hz1); have hy0 : w.heap.size < w1.heap.size := (by omega); have hy1 : w.heap.size + 1 < w1.heap.size := (by omega); have hy2 : w.heap.size + 1 + 1 < w1.heap.size := (by omega); have hy3 : w.heap.size + 1 + 1 + 1 < w1.heap.size := (by omega))
    refine post_gen2 (R := fun w2 => Blk w2 (w.heap.size + 1 + 1 + 1) 75 #[.int .u64 0, .int .u64 0, .int .u64 0] ∧ Below w.heap.size w w2) ⟨?_, bel⟩ ?_
    · repeat (first | with_reducible exact three_put (x := .int .u64 0) (y := .int .u64 0) (z := .int .u64 0) blkA | (with_reducible refine Blk.new ?_ rfl; focus (simp; done)) | with_reducible refine Blk.alloc ?_ _ | with_reducible refine Blk.drew ?_)
    rintro w2 ⟨HR, hb2⟩
    have r0 := HR.cell 0
    have r1 := HR.cell 1
    have r2 := HR.cell 2
    simp only [List.getElem?_toArray, List.getElem?_cons_zero, List.getElem?_cons_succ] at r0 r1 r2
    rw [HF.out]
    exact bodyPost_ret (v := .agg #[.int .u64 0, .int .u64 0, .int .u64 0]) (by simp [results, Tryz.results64, go_sem, r0, r1, r2]) rfl ⟨rfl, hb2⟩
  cases op : okPt ⟨px, py⟩
  case false =>
    have HF : Hid (fV (segF ⟨ax, ay⟩ ⟨bx, by_⟩ ⟨px, py⟩) = .agg #[.int .u64 0, .int .u64 0, .int .u64 0]) := by unfold Hid segF; rw [op, fV_fcs]; rw [if_neg (by simp), fcs_none]
    go_enter Tryz.func64, Tryz.ntmps64
    go_wp2_with (go_at_call 24; refine (rpoint_any _ _ _).mono ?_; rintro e w1 ⟨rfl, hb1⟩; obtain ⟨hc1, hf1⟩ := bcell hb1; have hz1 := hb1.size; (try simp at hz1); have hy0 : w.heap.size < w1.heap.size := (by omega); have hy1 : w.heap.size + 1 < w1.heap.size := (by omega); have hy2 : w.heap.size + 1 + 1 < w1.heap.size := (by omega); have hy3 : w.heap.size + 1 + 1 + 1 < w1.heap.size := (by omega))
    refine post_gen2 (R := fun w2 => Blk w2 (w.heap.size + 1 + 1 + 1) 75 #[.int .u64 0, .int .u64 0, .int .u64 0] ∧ Below w.heap.size w w2) ⟨?_, bel⟩ ?_
    · repeat (first | with_reducible exact three_put (x := .int .u64 0) (y := .int .u64 0) (z := .int .u64 0) blkA | (with_reducible refine Blk.new ?_ rfl; focus (simp; done)) | with_reducible refine Blk.alloc ?_ _ | with_reducible refine Blk.drew ?_)
    rintro w2 ⟨HR, hb2⟩
    have r0 := HR.cell 0
    have r1 := HR.cell 1
    have r2 := HR.cell 2
    simp only [List.getElem?_toArray, List.getElem?_cons_zero, List.getElem?_cons_succ] at r0 r1 r2
    rw [HF.out]
    exact bodyPost_ret (v := .agg #[.int .u64 0, .int .u64 0, .int .u64 0]) (by simp [results, Tryz.results64, go_sem, r0, r1, r2]) rfl ⟨rfl, hb2⟩
  have hok : (okPt ⟨ax, ay⟩ && okPt ⟨bx, by_⟩ && okPt ⟨px, py⟩) = true := by rw [oa, ob, op]; rfl
  by_cases hx : ax = bx
  · by_cases hy : ay = by_
    · subst hx hy
      exact rsegDist_eq ax ay px py hok w
    · subst hx
      exact rsegDist_ne2 ax ay by_ px py hy hok w
  · exact rsegDist_ne ax ay bx by_ px py hx hok w
end Go.Proofs.YtahiaekoaokgnaaGreat
set_option linter.unusedSimpArgs false
set_option linter.unusedVariables false
namespace Go.Proofs.YtahiaekoaokgnaaGreat
open Go.RowKit Pg

def mbR (k : Int) (l : List Pt) (r : Bx) : Bool := if k = 4 then ringBoxR l r else bmeets (boundsS ⟨k, l⟩) r
theorem isBox_4 {l : List Pt} : ¬ isBox ⟨4, l⟩ = true := by simp [isBox]
theorem mb_of {k : Int} {l : List Pt} {r : Bx} (ho : ckOb ⟨k, l⟩ = 0) (hr : okBx r = true) : (if isBox ⟨k, l⟩ = true then bmeets (obBox ⟨k, l⟩) r else cutS l r) = mbR k l r := by
  unfold mbR
  by_cases h4 : k = 4
  · subst h4
    rw [if_neg isBox_4, if_pos rfl, cutS_eq (ring_of4 ho) hr]
  · rw [isBox_of ho h4, if_pos rfl, if_neg h4, bounds_of ho h4]
theorem match_bad1 {o : Ob} {q : Qu} (h : ckOb o ≠ 0) : matchS o q = false := by unfold matchS; rw [if_neg (fun e => h e.1)]
theorem match_bad2 {o : Ob} {q : Qu} (h : ckQu q ≠ 0) : matchS o q = false := by unfold matchS; rw [if_neg (fun e => h e.2)]
theorem okBx_ck {r : Bx} (h : ckBox r = 0) : okBx r = true := decide_eq_true h

set_option maxHeartbeats 4000000 in
set_option maxRecDepth 20000 in
theorem rmb_any (B n c : Nat) (k : Int) (r : Bx) (A : Option Addr) (l : List Pt) (w : World) (hl : PtsAt w B A n l) (hB : B ≤ w.heap.size) (hn : n ≤ 1000000) (ho : ckOb ⟨k, l⟩ = 0) :
    Calls Tryz.prog 54 #[obV k A n c, bxW r] w (Ret w (.bool (mbR k l r))) := by
  by_cases h4 : k = 4
  · subst h4
    have HF : Hid (mbR 4 l r = ringBoxR l r) := by unfold Hid mbR; rw [if_pos rfl]
    have HR := Lib.hid (fun w (h : PtsAt w B A n l) (hB : B ≤ w.heap.size) => rringBox_any B n c r A l w h hB hn)
    clear ho
    go_enter Tryz.func54, Tryz.ntmps54
    go_wp2_with (first | (go_at_call 57; refine (HR.out _ (hl.tr bel hB) (Nat.le_trans hB (Below.size (B := w.heap.size) (w := w) bel))).mono ?_; rintro e w2 ⟨rfl, hb2⟩))
    go_ret
    exact ⟨ret_bool HF.out.symm, bel⟩
  · have HF : Hid (mbR k l r = bmeets (boundsS ⟨k, l⟩) r) := by unfold Hid mbR; rw [if_neg h4]
    have HA := Lib.hid (fun w (h : PtsAt w B A n l) (hB : B ≤ w.heap.size) => rBounds_ok B n c k A l w h hB hn ho)
    obtain ⟨X, hX⟩ : ∃ X, boundsS ⟨k, l⟩ = X := ⟨_, rfl⟩
    rw [hX] at HA HF
    have HR := Lib.hid (fun w => rboxMeets_any X.lo.x X.lo.y X.hi.x X.hi.y r.lo.x r.lo.y r.hi.x r.hi.y w)
    clear ho hX
    go_enter Tryz.func54, Tryz.ntmps54
    go_wp2_with (first | (go_at_call 27; refine (HA.out _ (hl.tr bel hB) (Nat.le_trans hB (Below.size (B := w.heap.size) (w := w) bel))).mono ?_; rintro e wa ⟨rfl, hba⟩; obtain ⟨hca, hfa⟩ := bcell hba; have hza := hba.size; (try simp at hza); have hya0 : w.heap.size < wa.heap.size := (by omega); have hya1 : w.heap.size + 1 < wa.heap.size := (by omega)) | (go_at_call 90; refine (HR.out _).mono ?_; rintro e w2 ⟨rfl, hb2⟩))
    go_ret
    exact ⟨ret_bool HF.out.symm, bel⟩

set_option maxHeartbeats 4000000 in
set_option maxRecDepth 20000 in
theorem rMatch_any (B n c n' c' : Nat) (k k' : Int) (b : Bx) (A A' : Option Addr) (l l' : List Pt) (w : World) (hl : PtsAt w B A n l) (hl' : PtsAt w B A' n' l') (hB : B ≤ w.heap.size) (hn : n ≤ 1000000) (hn' : n' ≤ 1000000) :
    Calls Tryz.prog 30 #[obV k A n c, quV k' b A' n' c'] w (Ret w (.bool (matchS ⟨k, l⟩ ⟨k', b, l'⟩))) := by
  by_cases ho : ckOb ⟨k, l⟩ = 0
  case neg =>
    have HF : Hid (matchS ⟨k, l⟩ ⟨k', b, l'⟩ = false) := match_bad1 ho
    obtain ⟨m, hm⟩ : ∃ m : Nat, ckOb ⟨k, l⟩ = m := ⟨_, rfl⟩
    have hm0 : ((m : Int) != 0) = true := by rw [bne_iff_ne]; omega
    have HA := Lib.hid (fun w (h : PtsAt w B A n l) (hB : B ≤ w.heap.size) => rBounds_bad B n c k A l w h hB hn ho)
    rw [hm] at HA
    clear ho hm
    go_enter Tryz.func30, Tryz.ntmps30
    go_wp2_with (first | (go_at_call 27; refine (HA.out _ (hl.tr bel hB) (Nat.le_trans hB (Below.size (B := w.heap.size) (w := w) bel))).mono ?_; rintro e wa ⟨rfl, hba⟩; obtain ⟨hca, hfa⟩ := bcell hba; have hza := hba.size; (try simp at hza); have hya0 : w.heap.size < wa.heap.size := (by omega); have hya1 : w.heap.size + 1 < wa.heap.size := (by omega)))
    go_ret
    exact ⟨ret_bool HF.out.symm, bel⟩
  have HA := Lib.hid (fun w (h : PtsAt w B A n l) (hB : B ≤ w.heap.size) => rBounds_ok B n c k A l w h hB hn ho)
  obtain ⟨X, hX⟩ : ∃ X, boundsS ⟨k, l⟩ = X := ⟨_, rfl⟩
  rw [hX] at HA
  have HQ := Lib.hid (fun w (h : PtsAt w B A' n' l') (hB : B ≤ w.heap.size) => rquery_any B n' c' k' b A' l' w h hB hn')
  rw [← ckQu_eq] at HQ
  by_cases hq : ckQu ⟨k', b, l'⟩ = 0
  case neg =>
    have HF : Hid (matchS ⟨k, l⟩ ⟨k', b, l'⟩ = false) := match_bad2 hq
    obtain ⟨m, hm⟩ : ∃ m : Nat, ckQu ⟨k', b, l'⟩ = m := ⟨_, rfl⟩
    have hm0 : ((m : Int) != 0) = true := by rw [bne_iff_ne]; omega
    rw [hm] at HQ
    clear ho hm hX hq
    go_enter Tryz.func30, Tryz.ntmps30
    go_wp2_with (first | (go_at_call 27; refine (HA.out _ (hl.tr bel hB) (Nat.le_trans hB (Below.size (B := w.heap.size) (w := w) bel))).mono ?_; rintro e wa ⟨rfl, hba⟩; obtain ⟨hca, hfa⟩ := bcell hba; have hza := hba.size; (try simp at hza); have hya0 : w.heap.size < wa.heap.size := (by omega); have hya1 : w.heap.size + 1 < wa.heap.size := (by omega)) | (go_at_call 53; refine (HQ.out _ (hl'.tr bel hB) (Nat.le_trans hB (Below.size (B := w.heap.size) (w := w) bel))).mono ?_; rintro e wq ⟨rfl, hbq⟩; obtain ⟨hcq, hfq⟩ := bcell hbq; have hzq := hbq.size; (try simp at hzq); have hyq0 : w.heap.size < wq.heap.size := (by omega); have hyq1 : w.heap.size + 1 < wq.heap.size := (by omega); have hyqa : wa.heap.size < wq.heap.size := (by omega)))
    go_ret
    exact ⟨ret_bool HF.out.symm, bel⟩
  have HM0 := Lib.hid (fun r w (h : PtsAt w B A n l) (hB : B ≤ w.heap.size) => rmb_any B n c k r A l w h hB hn ho)
  rw [hq] at HQ
  have hqk := hq
  unfold ckQu at hqk
  simp only at hqk
  by_cases k1 : k' = 1
  · subst k1
    have hr : ckBox b = 0 := by simpa using hqk
    have HF : Hid (matchS ⟨k, l⟩ ⟨1, b, l'⟩ = mbR k l b) := by unfold Hid; rw [match_meets ho hr]; exact mb_of ho (okBx_ck hr)
    have HM := Lib.hid (HM0.out b)
    clear HM0 ho hX hq hqk hr
    go_enter Tryz.func30, Tryz.ntmps30
    go_wp2_with (first | (go_at_call 27; refine (HA.out _ (hl.tr bel hB) (Nat.le_trans hB (Below.size (B := w.heap.size) (w := w) bel))).mono ?_; rintro e wa ⟨rfl, hba⟩; obtain ⟨hca, hfa⟩ := bcell hba; have hza := hba.size; (try simp at hza); have hya0 : w.heap.size < wa.heap.size := (by omega); have hya1 : w.heap.size + 1 < wa.heap.size := (by omega)) | (go_at_call 53; refine (HQ.out _ (hl'.tr bel hB) (Nat.le_trans hB (Below.size (B := w.heap.size) (w := w) bel))).mono ?_; rintro e wq ⟨rfl, hbq⟩; obtain ⟨hcq, hfq⟩ := bcell hbq; have hzq := hbq.size; (try simp at hzq); have hyq0 : w.heap.size < wq.heap.size := (by omega); have hyq1 : w.heap.size + 1 < wq.heap.size := (by omega); have hyqa : wa.heap.size < wq.heap.size := (by omega)) | (go_at_call 54; refine (HM.out _ (hl.tr bel hB) (Nat.le_trans hB (Below.size (B := w.heap.size) (w := w) bel))).mono ?_; rintro e w2 ⟨rfl, hb2⟩))
    go_ret
    exact ⟨ret_bool HF.out.symm, bel⟩
  by_cases k2 : k' = 2
  · subst k2
    have hr : ckBox b = 0 := by simpa using hqk
    have HF : Hid (matchS ⟨k, l⟩ ⟨2, b, l'⟩ = binside X b) := by unfold Hid; rw [match_in ho hr, hX]
    have HR := Lib.hid (fun w => rboxInside_any X.lo.x X.lo.y X.hi.x X.hi.y b.lo.x b.lo.y b.hi.x b.hi.y w)
    clear HM0 ho hX hq hqk hr
    go_enter Tryz.func30, Tryz.ntmps30
    go_wp2_with (first | (go_at_call 27; refine (HA.out _ (hl.tr bel hB) (Nat.le_trans hB (Below.size (B := w.heap.size) (w := w) bel))).mono ?_; rintro e wa ⟨rfl, hba⟩; obtain ⟨hca, hfa⟩ := bcell hba; have hza := hba.size; (try simp at hza); have hya0 : w.heap.size < wa.heap.size := (by omega); have hya1 : w.heap.size + 1 < wa.heap.size := (by omega)) | (go_at_call 53; refine (HQ.out _ (hl'.tr bel hB) (Nat.le_trans hB (Below.size (B := w.heap.size) (w := w) bel))).mono ?_; rintro e wq ⟨rfl, hbq⟩; obtain ⟨hcq, hfq⟩ := bcell hbq; have hzq := hbq.size; (try simp at hzq); have hyq0 : w.heap.size < wq.heap.size := (by omega); have hyq1 : w.heap.size + 1 < wq.heap.size := (by omega); have hyqa : wa.heap.size < wq.heap.size := (by omega)) | (go_at_call 55; refine (HR.out _).mono ?_; rintro e w2 ⟨rfl, hb2⟩))
    go_ret
    exact ⟨ret_bool HF.out.symm, bel⟩
  by_cases k3 : k' = 3
  · subst k3
    have hr : okPt b.lo = true := by
      by_cases h : okPt b.lo = true
      · exact h
      · simp [h] at hqk
    have HF : Hid (matchS ⟨k, l⟩ ⟨3, b, l'⟩ = mbR k l ⟨b.lo, b.lo⟩) := by unfold Hid; rw [match_has ho hr]; exact mb_of ho (okBx_pp hr)
    have HM := Lib.hid (HM0.out ⟨b.lo, b.lo⟩)
    clear HM0 ho hX hq hqk hr
    go_enter Tryz.func30, Tryz.ntmps30
    go_wp2_with (first | (go_at_call 27; refine (HA.out _ (hl.tr bel hB) (Nat.le_trans hB (Below.size (B := w.heap.size) (w := w) bel))).mono ?_; rintro e wa ⟨rfl, hba⟩; obtain ⟨hca, hfa⟩ := bcell hba; have hza := hba.size; (try simp at hza); have hya0 : w.heap.size < wa.heap.size := (by omega); have hya1 : w.heap.size + 1 < wa.heap.size := (by omega)) | (go_at_call 53; refine (HQ.out _ (hl'.tr bel hB) (Nat.le_trans hB (Below.size (B := w.heap.size) (w := w) bel))).mono ?_; rintro e wq ⟨rfl, hbq⟩; obtain ⟨hcq, hfq⟩ := bcell hbq; have hzq := hbq.size; (try simp at hzq); have hyq0 : w.heap.size < wq.heap.size := (by omega); have hyq1 : w.heap.size + 1 < wq.heap.size := (by omega); have hyqa : wa.heap.size < wq.heap.size := (by omega)) | (go_at_call 54; refine (HM.out _ (hl.tr bel hB) (Nat.le_trans hB (Below.size (B := w.heap.size) (w := w) bel))).mono ?_; rintro e w2 ⟨rfl, hb2⟩))
    go_ret
    exact ⟨ret_bool HF.out.symm, bel⟩
  have h4 : k' = 4 := by
    by_cases h : k' = 4
    · exact h
    · simp [k1, k2, k3, h] at hqk
  subst h4
  have hr : ckRing l' = 0 := by simpa using hqk
  clear HM0 k1 k2 k3
  have HF0 := match_cross (r := b) ho hr
  by_cases h4 : k = 4
  · subst h4
    have HF : Hid (matchS ⟨4, l⟩ ⟨4, b, l'⟩ = ringsR l l') := by
      unfold Hid; rw [HF0, if_neg isBox_4]
      exact ringsS_eq (ring_of4 ho) hr
    have g1 : 1 ≤ n := by have := ck_len (ring_of4 ho); rw [hl.1] at this; omega
    have g2 : 1 ≤ n' := by have := ck_len hr; rw [hl'.1] at this; omega
    have HR := Lib.hid (fun w (h : PtsAt w B A n l) (h' : PtsAt w B A' n' l') (hB : B ≤ w.heap.size) => rrings_any B n c n' c' A A' l l' w h h' hB hn hn' g1 g2)
    clear HF0 ho hX hq hqk hr
    go_enter Tryz.func30, Tryz.ntmps30
    go_wp2_with (first | (go_at_call 27; refine (HA.out _ (hl.tr bel hB) (Nat.le_trans hB (Below.size (B := w.heap.size) (w := w) bel))).mono ?_; rintro e wa ⟨rfl, hba⟩; obtain ⟨hca, hfa⟩ := bcell hba; have hza := hba.size; (try simp at hza); have hya0 : w.heap.size < wa.heap.size := (by omega); have hya1 : w.heap.size + 1 < wa.heap.size := (by omega)) | (go_at_call 53; refine (HQ.out _ (hl'.tr bel hB) (Nat.le_trans hB (Below.size (B := w.heap.size) (w := w) bel))).mono ?_; rintro e wq ⟨rfl, hbq⟩; obtain ⟨hcq, hfq⟩ := bcell hbq; have hzq := hbq.size; (try simp at hzq); have hyq0 : w.heap.size < wq.heap.size := (by omega); have hyq1 : w.heap.size + 1 < wq.heap.size := (by omega); have hyqa : wa.heap.size < wq.heap.size := (by omega)) | (go_at_call 56; refine (HR.out _ (hl.tr bel hB) (hl'.tr bel hB) (Nat.le_trans hB (Below.size (B := w.heap.size) (w := w) bel))).mono ?_; rintro e w2 ⟨rfl, hb2⟩))
    go_ret
    exact ⟨ret_bool HF.out.symm, bel⟩
  · have HF : Hid (matchS ⟨k, l⟩ ⟨4, b, l'⟩ = ringBoxR l' X) := by
      unfold Hid; rw [HF0, isBox_of ho h4, if_pos rfl, ← bounds_of ho h4, cutS_eq hr (bounds_okBx ho), hX]
    have HR := Lib.hid (fun w (h : PtsAt w B A' n' l') (hB : B ≤ w.heap.size) => rringBox_any B n' c' X A' l' w h hB hn')
    clear HF0 ho hX hq hqk hr
    go_enter Tryz.func30, Tryz.ntmps30
    go_wp2_with (first | (go_at_call 27; refine (HA.out _ (hl.tr bel hB) (Nat.le_trans hB (Below.size (B := w.heap.size) (w := w) bel))).mono ?_; rintro e wa ⟨rfl, hba⟩; obtain ⟨hca, hfa⟩ := bcell hba; have hza := hba.size; (try simp at hza); have hya0 : w.heap.size < wa.heap.size := (by omega); have hya1 : w.heap.size + 1 < wa.heap.size := (by omega)) | (go_at_call 53; refine (HQ.out _ (hl'.tr bel hB) (Nat.le_trans hB (Below.size (B := w.heap.size) (w := w) bel))).mono ?_; rintro e wq ⟨rfl, hbq⟩; obtain ⟨hcq, hfq⟩ := bcell hbq; have hzq := hbq.size; (try simp at hzq); have hyq0 : w.heap.size < wq.heap.size := (by omega); have hyq1 : w.heap.size + 1 < wq.heap.size := (by omega); have hyqa : wa.heap.size < wq.heap.size := (by omega)) | (go_at_call 57; refine (HR.out _ (hl'.tr bel hB) (Nat.le_trans hB (Below.size (B := w.heap.size) (w := w) bel))).mono ?_; rintro e w2 ⟨rfl, hb2⟩))
    go_ret
    exact ⟨ret_bool HF.out.symm, bel⟩
end Go.Proofs.YtahiaekoaokgnaaGreat
set_option linter.unusedSimpArgs false
set_option linter.unusedVariables false
namespace Go.Proofs.YtahiaekoaokgnaaGreat
open Go.RowKit Pg

set_option maxHeartbeats 4000000 in
set_option maxRecDepth 20000 in
theorem rDist_box (B n c : Nat) (k : Int) (A : Option Addr) (l : List Pt) (x y : Int) (w : World) (hl : PtsAt w B A n l) (hB : B ≤ w.heap.size) (hn : n ≤ 1000000) (hk : ¬ k = 4) :
    Calls Tryz.prog 34 #[obV k A n c, ptV x y] w (Ret w (fV (distF ⟨k, l⟩ ⟨x, y⟩))) := by
  by_cases ho : ckOb ⟨k, l⟩ = 0
  case neg =>
    have HF : Hid (fV (distF ⟨k, l⟩ ⟨x, y⟩) = .agg #[.int .u64 0, .int .u64 0, .int .u64 0]) := by unfold Hid distF; rw [if_neg (fun h => ho h.1), fV_fcs, fcs_none]
    obtain ⟨m, hm⟩ : ∃ m : Nat, ckOb ⟨k, l⟩ = m := ⟨_, rfl⟩
    have hm0 : ((m : Int) != 0) = true := by rw [bne_iff_ne]; omega
    have HA := Lib.hid (fun w (h : PtsAt w B A n l) (hB : B ≤ w.heap.size) => rBounds_bad B n c k A l w h hB hn ho)
    rw [hm] at HA
    clear ho hm
    go_enter Tryz.func34, Tryz.ntmps34
    go_wp2_with (first | (go_at_call 27; refine (HA.out _ (hl.tr bel hB) (Nat.le_trans hB (Below.size (B := w.heap.size) (w := w) bel))).mono ?_; rintro e wa ⟨rfl, hba⟩; obtain ⟨hca, hfa⟩ := bcell hba; have hza := hba.size; (try simp at hza); have hya0 : w.heap.size < wa.heap.size := (by omega); have hya1 : w.heap.size + 1 < wa.heap.size := (by omega); have hya2 : w.heap.size + 1 + 1 < wa.heap.size := (by omega)))
    refine post_gen2 (R := fun w2 => Blk w2 (w.heap.size + 1 + 1) 75 #[.int .u64 0, .int .u64 0, .int .u64 0] ∧ Below w.heap.size w w2) ⟨?_, bel⟩ ?_
    · repeat (first | with_reducible exact three_put (x := .int .u64 0) (y := .int .u64 0) (z := .int .u64 0) blkA | (with_reducible refine Blk.new ?_ rfl; focus (simp; done)) | with_reducible refine Blk.alloc ?_ _ | with_reducible refine Blk.drew ?_)
    rintro w2 ⟨HR, hb2⟩
    have r0 := HR.cell 0
    have r1 := HR.cell 1
    have r2 := HR.cell 2
    simp only [List.getElem?_toArray, List.getElem?_cons_zero, List.getElem?_cons_succ] at r0 r1 r2
    rw [HF.out]
    exact bodyPost_ret (v := .agg #[.int .u64 0, .int .u64 0, .int .u64 0]) (by simp [results, Tryz.results34, go_sem, r0, r1, r2]) rfl ⟨rfl, hb2⟩
  have HA := Lib.hid (fun w (h : PtsAt w B A n l) (hB : B ≤ w.heap.size) => rBounds_ok B n c k A l w h hB hn ho)
  have hXok := bounds_okBx ho
  have hbx := bounds_of ho hk
  obtain ⟨X, hX⟩ : ∃ X, boundsS ⟨k, l⟩ = X := ⟨_, rfl⟩
  rw [hX] at HA hXok hbx
  have HP0 := fun w => rpoint_any x y w
  cases op : okPt ⟨x, y⟩
  case false =>
    rw [op] at HP0
    have HP : Hid (∀ w, Calls Tryz.prog 24 #[ptV x y] w (Ret w (.bool false))) := HP0
    have HF : Hid (fV (distF ⟨k, l⟩ ⟨x, y⟩) = .agg #[.int .u64 0, .int .u64 0, .int .u64 0]) := by unfold Hid distF; rw [if_neg (fun h => by rw [op] at h; cases h.2), fV_fcs, fcs_none]
    clear ho op hX HP0 hXok hbx
    go_enter Tryz.func34, Tryz.ntmps34
    go_wp2_with (first | (go_at_call 27; refine (HA.out _ (hl.tr bel hB) (Nat.le_trans hB (Below.size (B := w.heap.size) (w := w) bel))).mono ?_; rintro e wa ⟨rfl, hba⟩; obtain ⟨hca, hfa⟩ := bcell hba; have hza := hba.size; (try simp at hza); have hya0 : w.heap.size < wa.heap.size := (by omega); have hya1 : w.heap.size + 1 < wa.heap.size := (by omega); have hya2 : w.heap.size + 1 + 1 < wa.heap.size := (by omega)) | (go_at_call 24; refine (HP.out _).mono ?_; rintro e wp ⟨rfl, hbp⟩; obtain ⟨hcp, hfp⟩ := bcell hbp; have hzp := hbp.size; (try simp at hzp); have hyp0 : w.heap.size < wp.heap.size := (by omega); have hyp1 : w.heap.size + 1 < wp.heap.size := (by omega); have hyp2 : w.heap.size + 1 + 1 < wp.heap.size := (by omega); have hypa : wa.heap.size < wp.heap.size := (by omega)))
    refine post_gen2 (R := fun w2 => Blk w2 (w.heap.size + 1 + 1) 75 #[.int .u64 0, .int .u64 0, .int .u64 0] ∧ Below w.heap.size w w2) ⟨?_, bel⟩ ?_
    · repeat (first | with_reducible exact three_put (x := .int .u64 0) (y := .int .u64 0) (z := .int .u64 0) blkA | (with_reducible refine Blk.new ?_ rfl; focus (simp; done)) | with_reducible refine Blk.alloc ?_ _ | with_reducible refine Blk.drew ?_)
    rintro w2 ⟨HR, hb2⟩
    have r0 := HR.cell 0
    have r1 := HR.cell 1
    have r2 := HR.cell 2
    simp only [List.getElem?_toArray, List.getElem?_cons_zero, List.getElem?_cons_succ] at r0 r1 r2
    rw [HF.out]
    exact bodyPost_ret (v := .agg #[.int .u64 0, .int .u64 0, .int .u64 0]) (by simp [results, Tryz.results34, go_sem, r0, r1, r2]) rfl ⟨rfl, hb2⟩
  rw [op] at HP0
  have HP : Hid (∀ w, Calls Tryz.prog 24 #[ptV x y] w (Ret w (.bool true))) := HP0
  have HF0 : fV (distF ⟨k, l⟩ ⟨x, y⟩) = fV (bxF ⟨⟨X.lo.x, X.lo.y⟩, ⟨X.hi.x, X.hi.y⟩⟩ ⟨x, y⟩) := by
    rw [distF_box ho op (isBox_of ho hk), ← hbx]
    show _ = fV (bxF X ⟨x, y⟩)
    unfold bxF
    rw [hXok, op]
    rfl
  obtain ⟨d1, d0, dd, ed⟩ := fcs_ex (bxF ⟨⟨X.lo.x, X.lo.y⟩, ⟨X.hi.x, X.hi.y⟩⟩ ⟨x, y⟩)
  have HR : Hid (∀ w, Calls Tryz.prog 62 #[bxV X.lo.x X.lo.y X.hi.x X.hi.y, ptV x y] w (Ret w (.agg #[.int .u64 d1, .int .u64 d0, .int .u64 dd]))) := fun w => by
    have h := rboxDist_any X.lo.x X.lo.y X.hi.x X.hi.y x y w
    rw [fV_fcs, ed] at h
    exact h
  have HF : Hid (fV (distF ⟨k, l⟩ ⟨x, y⟩) = .agg #[.int .u64 d1, .int .u64 d0, .int .u64 dd]) := by unfold Hid; rw [HF0, fV_fcs, ed]
  clear ho op hX HP0 hXok hbx HF0 ed
  go_enter Tryz.func34, Tryz.ntmps34
  go_wp2_with (first | (go_at_call 27; refine (HA.out _ (hl.tr bel hB) (Nat.le_trans hB (Below.size (B := w.heap.size) (w := w) bel))).mono ?_; rintro e wa ⟨rfl, hba⟩; obtain ⟨hca, hfa⟩ := bcell hba; have hza := hba.size; (try simp at hza); have hya0 : w.heap.size < wa.heap.size := (by omega); have hya1 : w.heap.size + 1 < wa.heap.size := (by omega); have hya2 : w.heap.size + 1 + 1 < wa.heap.size := (by omega)) | (go_at_call 24; refine (HP.out _).mono ?_; rintro e wp ⟨rfl, hbp⟩; obtain ⟨hcp, hfp⟩ := bcell hbp; have hzp := hbp.size; (try simp at hzp); have hyp0 : w.heap.size < wp.heap.size := (by omega); have hyp1 : w.heap.size + 1 < wp.heap.size := (by omega); have hyp2 : w.heap.size + 1 + 1 < wp.heap.size := (by omega); have hypa : wa.heap.size < wp.heap.size := (by omega)) | (go_at_call 62; refine (HR.out _).mono ?_; rintro e w2 ⟨rfl, hb2⟩; obtain ⟨hc2, hf2⟩ := bcell hb2; have hz2 := hb2.size; (try simp at hz2); have lR2 : w.heap.size + 1 + 1 < w2.heap.size := (by omega)))
  refine post_gen2 (R := fun w2 => Blk w2 (w.heap.size + 1 + 1) 75 #[.int .u64 d1, .int .u64 d0, .int .u64 dd] ∧ Below w.heap.size w w2) ⟨?_, bel⟩ ?_
  · repeat (first | with_reducible exact three_put (x := .int .u64 0) (y := .int .u64 0) (z := .int .u64 0) blkA | (with_reducible refine Blk.new ?_ rfl; focus (simp; done)) | with_reducible refine Blk.alloc ?_ _ | with_reducible refine Blk.drew ?_)
  rintro w2 ⟨HR, hb2⟩
  have r0 := HR.cell 0
  have r1 := HR.cell 1
  have r2 := HR.cell 2
  simp only [List.getElem?_toArray, List.getElem?_cons_zero, List.getElem?_cons_succ] at r0 r1 r2
  rw [HF.out]
  exact bodyPost_ret (v := .agg #[.int .u64 d1, .int .u64 d0, .int .u64 dd]) (by simp [results, Tryz.results34, go_sem, r0, r1, r2]) rfl ⟨rfl, hb2⟩

set_option maxHeartbeats 4000000 in
set_option maxRecDepth 20000 in
theorem rDist_poly (B n c : Nat) (A : Option Addr) (l : List Pt) (x y : Int) (w : World) (hl : PtsAt w B A n l) (hB : B ≤ w.heap.size) (hck : ckRing l = 0) (hp : okPt ⟨x, y⟩ = true) :
    Calls Tryz.prog 34 #[obV 4 A n c, ptV x y] w (Ret w (fV (distF ⟨4, l⟩ ⟨x, y⟩))) := by
  have hn : n ≤ 64 := by have := ck_len hck; rw [hl.1] at this; omega
  have hn3 : 3 ≤ n := by have := (ring_lens hck).1; rw [hl.1] at this; omega
  have hn6 : n ≤ 1000000 := by omega
  have hall := ck_all hck
  have HA := Lib.hid (fun w (h : PtsAt w B A n l) (hB : B ≤ w.heap.size) => rBounds_ok B n c 4 A l w h hB hn6 hck)
  obtain ⟨X, hX⟩ : ∃ X, boundsS ⟨4, l⟩ = X := ⟨_, rfl⟩
  rw [hX] at HA
  clear hX
  have HP0 := fun w => rpoint_any x y w
  rw [hp] at HP0
  have HP : Hid (∀ w, Calls Tryz.prog 24 #[ptV x y] w (Ret w (.bool true))) := HP0
  have HH := Lib.hid (fun w (h : PtsAt w B A n l) (hB : B ≤ w.heap.size) => rhas2_any B n c x y A l w h hB hn6)
  have hD := distF_poly (o := ⟨4, l⟩) (p := ⟨x, y⟩) hck hp rfl
  rw [show (⟨4, l⟩ : Ob).pts = l from rfl, rhas_ok hck hp] at hD
  cases hr : rhasR l ⟨x, y⟩
  case true =>
    rw [hr] at HH
    rw [hr, if_pos rfl] at hD
    have HF : Hid (fV (distF ⟨4, l⟩ ⟨x, y⟩) = .agg #[.int .u64 0, .int .u64 0, .int .u64 1]) := by unfold Hid; rw [hD, fV_zero]
    clear hr hD HP0 hall hck hp
    go_enter Tryz.func34, Tryz.ntmps34
    go_wp2_with (first | (go_at_call 27; refine (HA.out _ (hl.tr bel hB) (Nat.le_trans hB (Below.size (B := w.heap.size) (w := w) bel))).mono ?_; rintro e wa ⟨rfl, hba⟩; obtain ⟨hca, hfa⟩ := bcell hba; have hza := hba.size; (try simp at hza); have hya0 : w.heap.size < wa.heap.size := (by omega); have hya1 : w.heap.size + 1 < wa.heap.size := (by omega); have hya2 : w.heap.size + 1 + 1 < wa.heap.size := (by omega)) | (go_at_call 24; refine (HP.out _).mono ?_; rintro e wp ⟨rfl, hbp⟩; obtain ⟨hcp, hfp⟩ := bcell hbp; have hzp := hbp.size; (try simp at hzp); have hyp0 : w.heap.size < wp.heap.size := (by omega); have hyp1 : w.heap.size + 1 < wp.heap.size := (by omega); have hyp2 : w.heap.size + 1 + 1 < wp.heap.size := (by omega); have hypa : wa.heap.size < wp.heap.size := (by omega)) | (go_at_call 63; refine (HH.out _ (hl.tr bel hB) (Nat.le_trans hB (Below.size (B := w.heap.size) (w := w) bel))).mono ?_; rintro e wh ⟨rfl, hbh⟩; obtain ⟨hch, hfh⟩ := bcell hbh; have hzh := hbh.size; (try simp at hzh); have hyh0 : w.heap.size < wh.heap.size := (by omega); have hyh1 : w.heap.size + 1 < wh.heap.size := (by omega); have hyh2 : w.heap.size + 1 + 1 < wh.heap.size := (by omega)))
    refine post_gen2 (R := fun w2 => Blk w2 (w.heap.size + 1 + 1) 75 #[.int .u64 0, .int .u64 0, .int .u64 1] ∧ Below w.heap.size w w2) ⟨?_, bel⟩ ?_
    · repeat (first | with_reducible exact three_put (x := .int .u64 0) (y := .int .u64 0) (z := .int .u64 0) blkA | (with_reducible refine Blk.new ?_ rfl; focus (simp; done)) | with_reducible refine Blk.alloc ?_ _ | with_reducible refine Blk.drew ?_)
    rintro w2 ⟨HR, hb2⟩
    have r0 := HR.cell 0
    have r1 := HR.cell 1
    have r2 := HR.cell 2
    simp only [List.getElem?_toArray, List.getElem?_cons_zero, List.getElem?_cons_succ] at r0 r1 r2
    rw [HF.out]
    exact bodyPost_ret (v := .agg #[.int .u64 0, .int .u64 0, .int .u64 1]) (by simp [results, Tryz.results34, go_sem, r0, r1, r2]) rfl ⟨rfl, hb2⟩
  rw [hr] at HH
  rw [hr, if_neg (by decide)] at hD
  have HD := Lib.hid hD
  have HAll := Lib.hid hall
  have HPp := Lib.hid hp
  clear hr hD HP0 hall hck hp
  go_enter Tryz.func34, Tryz.ntmps34
  go_wp2_with (first | (go_at_call 27; refine (HA.out _ (hl.tr bel hB) (Nat.le_trans hB (Below.size (B := w.heap.size) (w := w) bel))).mono ?_; rintro e wa ⟨rfl, hba⟩; obtain ⟨hca, hfa⟩ := bcell hba; have hza := hba.size; (try simp at hza); have hya0 : w.heap.size < wa.heap.size := (by omega); have hya1 : w.heap.size + 1 < wa.heap.size := (by omega); have hya2 : w.heap.size + 1 + 1 < wa.heap.size := (by omega)) | (go_at_call 24; refine (HP.out _).mono ?_; rintro e wp ⟨rfl, hbp⟩; obtain ⟨hcp, hfp⟩ := bcell hbp; have hzp := hbp.size; (try simp at hzp); have hyp0 : w.heap.size < wp.heap.size := (by omega); have hyp1 : w.heap.size + 1 < wp.heap.size := (by omega); have hyp2 : w.heap.size + 1 + 1 < wp.heap.size := (by omega); have hypa : wa.heap.size < wp.heap.size := (by omega)) | (go_at_call 63; refine (HH.out _ (hl.tr bel hB) (Nat.le_trans hB (Below.size (B := w.heap.size) (w := w) bel))).mono ?_; rintro e wh ⟨rfl, hbh⟩; obtain ⟨hch, hfh⟩ := bcell hbh; have hzh := hbh.size; (try simp at hzh); have hyh0 : w.heap.size < wh.heap.size := (by omega); have hyh1 : w.heap.size + 1 < wh.heap.size := (by omega); have hyh2 : w.heap.size + 1 + 1 < wh.heap.size := (by omega)))
  refine wp_gen2 (fun w2 => Below w.heap.size w w2 ∧ Blk w2 (w.heap.size + 1) 52 #[.int .i64 x, .int .i64 y] ∧ Blk w2 (w.heap.size + 1 + 1) 75 #[.int .u64 0, .int .u64 0, .int .u64 0]) ⟨bel, blkA, blkA⟩ ?_
  clear hba hca hfa hza hya0 hya1 hya2 hbp hcp hfp hzp hyp0 hyp1 hyp2 hypa hbh hch hfh hzh hyh0 hyh1 hyh2 HA HP HH
  rintro w0 ⟨hb0, hPt, hR⟩
  have HSg := Lib.hid (segsF_len l ⟨x, y⟩)
  have HS : Hid (∀ a b : Pt, ∀ w, Calls Tryz.prog 64 #[.agg #[.int .i64 a.x, .int .i64 a.y], .agg #[.int .i64 b.x, .int .i64 b.y], .agg #[.int .i64 x, .int .i64 y]] w (Ret w (fV (segF a b ⟨x, y⟩)))) := fun a b w => rsegDist_any _ _ _ _ _ _ w
  obtain ⟨b, off, rfl, hab, c0, c1⟩ := (hl.below (hb0.mono hB)).at_ (k := 0) (by omega)
  obtain ⟨b', off', he, hab', c2, c3⟩ := (hl.below (hb0.mono hB)).at_ (k := 1) (by omega)
  injection he with he
  injection he with he1 he2
  subst he1 he2
  simp only [Nat.zero_mul, Nat.add_zero, Nat.one_mul] at c0 c1 c2 c3
  have hbs := hb0.size
  have hbw : b < w0.heap.size := by omega
  have h0n : 0 < n := by omega
  have h1n : 1 < n := by omega
  have h1z : (1 : Int) < (n : Int) := by omega
  have lP := hPt.lt
  have lR := hR.lt
  have cP := hPt.cell
  have hnx0 : nx l 0 = pt l 1 := by
    unfold nx
    rw [hl.1, Nat.mod_eq_of_lt (by omega)]
  have HT1 : Hid (minF ((segsF l ⟨x, y⟩).take 1) = segF (pt l 0) (pt l 1) ⟨x, y⟩) := by
    unfold Hid
    rw [minF_take (k := 0) (by rw [HSg.out, hl.1]; omega), if_pos (.inl rfl), ← hnx0]
    have := fr_of (l := segsF l ⟨x, y⟩) (k := 0) (by rw [HSg.out, hl.1]; omega)
    rw [segsF_at (by rw [hl.1]; omega)] at this
    exact (Option.some.inj this).symm
  obtain ⟨d1, d0, dd, ed⟩ := fcs_ex (segF (pt l 0) (pt l 1) ⟨x, y⟩)
  have HS0 : Hid (∀ w, Calls Tryz.prog 64 #[.agg #[.int .i64 (pt l 0).x, .int .i64 (pt l 0).y], .agg #[.int .i64 (pt l 1).x, .int .i64 (pt l 1).y], .agg #[.int .i64 x, .int .i64 y]] w (Ret w (.agg #[.int .u64 d1, .int .u64 d0, .int .u64 dd]))) := fun w => by
    have h := HS.out (pt l 0) (pt l 1) w
    rw [fV_fcs, ed] at h
    exact h
  have HE : Hid (fcs (minF ((segsF l ⟨x, y⟩).take 1)) = [.int .u64 d1, .int .u64 d0, .int .u64 dd]) := by unfold Hid; rw [HT1.out, ed]
  clear ed hnx0
  refine wp_region_alloc' [0, 1, 2, 3, 4, 5, 6, 7] [8] [9] (fun _ => #[.int .u64 0, .int .u64 0, .int .u64 0]) (by kernel_rfl) (by kernel_rfl) (fun _ _ d _ _ h => by cases d <;> exact h) (by intro i hi w; simp only [List.mem_cons, List.not_mem_nil, or_false] at hi; rcases hi with rfl <;> simp only [List.getD_cons_zero, List.getD_cons_succ, tyOf] <;> kernel_rfl) (fun KN hKN => ?_)
  simp only [List.map_cons, List.map_nil, List.getD_cons_zero, List.getD_cons_succ, bare, gslot, List.getElem?_cons_zero, List.getElem?_cons_succ, Option.bind_some]
  repeat ((try simp only [Act.put, List.setIfInBounds_toArray, List.set_cons_zero, List.set_cons_succ]); first | (refine lexN_quiet (v := ?_) rfl ?_ ?_; rotate_left; focus (intro wq hq; obtain ⟨hcq, hfq⟩ := bcell hq; go_simp; try with_reducible rfl)) | (refine lexN_loud (v := ?_) rfl ?_ ?_; rotate_left; focus (intro wq hq K hK; obtain ⟨hcq, hfq⟩ := bcell hq; go_simp; (first | (go_at_call 64; refine (HS0.out _).mono ?_; rintro e w1 ⟨rfl, hb1⟩; obtain ⟨hc1, hf1⟩ := bcell hb1; have hz1 := hb1.size; (try simp at hz1))); refine hK.out _ _ ?_ bel; simp only [Act.put, List.setIfInBounds_toArray, List.set_cons_zero, List.set_cons_succ]; try with_reducible rfl)))
  (try simp only [Act.put, List.setIfInBounds_toArray, List.set_cons_zero, List.set_cons_succ])
  refine lexN_nil (hKN.out _ ?_)
  clear hKN KN
  intro gs wf hwf hgs hds
  simp only [List.map_cons, List.map_nil, List.getD_cons_zero, List.getD_cons_succ, bare, gslot, List.getElem?_cons_zero, List.getElem?_cons_succ, Option.bind_some, List.foldl_cons, List.foldl_nil, ptrV]
  obtain ⟨hg8, HB8⟩ := hgs 8 (by decide)
  simp only [List.getD_cons_zero, List.getD_cons_succ, tyOf] at HB8
  clear hgs hds
  generalize gs 8 = g8 at *
  have cg8 := HB8.cell
  have fg8 := HB8.frozen
  repeat ((try simp only [Act.put, List.setIfInBounds_toArray, List.set_cons_zero, List.set_cons_succ]); first | (refine lexL_loud wantB_none rfl (fun K hK => ?_); go_simp; refine hK.out _ _ bel ?_; clear hK K) | (refine lexL_quiet (v := ?_) wantB_none rfl ?_ ?_; rotate_left; focus (intro wq hq; go_simp; try with_reducible rfl)))
  refine lexL_nil ?_
  refine keep_world (R := fun w2 => Below w.heap.size w w2 ∧ Blk w2 g8 75 #[.int .u64 d1, .int .u64 d0, .int .u64 dd] ∧ Blk w2 (w.heap.size + 1) 52 #[.int .i64 x, .int .i64 y] ∧ Blk w2 (w.heap.size + 1 + 1) 75 #[.int .u64 0, .int .u64 0, .int .u64 0]) ⟨bel, (((HB8.set_ 0 _).set_ 1 _).set_ 2 _).eq_ (by simp), blkA, blkA⟩ ?_
  rintro w2 ⟨hb2, h8, hE0, hE1⟩
  clear cg8 fg8 HB8
  have cg8 := h8.cell
  have fg8 := h8.frozen
  have lg8 := h8.lt
  obtain ⟨hc2, hf2⟩ := bcell hb2
  have hG : Blk w2 g8 75 (fcs (minF ((segsF l ⟨x, y⟩).take 1))).toArray := by rw [HE.out]; exact h8
  have gne : Hid (g8 ≠ w.heap.size + 1 ∧ g8 ≠ w.heap.size + 1 + 1 ∧ w.heap.size ≤ g8) := by
    have := hb0.size
    have := hR.lt
    unfold Hid
    omega
  clear hb0 hPt hR cP lP lR hbs hbw c0 c1 c2 c3 HS0 HE HT1 hwf hc2 hf2 h8 cg8 fg8 lg8
  go_wp2_with fail
  go_loopw [9] (fun i wr => ∃ k : Nat, 1 ≤ k ∧ k ≤ n ∧ i = .int .i64 k ∧ Blk wr g8 75 (fcs (minF ((segsF l ⟨x, y⟩).take k))).toArray ∧ Blk wr (w.heap.size + 1) 52 #[.int .i64 x, .int .i64 y] ∧ Blk wr (w.heap.size + 1 + 1) 75 #[.int .u64 0, .int .u64 0, .int .u64 0] ∧ Below w.heap.size w wr) (fun i _ => n - (intOf i).toNat)
  case atStart => exact ⟨1, Nat.le_refl _, by omega, rfl, hG, hE0, hE1, hb2⟩
  case round =>
    clear hG hE0 hE1 hb2
    obtain ⟨k, hk1, hk, rfl, hG, hPt, hR, hb⟩ := hrel
    obtain ⟨o1, o0, od, eo⟩ := fcs_ex (minF ((segsF l ⟨x, y⟩).take k))
    have HRE := Lib.hid eo
    rw [eo] at hG
    have lR := hR.lt
    have lP := hPt.lt
    have lG := hG.lt
    have hbs := hb.size
    have gn1 := gne.out.1
    have gn2 := gne.out.2.1
    have gn3 := gne.out.2.2
    by_cases hlt : k < n
    · obtain ⟨b1, off1, he, hab, c0, c1⟩ := (hl.below (hb.mono hB)).at_ hlt
      injection he with he
      injection he with he1 he2
      subst he1 he2
      obtain ⟨c2, c3⟩ := nx_of (hl.below (hb.mono hB)) hlt
      have hbw : b < wr.heap.size := by omega
      have hk0 : (k : Int) < (n : Int) := by omega
      have hkl : k < l.length := by rw [hl.1]; exact hlt
      obtain ⟨m, hm, hwr, htm, hml⟩ := step_of hlt hn6
      rw [hm] at c2 c3
      clear hm
      have hn0 : ¬ n = 0 := by omega
      have hml0 : (m : Int) < (n : Int) := by omega
      have cG := hG.cell
      have cPt := hPt.cell
      have hks : k < (segsF l ⟨x, y⟩).length := by rw [HSg.out]; exact hkl
      have hfr : fr (segsF l ⟨x, y⟩) k = segF (pt l k) (nx l k) ⟨x, y⟩ := by
        have := fr_of hks
        rw [segsF_at hkl] at this
        exact (Option.some.inj this).symm
      have hT := minF_take hks
      rw [hfr] at hT
      have hok : ∀ z ∈ segsF l ⟨x, y⟩, FrOk z := fun z hz => by
        obtain ⟨i, hi, e⟩ := mem_segsF hz
        rw [← e]
        exact segF_ok (okPt_pt HAll.out hi) (okPt_nx HAll.out hi) HPp.out
      obtain ⟨d1, d0, dd, ed⟩ := fcs_ex (segF (pt l k) (nx l k) ⟨x, y⟩)
      have HS2 : Hid (∀ w, Calls Tryz.prog 64 #[.agg #[.int .i64 (pt l k).x, .int .i64 (pt l k).y], .agg #[.int .i64 (nx l k).x, .int .i64 (nx l k).y], .agg #[.int .i64 x, .int .i64 y]] w (Ret w (.agg #[.int .u64 d1, .int .u64 d0, .int .u64 dd]))) := fun w => by
        have h := HS.out (pt l k) (nx l k) w
        rw [fV_fcs, ed] at h
        exact h
      obtain ⟨cm, ecm⟩ : ∃ cm, cmpF (segF (pt l k) (nx l k) ⟨x, y⟩) (minF ((segsF l ⟨x, y⟩).take k)) = cm := ⟨_, rfl⟩
      have hC : Hid (∀ w, Calls Tryz.prog 33 #[.agg #[.int .u64 d1, .int .u64 d0, .int .u64 dd], .agg #[.int .u64 o1, .int .u64 o0, .int .u64 od]] w (Ret w (.int .i64 cm))) := fun w => by
        have h := rCmpD_any (segF (pt l k) (nx l k) ⟨x, y⟩) (minF ((segsF l ⟨x, y⟩).take k)) (segF_ok (okPt_pt HAll.out hkl) (okPt_nx HAll.out hkl) HPp.out) (minF_ok (fun x hx => hok x (List.mem_of_mem_take hx))) w
        rw [fV_fcs, fV_fcs, eo, ed, ecm] at h
        exact h
      rw [ecm] at hT
      have HED := Lib.hid ed
      clear eo ed hok hfr ecm
      go_wp2_with fail
      refine wp_region_alloc' [0, 1, 2, 3, 4, 5, 6, 7, 8, 9, 10, 11, 12, 13] [14] [15] (fun _ => #[.int .u64 0, .int .u64 0, .int .u64 0]) (by kernel_rfl) (by kernel_rfl) (fun _ _ d _ _ h => by cases d <;> exact h) (by intro i hi w; simp only [List.mem_cons, List.not_mem_nil, or_false] at hi; rcases hi with rfl <;> simp only [List.getD_cons_zero, List.getD_cons_succ, tyOf] <;> kernel_rfl) (fun KN hKN => ?_)
      simp only [List.map_cons, List.map_nil, List.getD_cons_zero, List.getD_cons_succ, bare, gslot, List.getElem?_cons_zero, List.getElem?_cons_succ, Option.bind_some]
      repeat ((try simp only [Act.put, List.setIfInBounds_toArray, List.set_cons_zero, List.set_cons_succ]); first | (refine lexN_quiet (v := ?_) rfl ?_ ?_; rotate_left; focus (intro wq hq; obtain ⟨hcq, hfq⟩ := bcell hq; go_simp; try with_reducible rfl)) | (refine lexN_loud (v := ?_) rfl ?_ ?_; rotate_left; focus (intro wq hq K hK; obtain ⟨hcq, hfq⟩ := bcell hq; go_simp; (first | (go_at_call 64; refine (HS2.out _).mono ?_; rintro e w1 ⟨rfl, hb1⟩; obtain ⟨hc1, hf1⟩ := bcell hb1; have hz1 := hb1.size; (try simp at hz1))); refine hK.out _ _ ?_ bel; simp only [Act.put, List.setIfInBounds_toArray, List.set_cons_zero, List.set_cons_succ]; try with_reducible rfl)))
      (try simp only [Act.put, List.setIfInBounds_toArray, List.set_cons_zero, List.set_cons_succ])
      refine lexN_nil (hKN.out _ ?_)
      clear hKN KN
      intro gs wf hwf hgs hds
      simp only [List.map_cons, List.map_nil, List.getD_cons_zero, List.getD_cons_succ, bare, gslot, List.getElem?_cons_zero, List.getElem?_cons_succ, Option.bind_some, List.foldl_cons, List.foldl_nil, ptrV]
      obtain ⟨hg14, HB14⟩ := hgs 14 (by decide)
      simp only [List.getD_cons_zero, List.getD_cons_succ, tyOf] at HB14
      clear hgs hds
      generalize gs 14 = g14 at *
      have cg14 := HB14.cell
      have fg14 := HB14.frozen
      repeat ((try simp only [Act.put, List.setIfInBounds_toArray, List.set_cons_zero, List.set_cons_succ]); first | (refine lexL_loud wantB_none rfl (fun K hK => ?_); go_simp; refine hK.out _ _ bel ?_; clear hK K) | (refine lexL_quiet (v := ?_) wantB_none rfl ?_ ?_; rotate_left; focus (intro wq hq; go_simp; try with_reducible rfl)))
      refine lexL_nil ?_
      refine keep_world (R := fun w2 => Below w.heap.size w w2 ∧ Blk w2 g14 75 #[.int .u64 d1, .int .u64 d0, .int .u64 dd] ∧ Blk w2 (w.heap.size + 1) 52 #[.int .i64 x, .int .i64 y] ∧ Blk w2 (w.heap.size + 1 + 1) 75 #[.int .u64 0, .int .u64 0, .int .u64 0] ∧ Blk w2 g8 75 #[.int .u64 o1, .int .u64 o0, .int .u64 od]) ⟨bel, (((HB14.set_ 0 _).set_ 1 _).set_ 2 _).eq_ (by simp), blkA, blkA, blkA⟩ ?_
      rintro w2 ⟨hb2, h14, hE0, hE1, hE2⟩
      clear cg14 fg14 HB14
      have cg14 := h14.cell
      have fg14 := h14.frozen
      have lg14 := h14.lt
      obtain ⟨hc2, hf2⟩ := bcell hb2
      have hg14 : g14 ≠ g8 := by omega
      clear hwf hc2 hf2 c0 c1 c2 c3 hG hPt hR cG cPt HS2
      have cG := hE2.cell
      have fG := hE2.frozen
      have lG := hE2.lt
      have hg8w : g8 < w2.heap.size := by omega
      by_cases hlt0 : cm < 0
      · rw [if_pos (.inr hlt0)] at hT
        have HN : Hid (∀ wx, Blk wx g8 75 #[.int .u64 d1, .int .u64 d0, .int .u64 dd] → Blk wx g8 75 (fcs (minF ((segsF l ⟨x, y⟩).take (k + 1)))).toArray) := fun wx h => by rw [hT, HED.out]; exact h
        clear hT HED HRE
        go_wp2_with (go_at_call 33; refine (hC.out _).mono ?_; rintro e w5 ⟨rfl, hb5⟩; obtain ⟨hc5, hf5⟩ := bcell hb5; have hz5 := hb5.size; (try simp at hz5); have lG5 : g8 < w5.heap.size := (by omega); have lH5 : g14 < w5.heap.size := (by omega))
        go_roundw
        case rel => exact ⟨k + 1, by omega, by omega, by go_num, HN.out _ (by repeat (first | with_reducible exact three_put (x := .int .u64 o1) (y := .int .u64 o0) (z := .int .u64 od) blkA | (with_reducible refine Blk.new ?_ rfl; focus (simp; done)) | with_reducible refine Blk.alloc ?_ _ | with_reducible refine Blk.drew ?_)), blkA, blkA, bel⟩
        case measure => simp [intOf]; omega
      · rw [if_neg (fun h => h.elim (by omega) hlt0)] at hT
        have HN : Hid (∀ wx, Blk wx g8 75 #[.int .u64 o1, .int .u64 o0, .int .u64 od] → Blk wx g8 75 (fcs (minF ((segsF l ⟨x, y⟩).take (k + 1)))).toArray) := fun wx h => by rw [hT, HRE.out]; exact h
        clear hT HED HRE
        go_wp2_with (go_at_call 33; refine (hC.out _).mono ?_; rintro e w5 ⟨rfl, hb5⟩; obtain ⟨hc5, hf5⟩ := bcell hb5; have hz5 := hb5.size; (try simp at hz5); have lG5 : g8 < w5.heap.size := (by omega); have lH5 : g14 < w5.heap.size := (by omega))
        go_roundw
        case rel => exact ⟨k + 1, by omega, by omega, by go_num, HN.out _ blkA, blkA, blkA, bel⟩
        case measure => simp [intOf]; omega
    · have hkn : k = n := by omega
      subst hkn
      have HF : Hid (fV (distF ⟨4, l⟩ ⟨x, y⟩) = .agg #[.int .u64 o1, .int .u64 o0, .int .u64 od]) := by
        unfold Hid
        rw [HD.out, fV_fcs, ← HRE.out, List.take_of_length_le (by rw [HSg.out, hl.1]; exact Nat.le_refl _)]
      have cG := hG.cell
      have cR := hR.cell
      have fR := hR.frozen
      clear HRE eo HD HSg
      go_wp2_with fail
      refine post_gen2 (R := fun w2 => Blk w2 (w.heap.size + 1 + 1) 75 #[.int .u64 o1, .int .u64 o0, .int .u64 od] ∧ Below w.heap.size w w2) ⟨?_, bel⟩ ?_
      · repeat (first | with_reducible exact three_put (x := .int .u64 0) (y := .int .u64 0) (z := .int .u64 0) blkA | (with_reducible refine Blk.new ?_ rfl; focus (simp; done)) | with_reducible refine Blk.alloc ?_ _ | with_reducible refine Blk.drew ?_)
      rintro w2 ⟨HR, hb2⟩
      have r0 := HR.cell 0
      have r1 := HR.cell 1
      have r2 := HR.cell 2
      simp only [List.getElem?_toArray, List.getElem?_cons_zero, List.getElem?_cons_succ] at r0 r1 r2
      rw [HF.out]
      exact bodyPost_ret (v := .agg #[.int .u64 o1, .int .u64 o0, .int .u64 od]) (by simp [results, Tryz.results34, go_sem, r0, r1, r2]) rfl ⟨rfl, hb2⟩

set_option maxHeartbeats 1000000 in
set_option maxRecDepth 20000 in
theorem rDist_any (B n c : Nat) (k : Int) (A : Option Addr) (l : List Pt) (x y : Int) (w : World) (hl : PtsAt w B A n l) (hB : B ≤ w.heap.size) (hn : n ≤ 1000000) :
    Calls Tryz.prog 34 #[obV k A n c, ptV x y] w (Ret w (fV (distF ⟨k, l⟩ ⟨x, y⟩))) := by
  by_cases hk : k = 4
  case neg => exact rDist_box B n c k A l x y w hl hB hn hk
  subst hk
  by_cases ho : ckOb ⟨4, l⟩ = 0
  case neg =>
    have HF : Hid (fV (distF ⟨4, l⟩ ⟨x, y⟩) = .agg #[.int .u64 0, .int .u64 0, .int .u64 0]) := by unfold Hid distF; rw [if_neg (fun h => ho h.1), fV_fcs, fcs_none]
    obtain ⟨m, hm⟩ : ∃ m : Nat, ckOb ⟨4, l⟩ = m := ⟨_, rfl⟩
    have hm0 : ((m : Int) != 0) = true := by rw [bne_iff_ne]; omega
    have HA := Lib.hid (fun w (h : PtsAt w B A n l) (hB : B ≤ w.heap.size) => rBounds_bad B n c 4 A l w h hB hn ho)
    rw [hm] at HA
    clear ho hm
    go_enter Tryz.func34, Tryz.ntmps34
    go_wp2_with (first | (go_at_call 27; refine (HA.out _ (hl.tr bel hB) (Nat.le_trans hB (Below.size (B := w.heap.size) (w := w) bel))).mono ?_; rintro e wa ⟨rfl, hba⟩; obtain ⟨hca, hfa⟩ := bcell hba; have hza := hba.size; (try simp at hza); have hya0 : w.heap.size < wa.heap.size := (by omega); have hya1 : w.heap.size + 1 < wa.heap.size := (by omega); have hya2 : w.heap.size + 1 + 1 < wa.heap.size := (by omega)))
    refine post_gen2 (R := fun w2 => Blk w2 (w.heap.size + 1 + 1) 75 #[.int .u64 0, .int .u64 0, .int .u64 0] ∧ Below w.heap.size w w2) ⟨?_, bel⟩ ?_
    · repeat (first | with_reducible exact three_put (x := .int .u64 0) (y := .int .u64 0) (z := .int .u64 0) blkA | (with_reducible refine Blk.new ?_ rfl; focus (simp; done)) | with_reducible refine Blk.alloc ?_ _ | with_reducible refine Blk.drew ?_)
    rintro w2 ⟨HR, hb2⟩
    have r0 := HR.cell 0
    have r1 := HR.cell 1
    have r2 := HR.cell 2
    simp only [List.getElem?_toArray, List.getElem?_cons_zero, List.getElem?_cons_succ] at r0 r1 r2
    rw [HF.out]
    exact bodyPost_ret (v := .agg #[.int .u64 0, .int .u64 0, .int .u64 0]) (by simp [results, Tryz.results34, go_sem, r0, r1, r2]) rfl ⟨rfl, hb2⟩
  cases op : okPt ⟨x, y⟩
  case true => exact rDist_poly B n c A l x y w hl hB (ring_of4 ho) op
  have HA := Lib.hid (fun w (h : PtsAt w B A n l) (hB : B ≤ w.heap.size) => rBounds_ok B n c 4 A l w h hB hn ho)
  obtain ⟨X, hX⟩ : ∃ X, boundsS ⟨4, l⟩ = X := ⟨_, rfl⟩
  rw [hX] at HA
  have HP0 := fun w => rpoint_any x y w
  rw [op] at HP0
  have HP : Hid (∀ w, Calls Tryz.prog 24 #[ptV x y] w (Ret w (.bool false))) := HP0
  have HF : Hid (fV (distF ⟨4, l⟩ ⟨x, y⟩) = .agg #[.int .u64 0, .int .u64 0, .int .u64 0]) := by unfold Hid distF; rw [if_neg (fun h => by rw [op] at h; cases h.2), fV_fcs, fcs_none]
  clear ho op hX HP0
  go_enter Tryz.func34, Tryz.ntmps34
  go_wp2_with (first | (go_at_call 27; refine (HA.out _ (hl.tr bel hB) (Nat.le_trans hB (Below.size (B := w.heap.size) (w := w) bel))).mono ?_; rintro e wa ⟨rfl, hba⟩; obtain ⟨hca, hfa⟩ := bcell hba; have hza := hba.size; (try simp at hza); have hya0 : w.heap.size < wa.heap.size := (by omega); have hya1 : w.heap.size + 1 < wa.heap.size := (by omega); have hya2 : w.heap.size + 1 + 1 < wa.heap.size := (by omega)) | (go_at_call 24; refine (HP.out _).mono ?_; rintro e wp ⟨rfl, hbp⟩; obtain ⟨hcp, hfp⟩ := bcell hbp; have hzp := hbp.size; (try simp at hzp); have hyp0 : w.heap.size < wp.heap.size := (by omega); have hyp1 : w.heap.size + 1 < wp.heap.size := (by omega); have hyp2 : w.heap.size + 1 + 1 < wp.heap.size := (by omega); have hypa : wa.heap.size < wp.heap.size := (by omega)))
  refine post_gen2 (R := fun w2 => Blk w2 (w.heap.size + 1 + 1) 75 #[.int .u64 0, .int .u64 0, .int .u64 0] ∧ Below w.heap.size w w2) ⟨?_, bel⟩ ?_
  · repeat (first | with_reducible exact three_put (x := .int .u64 0) (y := .int .u64 0) (z := .int .u64 0) blkA | (with_reducible refine Blk.new ?_ rfl; focus (simp; done)) | with_reducible refine Blk.alloc ?_ _ | with_reducible refine Blk.drew ?_)
  rintro w2 ⟨HR, hb2⟩
  have r0 := HR.cell 0
  have r1 := HR.cell 1
  have r2 := HR.cell 2
  simp only [List.getElem?_toArray, List.getElem?_cons_zero, List.getElem?_cons_succ] at r0 r1 r2
  rw [HF.out]
  exact bodyPost_ret (v := .agg #[.int .u64 0, .int .u64 0, .int .u64 0]) (by simp [results, Tryz.results34, go_sem, r0, r1, r2]) rfl ⟨rfl, hb2⟩
end Go.Proofs.YtahiaekoaokgnaaGreat
