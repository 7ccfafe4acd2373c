import Derived.Test.YtmaogalgganhgaaDoorPlain6
set_option linter.unusedVariables false
set_option linter.unusedSimpArgs false
namespace Pg
/- plain laws of objects and queries: what the statements of chapter 6 say -/

theorem ck_kinds {o : Ob} (h : ckOb o = 0) : (isBox o = true ∧ okBx (obBox o) = true) ∨ (o.kind = 4 ∧ isBox o = false ∧ ckRing o.pts = 0) := by
  obtain ⟨k, l⟩ := o
  unfold ckOb at h
  simp only at h
  split at h
  · rename_i e
    subst e
    left
    split at h
    · exact ⟨rfl, by simpa [okBx, obBox] using h⟩
    · omega
  · split at h
    · rename_i e
      subst e
      left
      split at h
      · refine ⟨rfl, ?_⟩
        unfold ckInt at h
        split at h
        · rename_i hp
          split at h
          · omega
          · rw [okBx_iff]
            simp only [obBox, okPt_iff] at *
            simp
            omega
        · omega
      · omega
    · split at h
      · rename_i e
        subst e
        left
        split at h
        · exact ⟨rfl, by simpa [okBx, obBox] using h⟩
        · omega
      · split at h
        · rename_i n1 n2 n3 e
          subst e
          exact .inr ⟨rfl, rfl, h⟩
        · omega
theorem bounds_okBx {o : Ob} (h : ckOb o = 0) : okBx (boundsS o) = true := by
  rcases ck_kinds h with ⟨h1, h2⟩ | ⟨_, h1, h2⟩
  · rw [boundsS, h1]; exact h2
  · rw [boundsS, h1]
    obtain ⟨a, _, b⟩ := ring_lens h2
    exact (ringBx_spec (by omega) b).2.2.2
theorem okBx_ck {r : Bx} : okBx r = true ↔ ckBox r = 0 := by unfold okBx; rw [decide_eq_true_eq]
theorem match_meets {o : Ob} {r : Bx} {l : List Pt} (ho : ckOb o = 0) (hr : ckBox r = 0) : matchS o ⟨1, r, l⟩ = if isBox o then bmeets (obBox o) r else cutS o.pts r := by
  unfold matchS
  rw [if_pos ⟨ho, by simpa [ckQu] using hr⟩, if_pos rfl]
  rfl
theorem match_in {o : Ob} {r : Bx} {l : List Pt} (ho : ckOb o = 0) (hr : ckBox r = 0) : matchS o ⟨2, r, l⟩ = binside (boundsS o) r := by
  unfold matchS
  rw [if_pos ⟨ho, by simpa [ckQu] using hr⟩, if_neg (by simp), if_pos rfl]
theorem match_has {o : Ob} {r : Bx} {l : List Pt} (ho : ckOb o = 0) (hr : okPt r.lo = true) : matchS o ⟨3, r, l⟩ = if isBox o then bmeets (obBox o) ⟨r.lo, r.lo⟩ else cutS o.pts ⟨r.lo, r.lo⟩ := by
  unfold matchS
  rw [if_pos ⟨ho, by simp [ckQu, hr]⟩, if_neg (by simp), if_neg (by simp), if_pos rfl]
  rfl
theorem match_cross {o : Ob} {r : Bx} {l : List Pt} (ho : ckOb o = 0) (hl : ckRing l = 0) : matchS o ⟨4, r, l⟩ = if isBox o then cutS l (obBox o) else ringsS o.pts l := by
  unfold matchS
  rw [if_pos ⟨ho, by simpa [ckQu] using hl⟩, if_neg (by simp), if_neg (by simp), if_neg (by simp)]
  rfl
theorem ck_poly {l : List Pt} (h : ckRing l = 0) : ckOb ⟨4, l⟩ = 0 := h
theorem touch_poly {o : Ob} {l : List Pt} (ho : ckOb o = 0) (hl : ckRing l = 0) : touchS o ⟨4, l⟩ = if isBox o then cutS l (obBox o) else ringsS o.pts l := by
  unfold touchS
  rw [ho, ck_poly hl]
  rfl

/-! RelCross -/
theorem cross_no {o : Ob} {l : List Pt} (r : Bx) (h : ckRing l ≠ 0) : matchS o ⟨4, r, l⟩ = false := by
  unfold matchS
  rw [if_neg]
  rintro ⟨_, k⟩
  exact h (by simpa [ckQu] using k)
theorem cross_touch {o : Ob} {l : List Pt} (r : Bx) (ho : ckOb o = 0) (hl : ckRing l = 0) : matchS o ⟨4, r, l⟩ = touchS o ⟨4, l⟩ := by rw [match_cross ho hl, touch_poly ho hl]
theorem cross_self {l : List Pt} (r : Bx) (hl : ckRing l = 0) : matchS ⟨4, l⟩ ⟨4, r, l⟩ = true := by
  rw [match_cross (ck_poly hl) hl]
  show ringsS l l = true
  rw [ringsS_eq hl hl]
  unfold ringsR
  rw [rhasR_first hl]
  rfl
theorem cross_poly {o : Ob} {l : List Pt} (r r' : Bx) (ho : ckOb o = 0) (hl : ckRing l = 0) (h4 : o.kind = 4) : matchS o ⟨4, r, l⟩ = matchS ⟨4, l⟩ ⟨4, r', o.pts⟩ := by
  obtain ⟨k, p⟩ := o
  simp only at h4
  subst h4
  have hp : ckRing p = 0 := ho
  rw [match_cross ho hl, match_cross (ck_poly hl) hp]
  show ringsS p l = ringsS l p
  rw [ringsS_eq hp hl, ringsS_eq hl hp, ringsR_swap]
theorem cross_point {o : Ob} {l : List Pt} (r : Bx) (q : Pt) (ho : ckOb o = 0) (hl : ckRing l = 0) (h1 : o.kind = 1) : matchS o ⟨4, r, l⟩ = matchS ⟨4, l⟩ ⟨3, ⟨pt o.pts 0, q⟩, []⟩ := by
  obtain ⟨k, p⟩ := o
  simp only at h1
  subst h1
  have hb : okBx (obBox ⟨1, p⟩) = true := by
    rcases ck_kinds ho with h | ⟨h, _⟩
    · exact h.2
    · cases h
  have hp := ((okBx_iff _).1 hb).1.1
  rw [match_cross ho hl, match_has (r := ⟨pt p 0, q⟩) (ck_poly hl) hp]
  rfl
theorem cross_box {o : Ob} {l : List Pt} (r : Bx) (ho : ckOb o = 0) (hl : ckRing l = 0) (h3 : o.kind = 3) : matchS o ⟨4, r, l⟩ = matchS ⟨4, l⟩ ⟨1, ⟨pt o.pts 0, pt o.pts 1⟩, []⟩ := by
  obtain ⟨k, p⟩ := o
  simp only at h3
  subst h3
  have hb : okBx (obBox ⟨3, p⟩) = true := by
    rcases ck_kinds ho with h | ⟨h, _⟩
    · exact h.2
    · cases h
  rw [match_cross ho hl, match_meets (r := ⟨pt p 0, pt p 1⟩) (ck_poly hl) (okBx_ck.1 hb)]
  rfl

/-! RelNested -/
theorem union2 {a b : Bx} (ha : ckBox a = 0) (hb : ckBox b = 0) : (union [a, b]).2 = 0 ∧ okBx (union [a, b]).1 = true ∧ inB (union [a, b]).1 a ∧ inB (union [a, b]).1 b := by
  have h := unionGo_spec [a, b] a (by intro c hc; simp at hc; rcases hc with rfl | rfl <;> assumption)
  obtain ⟨h1, h2, h3, h4⟩ := h
  have hA := (okBx_iff a).1 (okBx_ck.2 ha)
  have hB := (okBx_iff b).1 (okBx_ck.2 hb)
  refine ⟨h1, ?_, h3 a (by simp), h3 b (by simp)⟩
  have hl : inB ⟨⟨-1073741823, -1073741823⟩, ⟨1073741823, 1073741823⟩⟩ (union [a, b]).1 := h4 _ (by rw [okPt_iff, okPt_iff] at hA; unfold inB; simp only; omega) (by
    intro c hc
    rw [okPt_iff, okPt_iff] at hA hB
    simp at hc
    rcases hc with rfl | rfl <;> (unfold inB; simp only; omega))
  have h3a := h3 a (by simp)
  have e : (union [a, b]).1 = (unionGo a [a, b]).1 := rfl
  rw [okBx_iff, okPt_iff, okPt_iff, e]
  rw [e] at hl
  unfold inB at hl h3a
  simp only at hl
  rw [okPt_iff, okPt_iff] at hA
  omega
theorem bmeets_iff {a b : Bx} (ha : okBx a = true) (hb : okBx b = true) : bmeets a b = true ↔ (a.lo.x ≤ b.hi.x ∧ b.lo.x ≤ a.hi.x) ∧ a.lo.y ≤ b.hi.y ∧ b.lo.y ≤ a.hi.y := by
  simp [bmeets, ha, hb, bmeetsR, and_assoc]
theorem binside_iff {a b : Bx} (ha : okBx a = true) (hb : okBx b = true) : binside a b = true ↔ inB b a := by
  have hA := (okBx_iff a).1 ha
  simp only [binside, ha, Bool.true_and, Bool.and_eq_true, bhas_iff hb hA.1.1, bhas_iff hb hA.1.2]
  unfold inR inB
  omega
theorem nest_meets {o : Ob} {a u : Bx} (ho : ckOb o = 0) (ha : ckBox a = 0) (hu : okBx u = true) (h : inB u a) (hm : matchS o ⟨1, a, []⟩ = true) : matchS o ⟨1, u, []⟩ = true := by
  rw [match_meets ho ha] at hm
  rw [match_meets ho (okBx_ck.1 hu)]
  rcases ck_kinds ho with ⟨h1, h2⟩ | ⟨_, h1, h2⟩
  · rw [h1, if_pos rfl] at hm
    rw [h1, if_pos rfl]
    rw [bmeets_iff h2 (okBx_ck.2 ha)] at hm
    rw [bmeets_iff h2 hu]
    unfold inB at h
    omega
  · rw [h1, if_neg (by simp)] at hm
    rw [h1, if_neg (by simp)]
    exact cutS_mono h2 (okBx_ck.2 ha) hu h hm
theorem nest_in {o : Ob} {a u : Bx} (ho : ckOb o = 0) (ha : ckBox a = 0) (hu : okBx u = true) (h : inB u a) (hm : matchS o ⟨2, a, []⟩ = true) : matchS o ⟨2, u, []⟩ = true := by
  have hb := bounds_okBx ho
  rw [match_in ho ha, binside_iff hb (okBx_ck.2 ha)] at hm
  rw [match_in ho (okBx_ck.1 hu), binside_iff hb hu]
  unfold inB at *
  omega
theorem nest_both {o : Ob} {a b : Bx} (ho : ckOb o = 0) (ha : ckBox a = 0) (hb : ckBox b = 0) (h1 : matchS o ⟨2, a, []⟩ = true) (h2 : matchS o ⟨2, b, []⟩ = true) : bmeets a b = true := by
  have hk := bounds_okBx ho
  rw [match_in ho ha, binside_iff hk (okBx_ck.2 ha)] at h1
  rw [match_in ho hb, binside_iff hk (okBx_ck.2 hb)] at h2
  rw [bmeets_iff (okBx_ck.2 ha) (okBx_ck.2 hb)]
  have := (okBx_iff _).1 hk
  unfold inB at *
  omega
theorem nest_self_in {o : Ob} (ho : ckOb o = 0) : matchS o ⟨2, boundsS o, []⟩ = true := by
  have hb := bounds_okBx ho
  rw [match_in ho (okBx_ck.1 hb), binside_iff hb hb]
  unfold inB
  omega
theorem nest_self_meets {o : Ob} (ho : ckOb o = 0) : matchS o ⟨1, boundsS o, []⟩ = true := by
  have hb := bounds_okBx ho
  rw [match_meets ho (okBx_ck.1 hb)]
  rcases ck_kinds ho with ⟨h1, h2⟩ | ⟨_, h1, h2⟩
  · have e : boundsS o = obBox o := by rw [boundsS, h1]; rfl
    rw [h1, if_pos rfl, e, bmeets_iff h2 h2]
    have := (okBx_iff _).1 h2
    omega
  · have e : boundsS o = ringBx o.pts := by rw [boundsS, h1]; rfl
    rw [h1, if_neg (by simp), e]
    obtain ⟨h3, _, hok⟩ := ring_lens h2
    obtain ⟨_, hin, _, hbk⟩ := ringBx_spec (by omega) hok
    unfold cutS
    rw [Bool.or_eq_true]
    left
    rw [any_range_iff]
    refine ⟨0, by omega, ?_⟩
    rw [mbox_iff (okPt_pt hok (by omega)) (okPt_nx hok (by omega)) hbk]
    exact sat_in (hin 0 (by omega))
theorem nest_inside {o : Ob} {a : Bx} (ho : ckOb o = 0) (ha : ckBox a = 0) (h : matchS o ⟨2, a, []⟩ = true) : binside (boundsS o) a = true := by
  rwa [match_in ho ha] at h
end Pg
