/-
  Plain laws of the statement RelMoves.
-/
import Derived.Test.YtmaogalgganhgaaGreatDoorPlainFr
set_option linter.unusedVariables false
set_option linter.unusedSimpArgs false
namespace Pg

def upP (y : Int) (a : Pt) : Pt := ⟨a.x, a.y + y⟩
def upB (y : Int) (b : Bx) : Bx := ⟨upP y b.lo, upP y b.hi⟩
theorem crossR_up (y : Int) (a b c : Pt) : crossR (upP y a) (upP y b) (upP y c) = crossR a b c := by unfold crossR upP; grind
theorem dotR_up (y : Int) (a b c : Pt) : dotR (upP y a) (upP y b) (upP y c) = dotR a b c := by unfold dotR upP; grind
theorem upP_inj {y : Int} {a b : Pt} : upP y a = upP y b ↔ a = b := by
  constructor
  · intro h
    have h1 := congrArg Pt.x h
    have h2 := congrArg Pt.y h
    simp only [upP] at h1 h2
    exact Pt.ext' h1 (by omega)
  · rintro rfl; rfl
theorem pt_map {l : List Pt} (y : Int) {i : Nat} (h : i < l.length) : pt (l.map (upP y)) i = upP y (pt l i) := by
  have h1 : i < (l.map (upP y)).length := by rw [List.length_map]; exact h
  rw [pt, pt, List.getD_eq_getElem?_getD, List.getD_eq_getElem?_getD, List.getElem?_eq_getElem h1, List.getElem?_eq_getElem h]
  simp
theorem nx_map {l : List Pt} (y : Int) {i : Nat} (h : i < l.length) : nx (l.map (upP y)) i = upP y (nx l i) := by
  rw [nx, nx, List.length_map]
  exact pt_map y (Nat.mod_lt _ (by omega))
theorem onS_up {y : Int} {a b p : Pt} (oa : okPt a = true) (ob : okPt b = true) (op : okPt p = true) (oa' : okPt (upP y a) = true) (ob' : okPt (upP y b) = true) (op' : okPt (upP y p) = true) :
    onS (upP y a) (upP y b) (upP y p) = onS a b p := by
  rw [Bool.eq_iff_iff, onS_iff, onS_iff, crossR_up]
  simp only [oa, ob, op, oa', ob', op', true_and]
  unfold upP
  simp only
  omega
theorem orient_up {y : Int} {a b c : Pt} (oa : okPt a = true) (ob : okPt b = true) (oc : okPt c = true) (oa' : okPt (upP y a) = true) (ob' : okPt (upP y b) = true) (oc' : okPt (upP y c) = true) :
    orient (upP y a) (upP y b) (upP y c) = orient a b c := by
  unfold orient cross
  rw [oa, ob, oc, oa', ob', oc', crossR_up]
theorem meetS_up {y : Int} {a b c d : Pt} (oa : okPt a = true) (ob : okPt b = true) (oc : okPt c = true) (od : okPt d = true) (oa' : okPt (upP y a) = true) (ob' : okPt (upP y b) = true) (oc' : okPt (upP y c) = true) (od' : okPt (upP y d) = true) :
    meetS (upP y a) (upP y b) (upP y c) (upP y d) = meetS a b c d := by
  unfold meetS properR
  rw [onS_up oa ob oc oa' ob' oc', onS_up oa ob od oa' ob' od', onS_up oc od oa oc' od' oa', onS_up oc od ob oc' od' ob', orient_up oa ob oc oa' ob' oc', orient_up oa ob od oa' ob' od', orient_up oc od oa oc' od' oa', orient_up oc od ob oc' od' ob', oa, ob, oc, od, oa', ob', oc', od']
theorem sat_up {y : Int} {a b : Pt} {r : Bx} : sat (upP y a) (upP y b) (upB y r) ↔ sat a b r := by
  have c := fun a b c => crossR_up y a b c
  unfold sat allPos upB
  simp only
  rw [crossR_up, crossR_up, crossR_up, crossR_up]
  have e1 : (⟨(upP y r.hi).x, (upP y r.lo).y⟩ : Pt) = upP y ⟨r.hi.x, r.lo.y⟩ := rfl
  have e2 : (⟨(upP y r.lo).x, (upP y r.hi).y⟩ : Pt) = upP y ⟨r.lo.x, r.hi.y⟩ := rfl
  rw [e1, e2, crossR_up, crossR_up, crossR_up, crossR_up]
  unfold upP
  simp only
  omega
theorem range_any_congr {n : Nat} {f g : Nat → Bool} (h : ∀ i, i < n → f i = g i) : (List.range n).any f = (List.range n).any g := by
  rw [Bool.eq_iff_iff, any_range_iff, any_range_iff]
  constructor
  · rintro ⟨i, hi, hf⟩; exact ⟨i, hi, by rw [← h i hi]; exact hf⟩
  · rintro ⟨i, hi, hf⟩; exact ⟨i, hi, by rw [h i hi]; exact hf⟩
theorem okPt_ppt {l : List Pt} {y : Int} (h : (l.map (upP y)).all okPt = true) {i : Nat} (hi : i < l.length) : okPt (upP y (pt l i)) = true := by
  rw [← pt_map y hi]
  exact okPt_pt h (by rw [List.length_map]; exact hi)
theorem okPt_pnx {l : List Pt} {y : Int} (h : (l.map (upP y)).all okPt = true) {i : Nat} (hi : i < l.length) : okPt (upP y (nx l i)) = true := by
  rw [← nx_map y hi]
  exact okPt_nx h (by rw [List.length_map]; exact hi)
section
variable {l : List Pt} {y : Int} (hok : l.all okPt = true) (hok' : (l.map (upP y)).all okPt = true)
include hok hok'
theorem edgeB_up {p : Pt} (op : okPt p = true) (op' : okPt (upP y p) = true) : edgeB (l.map (upP y)) (upP y p) = edgeB l p := by
  unfold edgeB
  rw [List.length_map]
  refine range_any_congr fun i hi => ?_
  rw [pt_map y hi, nx_map y hi]
  exact onS_up (okPt_pt hok hi) (okPt_nx hok hi) op (okPt_ppt hok' hi) (okPt_pnx hok' hi) op'
omit hok hok' in
theorem crossesB_upP {a b p : Pt} (oa : okPt a = true) (ob : okPt b = true) (op : okPt p = true) (oa' : okPt (upP y a) = true) (ob' : okPt (upP y b) = true) (op' : okPt (upP y p) = true) :
    crossesB (upP y a) (upP y b) (upP y p) = crossesB a b p := by
  unfold crossesB cross
  rw [oa, ob, op, oa', ob', op', crossR_up, crossR_up]
  have e1 : ((upP y b).y < (upP y a).y) = (b.y < a.y) := by unfold upP; simp
  have e2 : ((upP y b).y ≤ (upP y p).y) = (b.y ≤ p.y) := by unfold upP; simp
  have e3 : ((upP y p).y < (upP y a).y) = (p.y < a.y) := by unfold upP; simp
  have e4 : ((upP y a).y ≤ (upP y p).y) = (a.y ≤ p.y) := by unfold upP; simp
  have e5 : ((upP y p).y < (upP y b).y) = (p.y < b.y) := by unfold upP; simp
  simp only [e1, e2, e3, e4, e5]
theorem parity_up {p : Pt} (op : okPt p = true) (op' : okPt (upP y p) = true) : ∀ k, k ≤ l.length → parity (l.map (upP y)) (upP y p) k = parity l p k := by
  intro k
  induction k with
  | zero => intro _; rfl
  | succ k ih =>
    intro hk
    rw [parity, parity, ih (by omega), pt_map y (by omega), nx_map y (by omega)]
    rw [crossesB_upP (okPt_pt hok (by omega)) (okPt_nx hok (by omega)) op (okPt_ppt hok' (by omega)) (okPt_pnx hok' (by omega)) op']
theorem rhasR_up {p : Pt} (op : okPt p = true) (op' : okPt (upP y p) = true) : rhasR (l.map (upP y)) (upP y p) = rhasR l p := by
  unfold rhasR
  rw [edgeB_up hok hok' op op', List.length_map, parity_up hok hok' op op' _ (Nat.le_refl _)]
theorem segsF_up {p : Pt} (op : okPt p = true) (op' : okPt (upP y p) = true) : segsF (l.map (upP y)) (upP y p) = segsF l p := by
  unfold segsF
  rw [List.length_map]
  refine List.map_congr_left fun i hi => ?_
  have hi := List.mem_range.1 hi
  rw [pt_map y hi, nx_map y hi]
  unfold segF
  rw [okPt_pt hok hi, okPt_nx hok hi, op, okPt_ppt hok' hi, okPt_pnx hok' hi, op', dotR_up, dotR_up, crossR_up]
  simp only [upP_inj, Bool.and_self, ↓reduceIte]
  have e : ∀ a b : Pt, sqs ((upP y a).x - (upP y b).x) ((upP y a).y - (upP y b).y) = sqs (a.x - b.x) (a.y - b.y) := fun a b => by
    unfold upP
    simp only
    rw [show a.y + y - (b.y + y) = a.y - b.y by omega]
  rw [e, e, e]
theorem ringBoxR_up {b : Bx} (ob : okBx b = true) (ob' : okBx (upB y b) = true) : ringBoxR (l.map (upP y)) (upB y b) = ringBoxR l b := by
  unfold ringBoxR
  have o1 := ((okBx_iff _).1 ob).1.1
  have o2 := ((okBx_iff _).1 ob').1.1
  rw [show (upB y b).lo = upP y b.lo from rfl] at o2 ⊢
  rw [rhasR_up hok hok' o1 o2, List.length_map]
  congr 1
  refine range_any_congr fun i hi => ?_
  rw [pt_map y hi, nx_map y hi, Bool.eq_iff_iff, mboxR_iff (okPt_ppt hok' hi) (okPt_pnx hok' hi) ob', mboxR_iff (okPt_pt hok hi) (okPt_nx hok hi) ob, sat_up]
theorem ringsR_up {m : List Pt} (h1 : 1 ≤ l.length) (h2 : 1 ≤ m.length) (mok : m.all okPt = true) (mok' : (m.map (upP y)).all okPt = true) : ringsR (l.map (upP y)) (m.map (upP y)) = ringsR l m := by
  unfold ringsR
  rw [pt_map y (by omega), pt_map y (by omega), rhasR_up hok hok' (okPt_pt mok (by omega)) (okPt_ppt mok' (by omega))]
  rw [rhasR_up mok mok' (okPt_pt hok (by omega)) (okPt_ppt hok' (by omega))]
  congr 1
  unfold crossAny
  rw [List.length_map, List.length_map]
  refine range_any_congr fun i hi => range_any_congr fun k hk => ?_
  rw [pt_map y hi, nx_map y hi, pt_map y hk, nx_map y hk]
  exact meetS_up (okPt_pt hok hi) (okPt_nx hok hi) (okPt_pt mok hk) (okPt_nx mok hk) (okPt_ppt hok' hi) (okPt_pnx hok' hi) (okPt_ppt mok' hk) (okPt_pnx mok' hk)
end
theorem bmeets_up {y : Int} {a b : Bx} (oa : okBx a = true) (ob : okBx b = true) (oa' : okBx (upB y a) = true) (ob' : okBx (upB y b) = true) : bmeets (upB y a) (upB y b) = bmeets a b := by
  rw [Bool.eq_iff_iff, bmeets_iff oa ob, bmeets_iff oa' ob']
  unfold upB upP
  simp only
  omega
theorem inB_up {y : Int} {a b : Bx} : inB (upB y a) (upB y b) ↔ inB a b := by
  unfold inB upB upP
  simp only
  omega
theorem binside_up {y : Int} {a b : Bx} (oa : okBx a = true) (ob : okBx b = true) (oa' : okBx (upB y a) = true) (ob' : okBx (upB y b) = true) : binside (upB y a) (upB y b) = binside a b := by
  rw [Bool.eq_iff_iff, binside_iff oa ob, binside_iff oa' ob', inB_up]
theorem upB_upB (y : Int) (b : Bx) : upB (-y) (upB y b) = b := by
  unfold upB upP
  simp only
  rw [show b.lo.y + y + -y = b.lo.y by omega, show b.hi.y + y + -y = b.hi.y by omega]
theorem inB_antisymm {a b : Bx} (h : inB a b) (k : inB b a) : a = b := by
  unfold inB at h k
  exact Bx.ext' (Pt.ext' (by omega) (by omega)) (Pt.ext' (by omega) (by omega))
theorem ringBx_up {l : List Pt} {y : Int} (h1 : 1 ≤ l.length) (hok : l.all okPt = true) (hok' : (l.map (upP y)).all okPt = true) : ringBx (l.map (upP y)) = upB y (ringBx l) := by
  obtain ⟨_, s2, s3, _⟩ := ringBx_spec h1 hok
  obtain ⟨_, t2, t3, _⟩ := ringBx_spec (l := l.map (upP y)) (by rw [List.length_map]; exact h1) hok'
  rw [List.length_map] at t2 t3
  apply inB_antisymm
  · have := s3 (upB (-y) (ringBx (l.map (upP y)))) fun i hi => by
      have := t2 i hi
      rw [pt_map y hi] at this
      unfold inR upB upP at *
      simp only at *
      omega
    rw [← inB_up (y := y)] at this
    have e := upB_upB (-y) (ringBx (l.map (upP y)))
    rw [Int.neg_neg] at e
    rw [e] at this
    exact this
  · refine t3 _ fun i hi => ?_
    have := s2 i hi
    rw [pt_map y hi]
    unfold inR upB upP at *
    simp only at *
    omega
def upO (y : Int) (o : Ob) : Ob := ⟨o.kind, o.pts.map (upP y)⟩
theorem isBox_up (y : Int) (o : Ob) : isBox (upO y o) = isBox o := rfl
theorem box_lens {o : Ob} (h : ckOb o = 0) : (o.kind = 1 → o.pts.length = 1) ∧ (o.kind = 3 → o.pts.length = 2) := by
  obtain ⟨k, l⟩ := o
  unfold ckOb at h
  simp only at h ⊢
  constructor
  · rintro rfl
    rw [if_pos rfl] at h
    split at h
    · assumption
    · omega
  · rintro rfl
    rw [if_neg (by decide), if_neg (by decide), if_pos rfl] at h
    split at h
    · assumption
    · omega
theorem obBox_up {o : Ob} (y : Int) (h : ckOb o = 0) (h2 : o.kind ≠ 2) (hb : isBox o = true) : obBox (upO y o) = upB y (obBox o) := by
  obtain ⟨l1, l3⟩ := box_lens h
  obtain ⟨k, l⟩ := o
  simp only [isBox, decide_eq_true_eq] at hb
  simp only at h2 l1 l3
  unfold obBox upO
  simp only
  rcases hb with rfl | hb | rfl
  · simp only [↓reduceIte]
    rw [pt_map y (by omega)]
    rfl
  · exact absurd hb h2
  · simp only [show ¬ ((3 : Int) = 1) by decide, show ¬ ((3 : Int) = 2) by decide, ↓reduceIte]
    rw [pt_map y (by omega), pt_map y (by omega)]
    rfl
theorem boxN_up (y : Int) (b : Bx) (p : Pt) : boxN (upB y b) (upP y p) = boxN b p := by
  unfold boxN upB upP gap
  simp only
  rw [show b.lo.y + y - (p.y + y) = b.lo.y - p.y by omega, show p.y + y - (b.hi.y + y) = p.y - b.hi.y by omega]
theorem dist_up {o : Ob} {y : Int} {p : Pt} (ho : ckOb o = 0) (h2 : o.kind ≠ 2) (ho' : ckOb (upO y o) = 0) (op : okPt p = true) (op' : okPt (upP y p) = true) : distF (upO y o) (upP y p) = distF o p := by
  rcases ck_kinds ho with ⟨h1, hb⟩ | ⟨h4, h1, hr⟩
  · rw [distF_box ho op h1, distF_box ho' op' h1, obBox_up y ho h2 h1, boxN_up]
  · rw [distF_poly ho op h1, distF_poly ho' op' h1]
    have hr' : ckRing (o.pts.map (upP y)) = 0 := by
      rcases ck_kinds ho' with ⟨h, _⟩ | ⟨_, _, h⟩
      · rw [isBox_up, h1] at h; cases h
      · exact h
    have a := (ring_lens hr).2.2
    have b := (ring_lens hr').2.2
    rw [show (upO y o).pts = o.pts.map (upP y) from rfl, rhas_ok hr op, rhas_ok hr' op', rhasR_up a b op op', segsF_up a b op op']
theorem bounds_up {o : Ob} {y : Int} (ho : ckOb o = 0) (h2 : o.kind ≠ 2) (ho' : ckOb (upO y o) = 0) : boundsS (upO y o) = upB y (boundsS o) := by
  rcases ck_kinds ho with ⟨h1, hb⟩ | ⟨h4, h1, hr⟩
  · rw [boundsS_box h1, boundsS_box (o := upO y o) h1, obBox_up y ho h2 h1]
  · rw [boundsS_poly h1, boundsS_poly (o := upO y o) h1]
    have hr' : ckRing (o.pts.map (upP y)) = 0 := by
      rcases ck_kinds ho' with ⟨h, _⟩ | ⟨_, _, h⟩
      · rw [isBox_up, h1] at h; cases h
      · exact h
    have a := ring_lens hr
    exact ringBx_up (by omega) a.2.2 (ring_lens hr').2.2
theorem meetsBox_up {o : Ob} {y : Int} {b : Bx} (ho : ckOb o = 0) (h2 : o.kind ≠ 2) (ho' : ckOb (upO y o) = 0) (ob : okBx b = true) (ob' : okBx (upB y b) = true) :
    (if isBox (upO y o) then bmeets (obBox (upO y o)) (upB y b) else cutS (upO y o).pts (upB y b)) = if isBox o then bmeets (obBox o) b else cutS o.pts b := by
  rcases ck_kinds ho with ⟨h1, hb⟩ | ⟨h4, h1, hr⟩
  · have hb' : okBx (obBox (upO y o)) = true := by
      rcases ck_kinds ho' with ⟨_, h⟩ | ⟨_, h, _⟩
      · exact h
      · rw [isBox_up, h1] at h; cases h
    rw [isBox_up, if_pos h1, if_pos h1]
    rw [obBox_up y ho h2 h1] at hb' ⊢
    exact bmeets_up hb ob hb' ob'
  · have hr' : ckRing (o.pts.map (upP y)) = 0 := by
      rcases ck_kinds ho' with ⟨h, _⟩ | ⟨_, _, h⟩
      · rw [isBox_up, h1] at h; cases h
      · exact h
    rw [isBox_up, if_neg (by simp [h1]), if_neg (by simp [h1])]
    show cutS (o.pts.map (upP y)) (upB y b) = _
    rw [cutS_eq hr ob, cutS_eq hr' ob', ringBoxR_up (ring_lens hr).2.2 (ring_lens hr').2.2 ob ob']
theorem match_up {o : Ob} {y : Int} {k : Int} {b : Bx} {l : List Pt} (ho : ckOb o = 0) (h2 : o.kind ≠ 2) (ho' : ckOb (upO y o) = 0) (hq : ckQu ⟨k, b, l⟩ = 0) (hq' : ckQu ⟨k, upB y b, l.map (upP y)⟩ = 0) :
    matchS (upO y o) ⟨k, upB y b, l.map (upP y)⟩ = matchS o ⟨k, b, l⟩ := by
  by_cases k1 : k = 1
  · subst k1
    have hb : ckBox b = 0 := by simpa [ckQu] using hq
    have hb' : ckBox (upB y b) = 0 := by simpa [ckQu] using hq'
    rw [match_meets ho hb, match_meets ho' hb']
    exact meetsBox_up ho h2 ho' (okBx_ck.2 hb) (okBx_ck.2 hb')
  by_cases k2 : k = 2
  · subst k2
    have hb : ckBox b = 0 := by simpa [ckQu] using hq
    have hb' : ckBox (upB y b) = 0 := by simpa [ckQu] using hq'
    have n1 := bounds_okBx ho
    have n2 := bounds_okBx ho'
    rw [match_in ho hb, match_in ho' hb']
    rw [bounds_up ho h2 ho'] at n2 ⊢
    exact binside_up n1 (okBx_ck.2 hb) n2 (okBx_ck.2 hb')
  by_cases k3 : k = 3
  · subst k3
    have hb : okPt b.lo = true := by
      unfold ckQu at hq
      simp only [show ¬ ((3 : Int) = 1 ∨ (3 : Int) = 2) by decide, ↓reduceIte] at hq
      split at hq
      · assumption
      · omega
    have hb' : okPt (upB y b).lo = true := by
      unfold ckQu at hq'
      simp only [show ¬ ((3 : Int) = 1 ∨ (3 : Int) = 2) by decide, ↓reduceIte] at hq'
      split at hq'
      · assumption
      · omega
    rw [match_has ho hb, match_has ho' hb']
    exact meetsBox_up (b := ⟨b.lo, b.lo⟩) ho h2 ho' (okBx_pp hb) (okBx_pp hb')
  by_cases k4 : k = 4
  · subst k4
    have hl : ckRing l = 0 := by simpa [ckQu] using hq
    have hl' : ckRing (l.map (upP y)) = 0 := by simpa [ckQu] using hq'
    rw [match_cross ho hl, match_cross ho' hl']
    have a := ring_lens hl
    have a' := ring_lens hl'
    rcases ck_kinds ho with ⟨h1, hb⟩ | ⟨h4, h1, hr⟩
    · have hb' : okBx (obBox (upO y o)) = true := by
        rcases ck_kinds ho' with ⟨_, h⟩ | ⟨_, h, _⟩
        · exact h
        · rw [isBox_up, h1] at h; cases h
      rw [isBox_up, if_pos h1, if_pos h1]
      rw [obBox_up y ho h2 h1] at hb' ⊢
      rw [cutS_eq hl hb, cutS_eq hl' hb', ringBoxR_up a.2.2 a'.2.2 hb hb']
    · have hr' : ckRing (o.pts.map (upP y)) = 0 := by
        rcases ck_kinds ho' with ⟨h, _⟩ | ⟨_, _, h⟩
        · rw [isBox_up, h1] at h; cases h
        · exact h
      have c := ring_lens hr
      have c' := ring_lens hr'
      rw [isBox_up, if_neg (by simp [h1]), if_neg (by simp [h1])]
      show ringsS (o.pts.map (upP y)) _ = _
      rw [ringsS_eq hr hl, ringsS_eq hr' hl', ringsR_up c.2.2 c'.2.2 (by omega) (by omega) a.2.2 a'.2.2]
  · exfalso
    simp [ckQu, k1, k2, k3, k4] at hq
end Pg
