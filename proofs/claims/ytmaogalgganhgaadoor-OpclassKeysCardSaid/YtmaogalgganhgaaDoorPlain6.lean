import Derived.Test.YtmaogalgganhgaaDoorPlain3
import Derived.Test.YtmaogalgganhgaaDoorGeo
set_option linter.unusedVariables false
set_option linter.unusedSimpArgs false
namespace Pg
/- plain laws of rings and boxes: the program's looks are the reference's -/

def inB (v b : Bx) : Prop := (v.lo.x ≤ b.lo.x ∧ b.hi.x ≤ v.hi.x) ∧ v.lo.y ≤ b.lo.y ∧ b.hi.y ≤ v.hi.y
theorem unionGo_spec (bs : List Bx) : ∀ u : Bx, (∀ b, b ∈ bs → ckBox b = 0) → (unionGo u bs).2 = 0 ∧ inB (unionGo u bs).1 u ∧ (∀ b, b ∈ bs → inB (unionGo u bs).1 b) ∧ (∀ v, inB v u → (∀ b, b ∈ bs → inB v b) → inB v (unionGo u bs).1) := by
  induction bs with
  | nil => intro u _; exact ⟨rfl, by unfold inB unionGo; simp only; omega, fun b hb => by simp at hb, fun v h _ => h⟩
  | cons b r ih =>
    intro u h
    have h0 := h b (by simp)
    rw [unionGo, if_pos h0]
    obtain ⟨i1, i2, i3, i4⟩ := ih (bjoin u b) fun c hc => h c (by simp [hc])
    refine ⟨i1, ?_, ?_, ?_⟩
    · revert i2
      generalize (unionGo (bjoin u b) r).1 = R
      unfold inB bjoin
      simp only
      omega
    · intro c hc
      rcases List.mem_cons.1 hc with rfl | hc
      · revert i2
        generalize (unionGo (bjoin u c) r).1 = R
        unfold inB bjoin
        simp only
        omega
      · exact i3 c hc
    · intro v hu hb
      refine i4 v ?_ fun c hc => hb c (by simp [hc])
      have hbb := hb b (by simp)
      revert hu hbb
      unfold inB bjoin
      simp only
      omega
theorem ring_lens {l : List Pt} (h : ckRing l = 0) : 3 ≤ l.length ∧ l.length ≤ 64 ∧ l.all okPt = true := by
  unfold ckRing at h
  split at h
  · omega
  · rename_i hn
    split at h
    · rename_i hok
      exact ⟨by omega, by omega, hok⟩
    · omega
theorem mem_pt {l : List Pt} {i : Nat} (h : i < l.length) : pt l i ∈ l := by
  have e : pt l i = l[i] := by rw [pt, List.getD_eq_getElem?_getD, List.getElem?_eq_getElem h]; rfl
  rw [e]
  exact List.getElem_mem h
theorem pt_mem {l : List Pt} {p : Pt} (h : p ∈ l) : ∃ i, i < l.length ∧ pt l i = p := by
  obtain ⟨i, hi, e⟩ := List.getElem_of_mem h
  exact ⟨i, hi, by rw [pt, List.getD_eq_getElem?_getD, List.getElem?_eq_getElem hi]; exact e⟩
theorem ringBx_spec {l : List Pt} (hl : 1 ≤ l.length) (hok : l.all okPt = true) : (union (l.map fun p => ⟨p, p⟩)).2 = 0 ∧ (∀ i, i < l.length → inR (ringBx l) (pt l i)) ∧ (∀ v, (∀ i, i < l.length → inR v (pt l i)) → inB v (ringBx l)) ∧ okBx (ringBx l) = true := by
  have hck : ∀ p, p ∈ l → ckBox ⟨p, p⟩ = 0 := fun p hp => by rw [ckBox_same, if_pos (List.all_eq_true.1 hok p hp)]
  match l, hl, hok, hck with
  | p :: r, _, hok, hck =>
    have hs := unionGo_spec ((p :: r).map fun p => ⟨p, p⟩) ⟨p, p⟩ (by
      intro b hb
      obtain ⟨q, hq, rfl⟩ := List.mem_map.1 hb
      exact hck q hq)
    obtain ⟨s1, s2, s3, s4⟩ := hs
    have h1 : ∀ i, i < (p :: r).length → inR (ringBx (p :: r)) (pt (p :: r) i) := by
      intro i hi
      have := s3 ⟨pt (p :: r) i, pt (p :: r) i⟩ (List.mem_map.2 ⟨_, mem_pt hi, rfl⟩)
      unfold inB at this
      unfold inR
      exact ⟨this.1, this.2⟩
    have h2 : ∀ v, (∀ i, i < (p :: r).length → inR v (pt (p :: r) i)) → inB v (ringBx (p :: r)) := by
      intro v hv
      refine s4 v ?_ ?_
      · have := hv 0 (by simp)
        exact ⟨this.1, this.2⟩
      · intro b hb
        obtain ⟨q, hq, rfl⟩ := List.mem_map.1 hb
        obtain ⟨i, hi, rfl⟩ := pt_mem hq
        have := hv i hi
        exact ⟨this.1, this.2⟩
    refine ⟨s1, h1, h2, ?_⟩
    rw [okBx_iff]
    have a1 := h1 0 (by simp)
    have a2 := h2 ⟨⟨-1073741823, -1073741823⟩, ⟨1073741823, 1073741823⟩⟩ (fun i hi => by
      have := (okPt_iff _).1 (okPt_pt hok hi)
      exact this)
    rw [okPt_iff, okPt_iff]
    unfold inR at a1
    unfold inB at a2
    simp only at a2
    omega

/-- a point of a ring is in its box -/
theorem rhasR_in {l : List Pt} {p : Pt} (hl : 1 ≤ l.length) (hok : l.all okPt = true) (op : okPt p = true) (h : rhasR l p = true) : inR (ringBx l) p := by
  obtain ⟨_, hin, _, _⟩ := ringBx_spec hl hok
  have hin2 : ∀ i, i < l.length → inR (ringBx l) (nx l i) := fun i hi => hin _ (Nat.mod_lt _ (by omega))
  apply Classical.byContradiction
  intro hno
  unfold rhasR at h
  rw [Bool.or_eq_true] at h
  rcases h with h | h
  · unfold edgeB at h
    rw [any_range_iff] at h
    obtain ⟨i, hi, h⟩ := h
    rw [onS_iff] at h
    have h1 := hin i hi
    have h2 := hin2 i hi
    apply hno
    unfold inR at *
    omega
  · have hz : parity l p l.length = false := by
      have hup : ∀ (g : Pt → Bool), (∀ a b : Pt, okPt a = true → okPt b = true → inR (ringBx l) a → inR (ringBx l) b → a.y ≤ b.y → crossesB a b p = xor (g a) (g b)) → parity l p l.length = false := by
        intro g hg
        rw [parity_parF]
        apply parF_tele (g := g)
        intro i hi
        rcases Int.le_total (pt l i).y (nx l i).y with k | k
        · exact hg _ _ (okPt_pt hok hi) (okPt_nx hok hi) (hin i hi) (hin2 i hi) k
        · have := hg _ _ (okPt_nx hok hi) (okPt_pt hok hi) (hin2 i hi) (hin i hi) k
          rw [crossesB_swap, Bool.xor_comm] at this
          exact this
      by_cases c1 : p.y < (ringBx l).lo.y
      · refine hup (fun _ => false) fun a b oa ob ha hb hab => ?_
        rw [crossesB_up oa ob op hab]
        unfold inR at ha hb
        rw [decide_eq_false (by omega)]
        rfl
      by_cases c2 : (ringBx l).hi.y < p.y
      · refine hup (fun _ => false) fun a b oa ob ha hb hab => ?_
        rw [crossesB_up oa ob op hab]
        unfold inR at ha hb
        rw [decide_eq_false (by omega)]
        rfl
      by_cases c3 : (ringBx l).hi.x < p.x
      · refine hup (fun _ => false) fun a b oa ob ha hb hab => ?_
        rw [crossesB_up oa ob op hab]
        unfold inR at ha hb
        rw [decide_eq_false]
        · rfl
        · rintro ⟨k1, k2, k3⟩
          have := side_right (a := a) (b := b) k1 k2 (by omega) (by omega)
          omega
      by_cases c4 : p.x < (ringBx l).lo.x
      · refine hup (fun v => decide (v.y ≤ p.y)) fun a b oa ob ha hb hab => ?_
        rw [crossesB_up oa ob op hab]
        unfold inR at ha hb
        by_cases k1 : a.y ≤ p.y
        · by_cases k2 : p.y < b.y
          · have := side_left (a := a) (b := b) k1 k2 (by omega) (by omega)
            rw [decide_eq_true (by omega), decide_eq_true k1, decide_eq_false (by omega)]
            rfl
          · rw [decide_eq_false (by omega), decide_eq_true k1, decide_eq_true (by omega)]
            rfl
        · rw [decide_eq_false (by omega), decide_eq_false k1, decide_eq_false (by omega)]
          rfl
      · exfalso
        apply hno
        unfold inR
        omega
    rw [hz] at h
    cases h
theorem meetS_spans {a b c d : Pt} (h : meetS a b c d = true) : (min a.x b.x ≤ max c.x d.x ∧ min c.x d.x ≤ max a.x b.x) ∧ (min a.y b.y ≤ max c.y d.y ∧ min c.y d.y ≤ max a.y b.y) := by
  rw [meetS_iff] at h
  obtain ⟨⟨oa, ob, oc, od⟩, h⟩ := h
  rcases h with h | h | h | h | h
  · rw [properR_iff oa ob oc od] at h
    exact proper_overlap h.1 h.2
  all_goals
    rw [onS_iff] at h
    omega
/-- the reference's look at two rings; at a ring and a box -/
def ringsR (a b : List Pt) : Bool := (rhasR a (pt b 0) || rhasR b (pt a 0)) || crossAny a b
def ringBoxR (l : List Pt) (b : Bx) : Bool := rhasR l b.lo || (List.range l.length).any (fun i => mboxR (pt l i) (nx l i) b)
theorem rhas_ok {l : List Pt} {p : Pt} (h : ckRing l = 0) (op : okPt p = true) : rhas l p = rhasR l p := by simp [rhas, h, op]
theorem ringsS_eq {a b : List Pt} (ha : ckRing a = 0) (hb : ckRing b = 0) : ringsS a b = ringsR a b := by
  obtain ⟨a3, _, aok⟩ := ring_lens ha
  obtain ⟨b3, _, bok⟩ := ring_lens hb
  have oa0 := okPt_pt aok (i := 0) (by omega)
  have ob0 := okPt_pt bok (i := 0) (by omega)
  obtain ⟨_, ain, _, aokb⟩ := ringBx_spec (by omega) aok
  obtain ⟨_, bin, _, bokb⟩ := ringBx_spec (by omega) bok
  unfold ringsS ringsR
  rw [rhas_ok ha ob0, rhas_ok hb oa0]
  have key : (rhasR a (pt b 0) || rhasR b (pt a 0) || crossAny a b) = true → bmeets (ringBx a) (ringBx b) = true := by
    intro h
    have hm : ∀ p, inR (ringBx a) p → inR (ringBx b) p → bmeets (ringBx a) (ringBx b) = true := by
      intro p h1 h2
      unfold inR at h1 h2
      simp only [bmeets, aokb, bokb, bmeetsR, Bool.true_and, Bool.and_eq_true, decide_eq_true_eq]
      omega
    simp only [Bool.or_eq_true] at h
    rcases h with (h | h) | h
    · exact hm _ (rhasR_in (by omega) aok ob0 h) (bin 0 (by omega))
    · exact hm _ (ain 0 (by omega)) (rhasR_in (by omega) bok oa0 h)
    · unfold crossAny at h
      rw [any_range_iff] at h
      obtain ⟨i, hi, h⟩ := h
      rw [any_range_iff] at h
      obtain ⟨k, hk, h⟩ := h
      have hs := meetS_spans h
      have i1 := ain i hi
      have i2 := ain ((i + 1) % a.length) (Nat.mod_lt _ (by omega))
      have k1 := bin k hk
      have k2 := bin ((k + 1) % b.length) (Nat.mod_lt _ (by omega))
      unfold inR at *
      unfold nx at hs
      simp only [bmeets, aokb, bokb, bmeetsR, Bool.true_and, Bool.and_eq_true, decide_eq_true_eq]
      omega
  revert key
  cases bmeets (ringBx a) (ringBx b) <;> cases rhasR a (pt b 0) <;> cases rhasR b (pt a 0) <;> cases crossAny a b <;> simp
theorem cutS_eq {l : List Pt} {b : Bx} (h : ckRing l = 0) (hb : okBx b = true) : cutS l b = ringBoxR l b := by
  have ob := ((okBx_iff b).1 hb).1.1
  unfold cutS ringBoxR
  rw [rhas_ok h ob, Bool.or_comm]
  congr 1
  congr 1
  funext i
  exact mbox_eq _ _ _
theorem ringsR_swap (a b : List Pt) : ringsR b a = ringsR a b := by
  unfold ringsR
  rw [Bool.or_comm (rhasR b (pt a 0))]
  congr 1
  unfold crossAny
  rw [Bool.eq_iff_iff, any_range_iff, any_range_iff]
  constructor
  · rintro ⟨i, hi, h⟩
    obtain ⟨k, hk, h⟩ := (any_range_iff _ _).1 h
    exact ⟨k, hk, (any_range_iff _ _).2 ⟨i, hi, by rw [meetS_swap2]; exact h⟩⟩
  · rintro ⟨i, hi, h⟩
    obtain ⟨k, hk, h⟩ := (any_range_iff _ _).1 h
    exact ⟨k, hk, (any_range_iff _ _).2 ⟨i, hi, by rw [meetS_swap2]; exact h⟩⟩
theorem bmeets_swap (a b : Bx) : bmeets b a = bmeets a b := by
  unfold bmeets bmeetsR
  rw [Bool.and_comm (okBx b)]
  congr 1
  rw [Bool.eq_iff_iff]
  simp only [Bool.and_eq_true, decide_eq_true_eq]
  omega
/-- a ring has its own first corner -/
theorem rhasR_first {l : List Pt} (h : ckRing l = 0) : rhasR l (pt l 0) = true := by
  obtain ⟨h3, _, hok⟩ := ring_lens h
  unfold rhasR
  rw [Bool.or_eq_true]
  left
  unfold edgeB
  rw [any_range_iff]
  refine ⟨0, by omega, ?_⟩
  rw [onS_iff]
  exact ⟨⟨okPt_pt hok (by omega), okPt_nx hok (by omega), okPt_pt hok (by omega)⟩, crossR_aba _ _, by omega, by omega⟩
/-- A GREATER BOX IS MET -/
theorem cutS_mono {l : List Pt} {a u : Bx} (h : ckRing l = 0) (ha : okBx a = true) (hu : okBx u = true) (hau : inB u a) (hc : cutS l a = true) : cutS l u = true := by
  obtain ⟨h3, _, hok⟩ := ring_lens h
  have oa := (okBx_iff a).1 ha
  have ou := (okBx_iff u).1 hu
  have u1 : inR u a.lo := by unfold inB at hau; unfold inR; omega
  have u2 : inR u a.hi := by unfold inB at hau; unfold inR; omega
  have aa : inR a a.lo := by unfold inR; omega
  unfold cutS at *
  rw [Bool.or_eq_true] at *
  by_cases hs : ∃ i, i < l.length ∧ sat (pt l i) (nx l i) u
  · obtain ⟨i, hi, hs⟩ := hs
    left
    rw [any_range_iff]
    exact ⟨i, hi, (mbox_iff (okPt_pt hok hi) (okPt_nx hok hi) hu).2 hs⟩
  · have hn : ∀ i, i < l.length → ¬ sat (pt l i) (nx l i) u := fun i hi k => hs ⟨i, hi, k⟩
    rcases hc with hc | hc
    · rw [any_range_iff] at hc
      obtain ⟨i, hi, hc⟩ := hc
      exact absurd (sat_mono ((mbox_iff (okPt_pt hok hi) (okPt_nx hok hi) ha).1 hc) u1 u2) (hn i hi)
    · right
      rw [rhas_ok h oa.1.1] at hc
      rw [rhas_ok h ou.1.1]
      unfold rhasR at *
      rw [Bool.or_eq_true] at *
      rcases hc with hc | hc
      · exfalso
        unfold edgeB at hc
        rw [any_range_iff] at hc
        obtain ⟨i, hi, hc⟩ := hc
        rw [onS_iff] at hc
        refine hn i hi ⟨?_, sat_of_zero u1 hc.2.1⟩
        unfold inR at u1
        omega
      · right
        rw [← parity_box hok oa.1.1 ou.1.1 hn u1 (by unfold inR; omega)]
        exact hc
end Pg
