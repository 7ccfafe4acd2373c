/-
  HullBoxes in plain words: the box of points is the box of their hull's corners, and what one more point changes.
-/
import Derived.Test.YtmliljdbpkikpaaDoorPlainHull
import Derived.Test.YtmliljdbpkikpaaDoorHulK
import Derived.Test.YtmliljdbpkikpaaDoorRefP
set_option linter.unusedSimpArgs false
set_option linter.unusedVariables false
namespace Go.Proofs.YtmliljdbpkikpaaDoor
open Go.RowKit Pg
theorem BoxOf.congr {S S' : Pt → Prop} {b : Bx} (h : BoxOf S b) (e : ∀ q, S q ↔ S' q) : BoxOf S' b := by
  have : S = S' := funext fun q => propext (e q)
  subst this
  exact h
theorem BoxOf.add {S : Pt → Prop} {u : Bx} (h : BoxOf S u) (p : Pt) : BoxOf (fun q => S q ∨ q = p) (bjoin u (pbox p)) := by
  refine ⟨?_, ?_, ?_, ?_, ?_⟩
  · rintro q (hq | rfl)
    · have := h.has q hq
      show min u.lo.x p.x ≤ q.x ∧ q.x ≤ max u.hi.x p.x ∧ min u.lo.y p.y ≤ q.y ∧ q.y ≤ max u.hi.y p.y
      omega
    · show min u.lo.x q.x ≤ q.x ∧ q.x ≤ max u.hi.x q.x ∧ min u.lo.y q.y ≤ q.y ∧ q.y ≤ max u.hi.y q.y
      omega
  · show ∃ q, (S q ∨ q = p) ∧ q.x = min u.lo.x p.x
    by_cases e : p.x ≤ u.lo.x
    · exact ⟨p, .inr rfl, by omega⟩
    · obtain ⟨q, hq, k⟩ := h.lox
      exact ⟨q, .inl hq, by omega⟩
  · show ∃ q, (S q ∨ q = p) ∧ q.x = max u.hi.x p.x
    by_cases e : u.hi.x ≤ p.x
    · exact ⟨p, .inr rfl, by omega⟩
    · obtain ⟨q, hq, k⟩ := h.hix
      exact ⟨q, .inl hq, by omega⟩
  · show ∃ q, (S q ∨ q = p) ∧ q.y = min u.lo.y p.y
    by_cases e : p.y ≤ u.lo.y
    · exact ⟨p, .inr rfl, by omega⟩
    · obtain ⟨q, hq, k⟩ := h.loy
      exact ⟨q, .inl hq, by omega⟩
  · show ∃ q, (S q ∨ q = p) ∧ q.y = max u.hi.y p.y
    by_cases e : u.hi.y ≤ p.y
    · exact ⟨p, .inr rfl, by omega⟩
    · obtain ⟨q, hq, k⟩ := h.hiy
      exact ⟨q, .inl hq, by omega⟩
theorem boxOf_go : ∀ (r : List Pt) (S : Pt → Prop) (u : Bx), BoxOf S u → (∀ q ∈ r, okPt q = true) → BoxOf (fun q => S q ∨ q ∈ r) (unionGo u (r.map pbox)).1 := by
  intro r
  induction r with
  | nil => intro S u h _; exact BoxOf.congr h (by simp)
  | cons p r ih =>
    intro S u h hok
    have hp : ckBox (pbox p) = 0 := ckBox_pt (hok p (by simp))
    have := ih _ _ (BoxOf.add h p) (fun q hq => hok q (by simp [hq]))
    simp only [List.map_cons, unionGo, hp, if_true]
    refine BoxOf.congr this fun q => ?_
    simp only [List.mem_cons, or_assoc]
theorem box_is {l : List Pt} (hl : 0 < l.length) (hok : ∀ q ∈ l, okPt q = true) : BoxOf (· ∈ l) (hboxS l) := by
  cases l with
  | nil => simp at hl
  | cons p r =>
    have h0 : BoxOf (fun q => q = p) (pbox p) := ⟨by rintro q rfl; exact ⟨Int.le_refl _, Int.le_refl _, Int.le_refl _, Int.le_refl _⟩, ⟨p, rfl, rfl⟩, ⟨p, rfl, rfl⟩, ⟨p, rfl, rfl⟩, ⟨p, rfl, rfl⟩⟩
    have := boxOf_go (p :: r) _ _ h0 hok
    exact BoxOf.congr this fun q => by simp
theorem farB_mono {a b n : Int} (ha : farB a = false) (hb : farB b = false) (h1 : a ≤ n) (h2 : n ≤ b) : farB n = false := by
  unfold farB at *
  simp only [Bool.or_eq_false_iff, decide_eq_false_iff_not] at *
  omega
theorem okPt_iff {p : Pt} : okPt p = true ↔ farB p.x = false ∧ farB p.y = false := by
  unfold okPt
  cases farB p.x <;> cases farB p.y <;> simp
theorem BoxOf.ok {S : Pt → Prop} {b : Bx} (h : BoxOf S b) (hok : ∀ q, S q → okPt q = true) : okBx b = true := by
  obtain ⟨q1, s1, e1⟩ := h.lox
  obtain ⟨q2, s2, e2⟩ := h.hix
  obtain ⟨q3, s3, e3⟩ := h.loy
  obtain ⟨q4, s4, e4⟩ := h.hiy
  have k1 := (okPt_iff.1 (hok q1 s1)).1
  have k2 := (okPt_iff.1 (hok q2 s2)).1
  have k3 := (okPt_iff.1 (hok q3 s3)).2
  have k4 := (okPt_iff.1 (hok q4 s4)).2
  rw [e1] at k1
  rw [e2] at k2
  rw [e3] at k3
  rw [e4] at k4
  have hb := h.has q1 s1
  have hlo : okPt b.lo = true := okPt_iff.2 ⟨k1, k3⟩
  have hhi : okPt b.hi = true := okPt_iff.2 ⟨k2, k4⟩
  unfold okBx ckBox
  rw [hlo, hhi, decide_eq_false (show ¬ b.hi.x < b.lo.x by omega), decide_eq_false (show ¬ b.hi.y < b.lo.y by omega)]
  rfl
theorem box_hull {l : List Pt} (hl : 0 < l.length) (hok : ∀ q ∈ l, okPt q = true) : hboxS (hullS l) = hboxS l := by
  have hne : l ≠ [] := by intro e; rw [e] at hl; simp at hl
  have k := hullS_is hne hok
  exact (box_is (hull_pos hl hok) (fun q hq => hok q (k.sub q hq))).unique ((k.box _).1 (box_is hl hok))
theorem box_hck {l : List Pt} (hl : 0 < l.length) (hok : ∀ q ∈ l, okPt q = true) (hn : l.length ≤ 1000) : (hullCk (hullS l) 1).1 = 0 := by
  have h1 := hull_pos hl hok
  have h2 := hull_le hl hok
  have hne : l ≠ [] := by intro e; rw [e] at hl; simp at hl
  have k := hullS_is hne hok
  rw [hck_good (by omega) (by omega) (fun q hq => hok q (k.sub q hq))]
theorem more_ok {l : List Pt} {p : Pt} (hok : ∀ q ∈ l, okPt q = true) (hp : okPt p = true) : ∀ q ∈ l ++ [p], okPt q = true := by
  intro q hq
  rcases List.mem_append.1 hq with h | h
  · exact hok q h
  · rw [List.mem_singleton.1 h]; exact hp
theorem box_out {l : List Pt} {p : Pt} (hl : 0 < l.length) (hok : ∀ q ∈ l, okPt q = true) (hp : okPt p = true) (h : bhas (hboxS l) p = false) : hboxS (l ++ [p]) ≠ hboxS l ∧ hullS (l ++ [p]) ≠ hullS l := by
  have hb := box_is hl hok
  have hok2 := more_ok hok hp
  have hb2 := box_is (l := l ++ [p]) (by simp) hok2
  have h1 : hboxS (l ++ [p]) ≠ hboxS l := by
    intro e
    have hh := hb2.has p (by simp)
    rw [e] at hh
    have : bhas (hboxS l) p = true := by
      unfold bhas bhasR
      rw [BoxOf.ok hb hok, hp, decide_eq_true hh.1, decide_eq_true hh.2.1, decide_eq_true hh.2.2.1, decide_eq_true hh.2.2.2]
      rfl
    rw [this] at h
    cases h
  refine ⟨h1, fun e => h1 ?_⟩
  rw [← box_hull (l := l ++ [p]) (by simp) hok2, e, box_hull hl hok]
theorem box_in {l : List Pt} {p : Pt} (hl : 0 < l.length) (hok : ∀ q ∈ l, okPt q = true) (hp : okPt p = true) (h : bhas (hboxS l) p = true) : hboxS (l ++ [p]) = hboxS l := by
  have hb := box_is hl hok
  have hok2 := more_ok hok hp
  have hb2 := box_is (l := l ++ [p]) (by simp) hok2
  refine hb2.unique ?_
  have hh : bhasR (hboxS l) p = true := by
    unfold bhas at h
    simp only [Bool.and_eq_true] at h
    exact h.2
  unfold bhasR at hh
  simp only [Bool.and_eq_true, decide_eq_true_eq] at hh
  refine ⟨fun q hq => ?_, ?_, ?_, ?_, ?_⟩
  · rcases List.mem_append.1 hq with k | k
    · exact hb.has q k
    · rw [List.mem_singleton.1 k]; exact ⟨hh.1.1.1, hh.1.1.2, hh.1.2, hh.2⟩
  · obtain ⟨q, hq, e⟩ := hb.lox; exact ⟨q, by simp [hq], e⟩
  · obtain ⟨q, hq, e⟩ := hb.hix; exact ⟨q, by simp [hq], e⟩
  · obtain ⟨q, hq, e⟩ := hb.loy; exact ⟨q, by simp [hq], e⟩
  · obtain ⟨q, hq, e⟩ := hb.hiy; exact ⟨q, by simp [hq], e⟩
theorem hull_more {l : List Pt} {p : Pt} (hl : 0 < l.length) (hok : ∀ q ∈ l, okPt q = true) (hp : okPt p = true) (h3 : 3 ≤ (hullS l).length)
    (h : ∀ i, i < (hullS l).length → 0 ≤ orient (pt (hullS l) i) (pt (hullS l) ((i + 1) % (hullS l).length)) p) : hullS (l ++ [p]) = hullS l := by
  have hne : l ≠ [] := by intro e; rw [e] at hl; simp at hl
  have k := hullS_is hne hok
  have k2 := hullS_is (l := l ++ [p]) (by simp) (more_ok hok hp)
  have hh : ∀ q ∈ hullS l, okPt q = true := fun q hq => hok q (k.sub q hq)
  refine k2.unique ((k.add h3 (p := p) fun i hi => ?_).congr fun q => by simp)
  have := h i hi
  rw [orient_ok (hh _ (ptIn hi)) (hh _ (ptIn (nx_mod hi))) hp, sgn_nn] at this
  exact this
theorem ptsEq_ne {l l' : List Pt} (h : l ≠ l') : ptsEq l l' = false := by
  cases e : ptsEq l l' with
  | false => rfl
  | true =>
    exfalso
    apply h
    unfold ptsEq at e
    simp only [Bool.and_eq_true, decide_eq_true_eq, List.all_eq_true] at e
    apply List.ext_getElem e.1
    intro i h1 h2
    have := e.2 i (List.mem_range.2 h1)
    unfold pt at this
    simpa [List.getD_eq_getElem?_getD, h1, h2] using this
theorem bx_cells {a b : Bx} : a = b ↔ a.lo.x = b.lo.x ∧ a.lo.y = b.lo.y ∧ a.hi.x = b.hi.x ∧ a.hi.y = b.hi.y :=
  ⟨fun h => by subst h; exact ⟨rfl, rfl, rfl, rfl⟩, fun h => Bx.ext' (Pt.ext' h.1 h.2.1) (Pt.ext' h.2.2.1 h.2.2.2)⟩
end Go.Proofs.YtmliljdbpkikpaaDoor
