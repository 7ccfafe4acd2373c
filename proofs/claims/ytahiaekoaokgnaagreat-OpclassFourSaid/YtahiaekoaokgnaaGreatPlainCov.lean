/-
  Lists of objects and of queries in memory.
  What a box covers: what an object's box is asked for, and how near it is; the same for any greater box.
  The union of keys: of whatever order, in two parts or in one; it covers what its keys were made of.
-/
import Derived.Test.YtahiaekoaokgnaaGreatRel1
import Derived.Test.YtahiaekoaokgnaaGreatOpcA
import Derived.Test.YtahiaekoaokgnaaGreatPlainFr
import Derived.Test.YtahiaekoaokgnaaGreatArea
set_option linter.unusedSimpArgs false
set_option linter.unusedVariables false
namespace Go.Proofs.YtahiaekoaokgnaaGreat
open Go.RowKit Pg
instance : Inhabited Ob := ⟨⟨0, []⟩⟩
instance : Inhabited Qu := ⟨⟨0, bzero, []⟩⟩
/-- a list of objects, its corners too -/
def ObsAt (w : World) (B : Nat) (A : Option Addr) (n : Nat) (l : List Ob) : Prop :=
  l.length = n ∧ (0 < n → ∃ b off, A = some ⟨b, off, none⟩ ∧ b < B ∧ ∀ k o, l[k]? = some o → ∃ A' m c, w.cell? ⟨b, off + k * 2, none⟩ = some (.int .i64 o.kind) ∧ w.cell? ⟨b, off + k * 2 + 1, none⟩ = some (.slice A' m c) ∧ PtsAt w B A' m o.pts)
theorem ObsAt.keep {w w' : World} {B n : Nat} {A : Option Addr} {l : List Ob} (h : ObsAt w B A n l) (hk : ∀ p : Addr, p.block < B → w'.cell? p = w.cell? p) : ObsAt w' B A n l :=
  ⟨h.1, fun hn => by
    obtain ⟨b, off, e, hb, hc⟩ := h.2 hn
    refine ⟨b, off, e, hb, fun k o ho => ?_⟩
    obtain ⟨A', m, c, h0, h1, h2⟩ := hc k o ho
    exact ⟨A', m, c, by rw [hk _ hb]; exact h0, by rw [hk _ hb]; exact h1, h2.keep hk⟩⟩
theorem ObsAt.below {w w' : World} {B n : Nat} {A : Option Addr} {l : List Ob} (h : ObsAt w B A n l) (hb : Below B w w') : ObsAt w' B A n l := h.keep fun _ hp => hb.cell hp
theorem ObsAt.tr {w w' : World} {B n : Nat} {A : Option Addr} {l : List Ob} (h : ObsAt w B A n l) (hb : Below w.heap.size w w') (hB : B ≤ w.heap.size) : ObsAt w' B A n l := h.below (hb.mono hB)
theorem ObsAt.at_ {w : World} {B n : Nat} {A : Option Addr} {l : List Ob} (h : ObsAt w B A n l) {k : Nat} (hk : k < n) :
    ∃ b off A' m c o, A = some ⟨b, off, none⟩ ∧ b < B ∧ l[k]? = some o ∧ w.cell? ⟨b, off + k * 2, none⟩ = some (.int .i64 o.kind) ∧ w.cell? ⟨b, off + k * 2 + 1, none⟩ = some (.slice A' m c) ∧ PtsAt w B A' m o.pts := by
  obtain ⟨b, off, e, hb, hc⟩ := h.2 (by omega)
  have hl : k < l.length := by rw [h.1]; exact hk
  obtain ⟨A', m, c, h0, h1, h2⟩ := hc k _ (List.getElem?_eq_getElem hl)
  exact ⟨b, off, A', m, c, _, e, hb, List.getElem?_eq_getElem hl, h0, h1, h2⟩
/-- a list of queries, their rings too -/
def QusAt (w : World) (B : Nat) (A : Option Addr) (n : Nat) (l : List Qu) : Prop :=
  l.length = n ∧ (0 < n → ∃ b off, A = some ⟨b, off, none⟩ ∧ b < B ∧ ∀ k q, l[k]? = some q → ∃ A' m c, w.cell? ⟨b, off + k * 6, none⟩ = some (.int .i64 q.kind) ∧ w.cell? ⟨b, off + k * 6 + 1, none⟩ = some (.int .i64 q.box.lo.x) ∧ w.cell? ⟨b, off + k * 6 + 2, none⟩ = some (.int .i64 q.box.lo.y) ∧ w.cell? ⟨b, off + k * 6 + 3, none⟩ = some (.int .i64 q.box.hi.x) ∧ w.cell? ⟨b, off + k * 6 + 4, none⟩ = some (.int .i64 q.box.hi.y) ∧ w.cell? ⟨b, off + k * 6 + 5, none⟩ = some (.slice A' m c) ∧ PtsAt w B A' m q.ring)
theorem QusAt.keep {w w' : World} {B n : Nat} {A : Option Addr} {l : List Qu} (h : QusAt w B A n l) (hk : ∀ p : Addr, p.block < B → w'.cell? p = w.cell? p) : QusAt w' B A n l :=
  ⟨h.1, fun hn => by
    obtain ⟨b, off, e, hb, hc⟩ := h.2 hn
    refine ⟨b, off, e, hb, fun k o ho => ?_⟩
    obtain ⟨A', m, c, h0, h1, h2, h3, h4, h5, h6⟩ := hc k o ho
    exact ⟨A', m, c, by rw [hk _ hb]; exact h0, by rw [hk _ hb]; exact h1, by rw [hk _ hb]; exact h2, by rw [hk _ hb]; exact h3, by rw [hk _ hb]; exact h4, by rw [hk _ hb]; exact h5, h6.keep hk⟩⟩
theorem QusAt.below {w w' : World} {B n : Nat} {A : Option Addr} {l : List Qu} (h : QusAt w B A n l) (hb : Below B w w') : QusAt w' B A n l := h.keep fun _ hp => hb.cell hp
theorem QusAt.tr {w w' : World} {B n : Nat} {A : Option Addr} {l : List Qu} (h : QusAt w B A n l) (hb : Below w.heap.size w w') (hB : B ≤ w.heap.size) : QusAt w' B A n l := h.below (hb.mono hB)
theorem QusAt.at_ {w : World} {B n : Nat} {A : Option Addr} {l : List Qu} (h : QusAt w B A n l) {k : Nat} (hk : k < n) :
    ∃ b off A' m c q, A = some ⟨b, off, none⟩ ∧ b < B ∧ l[k]? = some q ∧ (w.cell? ⟨b, off + k * 6, none⟩ = some (.int .i64 q.kind) ∧ w.cell? ⟨b, off + k * 6 + 1, none⟩ = some (.int .i64 q.box.lo.x) ∧ w.cell? ⟨b, off + k * 6 + 2, none⟩ = some (.int .i64 q.box.lo.y) ∧ w.cell? ⟨b, off + k * 6 + 3, none⟩ = some (.int .i64 q.box.hi.x) ∧ w.cell? ⟨b, off + k * 6 + 4, none⟩ = some (.int .i64 q.box.hi.y) ∧ w.cell? ⟨b, off + k * 6 + 5, none⟩ = some (.slice A' m c)) ∧ PtsAt w B A' m q.ring := by
  obtain ⟨b, off, e, hb, hc⟩ := h.2 (by omega)
  have hl : k < l.length := by rw [h.1]; exact hk
  obtain ⟨A', m, c, h0, h1, h2, h3, h4, h5, h6⟩ := hc k _ (List.getElem?_eq_getElem hl)
  exact ⟨b, off, A', m, c, _, e, hb, List.getElem?_eq_getElem hl, ⟨h0, h1, h2, h3, h4, h5⟩, h6⟩
end Go.Proofs.YtahiaekoaokgnaaGreat
set_option linter.unusedSimpArgs false
set_option linter.unusedVariables false
namespace Go.Proofs.YtahiaekoaokgnaaGreat
open Go.RowKit Pg
theorem bmeets_swap {a b : Bx} (h : bmeets a b = true) : bmeets b a = true := by
  unfold bmeets bmeetsR at *
  simp only [Bool.and_eq_true, decide_eq_true_eq] at *
  exact ⟨⟨h.1.2, h.1.1⟩, ⟨⟨by omega, by omega⟩, by omega⟩, by omega⟩
theorem match_ok {o : Ob} {q : Qu} (h : matchS o q = true) : ckOb o = 0 ∧ ckQu q = 0 := by
  unfold matchS at h
  split at h
  · rename_i h1; exact h1
  · cases h
theorem match_cons {o : Ob} {q : Qu} (h : matchS o q = true) : consB (boundsS o) q = true := by
  obtain ⟨ho, hq⟩ := match_ok h
  obtain ⟨k, b, r⟩ := q
  unfold consB
  rw [if_pos hq]
  simp only
  have hk : k = 1 ∨ k = 2 ∨ k = 3 ∨ k = 4 := by
    unfold ckQu at hq
    simp only at hq
    by_cases h12 : k = 1 ∨ k = 2
    · omega
    · rw [if_neg h12] at hq
      by_cases h3 : k = 3
      · omega
      · rw [if_neg h3] at hq
        by_cases h4 : k = 4
        · omega
        · rw [if_neg h4] at hq; cases hq
  unfold matchS at h
  rw [if_pos ⟨ho, hq⟩] at h
  simp only at h
  rcases hk with rfl | rfl | rfl | rfl
  · have hr : ckBox b = 0 := by simpa [ckQu] using hq
    rw [if_neg (by decide), if_neg (by decide)]
    refine meets_bounds ho hr ?_
    unfold matchS
    rw [if_pos ⟨ho, by simpa [ckQu] using hr⟩]
    exact h
  · have hr : ckBox b = 0 := by simpa [ckQu] using hq
    rw [if_neg (by decide), if_neg (by decide)]
    refine meets_bounds ho hr (in_meets ho hr ?_)
    unfold matchS
    rw [if_pos ⟨ho, by simpa [ckQu] using hr⟩]
    exact h
  · have op : okPt b.lo = true := by
      have : (if okPt b.lo = true then 0 else 2) = 0 := by simpa [ckQu] using hq
      split at this
      · assumption
      · cases this
    rw [if_pos rfl]
    have hr : ckBox ⟨b.lo, b.lo⟩ = 0 := okBx_ck.1 (okBx_pp op)
    have h1 := meets_bounds (r := ⟨b.lo, b.lo⟩) ho hr (by
      unfold matchS
      rw [if_pos ⟨ho, by simpa [ckQu] using hr⟩]
      exact h)
    have hbo := bounds_okBx ho
    have h2 := (bmeets_pp hbo op).1 h1
    unfold bhas bhasR
    unfold inR at h2
    rw [hbo, op, decide_eq_true h2.1.1, decide_eq_true h2.1.2, decide_eq_true h2.2.1, decide_eq_true h2.2.2]
    rfl
  · have hr : ckRing r = 0 := by simpa [ckQu] using hq
    rw [if_neg (by decide), if_pos rfl]
    rw [if_neg (by decide), if_neg (by decide), if_neg (by decide)] at h
    unfold meetsO at h
    have h4 : isBox ⟨4, r⟩ = false := rfl
    rw [h4] at h
    cases hb : isBox o with
    | true =>
      rw [hb] at h
      have hbo := bounds_okBx ho
      rw [boundsS_box hb] at hbo ⊢
      have ho4 : ckOb ⟨4, r⟩ = 0 := by simpa [ckOb] using hr
      have h1 := meets_bounds (o := ⟨4, r⟩) (r := obBox o) ho4 (okBx_ck.1 hbo) (by
        unfold matchS
        rw [if_pos ⟨ho4, by simpa [ckQu] using okBx_ck.1 hbo⟩]
        exact h)
      exact bmeets_swap h1
    | false =>
      rw [hb] at h
      rw [boundsS_poly hb]
      have h2 : ringsS o.pts r = true := h
      unfold ringsS at h2
      rw [Bool.and_eq_true] at h2
      exact h2.1
theorem consB_mono {b u : Bx} {q : Qu} (hu : okBx u = true) (hb : okBx b = true) (h : inB u b) (hc : consB b q = true) : consB u q = true := by
  unfold inB at h
  have hm : ∀ x, bmeets b x = true → bmeets u x = true := fun x hx => by
    unfold bmeets bmeetsR at *
    simp only [Bool.and_eq_true, decide_eq_true_eq] at *
    exact ⟨⟨hu, hx.1.2⟩, ⟨⟨by omega, by omega⟩, by omega⟩, by omega⟩
  unfold consB at *
  split at hc
  · rename_i h0
    rw [if_pos h0]
    split at hc
    · rename_i h3
      rw [if_pos h3]
      unfold bhas bhasR at *
      simp only [Bool.and_eq_true, decide_eq_true_eq] at *
      exact ⟨⟨hu, hc.1.2⟩, ⟨⟨by omega, by omega⟩, by omega⟩, by omega⟩
    · rename_i h3
      rw [if_neg h3]
      split at hc
      · rename_i h4
        rw [if_pos h4]
        exact hm _ hc
      · rename_i h4
        rw [if_neg h4]
        exact hm _ hc
  · cases hc
theorem boxN_mono {b u : Bx} {p : Pt} (hb : okBx b = true) (h : inB u b) : boxN u p ≤ boxN b p := by
  obtain ⟨_, h1, h2⟩ := (Pg.okBx_iff b).1 hb
  unfold inB at h
  unfold boxN
  exact sqs_mono (by unfold gap; omega) (by unfold gap; omega)
/-- a greater box is no farther than what lies in the lesser one -/
theorem cov_near {o : Ob} {u : Bx} {p : Pt} (ho : ckOb o = 0) (op : okPt p = true) (hu : okBx u = true) (h : inB u (boundsS o)) : cmpF (bxF u p) (distF o p) ≤ 0 := by
  have h1 := box_near ho op
  have hd := distF_den ho op
  have e : bxF u p = ⟨boxN u p, 1⟩ := by unfold bxF; rw [hu, op]; rfl
  rw [cmpF_le Nat.one_pos hd] at h1
  rw [e, cmpF_le Nat.one_pos hd]
  refine Nat.le_trans (Nat.mul_le_mul_right _ ?_) h1
  exact boxN_mono (bounds_okBx ho) h
end Go.Proofs.YtahiaekoaokgnaaGreat
set_option linter.unusedSimpArgs false
set_option linter.unusedVariables false
namespace Go.Proofs.YtahiaekoaokgnaaGreat
open Go.RowKit Pg
theorem inB_anti {a b : Bx} (h : inB a b) (k : inB b a) : a = b := by
  obtain ⟨⟨ax, ay⟩, ⟨az, aw⟩⟩ := a
  obtain ⟨⟨bx, by_⟩, ⟨bz, bw⟩⟩ := b
  unfold inB at h k
  simp only at h k
  simp only [Bx.mk.injEq, Pt.mk.injEq]
  omega
theorem union_least {l : List Bx} (hl : l ≠ []) (h : ∀ b ∈ l, okBx b = true) {v : Bx} (hv : ∀ b ∈ l, inB v b) : inB v (union l).1 := by
  cases l with
  | nil => exact absurd rfl hl
  | cons a r =>
    obtain ⟨h1, h2, h3, h4⟩ := unionGo_spec (a :: r) a (fun b hb => okBx_ck.1 (h b hb))
    exact h4 v (hv a (by simp)) hv
theorem union_eq {l m : List Bx} (hl : l ≠ []) (h : ∀ b ∈ l, okBx b = true) (hm : m ≠ []) (k : ∀ b ∈ m, okBx b = true) (h1 : ∀ b ∈ l, inB (union m).1 b) (h2 : ∀ b ∈ m, inB (union l).1 b) : (union l).1 = (union m).1 :=
  inB_anti (union_least hm k h2) (union_least hl h h1)
theorem inB_trans {a b c : Bx} (h : inB a b) (k : inB b c) : inB a c := by
  unfold inB at *
  omega
theorem boxesK_keys {l : List Bx} (h : ∀ b ∈ l, okBx b = true) : boxesK (l.map keyL) = l := by
  induction l with
  | nil => rfl
  | cons a r ih =>
    have := ih fun b hb => h b (by simp [hb])
    unfold boxesK at this ⊢
    rw [List.map_cons, List.filterMap_cons, unkey_key (okBx_in (h a (by simp))), if_pos (h a (by simp)), this]
theorem unionK_keys {l : List Bx} (hl : l ≠ []) (h : ∀ b ∈ l, okBx b = true) : unionK (l.map keyL) = keyL (union l).1 := by
  unfold unionK
  rw [boxesK_keys h, if_pos (union_all hl h).1]
theorem unionK_none : unionK [] = [] := by unfold unionK boxesK; rfl
/-- whatever the order -/
theorem unionK_turn {l : List Bx} (hl : l ≠ []) (h : ∀ b ∈ l, okBx b = true) (n : Nat) : unionK ((l.map keyL).drop n ++ (l.map keyL).take n) = unionK (l.map keyL) := by
  have hm : ∀ b, b ∈ l.drop n ++ l.take n ↔ b ∈ l := fun b => by
    rw [List.mem_append, Or.comm, ← List.mem_append, List.take_append_drop]
  have hne : l.drop n ++ l.take n ≠ [] := by
    intro e
    obtain ⟨b, hb⟩ := List.exists_mem_of_ne_nil l hl
    rw [← hm b, e] at hb
    cases hb
  have h' : ∀ b ∈ l.drop n ++ l.take n, okBx b = true := fun b hb => h b ((hm b).1 hb)
  rw [← List.map_drop, ← List.map_take, ← List.map_append, unionK_keys hne h', unionK_keys hl h]
  congr 1
  exact union_eq hne h' hl h (fun b hb => (union_all hl h).2.2 b ((hm b).1 hb)) (fun b hb => (union_all hne h').2.2 b ((hm b).2 hb))
theorem inB_self (a : Bx) : inB a a := by unfold inB; omega
theorem union_one {a : Bx} (h : okBx a = true) : (union [a]).1 = a := by
  have hok : ∀ b ∈ [a], okBx b = true := by
    intro b hb
    simp at hb
    subst hb
    exact h
  refine inB_anti ((union_all (by simp) hok).2.2 a (by simp)) (union_least (by simp) hok ?_)
  intro b hb
  simp at hb
  subst hb
  exact inB_self _
theorem unkey_nil : unkeyS [] = none := by kernel_rfl
/-- in two parts -/
theorem unionK_two {l : List Bx} (hl : l ≠ []) (h : ∀ b ∈ l, okBx b = true) (n : Nat) : unionK [unionK ((l.map keyL).drop n), unionK ((l.map keyL).take n)] = unionK (l.map keyL) := by
  have hd : ∀ b ∈ l.drop n, okBx b = true := fun b hb => h b (List.mem_of_mem_drop hb)
  have ht : ∀ b ∈ l.take n, okBx b = true := fun b hb => h b (List.mem_of_mem_take hb)
  rw [← List.map_drop, ← List.map_take]
  by_cases h1 : l.drop n = []
  · have e : l.take n = l := by
      have := List.take_append_drop n l
      rw [h1, List.append_nil] at this
      exact this
    rw [h1, e, List.map_nil, unionK_none, unionK_keys hl h]
    have hu := (union_all hl h).2.1
    have e2 : boxesK [[], keyL (union l).1] = [(union l).1] := by
      unfold boxesK
      rw [List.filterMap_cons, unkey_nil]
      simp only
      rw [List.filterMap_cons, unkey_key (okBx_in hu), if_pos hu]
      rfl
    unfold unionK
    rw [e2]
    have h3 := union_all (l := [(union l).1]) (by simp) (by intro b hb; simp at hb; subst hb; exact hu)
    rw [if_pos h3.1]
    rw [union_one hu]
  · by_cases h2 : l.take n = []
    · have e : l.drop n = l := by
        have := List.take_append_drop n l
        rw [h2, List.nil_append] at this
        exact this
      rw [h2, e, List.map_nil, unionK_none, unionK_keys hl h]
      have hu := (union_all hl h).2.1
      have e2 : boxesK [keyL (union l).1, []] = [(union l).1] := by
        unfold boxesK
        rw [List.filterMap_cons, unkey_key (okBx_in hu), if_pos hu]
        simp only
        rw [List.filterMap_cons, unkey_nil]
        rfl
      unfold unionK
      rw [e2]
      have h3 := union_all (l := [(union l).1]) (by simp) (by intro b hb; simp at hb; subst hb; exact hu)
      rw [if_pos h3.1]
      rw [union_one hu]
    · rw [unionK_keys h1 hd, unionK_keys h2 ht]
      have u1 := union_all h1 hd
      have u2 := union_all h2 ht
      have e : [keyL (union (l.drop n)).1, keyL (union (l.take n)).1] = [(union (l.drop n)).1, (union (l.take n)).1].map keyL := rfl
      have hok : ∀ b ∈ [(union (l.drop n)).1, (union (l.take n)).1], okBx b = true := by
        intro b hb
        simp at hb
        rcases hb with rfl | rfl
        · exact u1.2.1
        · exact u2.2.1
      rw [e, unionK_keys (by simp) hok, unionK_keys hl h]
      congr 1
      have u3 := union_all (by simp) hok
      refine union_eq (by simp) hok hl h ?_ ?_
      · intro b hb
        simp at hb
        rcases hb with rfl | rfl
        · exact union_least h1 hd fun b hb => (union_all hl h).2.2 b (List.mem_of_mem_drop hb)
        · exact union_least h2 ht fun b hb => (union_all hl h).2.2 b (List.mem_of_mem_take hb)
      · intro b hb
        rw [← List.take_append_drop n l] at hb
        rcases List.mem_append.1 hb with hb | hb
        · exact inB_trans (u3.2.2 _ (by simp)) (u2.2.2 b hb)
        · exact inB_trans (u3.2.2 _ (by simp)) (u1.2.2 b hb)
/-- a union does not grow by what it is a union of -/
theorem penS_zero {l : List Bx} (hl : l ≠ []) (h : ∀ b ∈ l, okBx b = true) {b : Bx} (hb : b ∈ l) : penS (unionK (l.map keyL)) (keyL b) = 0 := by
  have u := union_all hl h
  rw [unionK_keys hl h]
  unfold penS
  rw [unkey_key (okBx_in u.2.1), if_pos u.2.1, unkey_key (okBx_in (h b hb)), if_pos (h b hb)]
  simp only
  unfold growN
  have hok : ∀ c ∈ [(union l).1, b], okBx c = true := by
    intro c hc
    simp at hc
    rcases hc with rfl | rfl
    · exact u.2.1
    · exact h _ hb
  have e : (union [(union l).1, b]).1 = (union l).1 := inB_anti (union_all (by simp) hok |>.2.2 _ (by simp)) (union_least (by simp) hok (by
    intro c hc
    simp at hc
    rcases hc with rfl | rfl
    · unfold inB; omega
    · exact u.2.2 _ hb)) |> fun h => h
  rw [e]
  omega
/-- a key covers objects whose boxes lie in its own -/
theorem cover_all {u : Bx} {l : List Ob} (hu : okBx u = true) (h : ∀ o ∈ l, ckOb o = 0 ∧ inB u (boundsS o)) (q : List Qu) (p : List Pt) :
    (l.all fun o => q.all fun x => !matchS o x || consS (keyL u) x) = true ∧ (l.all fun o => decide (ckOb o ≠ 0) || p.all fun x => !okPt x || (decide ((farS (keyL u) x).den ≠ 0) && decide (cmpF (farS (keyL u) x) (distF o x) ≤ 0))) = true := by
  have hk : unkeyS (keyL u) = some u := by rw [unkey_key (okBx_in hu), if_pos hu]
  constructor
  · rw [List.all_eq_true]
    intro o ho
    obtain ⟨h1, h2⟩ := h o ho
    rw [List.all_eq_true]
    intro x _
    rw [consS_some hk]
    cases hm : matchS o x with
    | false => rfl
    | true => rw [consB_mono hu (bounds_okBx h1) h2 (match_cons hm)]; rfl
  · rw [List.all_eq_true]
    intro o ho
    obtain ⟨h1, h2⟩ := h o ho
    rw [Bool.or_eq_true]
    refine .inr ?_
    rw [List.all_eq_true]
    intro x _
    cases hx : okPt x with
    | false => rfl
    | true =>
      unfold farS
      rw [hk]
      simp only
      have e : (bxF u x).den ≠ 0 := by unfold bxF; rw [hu, hx]; simp
      rw [decide_eq_true e, decide_eq_true (cov_near h1 hx hu h2)]
      rfl
end Go.Proofs.YtahiaekoaokgnaaGreat
