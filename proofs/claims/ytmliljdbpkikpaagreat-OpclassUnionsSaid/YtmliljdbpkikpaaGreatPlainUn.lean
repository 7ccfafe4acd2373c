/-
  The union of keys: of whatever order, in two parts or in one; it covers what its keys were made of.
-/
import Derived.Test.YtmliljdbpkikpaaGreatPlainCov
import Derived.Test.YtmliljdbpkikpaaGreatArea
set_option linter.unusedSimpArgs false
set_option linter.unusedVariables false
namespace Go.Proofs.YtmliljdbpkikpaaGreat
open Go.RowKit Pg
theorem inB_anti {a b : Bx} (h : inB a b) (k : inB b a) : a = b := by
  obtain ⟨⟨ax, ay⟩, ⟨az, aw⟩⟩ := a
  obtain ⟨⟨bx, by_⟩, ⟨bz, bw⟩⟩ := b
  unfold inB at h k
  simp only at h k
  simp only [Bx.mk.injEq, Pt.mk.injEq]
  omega
theorem union_least {l : List Bx} (hl : l ≠ []) (h : ∀ b ∈ l, okBx b = true) {v : Bx} (hv : ∀ b ∈ l, inB v b) : inB v (union l).1 := by
  cases l with
  | nil => exact absurd rfl hl
  | cons a r =>
    obtain ⟨h1, h2, h3, h4⟩ := unionGo_spec (a :: r) a (fun b hb => okBx_ck.1 (h b hb))
    exact h4 v (hv a (by simp)) hv
theorem union_eq {l m : List Bx} (hl : l ≠ []) (h : ∀ b ∈ l, okBx b = true) (hm : m ≠ []) (k : ∀ b ∈ m, okBx b = true) (h1 : ∀ b ∈ l, inB (union m).1 b) (h2 : ∀ b ∈ m, inB (union l).1 b) : (union l).1 = (union m).1 :=
  inB_anti (union_least hm k h2) (union_least hl h h1)
theorem inB_trans {a b c : Bx} (h : inB a b) (k : inB b c) : inB a c := by
  unfold inB at *
  omega
theorem boxesK_keys {l : List Bx} (h : ∀ b ∈ l, okBx b = true) : boxesK (l.map keyL) = l := by
  induction l with
  | nil => rfl
  | cons a r ih =>
    have := ih fun b hb => h b (by simp [hb])
    unfold boxesK at this ⊢
    rw [List.map_cons, List.filterMap_cons, unkey_key (okBx_in (h a (by simp))), if_pos (h a (by simp)), this]
theorem unionK_keys {l : List Bx} (hl : l ≠ []) (h : ∀ b ∈ l, okBx b = true) : unionK (l.map keyL) = keyL (union l).1 := by
  unfold unionK
  rw [boxesK_keys h, if_pos (union_all hl h).1]
theorem unionK_none : unionK [] = [] := by unfold unionK boxesK; rfl
/-- whatever the order -/
theorem unionK_turn {l : List Bx} (hl : l ≠ []) (h : ∀ b ∈ l, okBx b = true) (n : Nat) : unionK ((l.map keyL).drop n ++ (l.map keyL).take n) = unionK (l.map keyL) := by
  have hm : ∀ b, b ∈ l.drop n ++ l.take n ↔ b ∈ l := fun b => by
    rw [List.mem_append, Or.comm, ← List.mem_append, List.take_append_drop]
  have hne : l.drop n ++ l.take n ≠ [] := by
    intro e
    obtain ⟨b, hb⟩ := List.exists_mem_of_ne_nil l hl
    rw [← hm b, e] at hb
    cases hb
  have h' : ∀ b ∈ l.drop n ++ l.take n, okBx b = true := fun b hb => h b ((hm b).1 hb)
  rw [← List.map_drop, ← List.map_take, ← List.map_append, unionK_keys hne h', unionK_keys hl h]
  congr 1
  exact union_eq hne h' hl h (fun b hb => (union_all hl h).2.2 b ((hm b).1 hb)) (fun b hb => (union_all hne h').2.2 b ((hm b).2 hb))
theorem inB_self (a : Bx) : inB a a := by unfold inB; omega
theorem union_one {a : Bx} (h : okBx a = true) : (union [a]).1 = a := by
  have hok : ∀ b ∈ [a], okBx b = true := by
    intro b hb
    simp at hb
    subst hb
    exact h
  refine inB_anti ((union_all (by simp) hok).2.2 a (by simp)) (union_least (by simp) hok ?_)
  intro b hb
  simp at hb
  subst hb
  exact inB_self _
theorem unkey_nil : unkeyS [] = none := by kernel_rfl
/-- in two parts -/
theorem unionK_two {l : List Bx} (hl : l ≠ []) (h : ∀ b ∈ l, okBx b = true) (n : Nat) : unionK [unionK ((l.map keyL).drop n), unionK ((l.map keyL).take n)] = unionK (l.map keyL) := by
  have hd : ∀ b ∈ l.drop n, okBx b = true := fun b hb => h b (List.mem_of_mem_drop hb)
  have ht : ∀ b ∈ l.take n, okBx b = true := fun b hb => h b (List.mem_of_mem_take hb)
  rw [← List.map_drop, ← List.map_take]
  by_cases h1 : l.drop n = []
  · have e : l.take n = l := by
      have := List.take_append_drop n l
      rw [h1, List.append_nil] at this
      exact this
    rw [h1, e, List.map_nil, unionK_none, unionK_keys hl h]
    have hu := (union_all hl h).2.1
    have e2 : boxesK [[], keyL (union l).1] = [(union l).1] := by
      unfold boxesK
      rw [List.filterMap_cons, unkey_nil]
      simp only
      rw [List.filterMap_cons, unkey_key (okBx_in hu), if_pos hu]
      rfl
    unfold unionK
    rw [e2]
    have h3 := union_all (l := [(union l).1]) (by simp) (by intro b hb; simp at hb; subst hb; exact hu)
    rw [if_pos h3.1]
    rw [union_one hu]
  · by_cases h2 : l.take n = []
    · have e : l.drop n = l := by
        have := List.take_append_drop n l
        rw [h2, List.nil_append] at this
        exact this
      rw [h2, e, List.map_nil, unionK_none, unionK_keys hl h]
      have hu := (union_all hl h).2.1
      have e2 : boxesK [keyL (union l).1, []] = [(union l).1] := by
        unfold boxesK
        rw [List.filterMap_cons, unkey_key (okBx_in hu), if_pos hu]
        simp only
        rw [List.filterMap_cons, unkey_nil]
        rfl
      unfold unionK
      rw [e2]
      have h3 := union_all (l := [(union l).1]) (by simp) (by intro b hb; simp at hb; subst hb; exact hu)
      rw [if_pos h3.1]
      rw [union_one hu]
    · rw [unionK_keys h1 hd, unionK_keys h2 ht]
      have u1 := union_all h1 hd
      have u2 := union_all h2 ht
      have e : [keyL (union (l.drop n)).1, keyL (union (l.take n)).1] = [(union (l.drop n)).1, (union (l.take n)).1].map keyL := rfl
      have hok : ∀ b ∈ [(union (l.drop n)).1, (union (l.take n)).1], okBx b = true := by
        intro b hb
        simp at hb
        rcases hb with rfl | rfl
        · exact u1.2.1
        · exact u2.2.1
      rw [e, unionK_keys (by simp) hok, unionK_keys hl h]
      congr 1
      have u3 := union_all (by simp) hok
      refine union_eq (by simp) hok hl h ?_ ?_
      · intro b hb
        simp at hb
        rcases hb with rfl | rfl
        · exact union_least h1 hd fun b hb => (union_all hl h).2.2 b (List.mem_of_mem_drop hb)
        · exact union_least h2 ht fun b hb => (union_all hl h).2.2 b (List.mem_of_mem_take hb)
      · intro b hb
        rw [← List.take_append_drop n l] at hb
        rcases List.mem_append.1 hb with hb | hb
        · exact inB_trans (u3.2.2 _ (by simp)) (u2.2.2 b hb)
        · exact inB_trans (u3.2.2 _ (by simp)) (u1.2.2 b hb)
/-- a union does not grow by what it is a union of -/
theorem penS_zero {l : List Bx} (hl : l ≠ []) (h : ∀ b ∈ l, okBx b = true) {b : Bx} (hb : b ∈ l) : penS (unionK (l.map keyL)) (keyL b) = 0 := by
  have u := union_all hl h
  rw [unionK_keys hl h]
  unfold penS
  rw [unkey_key (okBx_in u.2.1), if_pos u.2.1, unkey_key (okBx_in (h b hb)), if_pos (h b hb)]
  simp only
  unfold growN
  have hok : ∀ c ∈ [(union l).1, b], okBx c = true := by
    intro c hc
    simp at hc
    rcases hc with rfl | rfl
    · exact u.2.1
    · exact h _ hb
  have e : (union [(union l).1, b]).1 = (union l).1 := inB_anti (union_all (by simp) hok |>.2.2 _ (by simp)) (union_least (by simp) hok (by
    intro c hc
    simp at hc
    rcases hc with rfl | rfl
    · unfold inB; omega
    · exact u.2.2 _ hb)) |> fun h => h
  rw [e]
  omega
/-- a key covers objects whose boxes lie in its own -/
theorem cover_all {u : Bx} {l : List Ob} (hu : okBx u = true) (h : ∀ o ∈ l, ckOb o = 0 ∧ inB u (boundsS o)) (q : List Qu) (p : List Pt) :
    (l.all fun o => q.all fun x => !matchS o x || consS (keyL u) x) = true ∧ (l.all fun o => decide (ckOb o ≠ 0) || p.all fun x => !okPt x || (decide ((farS (keyL u) x).den ≠ 0) && decide (cmpF (farS (keyL u) x) (distF o x) ≤ 0))) = true := by
  have hk : unkeyS (keyL u) = some u := by rw [unkey_key (okBx_in hu), if_pos hu]
  constructor
  · rw [List.all_eq_true]
    intro o ho
    obtain ⟨h1, h2⟩ := h o ho
    rw [List.all_eq_true]
    intro x _
    rw [consS_some hk]
    cases hm : matchS o x with
    | false => rfl
    | true => rw [consB_mono hu (bounds_okBx h1) h2 (match_cons hm)]; rfl
  · rw [List.all_eq_true]
    intro o ho
    obtain ⟨h1, h2⟩ := h o ho
    rw [Bool.or_eq_true]
    refine .inr ?_
    rw [List.all_eq_true]
    intro x _
    cases hx : okPt x with
    | false => rfl
    | true =>
      unfold farS
      rw [hk]
      simp only
      have e : (bxF u x).den ≠ 0 := by unfold bxF; rw [hu, hx]; simp
      rw [decide_eq_true e, decide_eq_true (cov_near h1 hx hu h2)]
      rfl
end Go.Proofs.YtmliljdbpkikpaaGreat
