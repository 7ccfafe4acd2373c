/-
  The split's comparison: its closure's contract.
-/
import Derived.Test.YtmaogalgganhgaaPlane
import Derived.Test.YtmaogalgganhgaaAllocG
import Derived.Test.YtmaogalgganhgaaPlainSplit
set_option linter.unusedSimpArgs false
set_option linter.unusedVariables false
namespace Go.Proofs.Ytmaogalgganhgaa
open Go.RowKit Pg

/-- the first number that is not 0 -/
def or3 (x y z : Int) : Int := if x = 0 then (if y = 0 then z else y) else x

set_option maxHeartbeats 1000000 in
theorem or3_any (g : Nat) (t : TypeId) (x y z : Int) (w : World) (h : Blk w g t #[.int .i64 x, .int .i64 y, .int .i64 z]) :
    Calls Try.prog 41 #[.slice (some ⟨g, 0, none⟩) 3 3] w fun e w' => e = .returned (.int .i64 (or3 x y z)) ∧ w = w' := by
  have c0 := h.cell 0
  have c1 := h.cell 1
  have c2 := h.cell 2
  simp only [List.getElem?_toArray, List.getElem?_cons_zero, List.getElem?_cons_succ] at c0 c1 c2
  by_cases hx : x = 0
  · subst hx
    by_cases hy : y = 0
    · subst hy
      by_cases hz : z = 0
      · subst hz
        go_enter Try.func41, Try.ntmps41
        go_wp2
        refine wp_loop_rounds 4 ?_
        rw [rounds_succ]
        go_wp2
        rw [rounds_succ]
        go_wp2
        rw [rounds_succ]
        go_wp2
        rw [rounds_succ]
        go_wp2
        go_ret
        exact ⟨by simp [or3], rfl⟩
      · have hb : (z == 0) = false := by simpa using hz
        go_enter Try.func41, Try.ntmps41
        go_wp2
        refine wp_loop_rounds 3 ?_
        rw [rounds_succ]
        go_wp2
        rw [rounds_succ]
        go_wp2
        rw [rounds_succ]
        go_wp2
        go_ret
        exact ⟨by simp [or3], rfl⟩
    · have hb : (y == 0) = false := by simpa using hy
      go_enter Try.func41, Try.ntmps41
      go_wp2
      refine wp_loop_rounds 2 ?_
      rw [rounds_succ]
      go_wp2
      rw [rounds_succ]
      go_wp2
      go_ret
      exact ⟨by simp [or3, hy], rfl⟩
  · have hb : (x == 0) = false := by simpa using hx
    go_enter Try.func41, Try.ntmps41
    go_wp2
    refine wp_loop_rounds 1 ?_
    rw [rounds_succ]
    go_wp2
    go_ret
    exact ⟨by simp [or3, hx], rfl⟩

theorem sgn_cases (a : Int) : (a < 0 ∧ sgn a = -1) ∨ (a = 0 ∧ sgn a = 0) ∨ (0 < a ∧ sgn a = 1) := by
  unfold sgn
  rcases Int.lt_trichotomy a 0 with h | h | h
  · exact .inl ⟨h, if_pos h⟩
  · exact .inr (.inl ⟨h, by rw [if_neg (by omega), if_neg (by omega)]⟩)
  · exact .inr (.inr ⟨h, by rw [if_neg (by omega), if_pos h]⟩)
/-- how the split compares two places -/
def cmpS (l : List Bx) (i k : Nat) : Int := or3 (sgn (cX (bx l i) - cX (bx l k))) (sgn (cY (bx l i) - cY (bx l k))) (sgn ((i : Int) - k))
theorem cmpS_lt (l : List Bx) (i k : Nat) : decide (cmpS l i k < 0) = ahd l i k := by
  rw [Bool.eq_iff_iff, ahd_iff, decide_eq_true_eq]
  unfold cmpS bx
  generalize cX (l.getD i bzero) = a
  generalize cX (l.getD k bzero) = b
  generalize cY (l.getD i bzero) = c
  generalize cY (l.getD k bzero) = d
  have h1 := sgn_cases (a - b)
  have h2 := sgn_cases (c - d)
  have h3 := sgn_cases ((i : Int) - k)
  unfold or3
  split <;> (try split) <;> omega

theorem wrap_sum {a b : Int} (ha : -1073741824 ≤ a ∧ a ≤ 1073741824) (hb : -1073741824 ≤ b ∧ b ≤ 1073741824) : IntKind.i64.wrap (a + b) = a + b := by
  simp [IntKind.wrap, IntKind.bits, IntKind.signed]; omega

theorem small_bx {b : Bx} (h : okBx b = true ∨ b = bzero) : (-1073741824 ≤ b.lo.x ∧ b.lo.x ≤ 1073741824) ∧ (-1073741824 ≤ b.lo.y ∧ b.lo.y ≤ 1073741824) ∧ (-1073741824 ≤ b.hi.x ∧ b.hi.x ≤ 1073741824) ∧ (-1073741824 ≤ b.hi.y ∧ b.hi.y ≤ 1073741824) := by
  rcases h with h | rfl
  · have hp : okPt b.lo = true ∧ okPt b.hi = true := by
      unfold okBx ckBox at h
      cases h1 : okPt b.lo <;> cases h2 : okPt b.hi <;> simp [h1, h2] at h ⊢
    obtain ⟨h1, h2⟩ := hp
    simp [okPt, farB] at h1 h2
    omega
  · decide

set_option maxHeartbeats 4000000 in
set_option maxRecDepth 20000 in
theorem less_any (g B n cap : Nat) (A : Option Addr) (l : List Bx) (i k : Nat) (w : World) (hl : BxsAt w B A n l) (hB : B ≤ w.heap.size) (hg : w.cell? ⟨g, 0, none⟩ = some (.slice A n cap)) (hgl : g < w.heap.size)
    (hi : i < n) (hk : k < n) (hn : n ≤ 1000000) (hok : ∀ b ∈ l, okBx b = true ∨ b = bzero) :
    Calls Try.prog 40 #[.int .i64 i, .int .i64 k, .pointer (some ⟨g, 0, none⟩)] w fun e w' => e = .returned (.int .i64 (cmpS l i k)) ∧ Gr w.heap.size w w' := by
  obtain ⟨b, off, rfl, hbB, a0, a1, a2, a3⟩ := hl.at_ hi
  obtain ⟨b', off', ho, _, d0, d1, d2, d3⟩ := hl.at_ hk
  injection ho with ho
  injection ho with ho1 ho2
  subst ho1 ho2
  have hbw : b < w.heap.size := by omega
  have ci := hok _ (List.mem_of_getElem? (bx_of (l := l) (k := i) (by rw [hl.1]; exact hi)))
  have ck := hok _ (List.mem_of_getElem? (bx_of (l := l) (k := k) (by rw [hl.1]; exact hk)))
  obtain ⟨V, hV⟩ : ∃ V, cmpS l i k = V := ⟨_, rfl⟩
  rw [hV]
  unfold cmpS at hV
  have x1 := small_bx ci
  have x2 := small_bx ck
  clear ci ck hok hl
  obtain ⟨⟨⟨p1, p2⟩, ⟨p3, p4⟩⟩, ep⟩ : ∃ p, bx l i = p := ⟨_, rfl⟩
  obtain ⟨⟨⟨q1, q2⟩, ⟨q3, q4⟩⟩, eq_⟩ : ∃ p, bx l k = p := ⟨_, rfl⟩
  rw [ep] at a0 a1 a2 a3 hV x1
  rw [eq_] at d0 d1 d2 d3 hV x2
  clear ep eq_ l
  simp only [cX, cY] at hV
  simp only at a0 a1 a2 a3 d0 d1 d2 d3 x1 x2
  have s1 := wrap_sum x1.1 x1.2.2.1
  have s2 := wrap_sum x1.2.1 x1.2.2.2
  have s3 := wrap_sum x2.1 x2.2.2.1
  have s4 := wrap_sum x2.2.1 x2.2.2.2
  clear x1 x2
  have hi0 : (i : Int) < (n : Int) := by omega
  have hk0 : (k : Int) < (n : Int) := by omega
  go_enter Try.func40, Try.ntmps40
  go_wp2_with fail
  refine PgG.wp_region_alloc' [0, 1, 2, 3, 4, 5, 6, 7] [8, 9] [10, 11] (fun _ => #[.int .i64 0, .int .i64 0, .int .i64 0, .int .i64 0]) (by kernel_rfl) (by kernel_rfl) (fun _ _ d _ _ h => by cases d <;> exact h) (by intro i hi w; simp only [List.mem_cons, List.not_mem_nil, or_false] at hi; rcases hi with rfl | rfl <;> simp only [List.getD_cons_zero, List.getD_cons_succ, PgG.tyOf] <;> kernel_rfl) (fun KN hKN => ?_)
  simp only [List.map_cons, List.map_nil, List.getD_cons_zero, List.getD_cons_succ, bare, gslot, List.getElem?_cons_zero, List.getElem?_cons_succ, Option.bind_some]
  repeat ((try simp only [Act.put, List.setIfInBounds_toArray, List.set_cons_zero, List.set_cons_succ]); first | (refine PgG.lexN_quiet (v := ?_) rfl ?_ ?_; rotate_left; focus (intro wq hq; obtain ⟨hcq, hfq⟩ := gcell hq; go_simp; try with_reducible rfl)) | (refine PgG.lexN_loud (v := ?_) rfl ?_ ?_; rotate_left; focus (intro wq hq K hK; obtain ⟨hcq, hfq⟩ := gcell hq; go_simp; (first | fail); refine hK.out _ _ ?_ (by repeat (first | with_reducible exact Gr.refl _ _ | with_reducible assumption | with_reducible refine grA ?_ _ | with_reducible refine Gr.drew ?_ | with_reducible refine Gr.setCell ?_ (by first | (simp; done) | (simp; omega)) _ | with_reducible refine grT ?_ (by with_reducible assumption))); simp only [Act.put, List.setIfInBounds_toArray, List.set_cons_zero, List.set_cons_succ]; try with_reducible rfl)))
  (try simp only [Act.put, List.setIfInBounds_toArray, List.set_cons_zero, List.set_cons_succ])
  refine PgG.lexN_nil (hKN.out _ ?_)
  clear hKN KN
  intro gs wf hwf hgs hds
  simp only [List.map_cons, List.map_nil, List.getD_cons_zero, List.getD_cons_succ, bare, gslot, List.getElem?_cons_zero, List.getElem?_cons_succ, Option.bind_some, List.foldl_cons, List.foldl_nil, PgG.ptrV]
  obtain ⟨hg8, HB8⟩ := hgs 8 (by decide)
  obtain ⟨hg9, HB9⟩ := hgs 9 (by decide)
  have hd8x9 := hds 8 (by decide) 9 (by decide) (by decide)
  simp only [List.getD_cons_zero, List.getD_cons_succ, PgG.tyOf] at HB8 HB9
  clear hgs hds
  generalize gs 8 = g8 at *
  generalize gs 9 = g9 at *
  have cg8 := HB8.cell
  have fg8 := HB8.frozen
  have cg9 := HB9.cell
  have fg9 := HB9.frozen
  have hd9x8 := Ne.symm hd8x9
  repeat ((try simp only [Act.put, List.setIfInBounds_toArray, List.set_cons_zero, List.set_cons_succ]); first | (refine lexL_loud wantB_none rfl (fun K hK => ?_); go_simp; refine hK.out _ _ (by repeat (first | with_reducible exact Gr.refl _ _ | with_reducible assumption | with_reducible refine grA ?_ _ | with_reducible refine Gr.drew ?_ | with_reducible refine Gr.setCell ?_ (by first | (simp; done) | (simp; omega)) _ | with_reducible refine grT ?_ (by with_reducible assumption))) ?_; clear hK K) | (refine lexL_quiet (v := ?_) wantB_none rfl ?_ ?_; rotate_left; focus (intro wq hq; go_simp; try with_reducible rfl)))
  refine lexL_nil ?_
  refine PgG.keep_world (R := fun w2 => Gr w.heap.size w w2 ∧ Blk w2 g8 35 #[.int .i64 p1, .int .i64 p2, .int .i64 p3, .int .i64 p4] ∧ Blk w2 g9 35 #[.int .i64 q1, .int .i64 q2, .int .i64 q3, .int .i64 q4]) ⟨(by repeat (first | with_reducible exact Gr.refl _ _ | with_reducible assumption | with_reducible refine grA ?_ _ | with_reducible refine Gr.drew ?_ | with_reducible refine Gr.setCell ?_ (by first | (simp; done) | (simp; omega)) _ | with_reducible refine grT ?_ (by with_reducible assumption))), ((((((((HB8.set_ 0 _).set_ 1 _).set_ 2 _).set_ 3 _).far (p := ⟨g9, 0, none⟩) hd8x9 _).far (p := ⟨g9, 1, none⟩) hd8x9 _).far (p := ⟨g9, 2, none⟩) hd8x9 _).far (p := ⟨g9, 3, none⟩) hd8x9 _).eq_ (by simp), ((((((((HB9.far (p := ⟨g8, 0, none⟩) hd9x8 _).far (p := ⟨g8, 1, none⟩) hd9x8 _).far (p := ⟨g8, 2, none⟩) hd9x8 _).far (p := ⟨g8, 3, none⟩) hd9x8 _).set_ 0 _).set_ 1 _).set_ 2 _).set_ 3 _).eq_ (by simp)⟩ ?_
  rintro w2 ⟨hb2, h8, h9⟩
  clear cg8 fg8 HB8 cg9 fg9 HB9
  have cg8 := h8.cell
  have fg8 := h8.frozen
  have lg8 := h8.lt
  have cg9 := h9.cell
  have fg9 := h9.frozen
  have lg9 := h9.lt
  obtain ⟨hc2, hf2⟩ := gcell hb2
  clear a0 a1 a2 a3 d0 d1 d2 d3 hg
  go_wp2_with fail
  refine wp_region_gr [0, 1, 2, 3, 4, 5, 6, 7, 8, 9, 10, 11, 12, 13, 15, 16, 17, 18, 19, 20, 21, 22, 23, 24, 25, 26, 27, 28, 30, 31, 14, 29, 32, 33, 34, 35] (by kernel_rfl) (by kernel_rfl) (fun _ _ d _ _ h => by cases d <;> exact h) ?_
  simp only [List.map_cons, List.map_nil, List.getD_cons_zero, List.getD_cons_succ, bare, gslot, List.getElem?_cons_zero, List.getElem?_cons_succ, Option.bind_some]
  repeat' ((try simp only [Act.put, List.setIfInBounds_toArray, List.set_cons_zero, List.set_cons_succ]); first | (refine lexL_quiet (v := ?_) wantB_none rfl ?_ ?_; rotate_left; focus (intro wq hq; obtain ⟨hcq, hfq⟩ := gcell hq; go_simp; try with_reducible rfl)) | (refine lexL_loud wantB_none rfl (fun K hK => ?_); go_simp; ((first | (go_at_call 42; refine (compareInt_any _ _ _).mono ?_; rintro e w1 ⟨rfl, rfl⟩) | (go_at_call 41; (with_reducible refine (or3_any _ 3 (sgn (p1 + p3 - (q1 + q3))) (sgn (p2 + p4 - (q2 + q4))) (sgn ((i : Int) - k)) _ ?_).mono ?_); (focus exact (by repeat (first | with_reducible assumption | with_reducible exact Blk.new (by simp) rfl | with_reducible refine Blk.alloc ?_ _ | with_reducible refine Blk.drew ?_ | with_reducible refine Blk.far ?_ (by simp; omega) _ | with_reducible refine Blk.tr ?_ (by with_reducible assumption)))); rintro e w1 ⟨rfl, rfl⟩) | skip) <;> (refine hK.out _ _ (by repeat (first | with_reducible exact Gr.refl _ _ | with_reducible assumption | with_reducible refine grA ?_ _ | with_reducible refine Gr.drew ?_ | with_reducible refine Gr.setCell ?_ (by first | (simp; done) | (simp; omega)) _ | with_reducible refine grT ?_ (by with_reducible assumption))) ?_; clear hK K))) | (refine lexL_on ?_ ?_; focus (simp only [List.getElem?_toArray, List.getElem?_cons_succ, List.getElem?_cons_zero, Bool.not_true, Bool.not_false]; done)) | (refine lexL_off ?_ ?_ ?_; (focus (simp only [List.getElem?_toArray, List.getElem?_cons_succ, List.getElem?_cons_zero, Bool.not_true, Bool.not_false]; done)); (focus (exact (by repeat (first | with_reducible exact Gr.refl _ _ | with_reducible assumption | with_reducible refine grA ?_ _ | with_reducible refine Gr.drew ?_ | with_reducible refine Gr.setCell ?_ (by first | (simp; done) | (simp; omega)) _ | with_reducible refine grT ?_ (by with_reducible assumption)))))) | (refine lexL_splitS (X := ?_) ?_ ?_ (fun hg => ?_) (fun hg => ?_); rotate_left; (focus (simp only [List.getElem?_toArray, List.getElem?_cons_succ, List.getElem?_cons_zero]; with_reducible rfl)); (focus (exact (by repeat (first | with_reducible exact Gr.refl _ _ | with_reducible assumption | with_reducible refine grA ?_ _ | with_reducible refine Gr.drew ?_ | with_reducible refine Gr.setCell ?_ (by first | (simp; done) | (simp; omega)) _ | with_reducible refine grT ?_ (by with_reducible assumption))))); all_goals (try simp only [Bool.not_true, Bool.not_false] at hg)))
  (all_goals try simp only [Act.put, List.setIfInBounds_toArray, List.set_cons_zero, List.set_cons_succ]); all_goals (refine lexL_nil ?_)
  go_wp2_with fail
  go_ret
  exact ⟨rfl, (by repeat (first | with_reducible exact Gr.refl _ _ | with_reducible assumption | with_reducible refine grA ?_ _ | with_reducible refine Gr.drew ?_ | with_reducible refine Gr.setCell ?_ (by first | (simp; done) | (simp; omega)) _ | with_reducible refine grT ?_ (by with_reducible assumption)))⟩
end Go.Proofs.Ytmaogalgganhgaa
