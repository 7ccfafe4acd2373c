/-
  The split's comparison: its closure's contract.
  The split's sort of the places.
  Sorting nothing.
  The split of boxes: its contract.
-/
import Derived.Test.YtkfbkfcmdfpfjaaGreatDoorQPlane
import Derived.Test.YtkfbkfcmdfpfjaaGreatDoorQAllocG
import Derived.Test.YtkfbkfcmdfpfjaaGreatDoorQPlainSplit
import Derived.Test.YtkfbkfcmdfpfjaaGreatDoorQSrtI
import Derived.Test.YtkfbkfcmdfpfjaaGreatDoorQBits1
import Derived.Test.YtkfbkfcmdfpfjaaGreatDoorQEncG
import Derived.Test.YtkfbkfcmdfpfjaaGreatDoorQEncD
import Derived.Deep.OwnRows
set_option linter.unusedSimpArgs false
set_option linter.unusedVariables false
namespace Go.Proofs.YtkfbkfcmdfpfjaaGreatDoor
open Go.RowKit Pg

/-- the first number that is not 0 -/
def or3 (x y z : Int) : Int := if x = 0 then (if y = 0 then z else y) else x

set_option maxHeartbeats 1000000 in
theorem or3_any (g : Nat) (t : TypeId) (x y z : Int) (w : World) (h : Blk w g t #[.int .i64 x, .int .i64 y, .int .i64 z]) :
    Calls Tryz.prog 107 #[.slice (some ⟨g, 0, none⟩) 3 3] w fun e w' => e = .returned (.int .i64 (or3 x y z)) ∧ w = w' := by
  have c0 := h.cell 0
  have c1 := h.cell 1
  have c2 := h.cell 2
  simp only [List.getElem?_toArray, List.getElem?_cons_zero, List.getElem?_cons_succ] at c0 c1 c2
  by_cases hx : x = 0
  · subst hx
    by_cases hy : y = 0
    · subst hy
      by_cases hz : z = 0
      · subst hz
        go_enter Tryz.func107, Tryz.ntmps107
        go_wp2
        refine wp_loop_rounds 4 ?_
        rw [rounds_succ]
        go_wp2
        rw [rounds_succ]
        go_wp2
        rw [rounds_succ]
        go_wp2
        rw [rounds_succ]
        go_wp2
        go_ret
        exact ⟨by simp [or3], rfl⟩
      · have hb : (z == 0) = false := by simpa using hz
        go_enter Tryz.func107, Tryz.ntmps107
        go_wp2
        refine wp_loop_rounds 3 ?_
        rw [rounds_succ]
        go_wp2
        rw [rounds_succ]
        go_wp2
        rw [rounds_succ]
        go_wp2
        go_ret
        exact ⟨by simp [or3], rfl⟩
    · have hb : (y == 0) = false := by simpa using hy
      go_enter Tryz.func107, Tryz.ntmps107
      go_wp2
      refine wp_loop_rounds 2 ?_
      rw [rounds_succ]
      go_wp2
      rw [rounds_succ]
      go_wp2
      go_ret
      exact ⟨by simp [or3, hy], rfl⟩
  · have hb : (x == 0) = false := by simpa using hx
    go_enter Tryz.func107, Tryz.ntmps107
    go_wp2
    refine wp_loop_rounds 1 ?_
    rw [rounds_succ]
    go_wp2
    go_ret
    exact ⟨by simp [or3, hx], rfl⟩

theorem sgn_cases (a : Int) : (a < 0 ∧ sgn a = -1) ∨ (a = 0 ∧ sgn a = 0) ∨ (0 < a ∧ sgn a = 1) := by
  unfold sgn
  rcases Int.lt_trichotomy a 0 with h | h | h
  · exact .inl ⟨h, if_pos h⟩
  · exact .inr (.inl ⟨h, by rw [if_neg (by omega), if_neg (by omega)]⟩)
  · exact .inr (.inr ⟨h, by rw [if_neg (by omega), if_pos h]⟩)
/-- how the split compares two places -/
def cmpS (l : List Bx) (i k : Nat) : Int := or3 (sgn (cX (bx l i) - cX (bx l k))) (sgn (cY (bx l i) - cY (bx l k))) (sgn ((i : Int) - k))
theorem cmpS_lt (l : List Bx) (i k : Nat) : decide (cmpS l i k < 0) = ahd l i k := by
  rw [Bool.eq_iff_iff, ahd_iff, decide_eq_true_eq]
  unfold cmpS bx
  generalize cX (l.getD i bzero) = a
  generalize cX (l.getD k bzero) = b
  generalize cY (l.getD i bzero) = c
  generalize cY (l.getD k bzero) = d
  have h1 := sgn_cases (a - b)
  have h2 := sgn_cases (c - d)
  have h3 := sgn_cases ((i : Int) - k)
  unfold or3
  split <;> (try split) <;> omega

theorem wrap_sum {a b : Int} (ha : -1073741824 ≤ a ∧ a ≤ 1073741824) (hb : -1073741824 ≤ b ∧ b ≤ 1073741824) : IntKind.i64.wrap (a + b) = a + b := by
  simp [IntKind.wrap, IntKind.bits, IntKind.signed]; omega

theorem small_bx {b : Bx} (h : okBx b = true ∨ b = bzero) : (-1073741824 ≤ b.lo.x ∧ b.lo.x ≤ 1073741824) ∧ (-1073741824 ≤ b.lo.y ∧ b.lo.y ≤ 1073741824) ∧ (-1073741824 ≤ b.hi.x ∧ b.hi.x ≤ 1073741824) ∧ (-1073741824 ≤ b.hi.y ∧ b.hi.y ≤ 1073741824) := by
  rcases h with h | rfl
  · have hp : okPt b.lo = true ∧ okPt b.hi = true := by
      unfold okBx ckBox at h
      cases h1 : okPt b.lo <;> cases h2 : okPt b.hi <;> simp [h1, h2] at h ⊢
    obtain ⟨h1, h2⟩ := hp
    simp [okPt, farB] at h1 h2
    omega
  · decide

set_option maxHeartbeats 4000000 in
set_option maxRecDepth 20000 in
theorem less_any (g B n cap : Nat) (A : Option Addr) (l : List Bx) (i k : Nat) (w : World) (hl : BxsAt w B A n l) (hB : B ≤ w.heap.size) (hg : w.cell? ⟨g, 0, none⟩ = some (.slice A n cap)) (hgl : g < w.heap.size)
    (hi : i < n) (hk : k < n) (hn : n ≤ 1000000) (hok : ∀ b ∈ l, okBx b = true ∨ b = bzero) :
    Calls Tryz.prog 267 #[.int .i64 i, .int .i64 k, .pointer (some ⟨g, 0, none⟩)] w fun e w' => e = .returned (.int .i64 (cmpS l i k)) ∧ Gr w.heap.size w w' := by
  obtain ⟨b, off, rfl, hbB, a0, a1, a2, a3⟩ := hl.at_ hi
  obtain ⟨b', off', ho, _, d0, d1, d2, d3⟩ := hl.at_ hk
  injection ho with ho
  injection ho with ho1 ho2
  subst ho1 ho2
  have hbw : b < w.heap.size := by omega
  have ci := hok _ (List.mem_of_getElem? (bx_of (l := l) (k := i) (by rw [hl.1]; exact hi)))
  have ck := hok _ (List.mem_of_getElem? (bx_of (l := l) (k := k) (by rw [hl.1]; exact hk)))
  obtain ⟨V, hV⟩ : ∃ V, cmpS l i k = V := ⟨_, rfl⟩
  rw [hV]
  unfold cmpS at hV
  have x1 := small_bx ci
  have x2 := small_bx ck
  clear ci ck hok hl
  obtain ⟨⟨⟨p1, p2⟩, ⟨p3, p4⟩⟩, ep⟩ : ∃ p, bx l i = p := ⟨_, rfl⟩
  obtain ⟨⟨⟨q1, q2⟩, ⟨q3, q4⟩⟩, eq_⟩ : ∃ p, bx l k = p := ⟨_, rfl⟩
  rw [ep] at a0 a1 a2 a3 hV x1
  rw [eq_] at d0 d1 d2 d3 hV x2
  clear ep eq_ l
  simp only [cX, cY] at hV
  simp only at a0 a1 a2 a3 d0 d1 d2 d3 x1 x2
  have s1 := wrap_sum x1.1 x1.2.2.1
  have s2 := wrap_sum x1.2.1 x1.2.2.2
  have s3 := wrap_sum x2.1 x2.2.2.1
  have s4 := wrap_sum x2.2.1 x2.2.2.2
  clear x1 x2
  have hi0 : (i : Int) < (n : Int) := by omega
  have hk0 : (k : Int) < (n : Int) := by omega
  go_enter Tryz.func267, Tryz.ntmps267
  go_wp2_with fail
  refine PgG.wp_region_alloc' [0, 1, 2, 3, 4, 5, 6, 7] [8, 9] [10, 11] (fun _ => #[.int .i64 0, .int .i64 0, .int .i64 0, .int .i64 0]) (by kernel_rfl) (by kernel_rfl) (fun _ _ d _ _ h => by cases d <;> exact h) (by intro i hi w; simp only [List.mem_cons, List.not_mem_nil, or_false] at hi; rcases hi with rfl | rfl <;> simp only [List.getD_cons_zero, List.getD_cons_succ, PgG.tyOf] <;> kernel_rfl) (fun KN hKN => ?_)
  simp only [List.map_cons, List.map_nil, List.getD_cons_zero, List.getD_cons_succ, bare, gslot, List.getElem?_cons_zero, List.getElem?_cons_succ, Option.bind_some]
  repeat ((try simp only [Act.put, List.setIfInBounds_toArray, List.set_cons_zero, List.set_cons_succ]); first | (refine PgG.lexN_quiet (v := ?_) rfl ?_ ?_; rotate_left; focus (intro wq hq; obtain ⟨hcq, hfq⟩ := gcell hq; go_simp; try with_reducible rfl)) | (refine PgG.lexN_loud (v := ?_) rfl ?_ ?_; rotate_left; focus (intro wq hq K hK; obtain ⟨hcq, hfq⟩ := gcell hq; go_simp; (first | fail); refine hK.out _ _ ?_ (by repeat (first | with_reducible exact Gr.refl _ _ | with_reducible assumption | with_reducible refine grA ?_ _ | with_reducible refine Gr.drew ?_ | with_reducible refine Gr.setCell ?_ (by first | (simp; done) | (simp; omega)) _ | with_reducible refine grT ?_ (by with_reducible assumption))); simp only [Act.put, List.setIfInBounds_toArray, List.set_cons_zero, List.set_cons_succ]; try with_reducible rfl)))
  (try simp only [Act.put, List.setIfInBounds_toArray, List.set_cons_zero, List.set_cons_succ])
  refine PgG.lexN_nil (hKN.out _ ?_)
  clear hKN KN
  intro gs wf hwf hgs hds
  simp only [List.map_cons, List.map_nil, List.getD_cons_zero, List.getD_cons_succ, bare, gslot, List.getElem?_cons_zero, List.getElem?_cons_succ, Option.bind_some, List.foldl_cons, List.foldl_nil, PgG.ptrV]
  obtain ⟨hg8, HB8⟩ := hgs 8 (by decide)
  obtain ⟨hg9, HB9⟩ := hgs 9 (by decide)
  have hd8x9 := hds 8 (by decide) 9 (by decide) (by decide)
  simp only [List.getD_cons_zero, List.getD_cons_succ, PgG.tyOf] at HB8 HB9
  clear hgs hds
  generalize gs 8 = g8 at *
  generalize gs 9 = g9 at *
  have cg8 := HB8.cell
  have fg8 := HB8.frozen
  have cg9 := HB9.cell
  have fg9 := HB9.frozen
  have hd9x8 := Ne.symm hd8x9
  repeat ((try simp only [Act.put, List.setIfInBounds_toArray, List.set_cons_zero, List.set_cons_succ]); first | (refine lexL_loud wantB_none rfl (fun K hK => ?_); go_simp; refine hK.out _ _ (by repeat (first | with_reducible exact Gr.refl _ _ | with_reducible assumption | with_reducible refine grA ?_ _ | with_reducible refine Gr.drew ?_ | with_reducible refine Gr.setCell ?_ (by first | (simp; done) | (simp; omega)) _ | with_reducible refine grT ?_ (by with_reducible assumption))) ?_; clear hK K) | (refine lexL_quiet (v := ?_) wantB_none rfl ?_ ?_; rotate_left; focus (intro wq hq; go_simp; try with_reducible rfl)))
  refine lexL_nil ?_
  refine PgG.keep_world (R := fun w2 => Gr w.heap.size w w2 ∧ Blk w2 g8 60 #[.int .i64 p1, .int .i64 p2, .int .i64 p3, .int .i64 p4] ∧ Blk w2 g9 60 #[.int .i64 q1, .int .i64 q2, .int .i64 q3, .int .i64 q4]) ⟨(by repeat (first | with_reducible exact Gr.refl _ _ | with_reducible assumption | with_reducible refine grA ?_ _ | with_reducible refine Gr.drew ?_ | with_reducible refine Gr.setCell ?_ (by first | (simp; done) | (simp; omega)) _ | with_reducible refine grT ?_ (by with_reducible assumption))), ((((((((HB8.set_ 0 _).set_ 1 _).set_ 2 _).set_ 3 _).far (p := ⟨g9, 0, none⟩) hd8x9 _).far (p := ⟨g9, 1, none⟩) hd8x9 _).far (p := ⟨g9, 2, none⟩) hd8x9 _).far (p := ⟨g9, 3, none⟩) hd8x9 _).eq_ (by simp), ((((((((HB9.far (p := ⟨g8, 0, none⟩) hd9x8 _).far (p := ⟨g8, 1, none⟩) hd9x8 _).far (p := ⟨g8, 2, none⟩) hd9x8 _).far (p := ⟨g8, 3, none⟩) hd9x8 _).set_ 0 _).set_ 1 _).set_ 2 _).set_ 3 _).eq_ (by simp)⟩ ?_
  rintro w2 ⟨hb2, h8, h9⟩
  clear cg8 fg8 HB8 cg9 fg9 HB9
  have cg8 := h8.cell
  have fg8 := h8.frozen
  have lg8 := h8.lt
  have cg9 := h9.cell
  have fg9 := h9.frozen
  have lg9 := h9.lt
  obtain ⟨hc2, hf2⟩ := gcell hb2
  clear a0 a1 a2 a3 d0 d1 d2 d3 hg
  go_wp2_with fail
  refine wp_region_gr [0, 1, 2, 3, 4, 5, 6, 7, 8, 9, 10, 11, 12, 13, 15, 16, 17, 18, 19, 20, 21, 22, 23, 24, 25, 26, 27, 28, 30, 31, 14, 29, 32, 33, 34, 35] (by kernel_rfl) (by kernel_rfl) (fun _ _ d _ _ h => by cases d <;> exact h) ?_
  simp only [List.map_cons, List.map_nil, List.getD_cons_zero, List.getD_cons_succ, bare, gslot, List.getElem?_cons_zero, List.getElem?_cons_succ, Option.bind_some]
  repeat' ((try simp only [Act.put, List.setIfInBounds_toArray, List.set_cons_zero, List.set_cons_succ]); first | (refine lexL_quiet (v := ?_) wantB_none rfl ?_ ?_; rotate_left; focus (intro wq hq; obtain ⟨hcq, hfq⟩ := gcell hq; go_simp; try with_reducible rfl)) | (refine lexL_loud wantB_none rfl (fun K hK => ?_); go_simp; ((first | (go_at_call 109; refine (compareInt_any _ _ _).mono ?_; rintro e w1 ⟨rfl, rfl⟩) | (go_at_call 107; (with_reducible refine (or3_any _ 3 (sgn (p1 + p3 - (q1 + q3))) (sgn (p2 + p4 - (q2 + q4))) (sgn ((i : Int) - k)) _ ?_).mono ?_); (focus exact blkA); rintro e w1 ⟨rfl, rfl⟩) | skip) <;> (refine hK.out _ _ (by repeat (first | with_reducible exact Gr.refl _ _ | with_reducible assumption | with_reducible refine grA ?_ _ | with_reducible refine Gr.drew ?_ | with_reducible refine Gr.setCell ?_ (by first | (simp; done) | (simp; omega)) _ | with_reducible refine grT ?_ (by with_reducible assumption))) ?_; clear hK K))) | (refine lexL_on ?_ ?_; focus (simp only [List.getElem?_toArray, List.getElem?_cons_succ, List.getElem?_cons_zero, Bool.not_true, Bool.not_false]; done)) | (refine lexL_off ?_ ?_ ?_; (focus (simp only [List.getElem?_toArray, List.getElem?_cons_succ, List.getElem?_cons_zero, Bool.not_true, Bool.not_false]; done)); (focus (exact (by repeat (first | with_reducible exact Gr.refl _ _ | with_reducible assumption | with_reducible refine grA ?_ _ | with_reducible refine Gr.drew ?_ | with_reducible refine Gr.setCell ?_ (by first | (simp; done) | (simp; omega)) _ | with_reducible refine grT ?_ (by with_reducible assumption)))))) | (refine lexL_splitS (X := ?_) ?_ ?_ (fun hg => ?_) (fun hg => ?_); rotate_left; (focus (simp only [List.getElem?_toArray, List.getElem?_cons_succ, List.getElem?_cons_zero]; with_reducible rfl)); (focus (exact (by repeat (first | with_reducible exact Gr.refl _ _ | with_reducible assumption | with_reducible refine grA ?_ _ | with_reducible refine Gr.drew ?_ | with_reducible refine Gr.setCell ?_ (by first | (simp; done) | (simp; omega)) _ | with_reducible refine grT ?_ (by with_reducible assumption))))); all_goals (try simp only [Bool.not_true, Bool.not_false] at hg)))
  (all_goals try simp only [Act.put, List.setIfInBounds_toArray, List.set_cons_zero, List.set_cons_succ]); all_goals (refine lexL_nil ?_)
  go_wp2_with fail
  go_ret
  exact ⟨rfl, (by repeat (first | with_reducible exact Gr.refl _ _ | with_reducible assumption | with_reducible refine grA ?_ _ | with_reducible refine Gr.drew ?_ | with_reducible refine Gr.setCell ?_ (by first | (simp; done) | (simp; omega)) _ | with_reducible refine grT ?_ (by with_reducible assumption)))⟩
end Go.Proofs.YtkfbkfcmdfpfjaaGreatDoor
set_option linter.unusedSimpArgs false
set_option linter.unusedVariables false
namespace Go.Proofs.YtkfbkfcmdfpfjaaGreatDoor
open Go.RowKit Pg

theorem grow_of_gr {w w' : World} (h : Gr w.heap.size w w') : ∃ q os', w' = Go.Sort.grow (w.drewN q) os' := by
  obtain ⟨⟨ho, ht, hu, hs, hb⟩, hd⟩ := h
  refine ⟨w'.drawn - w.drawn, w'.heap.extract w.heap.size w'.heap.size, ?_⟩
  obtain ⟨H, T, D, O, U⟩ := w
  obtain ⟨H', T', D', O', U'⟩ := w'
  simp only at ho ht hu hs hb hd
  subst ho ht hu
  unfold Go.Sort.grow World.drewN
  simp only
  have e1 : D + (D' - D) = D' := by omega
  rw [e1]
  congr 1
  apply Array.ext_getElem?
  intro k
  rcases Nat.lt_or_ge k H.size with h | h
  · rw [hb k h, Array.getElem?_append_left h]
  · rw [Array.getElem?_append_right h, Array.getElem?_extract]
    split
    · congr 1; omega
    · rw [Array.getElem?_eq_none (by omega)]

section
variable {α : Type} [Inhabited α] {enc : α → Value}
theorem sw_heap (w : World) (pb m : Nat) (dk : Array α) (os : Array Obj) (hp : pb < w.heap.size) {k : Nat} (hk : k ≠ pb) (hk2 : k < w.heap.size) :
    (sortWorld enc w pb 0 m dk os).heap[k]? = w.heap[k]? := by
  unfold sortWorld
  rw [Go.Sort.heap_grow_old _ _ (by simpa using hk2)]
  unfold Go.Sort.putRow Go.Sort.mapBlock
  simp only [Go.Sort.heap_ahead]
  rw [Array.getElem?_modify, if_neg (Ne.symm hk)]
theorem sw_below (w : World) (pb m : Nat) (dk : Array α) (os : Array Obj) (hp : pb < w.heap.size) : Below pb w (sortWorld enc w pb 0 m dk os) :=
  ⟨rfl, rfl, rfl, by unfold sortWorld; simp, fun k hk => sw_heap w pb m dk os hp (by omega) (by omega)⟩
theorem sw_blk (w : World) (pb m : Nat) (dk : Array α) (os : Array Obj) (t : TypeId) (cs : Array Value) (hp : Blk w pb t cs) (hs : cs.size = dk.size) : Blk (sortWorld enc w pb 0 m dk os) pb t (dk.map enc) := by
  have hlt := hp.lt
  unfold Blk at hp ⊢
  unfold sortWorld
  rw [Go.Sort.heap_grow_old _ _ (by simpa using hlt)]
  unfold Go.Sort.putRow Go.Sort.mapBlock
  simp only [Go.Sort.heap_ahead]
  rw [Array.getElem?_modify, if_pos rfl, hp]
  simp only [Option.map_some, Go.Sort.onCells]
  congr 2
  unfold Go.Sort.putCells
  apply Array.ext
  · simp [hs]
  · intro i h1 h2
    have h3 : i < dk.size := by simpa using h2
    simp [h3]
end
theorem fin_list (n : Nat) : (List.finRange n).map (fun i => i.val) = List.range n := by
  apply List.ext_getElem
  · simp
  · intro i h1 h2
    simp

set_option maxHeartbeats 1000000 in
theorem sort_any (n pb gb B cap : Nat) (A : Option Addr) (l : List Bx) (t : TypeId) (w : World) (hn : 0 < n) (hn2 : n ≤ 1000000) (hl : BxsAt w B A n l) (hB : B ≤ pb) (hg : w.cell? ⟨gb, 0, none⟩ = some (.slice A n cap)) (hgp : gb < pb)
    (hok : ∀ b ∈ l, okBx b = true ∨ b = bzero) (hp : Blk w pb t ((List.range n).map fun j => Value.int .i64 (j : Nat)).toArray) :
    Calls Tryz.prog 266 #[.slice (some ⟨pb, 0, none⟩) n n, .func (.func 267) #[] #[.pointer (some ⟨gb, 0, none⟩)]] w fun e w' =>
      e = .returned (.tuple #[]) ∧ ∃ d : List Nat, d.Perm (List.range n) ∧ d.Pairwise (fun i k => ahd l i k = true) ∧ Blk w' pb t (d.map fun j => Value.int .i64 (j : Nat)).toArray ∧ Below pb w w' := by
  haveI : Inhabited (Fin n) := ⟨⟨0, hn⟩⟩
  have hpl := hp.lt
  have hlen : l.length = n := hl.1
  have hO : Go.Sort.SWO (ltOf fun x y : Fin n => cmpS l x y) := ⟨fun x => by unfold ltOf; rw [cmpS_lt, ahd_irrefl], fun x y z h1 h2 => by
      unfold ltOf at *
      rw [cmpS_lt] at *
      exact ahd_trans h1 h2, fun x y z h1 h2 => by
      unfold ltOf at *
      rw [cmpS_lt] at *
      cases h3 : ahd l x z
      · rfl
      · exfalso
        cases h4 : ahd l y x
        · have := ahd_total h1 h4
          rw [this] at h3
          rw [h3] at h2
          cases h2
        · rw [ahd_trans h4 h3] at h2
          cases h2⟩
  have hT : ∀ x y : Fin n, ltOf (fun x y : Fin n => cmpS l x y) x y = false → ltOf (fun x y : Fin n => cmpS l x y) y x = false → x = y := fun x y h1 h2 => by
    unfold ltOf at *
    rw [cmpS_lt] at *
    exact Fin.ext (ahd_total h1 h2)
  have hH : Go.Sort.Holds (fun i : Fin n => Value.int .i64 (i.val : Nat)) w pb 0 (List.finRange n).toArray := fun j hj => by
    have hj2 : j < n := by simpa using hj
    have e : (List.finRange n).toArray[j]! = ⟨j, hj2⟩ := by
      rw [getElem!_pos (List.finRange n).toArray j hj]
      simp
    rw [hp.cell, hp.frozen]
    refine ⟨?_, rfl⟩
    rw [e]
    simp [hj2]
  have h := Any.slices_SortFunc_total Tryz.sortInt (fun i : Fin n => Value.int .i64 (i.val : Nat)) (fun _ => rfl) (fun x y => cmpS l x y) hO 267 #[.pointer (some ⟨gb, 0, none⟩)] pb 0 n (List.finRange n).toArray w
    (enters_of Tryz.func267 (by kernel_rfl) rfl) (fun m os dk hs x y => by
      have hsz : w.heap.size ≤ (sortWorld (fun i : Fin n => Value.int .i64 (i.val : Nat)) w pb 0 m dk os).heap.size := (sw_below w pb m dk os hpl).size
      have hc : ∀ p : Addr, p.block < pb → (sortWorld (fun i : Fin n => Value.int .i64 (i.val : Nat)) w pb 0 m dk os).cell? p = w.cell? p := fun p hp => (sw_below w pb m dk os hpl).cell hp
      exact (less_any gb B n cap A l x.val y.val _ (hl.keep fun p hp => hc p (by omega)) (by omega) ((hc _ hgp).trans hg) (by omega) x.isLt y.isLt hn2 hok).mono fun e w' ⟨h1, h2⟩ => ⟨h1, grow_of_gr h2⟩)
    hH hpl (by simp; omega) hT
  have es : (List.finRange n).toArray.size = n := by simp
  rw [es] at h
  refine h.mono ?_
  rintro e w' ⟨rfl, m, os, rfl⟩
  refine ⟨rfl, (((List.finRange n).mergeSort fun x y => !(ltOf fun x y : Fin n => cmpS l x y) y x)).map (fun i => i.val), ?_, ?_, ?_, sw_below w pb m _ os hpl⟩
  · have := (List.mergeSort_perm (List.finRange n) fun x y => !(ltOf fun x y : Fin n => cmpS l x y) y x).map fun i : Fin n => i.val
    rwa [fin_list] at this
  · rw [List.pairwise_map]
    have h1 : ((List.finRange n).mergeSort fun x y => !(ltOf fun x y : Fin n => cmpS l x y) y x).Pairwise (fun x y => (!(ltOf fun x y : Fin n => cmpS l x y) y x) = true) :=
      List.pairwise_mergeSort (fun a b c h1 h2 => by
        simp only [Bool.not_eq_true'] at *
        exact hO.ntrans _ _ _ h2 h1) (fun a b => by
        cases h1 : ltOf (fun x y : Fin n => cmpS l x y) b a
        · simp
        · have : ltOf (fun x y : Fin n => cmpS l x y) a b = false := by
            unfold ltOf at *
            rw [cmpS_lt] at *
            exact ahd_asymm h1
          simp [this]) _
    have h2 : ((List.finRange n).mergeSort fun x y => !(ltOf fun x y : Fin n => cmpS l x y) y x).Nodup := (List.mergeSort_perm _ _).nodup_iff.2 (List.nodup_finRange n)
    refine (List.Pairwise.and h1 h2).imp fun {a b} h => ?_
    obtain ⟨h3, h4⟩ := h
    simp only [Bool.not_eq_true'] at h3
    cases h5 : ahd l a b
    · have h6 : ltOf (fun x y : Fin n => cmpS l x y) a b = false := by unfold ltOf; rw [cmpS_lt, h5]
      exact absurd (hT _ _ h6 h3) h4
    · rfl
  · have := sw_blk (enc := fun i : Fin n => Value.int .i64 (i.val : Nat)) w pb m ((List.finRange n).mergeSort fun x y => !(ltOf fun x y : Fin n => cmpS l x y) y x).toArray os t _ hp (by simp)
    simpa [List.map_map, Function.comp_def] using this
end Go.Proofs.YtkfbkfcmdfpfjaaGreatDoor
set_option linter.unusedSimpArgs false
set_option linter.unusedVariables false
namespace Go.Proofs.YtkfbkfcmdfpfjaaGreatDoor
open Go.RowKit Pg
set_option maxHeartbeats 1000000 in
theorem insert_zero (pb : Nat) (f : Value) (w : World) : Calls Tryz.prog 278 #[.slice (some ⟨pb, 0, none⟩) 0 0, .int .i64 0, .int .i64 0, f] w fun e w' => e = .returned (.tuple #[]) ∧ w = w' := by
  go_enter Tryz.func278, Tryz.ntmps278
  go_wp2
  refine wp_loop_rounds 1 ?_
  rw [rounds_succ]
  go_wp2
  exact bodyPost_end (v := .tuple #[]) (results_none rfl _ _ _) rfl ⟨rfl, rfl⟩
set_option maxHeartbeats 1000000 in
theorem pdq_zero (pb : Nat) (z : Int) (f : Value) (w : World) : Calls Tryz.prog 273 #[.slice (some ⟨pb, 0, none⟩) 0 0, .int .i64 0, .int .i64 0, .int .i64 z, f] w fun e w' => e = .returned (.tuple #[]) ∧ w = w' := by
  go_enter Tryz.func273, Tryz.ntmps273
  go_wp2
  refine wp_loop_rounds 1 ?_
  rw [rounds_succ]
  go_wp2_with (go_at_call 278; (with_reducible refine (insert_zero _ _ _).mono ?_); rintro e w1 ⟨rfl, rfl⟩)
  exact bodyPost_ret (v := .tuple #[]) (results_none rfl _ _ _) rfl ⟨rfl, rfl⟩
set_option maxHeartbeats 1000000 in
theorem len_zero (w : World) : Calls Tryz.prog 103 #[.int .u64 0] w fun e w' => (∃ z : Int, e = .returned (.int .i64 z)) ∧ w = w' := by
  go_enter Tryz.func103, Tryz.ntmps103
  go_wp2_with (go_at_call 141; refine (len64_any _ _ (by decide) (by decide)).mono ?_; rintro e w1 ⟨rfl, rfl⟩)
  go_ret
  exact ⟨⟨_, rfl⟩, rfl⟩
set_option maxHeartbeats 1000000 in
theorem sort_zero (pb : Nat) (f : Value) (w : World) : Calls Tryz.prog 266 #[.slice (some ⟨pb, 0, none⟩) 0 0, f] w fun e w' => e = .returned (.tuple #[]) ∧ w = w' := by
  go_enter Tryz.func266, Tryz.ntmps266
  go_wp2_with (first | (go_at_call 103; (with_reducible refine (len_zero _).mono ?_); rintro e w1 ⟨⟨z, rfl⟩, rfl⟩) | (go_at_call 273; (with_reducible refine (pdq_zero _ _ _ _).mono ?_); rintro e w1 ⟨rfl, rfl⟩))
  exact bodyPost_end (v := .tuple #[]) (results_none rfl _ _ _) rfl ⟨rfl, rfl⟩
end Go.Proofs.YtkfbkfcmdfpfjaaGreatDoor
set_option linter.unusedSimpArgs false
set_option linter.unusedVariables false
namespace Pg
open Go Go.RowKit
/-- a box's number r -/
def co (b : Bx) (r : Nat) : Int := match r with | 0 => b.lo.x | 1 => b.lo.y | 2 => b.hi.x | _ => b.hi.y
def bcl (f : Nat → Bx) (n : Nat) : List Value := (List.range (n * 4)).map fun j => .int .i64 (co (f (j / 4)) (j % 4))
def updB (f : Nat → Bx) (k : Nat) (b : Bx) : Nat → Bx := fun j => if j = k then b else f j
theorem bcl_at {f : Nat → Bx} {n j : Nat} (h : j < n * 4) : (bcl f n)[j]? = some (.int .i64 (co (f (j / 4)) (j % 4))) := by simp [bcl, h]
theorem bcl_set {f : Nat → Bx} {n k : Nat} (b : Bx) (hk : k < n) :
    (((((bcl f n).toArray.setIfInBounds (k * 4) (.int .i64 b.lo.x)).setIfInBounds (k * 4 + 1) (.int .i64 b.lo.y)).setIfInBounds (k * 4 + 2) (.int .i64 b.hi.x)).setIfInBounds (k * 4 + 3) (.int .i64 b.hi.y)) = (bcl (updB f k b) n).toArray := by
  apply Array.ext_getElem?
  intro j
  simp only [Array.getElem?_setIfInBounds, Array.size_setIfInBounds, List.size_toArray, List.getElem?_toArray]
  have hl : (bcl f n).length = n * 4 := by simp [bcl]
  simp only [hl]
  by_cases hj : j < n * 4
  · rw [bcl_at hj, bcl_at hj]
    by_cases e0 : k * 4 + 3 = j
    · subst e0
      rw [if_pos rfl, if_pos (by omega), show (k * 4 + 3) / 4 = k by omega, show (k * 4 + 3) % 4 = 3 by omega]
      simp [updB, co]
    · rw [if_neg e0]
      by_cases e1 : k * 4 + 2 = j
      · subst e1
        rw [if_pos rfl, if_pos (by omega), show (k * 4 + 2) / 4 = k by omega, show (k * 4 + 2) % 4 = 2 by omega]
        simp [updB, co]
      · rw [if_neg e1]
        by_cases e2 : k * 4 + 1 = j
        · subst e2
          rw [if_pos rfl, if_pos (by omega), show (k * 4 + 1) / 4 = k by omega, show (k * 4 + 1) % 4 = 1 by omega]
          simp [updB, co]
        · rw [if_neg e2]
          by_cases e3 : k * 4 = j
          · subst e3
            rw [if_pos rfl, if_pos (by omega), show (k * 4) / 4 = k by omega, show (k * 4) % 4 = 0 by omega]
            simp [updB, co]
          · rw [if_neg e3]
            have : j / 4 ≠ k := by omega
            simp [updB, this]
  · have h0 : (bcl f n)[j]? = none := List.getElem?_eq_none (by rw [hl]; omega)
    have h1 : (bcl (updB f k b) n)[j]? = none := List.getElem?_eq_none (by simp [bcl]; omega)
    rw [h0, h1]
    repeat' split
    all_goals first | rfl | (exfalso; omega)
/-- the places, as far as they are laid -/
def icl (k n : Nat) : List Value := (List.range n).map fun j => .int .i64 (if j < k then (j : Int) else 0)
theorem icl_all (n : Nat) : icl n n = (List.range n).map fun j => Value.int .i64 (j : Nat) := by
  unfold icl
  refine List.map_congr_left fun j hj => ?_
  rw [if_pos (List.mem_range.1 hj)]
theorem icl_set {k n : Nat} (hk : k < n) : (icl k n).toArray.setIfInBounds k (.int .i64 (k : Nat)) = (icl (k + 1) n).toArray := by
  apply Array.ext_getElem?
  intro j
  simp only [Array.getElem?_setIfInBounds, List.size_toArray, List.getElem?_toArray]
  by_cases hj : j < n
  · by_cases e : k = j
    · subst e
      simp [icl, hj]
    · have : (j < k) = (j < k + 1) := by apply propext; omega
      simp [icl, hj, e, this]
  · have e : ¬ k = j := by omega
    simp [icl, hj, e]
/-- who goes, as far as it is told -/
def ocl (s : Nat → Bool) (n : Nat) : List Value := (List.range n).map fun j => .bool (s j)
theorem ocl_set {s : Nat → Bool} {n k : Nat} (hk : k < n) : (ocl s n).toArray.setIfInBounds k (.bool true) = (ocl (fun j => s j || decide (j = k)) n).toArray := by
  apply Array.ext_getElem?
  intro j
  simp only [Array.getElem?_setIfInBounds, List.size_toArray, List.getElem?_toArray]
  by_cases hj : j < n
  · by_cases e : k = j
    · subst e
      simp [ocl, hj]
    · have e2 : ¬ j = k := fun h => e h.symm
      simp [ocl, hj, e, e2]
  · have e : ¬ k = j := by omega
    simp [ocl, hj, e]
theorem made_bcl (n : Nat) : madeCells #[Value.int .i64 0, .int .i64 0, .int .i64 0, .int .i64 0] (n * 4) = (bcl (fun _ => bzero) n).toArray := by
  apply Array.ext_getElem?
  intro j
  by_cases hj : j < n * 4
  · have hm : j % 4 = 0 ∨ j % 4 = 1 ∨ j % 4 = 2 ∨ j % 4 = 3 := by omega
    rw [List.getElem?_toArray (xs := bcl _ n), bcl_at hj]
    rcases hm with h | h | h | h <;> simp [madeCells, hj, h, co, bzero]
  · simp [madeCells, bcl, hj]
theorem made_icl (n : Nat) : madeCells #[Value.int .i64 0] n = (icl 0 n).toArray := by
  apply Array.ext_getElem?
  intro j
  by_cases hj : j < n
  · simp [madeCells, icl, hj, Nat.mod_one]
  · simp [madeCells, icl, hj]
theorem made_ocl (n : Nat) : madeCells #[Value.bool false] n = (ocl (fun _ => false) n).toArray := by
  apply Array.ext_getElem?
  intro j
  by_cases hj : j < n
  · simp [madeCells, ocl, hj, Nat.mod_one]
  · simp [madeCells, ocl, hj]
theorem split_mem {l : List Bx} {d : List Nat} (hp : d.Perm (List.range l.length)) (hs : d.Pairwise fun i k => ahd l i k = true) : ocl (fun j => decide (j ∈ d.drop (l.length - l.length / 2))) l.length = (splitS l).map Value.bool := by
  unfold ocl splitS
  rw [List.map_map]
  refine List.map_congr_left fun j hj => ?_
  simp only [Function.comp]
  congr 1
  rw [decide_eq_decide]
  constructor
  · intro h
    obtain ⟨i, hi, e⟩ := List.getElem_of_mem h
    rw [List.getElem_drop] at e
    have hi2 : l.length - l.length / 2 + i < d.length := by simp at hi; omega
    have := rank_of hp hs hi2
    rw [e] at this
    omega
  · intro h
    obtain ⟨i, hi, e⟩ := List.getElem_of_mem (hp.mem_iff.2 hj)
    have := rank_of hp hs hi
    rw [e] at this
    rw [this] at h
    rw [List.mem_iff_getElem?]
    refine ⟨i - (l.length - l.length / 2), ?_⟩
    rw [List.getElem?_drop, show l.length - l.length / 2 + (i - (l.length - l.length / 2)) = i by omega, List.getElem?_eq_getElem hi, e]
/-- the box of a key, or none's -/
def boxK (l : List Nat) : Bx := (unkeyS l).getD bzero
end Pg
namespace Go.Proofs.YtkfbkfcmdfpfjaaGreatDoor
open Go.RowKit Pg
theorem bxsAt_bcl {w : World} {g : Nat} {t : TypeId} {f : Nat → Bx} {n B : Nat} (h : Blk w g t (bcl f n).toArray) (hB : g < B) : BxsAt w B (some ⟨g, 0, none⟩) n ((List.range n).map f) := by
  refine ⟨by simp, fun _ => ⟨g, 0, rfl, hB, fun k p hp => ?_⟩⟩
  have hk : k < n := by
    rcases Nat.lt_or_ge k n with h | h
    · exact h
    · rw [List.getElem?_eq_none (by simpa using h)] at hp; cases hp
  have e : p = f k := by simpa [hk] using hp.symm
  subst e
  simp only [Nat.zero_add]
  rw [h.cell, h.cell, h.cell, h.cell]
  simp only [List.getElem?_toArray]
  rw [bcl_at (by omega), bcl_at (by omega), bcl_at (by omega), bcl_at (by omega)]
  rw [show (k * 4) / 4 = k by omega, show (k * 4) % 4 = 0 by omega, show (k * 4 + 1) / 4 = k by omega, show (k * 4 + 1) % 4 = 1 by omega, show (k * 4 + 2) / 4 = k by omega, show (k * 4 + 2) % 4 = 2 by omega, show (k * 4 + 3) / 4 = k by omega, show (k * 4 + 3) % 4 = 3 by omega]
  exact ⟨rfl, rfl, rfl, rfl⟩
theorem Tryz.infoBx : (Tryz.prog.info? 60).map (fun i => (i.zero, i.size, i.bytes)) = some (some (bxV 0 0 0 0), 4, 32) := by kernel_rfl
theorem Tryz.infoI : (Tryz.prog.info? 3).map (fun i => (i.zero, i.size, i.bytes)) = some (some (.int .i64 0), 1, 8) := by kernel_rfl
theorem Tryz.infoB : (Tryz.prog.info? 4).map (fun i => (i.zero, i.size, i.bytes)) = some (some (.bool false), 1, 1) := by kernel_rfl
theorem make_bx (n : Nat) (hn : n ≤ 1000000) (w : World) : (Instr.makeSlice 253 (.int .i64 (n : Int)) (.int .i64 (n : Int))).run Tryz.prog w = .ok (.slice (some ⟨w.heap.size, 0, none⟩) n n) (w.alloc (.cells (bcl (fun _ => bzero) n).toArray 60)) := by
  obtain ⟨i0, hi, iz0, iz1, iz2⟩ := info_parts Tryz.infoBx
  have h := run_make (P := Tryz.prog) w 253 60 i0 (bxV 0 0 0 0) Tryz.underlying253 hi iz0 .i64 .i64 (n : Int) (n : Int) (by omega) (by omega) (by rw [iz2]; omega) (by omega)
  rw [iz1] at h
  rw [← made_bcl]
  exact h
theorem make_i (n : Nat) (hn : n ≤ 1000000) (w : World) : (Instr.makeSlice 57 (.int .i64 (n : Int)) (.int .i64 (n : Int))).run Tryz.prog w = .ok (.slice (some ⟨w.heap.size, 0, none⟩) n n) (w.alloc (.cells (icl 0 n).toArray 3)) := by
  rw [← made_icl]
  exact run_make_row' _ _ (.int .i64 0) 8 Tryz.underlying57 Tryz.infoI rfl .i64 .i64 n (by omega) (by omega) w
theorem make_b (n : Nat) (hn : n ≤ 1000000) (w : World) : (Instr.makeSlice 232 (.int .i64 (n : Int)) (.int .i64 (n : Int))).run Tryz.prog w = .ok (.slice (some ⟨w.heap.size, 0, none⟩) n n) (w.alloc (.cells (ocl (fun _ => false) n).toArray 4)) := by
  rw [← made_ocl]
  exact run_make_row' _ _ (.bool false) 1 Tryz.underlying232 Tryz.infoB rfl .i64 .i64 n (by omega) (by omega) w

theorem unkeyV_box (l : List Nat) : ∃ q, unkeyV l = .tuple #[bxV (boxK l).lo.x (boxK l).lo.y (boxK l).hi.x (boxK l).hi.y, .bool q] := by
  unfold unkeyV boxK
  cases unkeyS l with
  | none => exact ⟨false, rfl⟩
  | some b => exact ⟨true, rfl⟩

theorem boxK_ok {l : List Nat} (h : ∀ x ∈ l, x < 256) : okBx (boxK l) = true ∨ boxK l = bzero := by
  unfold boxK
  cases e : unkeyS l with
  | none => exact .inr rfl
  | some b => exact .inl (unkey_inv h e).1

set_option maxHeartbeats 4000000 in
set_option maxRecDepth 20000 in
theorem Split_any (cv : Value) (B n c : Nat) (A : Option Addr) (L : List (List Nat)) (w : World) (hl : RbsAt w B A n L) (hB : B ≤ w.heap.size) (hn2 : n ≤ 1000000) (h256 : ∀ l ∈ L, ∀ x ∈ l, x < 256) (hlen : ∀ l ∈ L, l.length ≤ 1000000) :
    Calls Tryz.prog 261 #[.agg #[cv], .slice A n c] w fun e w' => ∃ g, e = .returned (.slice (some ⟨g, 0, none⟩) n n) ∧ Blk w' g 4 ((splitS (L.map boxK)).map Value.bool).toArray ∧ Below w.heap.size w w' := by
  have HM1 := make_bx n hn2
  have HM2 := make_i n hn2
  have HM3 := make_b n hn2
  obtain ⟨V, hV⟩ : ∃ V, splitS (L.map boxK) = V := ⟨_, rfl⟩
  rw [hV]
  have HV := Lib.hid hV
  have hLn := hl.1
  have HL := Lib.hid hl
  have H256 := Lib.hid h256
  have HLN := Lib.hid hlen
  clear hV hl h256 hlen
  go_enter Tryz.func261, Tryz.ntmps261
  go_wp2_with fail
  go_loopw [20] (fun vi wr => ∃ (k : Nat) (f : Nat → Bx), k ≤ n ∧ vi = .int .i64 k ∧ (∀ j, j < k → f j = boxK (L.getD j [])) ∧ Blk wr (w.heap.size + 1) 60 (bcl f n).toArray ∧ Blk wr (w.heap.size + 1 + 1) 253 #[.slice (some ⟨w.heap.size + 1, 0, none⟩) n n] ∧ Blk wr (w.heap.size + 1 + 1 + 1) 3 (icl k n).toArray ∧ Below w.heap.size w wr) (fun vi _ => n - (intOf vi).toNat)
  case atStart => exact ⟨0, fun _ => bzero, by omega, rfl, fun j hj => absurd hj (by omega), blkA, blkA, blkA, bel⟩
  case round =>
    obtain ⟨k, f, hk, rfl, hf, hX, hS, hI, hb⟩ := hrel
    by_cases hlt : k < n
    · obtain ⟨b, off, A', n', c', rfl, hab, hcell, hby, he, hz, hnc⟩ := (HL.out.below (hb.mono hB)).at_ hlt
      have hmem : L.getD k [] ∈ L := List.mem_of_getElem? he
      have hn' : n' ≤ 1000000 := by rw [← hby.1]; exact HLN.out _ hmem
      obtain ⟨q, hq⟩ := unkeyV_box (L.getD k [])
      obtain ⟨p, hp⟩ : ∃ p, boxK (L.getD k []) = p := ⟨_, rfl⟩
      rw [hp] at hq
      have hBw : B ≤ wr.heap.size := Nat.le_trans hB hb.size
      have HU : Hid (∀ w', Below wr.heap.size wr w' → Calls Tryz.prog 263 #[.slice A' n' c'] w' (Ret w' (.tuple #[bxV p.lo.x p.lo.y p.hi.x p.hi.y, .bool q]))) := fun w' h => by
        have h2 := unkey_any B n' c' A' (L.getD k []) w' (hby.tr h hBw) (H256.out _ hmem) (Nat.le_trans hBw h.size) hn' hnc
        rw [hq] at h2
        exact h2
      have HP := Lib.hid hp
      have HF := Lib.hid hf
      clear hp hq hf hby he hmem
      have cS := hS.cell
      have fS := hS.frozen
      have lX := hX.lt
      have lS := hS.lt
      have lI := hI.lt
      have hbw : b < wr.heap.size := by omega
      have hn1 : w.heap.size + 1 + 1 ≠ w.heap.size + 1 := by omega
      have hk0 : (k : Int) < (n : Int) := by omega
      go_wp2_with fail
      refine wp_region_away (w.heap.size + 1) [0, 1, 2, 3, 4, 5, 6, 7, 8] (by kernel_rfl) (by kernel_rfl) (fun _ _ d _ _ h => by cases d <;> exact h) ?_
      simp only [List.map_cons, List.map_nil, List.getD_cons_zero, List.getD_cons_succ, bare, gslot, List.getElem?_cons_zero, List.getElem?_cons_succ, Option.bind_some]
      repeat' ((try simp only [Act.put, List.setIfInBounds_toArray, List.set_cons_zero, List.set_cons_succ]); first | (refine lexL_quiet (v := ?_) wantB_none rfl ?_ ?_; rotate_left; focus (intro wq hq; obtain ⟨hcq, hfq⟩ := acell hq; go_simp; try with_reducible rfl)) | (refine lexL_loud wantB_none rfl (fun K hK => ?_); go_simp; ((first | (go_at_call 263; (with_reducible refine (HU.out _ ?_).mono ?_); (focus exact bel); rintro e w5 ⟨rfl, hb5⟩; obtain ⟨hc5, hf5⟩ := bcell hb5; have hz5 := hb5.size; (try simp at hz5); have hX5 : Blk w5 (w.heap.size + 1) 60 (bcl f n).toArray := blkA; have e0 := (hX5.cell (k * 4)).trans (List.getElem?_toArray.trans (bcl_at (by omega))); have e1 := (hX5.cell (k * 4 + 1)).trans (List.getElem?_toArray.trans (bcl_at (by omega))); have e2 := (hX5.cell (k * 4 + 2)).trans (List.getElem?_toArray.trans (bcl_at (by omega))); have e3 := (hX5.cell (k * 4 + 3)).trans (List.getElem?_toArray.trans (bcl_at (by omega))); have f5 := hX5.frozen) | skip) <;> (refine hK.out _ _ (by repeat (first | with_reducible exact Away.refl _ _ | with_reducible assumption | with_reducible refine Away.drew ?_ | with_reducible refine Away.put ?_ _ _ | with_reducible refine Away.alloc ?_ _ | with_reducible refine Away.below ?_ (by with_reducible assumption))) ?_; clear hK K))) | (refine lexL_on ?_ ?_; focus (simp only [List.getElem?_toArray, List.getElem?_cons_succ, List.getElem?_cons_zero, Bool.not_true, Bool.not_false]; done)) | (refine lexL_off ?_ ?_ ?_; (focus (simp only [List.getElem?_toArray, List.getElem?_cons_succ, List.getElem?_cons_zero, Bool.not_true, Bool.not_false]; done)); (focus (exact (by repeat (first | with_reducible exact Away.refl _ _ | with_reducible assumption | with_reducible refine Away.drew ?_ | with_reducible refine Away.put ?_ _ _ | with_reducible refine Away.alloc ?_ _ | with_reducible refine Away.below ?_ (by with_reducible assumption)))))) | (refine lexL_splitS (X := ?_) ?_ ?_ (fun hg => ?_) (fun hg => ?_); rotate_left; (focus (simp only [List.getElem?_toArray, List.getElem?_cons_succ, List.getElem?_cons_zero]; with_reducible rfl)); (focus (exact (by repeat (first | with_reducible exact Away.refl _ _ | with_reducible assumption | with_reducible refine Away.drew ?_ | with_reducible refine Away.put ?_ _ _ | with_reducible refine Away.alloc ?_ _ | with_reducible refine Away.below ?_ (by with_reducible assumption))))); all_goals (try simp only [Bool.not_true, Bool.not_false] at hg)))
      (all_goals try simp only [Act.put, List.setIfInBounds_toArray, List.set_cons_zero, List.set_cons_succ]); all_goals (refine lexL_nil ?_)
      have hX6 := ((((hX5.set_ (k * 4) (.int .i64 p.lo.x)).set_ (k * 4 + 1) (.int .i64 p.lo.y)).set_ (k * 4 + 2) (.int .i64 p.hi.x)).set_ (k * 4 + 3) (.int .i64 p.hi.y)).eq_ (bcl_set p hlt)
      refine PgG.keep_world (R := fun w2 => Blk w2 (w.heap.size + 1) 60 (bcl (updB f k p) n).toArray ∧ Blk w2 (w.heap.size + 1 + 1) 253 #[.slice (some ⟨w.heap.size + 1, 0, none⟩) n n] ∧ Blk w2 (w.heap.size + 1 + 1 + 1) 3 (icl k n).toArray ∧ Below w.heap.size w w2) ⟨hX6, blkA, blkA, bel⟩ ?_
      clear hX hS hI hb hX5 e0 e1 e2 e3 f5 hX6 hc5 hf5 hb5 hz5 w5 cS fS lS lI lX HU hcell hbw
      rintro w6 ⟨hX, hS, hI, hb⟩
      have cI := hI.cell k
      have fI := hI.frozen
      have lI := hI.lt
      rw [List.getElem?_toArray] at cI
      have cI2 : (icl k n)[k]? = some (.int .i64 0) := by simp [icl, hlt]
      rw [cI2] at cI
      have hI7 := (hI.set_ k (.int .i64 (k : Nat))).eq_ (icl_set hlt)
      go_wp2
      go_roundw
      case rel => exact ⟨k + 1, updB f k p, by omega, by go_num, fun j hj => by
        unfold updB
        split
        · rename_i h; subst h; exact HP.out.symm
        · exact HF.out j (by omega), blkA, blkA, hI7, bel⟩
      case measure => simp [intOf]; omega
    · obtain rfl : n = k := by omega
      have el : (List.range n).map f = L.map boxK := by
        apply List.ext_getElem
        · simp [hLn]
        · intro j h1 h2
          have h3 : j < L.length := by simpa using h2
          have h4 : j < n := by omega
          simp only [List.getElem_map, List.getElem_range]
          rw [hf j h4, List.getD_eq_getElem?_getD, List.getElem?_eq_getElem h3]
          rfl
      have hbx := bxsAt_bcl hX (Nat.lt_succ_self _)
      rw [el] at hbx
      rw [icl_all] at hI
      have hokL : ∀ b ∈ L.map boxK, okBx b = true ∨ b = bzero := fun b hb => by
        obtain ⟨r, hr, rfl⟩ := List.mem_map.1 hb
        exact boxK_ok (H256.out r hr)
      have HST := Lib.hid (show Calls Tryz.prog 266 #[.slice (some ⟨w.heap.size + 1 + 1 + 1, 0, none⟩) n n, .func (.func 267) #[] #[.pointer (some ⟨w.heap.size + 1 + 1, 0, none⟩)]] wr fun e w' =>
          e = .returned (.tuple #[]) ∧ ∃ d : List Nat, d.Perm (List.range n) ∧ d.Pairwise (fun i k => ahd (L.map boxK) i k = true) ∧ Blk w' (w.heap.size + 1 + 1 + 1) 3 (d.map fun j => Value.int .i64 (j : Nat)).toArray ∧ Below (w.heap.size + 1 + 1 + 1) wr w' from by
        rcases Nat.eq_zero_or_pos n with h0 | h0
        · subst h0
          refine (sort_zero _ _ _).mono ?_
          rintro e w' ⟨rfl, rfl⟩
          exact ⟨rfl, [], by simp, by simp, by simpa using hI, Below.refl _ _⟩
        · exact sort_any n (w.heap.size + 1 + 1 + 1) (w.heap.size + 1 + 1) (w.heap.size + 1 + 1) n (some ⟨w.heap.size + 1, 0, none⟩) (L.map boxK) 3 wr h0 hn2 hbx (by omega) (hS.cell 0) (by omega) hokL hI)
      clear hlt hk HL H256 HM1 HM2 hf el hbx hokL HLN hX hS hI
      have hLn2 : (L.map boxK).length = n := by simp [hLn]
      clear hLn
      generalize L.map boxK = l at *
      obtain ⟨m2, hm2⟩ : ∃ m, n / 2 = m := ⟨_, rfl⟩
      obtain ⟨h2, hh2⟩ : ∃ m, n - m2 = m := ⟨_, rfl⟩
      by_cases hm0 : m2 = 0
      · subst hm0
        obtain rfl : n = h2 := by omega
        have q1 : (n : Int).tdiv 2 = 0 := by
          have : (n : Int).tdiv 2 = ((0 : Nat) : Int) := by rw [← hm2]; rfl
          exact this
        have q2 : (n : Int) / 2 = 0 := by omega
        have q4 : IntKind.i64.wrap 0 = 0 := by decide
        have q5 : IntKind.i64.wrap (n : Int) = n := by simp [IntKind.wrap, IntKind.bits, IntKind.signed]; omega
        have HQ := Lib.hid hm2
        clear hm2 hh2
        go_wp2_with (go_at_call 266; (with_reducible refine HST.out.mono ?_); rintro e w1 ⟨rfl, d, hd1, hd2, hD, hb1⟩; clear HST)
        have hb2 : Below w.heap.size w w1 := hb.trans (hb1.mono (by omega))
        have hd3 : d.length = n := by rw [hd1.length_eq]; simp
        have hZ := hb2.size
        have ho := split_mem (l := l) (d := d) (by rw [hLn2]; exact hd1) hd2
        have eh : l.length - l.length / 2 = d.length := by rw [hLn2, HQ.out, hd3]; rfl
        rw [eh, List.drop_length, hLn2, HV.out] at ho
        have HO := Lib.hid ho
        clear hd1 hd2 hb1 hb q1 q2 q4 q5 ho eh
        go_loopw [53] (fun vi wr2 => vi = .int .i64 0 ∧ Blk wr2 w1.heap.size 4 (ocl (fun _ => false) n).toArray ∧ Below w.heap.size w wr2) (fun vi _ => 0)
        case atStart => exact ⟨rfl, Blk.new rfl rfl, bel⟩
        case round =>
          obtain ⟨rfl, hO, hbb⟩ := hrel
          have hO2 : Blk wr w1.heap.size 4 (V.map Value.bool).toArray := by
            rw [← HO.out]
            simpa using hO
          go_wp2
          go_ret
          exact ⟨_, rfl, hO2, hbb⟩
      have q1 : (n : Int).tdiv 2 = (m2 : Int) := by rw [← hm2]; rfl
      have q2 : (n : Int) / 2 = (m2 : Int) := by omega
      have q3 : (n : Int) - (m2 : Int) = (h2 : Int) := by omega
      have q4 : IntKind.i64.wrap (m2 : Int) = m2 := by simp [IntKind.wrap, IntKind.bits, IntKind.signed]; omega
      have q5 : IntKind.i64.wrap (h2 : Int) = h2 := by simp [IntKind.wrap, IntKind.bits, IntKind.signed]; omega
      have q6 : (0 : Int) ≤ (h2 : Int) := by omega
      have q7 : (h2 : Int) ≤ (n : Int) := by omega
      have q8 : ¬ n = h2 := by omega
      have q9 : n - h2 = m2 := by omega
      have HQ := Lib.hid hm2
      have HQ2 := Lib.hid hh2
      clear hm2 hh2
      go_wp2_with (go_at_call 266; (with_reducible refine HST.out.mono ?_); rintro e w1 ⟨rfl, d, hd1, hd2, hD, hb1⟩; clear HST)
      have hb2 : Below w.heap.size w w1 := hb.trans (hb1.mono (by omega))
      have hd3 : d.length = n := by rw [hd1.length_eq]; simp
      have hZ := hb2.size
      have hX2 : w.heap.size + 1 + 1 + 1 < w1.heap.size := hD.lt
      have HD := Lib.hid (And.intro hd1 hd2)
      clear hd1 hd2 hb1 hb q1 q2 q3 q4 q5 q6 q7
      go_loopw [53] (fun vi wr2 => ∃ k, k ≤ m2 ∧ vi = .int .i64 (k : Nat) ∧ Blk wr2 w1.heap.size 4 (ocl (fun j => decide (j ∈ (d.drop h2).take k)) n).toArray ∧ Blk wr2 (w.heap.size + 1 + 1 + 1) 3 (d.map fun j => Value.int .i64 (j : Nat)).toArray ∧ Below w.heap.size w wr2) (fun vi _ => m2 - (intOf vi).toNat)
      case atStart => exact ⟨0, by omega, rfl, by simpa using (Blk.new rfl rfl), blkA, bel⟩
      case round =>
        obtain ⟨k, hk, rfl, hO, hP, hbb⟩ := hrel
        by_cases hlt : k < m2
        · have h3 : h2 + k < d.length := by rw [hd3, ← HQ2.out]; omega
          obtain ⟨y, hy⟩ : ∃ y, d[h2 + k]? = some y := ⟨_, List.getElem?_eq_getElem h3⟩
          have hyn : y < n := by
            have := HD.out.1.mem_iff.1 (List.mem_of_getElem? hy)
            simpa using this
          have hy0 : (y : Int) < (n : Int) := by omega
          have hk0 : (k : Int) < (m2 : Int) := by omega
          have cP : wr.cell? ⟨w.heap.size + 1 + 1 + 1, h2 + k, none⟩ = some (.int .i64 (y : Nat)) := by rw [hP.cell, List.getElem?_toArray, List.getElem?_map, hy]; rfl
          have cO : wr.cell? ⟨w1.heap.size, y, none⟩ = some (.bool (decide (y ∈ (d.drop h2).take k))) := by rw [hO.cell, List.getElem?_toArray]; simp [ocl, hyn]
          have fO := hO.frozen
          have lO := hO.lt
          have hO7 := (hO.set_ y (.bool true)).eq_ (ocl_set hyn)
          have es : (fun j => decide (j ∈ (d.drop h2).take k) || decide (j = y)) = fun j => decide (j ∈ (d.drop h2).take (k + 1)) := by
            funext j
            have e2 : (d.drop h2)[k]? = some y := by rw [List.getElem?_drop]; exact hy
            rw [List.take_add_one, e2]
            simp
          rw [es] at hO7
          clear es hy hyn HV hd3 h3
          have HN : Hid (w.heap.size + 1 + 1 + 1 ≠ w1.heap.size) := by unfold Hid; omega
          go_wp2
          go_roundw
          case rel => exact ⟨k + 1, by omega, by go_num, hO7, hP.far HN.out _, hbb.setCell (by simp; omega) _⟩
          case measure => simp [intOf]; omega
        · obtain rfl : m2 = k := by omega
          have et : (d.drop h2).take m2 = d.drop h2 := List.take_of_length_le (by simp; omega)
          rw [et] at hO
          have eh : h2 = l.length - l.length / 2 := by rw [hLn2, HQ.out, HQ2.out]
          have ho := split_mem (l := l) (d := d) (by rw [hLn2]; exact HD.out.1) HD.out.2
          rw [← eh, hLn2] at ho
          rw [ho, HV.out] at hO
          go_wp2
          go_ret
          exact ⟨_, rfl, hO, hbb⟩
end Go.Proofs.YtkfbkfcmdfpfjaaGreatDoor
