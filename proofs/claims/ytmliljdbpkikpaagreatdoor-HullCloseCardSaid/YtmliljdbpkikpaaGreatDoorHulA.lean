/-
  Points in order: the closure that compares them, and their sort.
  slices.Clone, Reverse at points.
  hull.chain: one side of a hull.
  slices.Compact at points.
-/
import Derived.Test.YtmliljdbpkikpaaGreatDoorPlane
import Derived.Test.YtmliljdbpkikpaaGreatDoorAllocG
import Derived.Test.YtmliljdbpkikpaaGreatDoorSrtP
import Derived.Test.YtmliljdbpkikpaaGreatDoorEncA
import Derived.Test.YtmliljdbpkikpaaGreatDoorRevP
import Derived.Lib.SliceRun
import Derived.Lib.SlicesCompact
set_option linter.unusedSimpArgs false
set_option linter.unusedVariables false
namespace Pg
open Go Go.RowKit
/-- the first number that is not 0 -/
def orP2 (x y : Int) : Int := if x = 0 then y else x
/-- how points are compared: by x, then by y -/
def cmpPt (a b : Pt) : Int := orP2 (sgn (a.x - b.x)) (sgn (a.y - b.y))
theorem sgn_casesP (a : Int) : (a < 0 ∧ sgn a = -1) ∨ (a = 0 ∧ sgn a = 0) ∨ (0 < a ∧ sgn a = 1) := by
  unfold sgn
  rcases Int.lt_trichotomy a 0 with h | h | h
  · exact .inl ⟨h, if_pos h⟩
  · exact .inr (.inl ⟨h, by rw [if_neg (by omega), if_neg (by omega)]⟩)
  · exact .inr (.inr ⟨h, by rw [if_neg (by omega), if_pos h]⟩)
/-- a stands ahead of b -/
def ltP (a b : Pt) : Bool := decide (a.x < b.x) || (decide (a.x = b.x) && decide (a.y < b.y))
theorem ltP_iff (a b : Pt) : ltP a b = true ↔ a.x < b.x ∨ (a.x = b.x ∧ a.y < b.y) := by unfold ltP; simp
theorem cmpPt_lt (a b : Pt) : decide (cmpPt a b < 0) = ltP a b := by
  rw [Bool.eq_iff_iff, ltP_iff, decide_eq_true_eq]
  have h1 := sgn_casesP (a.x - b.x)
  have h2 := sgn_casesP (a.y - b.y)
  unfold cmpPt orP2
  split <;> omega
theorem ltP_irrefl (a : Pt) : ltP a a = false := by
  rw [Bool.eq_false_iff, Ne, ltP_iff]; omega
theorem ltP_trans {a b c : Pt} (h1 : ltP a b = true) (h2 : ltP b c = true) : ltP a c = true := by
  rw [ltP_iff] at *; omega
theorem ltP_total {a b : Pt} (h1 : ltP a b = false) (h2 : ltP b a = false) : a = b := by
  rw [Bool.eq_false_iff, Ne, ltP_iff] at *
  obtain ⟨ax, ay⟩ := a
  obtain ⟨bx, by_⟩ := b
  simp only at h1 h2
  have e1 : ax = bx := by omega
  have e2 : ay = by_ := by omega
  rw [e1, e2]
theorem ltP_ntrans {a b c : Pt} (h1 : ltP a b = false) (h2 : ltP b c = false) : ltP a c = false := by
  rw [Bool.eq_false_iff, Ne, ltP_iff] at *; omega
/-- the points in order -/
def sortP (l : List Pt) : List Pt := l.mergeSort fun x y => !ltP y x
theorem sortP_perm (l : List Pt) : (sortP l).Perm l := List.mergeSort_perm _ _
theorem sortP_sorted (l : List Pt) : (sortP l).Pairwise fun a b => ltP b a = false := by
  have := List.pairwise_mergeSort (le := fun x y : Pt => !ltP y x) (fun a b c h1 h2 => by
    simp only [Bool.not_eq_true'] at *
    exact ltP_ntrans h2 h1) (fun a b => by
    cases h1 : ltP b a
    · simp
    · have : ltP a b = false := by
        rw [Bool.eq_false_iff, Ne, ltP_iff]
        rw [ltP_iff] at h1
        omega
      simp [this]) l
  refine this.imp fun {a b} h => ?_
  simpa using h
def ptcs (p : Pt) : List Value := [.int .i64 p.x, .int .i64 p.y]
def ptcells (l : List Pt) : List Value := l.flatMap ptcs
theorem ptcells_len (l : List Pt) : (ptcells l).length = l.length * 2 := by
  unfold ptcells
  induction l with
  | nil => rfl
  | cons a r ih => simp [ptcs] at ih ⊢; omega
theorem ptcells_at (l : List Pt) : ∀ (k : Nat) (b : Pt), l[k]? = some b → (ptcells l)[k * 2]? = some (.int .i64 b.x) ∧ (ptcells l)[k * 2 + 1]? = some (.int .i64 b.y) := by
  induction l with
  | nil => intro k b h; simp at h
  | cons c r ih =>
    intro k b h
    cases k with
    | zero =>
      simp at h
      subst h
      simp [ptcells, ptcs]
    | succ k =>
      have := ih k b (by simpa using h)
      simp only [ptcells, List.flatMap_cons] at this ⊢
      rw [List.getElem?_append_right (by simp [ptcs]; omega), List.getElem?_append_right (by simp [ptcs]; omega)]
      simp only [ptcs, List.length_cons, List.length_nil]
      rw [show (k + 1) * 2 - (0 + 1 + 1) = k * 2 by omega, show (k + 1) * 2 + 1 - (0 + 1 + 1) = k * 2 + 1 by omega]
      exact this
end Pg
namespace Go.Proofs.YtmliljdbpkikpaaGreatDoor
open Go.RowKit Pg
theorem grow_of_grP {w w' : World} (h : Gr w.heap.size w w') : ∃ q os', w' = Go.Sort.grow (w.drewN q) os' := by
  obtain ⟨⟨ho, ht, hu, hs, hb⟩, hd⟩ := h
  refine ⟨w'.drawn - w.drawn, w'.heap.extract w.heap.size w'.heap.size, ?_⟩
  obtain ⟨H, T, D, O, U⟩ := w
  obtain ⟨H', T', D', O', U'⟩ := w'
  simp only at ho ht hu hs hb hd
  subst ho ht hu
  unfold Go.Sort.grow World.drewN
  simp only
  have e1 : D + (D' - D) = D' := by omega
  rw [e1]
  congr 1
  apply Array.ext_getElem?
  intro k
  rcases Nat.lt_or_ge k H.size with h | h
  · rw [hb k h, Array.getElem?_append_left h]
  · rw [Array.getElem?_append_right h, Array.getElem?_extract]
    split
    · congr 1; omega
    · rw [Array.getElem?_eq_none (by omega)]


set_option maxHeartbeats 1000000 in
theorem orP2_any (g : Nat) (t : TypeId) (x y : Int) (w : World) (h : Blk w g t #[.int .i64 x, .int .i64 y]) :
    Calls Tryz.prog 52 #[.slice (some ⟨g, 0, none⟩) 2 2] w fun e w' => e = .returned (.int .i64 (orP2 x y)) ∧ w = w' := by
  have c0 := h.cell 0
  have c1 := h.cell 1
  simp only [List.getElem?_toArray, List.getElem?_cons_zero, List.getElem?_cons_succ] at c0 c1
  by_cases hx : x = 0
  · subst hx
    by_cases hy : y = 0
    · subst hy
      go_enter Tryz.func52, Tryz.ntmps52
      go_wp2
      refine wp_loop_rounds 3 ?_
      rw [rounds_succ]
      go_wp2
      rw [rounds_succ]
      go_wp2
      rw [rounds_succ]
      go_wp2
      go_ret
      exact ⟨by simp [orP2], rfl⟩
    · have hb : (y == 0) = false := by simpa using hy
      go_enter Tryz.func52, Tryz.ntmps52
      go_wp2
      refine wp_loop_rounds 2 ?_
      rw [rounds_succ]
      go_wp2
      rw [rounds_succ]
      go_wp2
      go_ret
      exact ⟨by simp [orP2], rfl⟩
  · have hb : (x == 0) = false := by simpa using hx
    go_enter Tryz.func52, Tryz.ntmps52
    go_wp2
    refine wp_loop_rounds 1 ?_
    rw [rounds_succ]
    go_wp2
    go_ret
    exact ⟨by simp [orP2, hx], rfl⟩

set_option maxHeartbeats 2000000 in
set_option maxRecDepth 20000 in
theorem cmpPt_any (a b : Pt) (w : World) : Calls Tryz.prog 51 #[ptV a.x a.y, ptV b.x b.y] w fun e w' => e = .returned (.int .i64 (cmpPt a b)) ∧ Gr w.heap.size w w' := by
  obtain ⟨V, hV⟩ : ∃ V, cmpPt a b = V := ⟨_, rfl⟩
  rw [hV]
  unfold cmpPt at hV
  obtain ⟨ax, ay⟩ := a
  obtain ⟨bx, by_⟩ := b
  simp only at hV ⊢
  go_enter Tryz.func51, Tryz.ntmps51
  go_wp2_with fail
  refine wp_region_gr [0, 1, 2, 3, 5, 6, 7, 8, 4, 9, 10, 11, 12] (by kernel_rfl) (by kernel_rfl) (fun _ _ d _ _ h => by cases d <;> exact h) ?_
  simp only [List.map_cons, List.map_nil, List.getD_cons_zero, List.getD_cons_succ, bare, gslot, List.getElem?_cons_zero, List.getElem?_cons_succ, Option.bind_some]
  repeat' ((try simp only [Act.put, List.setIfInBounds_toArray, List.set_cons_zero, List.set_cons_succ]); first | (refine lexL_quiet (v := ?_) wantB_none rfl ?_ ?_; rotate_left; focus (intro wq hq; obtain ⟨hcq, hfq⟩ := gcell hq; go_simp; try with_reducible rfl)) | (refine lexL_loud wantB_none rfl (fun K hK => ?_); go_simp; ((first | (go_at_call 53; refine (compareInt_any _ _ _).mono ?_; rintro e w1 ⟨rfl, rfl⟩) | (go_at_call 52; (with_reducible refine (orP2_any _ 3 (sgn (ax - bx)) (sgn (ay - by_)) _ ?_).mono ?_); (focus exact (by repeat (first | with_reducible assumption | with_reducible exact Blk.new (by simp) rfl | with_reducible refine Blk.alloc ?_ _ | with_reducible refine Blk.drew ?_ | with_reducible refine Blk.far ?_ (by first | (simp; done) | (simp; omega)) _ | with_reducible refine Blk.tr ?_ (by with_reducible assumption)))); rintro e w1 ⟨rfl, rfl⟩) | skip) <;> (refine hK.out _ _ (by repeat (first | with_reducible exact Gr.refl _ _ | with_reducible assumption | with_reducible refine grA ?_ _ | with_reducible refine Gr.drew ?_ | with_reducible refine Gr.setCell ?_ (by first | (simp; done) | (simp; omega)) _ | with_reducible refine grT ?_ (by with_reducible assumption))) ?_; clear hK K))) | (refine lexL_on ?_ ?_; focus (simp only [List.getElem?_toArray, List.getElem?_cons_succ, List.getElem?_cons_zero, Bool.not_true, Bool.not_false]; done)) | (refine lexL_off ?_ ?_ ?_; (focus (simp only [List.getElem?_toArray, List.getElem?_cons_succ, List.getElem?_cons_zero, Bool.not_true, Bool.not_false]; done)); (focus (exact (by repeat (first | with_reducible exact Gr.refl _ _ | with_reducible assumption | with_reducible refine grA ?_ _ | with_reducible refine Gr.drew ?_ | with_reducible refine Gr.setCell ?_ (by first | (simp; done) | (simp; omega)) _ | with_reducible refine grT ?_ (by with_reducible assumption)))))) | (refine lexL_splitS (X := ?_) ?_ ?_ (fun hg => ?_) (fun hg => ?_); rotate_left; (focus (simp only [List.getElem?_toArray, List.getElem?_cons_succ, List.getElem?_cons_zero]; with_reducible rfl)); (focus (exact (by repeat (first | with_reducible exact Gr.refl _ _ | with_reducible assumption | with_reducible refine grA ?_ _ | with_reducible refine Gr.drew ?_ | with_reducible refine Gr.setCell ?_ (by first | (simp; done) | (simp; omega)) _ | with_reducible refine grT ?_ (by with_reducible assumption))))); all_goals (try simp only [Bool.not_true, Bool.not_false] at hg)))
  (all_goals try simp only [Act.put, List.setIfInBounds_toArray, List.set_cons_zero, List.set_cons_succ]); all_goals (refine lexL_nil ?_)
  go_wp2_with fail
  go_ret
  exact ⟨rfl, (by repeat (first | with_reducible exact Gr.refl _ _ | with_reducible assumption | with_reducible refine grA ?_ _ | with_reducible refine Gr.drew ?_ | with_reducible refine Gr.setCell ?_ (by first | (simp; done) | (simp; omega)) _ | with_reducible refine grT ?_ (by with_reducible assumption)))⟩
theorem flat_pts (l : List Pt) : (Go.Sort.flatK ptcs 2 l.toArray).toList = ptcells l := by
  apply List.ext_getElem?
  intro j
  have hl := ptcells_len l
  by_cases hj : j < l.length * 2
  · have hk : j / 2 < l.length := by omega
    obtain ⟨h1, h2⟩ := ptcells_at l (j / 2) l[j / 2] (List.getElem?_eq_getElem hk)
    have hm : j % 2 = 0 ∨ j % 2 = 1 := by omega
    rcases hm with hm | hm
    · have e : j / 2 * 2 = j := by omega
      rw [e] at h1
      rw [h1]
      simp [Go.Sort.flatK, hj, hm, ptcs, hk]
    · have e : j / 2 * 2 + 1 = j := by omega
      rw [e] at h2
      rw [h2]
      simp [Go.Sort.flatK, hj, hm, ptcs, hk]
  · rw [List.getElem?_eq_none (by simp; omega), List.getElem?_eq_none (by omega)]

section
variable {α : Type} [Inhabited α] {enc : α → List Value}
theorem swk_heap (k : Nat) (w : World) (pb m : Nat) (dk : Array α) (os : Array Obj) {j : Nat} (hj : j ≠ pb) (hj2 : j < w.heap.size) : (sortWorldK enc k w pb 0 m dk os).heap[j]? = w.heap[j]? := by
  unfold sortWorldK Go.Sort.putRowK
  rw [Go.Sort.heap_grow_old _ _ (by simpa using hj2)]
  unfold Go.Sort.putRow Go.Sort.mapBlock
  simp only [Go.Sort.heap_ahead]
  rw [Array.getElem?_modify, if_neg (Ne.symm hj)]
theorem swk_below (k : Nat) (w : World) (pb m : Nat) (dk : Array α) (os : Array Obj) (hp : pb < w.heap.size) : Below pb w (sortWorldK enc k w pb 0 m dk os) :=
  ⟨rfl, rfl, rfl, by unfold sortWorldK Go.Sort.putRowK; simp, fun j hj => swk_heap k w pb m dk os (by omega) (by omega)⟩
end
/-- the row's block behind a sort, the cells behind the row as they were -/
theorem swk_own (w : World) (base pb m n cap : Nat) (l l' : List Pt) (os : Array Obj) (t : TypeId) (h : w.ownsRow base t 2 (.slice (some ⟨pb, 0, none⟩) n cap) n (ptcells l)) (hn : 0 < n) (hl : l'.length = n) :
    (sortWorldK ptcs 2 w pb 0 m l'.toArray os).ownsRow base t 2 (.slice (some ⟨pb, 0, none⟩) n cap) n (ptcells l') := by
  obtain ⟨h1, ⟨h2, _⟩ | ⟨g, cap', cur, hv, hg, hh, hnc, hcm, hcs, ht⟩⟩ := h
  · cases h2
  · injection hv with e1 e2 e3
    injection e1 with e1
    injection e1 with e1
    subst e1 e3
    refine ⟨by rw [ptcells_len, hl], .inr ⟨pb, cap, Go.Sort.putCells id 0 (Go.Sort.flatK ptcs 2 l'.toArray) cur, rfl, hg, ?_, hnc, hcm, ?_, ?_⟩⟩
    · have hlt : pb < w.heap.size := by
        rcases Nat.lt_or_ge pb w.heap.size with h | h
        · exact h
        · rw [Array.getElem?_eq_none h] at hh; cases hh
      unfold sortWorldK Go.Sort.putRowK
      rw [Go.Sort.heap_grow_old _ _ (by simpa using hlt)]
      unfold Go.Sort.putRow Go.Sort.mapBlock
      simp only [Go.Sort.heap_ahead]
      rw [Array.getElem?_modify, if_pos rfl, hh]
      rfl
    · unfold Go.Sort.putCells
      simpa using hcs
    · rw [← flat_pts]
      apply List.ext_getElem?
      intro j
      have hsz : (Go.Sort.flatK ptcs 2 l'.toArray).size = n * 2 := by simp [hl]
      by_cases hj : j < n * 2
      · have hj2 : j < cur.size := by rw [hcs]; omega
        rw [List.getElem?_take_of_lt hj]
        unfold Go.Sort.putCells
        simp only [Array.getElem?_toList, Array.getElem?_mapIdx, Nat.zero_le, true_and, Nat.zero_add, Nat.sub_zero, id]
        rw [Array.getElem?_eq_getElem hj2]
        have hj3 : j < (Go.Sort.flatK ptcs 2 l'.toArray).size := by rw [hsz]; exact hj
        simp only [Option.map_some, if_pos hj3]
        rw [getElem!_pos (Go.Sort.flatK ptcs 2 l'.toArray) j hj3, Array.getElem?_eq_getElem hj3]
      · rw [List.getElem?_eq_none (by simp; omega), List.getElem?_eq_none (by simp [hl]; omega)]
theorem own_holds {w : World} {base pb n cap : Nat} {l : List Pt} {t : TypeId} (h : w.ownsRow base t 2 (.slice (some ⟨pb, 0, none⟩) n cap) n (ptcells l)) (hl : l.length = n) : Go.Sort.HoldsK ptcs 2 w pb 0 l.toArray := by
  intro j hj
  have hj2 : j < n * 2 := by simpa [hl] using hj
  have hc := h.cellAt j (by omega)
  rw [Nat.zero_add]
  refine ⟨?_, ?_⟩
  · rw [hc, ← flat_pts, getElem!_pos (Go.Sort.flatK ptcs 2 l.toArray) j hj, Array.getElem?_toList, Array.getElem?_eq_getElem hj]
    rfl
  · obtain ⟨h1, ⟨h2, _⟩ | ⟨g, cap', cur, hv, hg, hh, hnc, hcm, hcs, ht⟩⟩ := h
    · cases h2
    · injection hv with e1 e2 e3
      injection e1 with e1
      injection e1 with e1
      subst e1
      simp [World.frozen?, hh]

set_option maxHeartbeats 1000000 in
/-- slices.SortFunc at an own row of points -/
theorem sortP_any (base pb n cap : Nat) (l : List Pt) (t : TypeId) (w : World) (hn : 0 < n) (hn2 : n ≤ 1000000) (hl : l.length = n) (h : w.ownsRow base t 2 (.slice (some ⟨pb, 0, none⟩) n cap) n (ptcells l)) :
    Calls Tryz.prog 50 #[.slice (some ⟨pb, 0, none⟩) n cap, .func (.func 51) #[] #[]] w fun e w' =>
      e = .returned (.tuple #[]) ∧ w'.ownsRow base t 2 (.slice (some ⟨pb, 0, none⟩) n cap) n (ptcells (sortP l)) ∧ Below base w w' := by
  have hbp : base ≤ pb ∧ pb < w.heap.size := h.lt pb rfl
  have hO : Go.Sort.SWO (ltOf cmpPt) := ⟨fun x => by unfold ltOf; rw [cmpPt_lt, ltP_irrefl], fun x y z h1 h2 => by
      unfold ltOf at *
      rw [cmpPt_lt] at *
      exact ltP_trans h1 h2, fun x y z h1 h2 => by
      unfold ltOf at *
      rw [cmpPt_lt] at *
      exact ltP_ntrans h1 h2⟩
  have hT : ∀ x y : Pt, ltOf cmpPt x y = false → ltOf cmpPt y x = false → x = y := fun x y h1 h2 => by
    unfold ltOf at *
    rw [cmpPt_lt] at *
    exact ltP_total h1 h2
  have hs := AnyQ.slices_SortFunc_total Tryz.sortPt 2 (fun w => by kernel_rfl) (fun w => by kernel_rfl) ptcs (fun _ => rfl) (fun p v hv => by simp [ptcs] at hv; rcases hv with rfl | rfl <;> rfl) cmpPt hO 51 #[] pb 0 cap l.toArray w
    (enters_of Tryz.func51 (by kernel_rfl) rfl) (fun m os dk hs x y => (cmpPt_any x y _).mono fun e w' ⟨h1, h2⟩ => ⟨h1, grow_of_grP h2⟩) (own_holds h hl) hbp.2 (by simp; omega) hT
  have es : l.toArray.size = n := by simp [hl]
  rw [es] at hs
  refine hs.mono ?_
  rintro e w' ⟨rfl, m, os, rfl⟩
  have eq : (l.toArray.toList.mergeSort fun x y => !(ltOf cmpPt) y x) = sortP l := by
    unfold sortP
    congr 1
    funext x y
    unfold ltOf
    rw [cmpPt_lt]
  rw [eq]
  exact ⟨rfl, swk_own w base pb m n cap l (sortP l) os t h hn (by rw [(sortP_perm l).length_eq, hl]), (swk_below 2 w pb m _ os hbp.2).mono hbp.1⟩
end Go.Proofs.YtmliljdbpkikpaaGreatDoor
set_option linter.unusedSimpArgs false
set_option linter.unusedVariables false
namespace Go.Proofs.YtmliljdbpkikpaaGreatDoor
open Go.RowKit Pg
theorem Tryz.infoPtH : (Tryz.prog.info? 35).map (fun i => (i.zero, i.size, i.bytes)) = some (some (.agg #[.int .i64 0, .int .i64 0]), 2, 16) := by kernel_rfl
theorem pt_one {l : List Pt} : ∀ v ∈ ptcells l, v.oneCell' = true := by
  intro v hv
  unfold ptcells at hv
  obtain ⟨p, _, hv⟩ := List.mem_flatMap.1 hv
  simp [ptcs] at hv
  rcases hv with rfl | rfl <;> rfl
/-- the cells of a row of points, one by one -/
theorem pts_cells {w : World} {B n b off : Nat} {l : List Pt} (h : PtsAt w B (some ⟨b, off, none⟩) n l) (hn : 0 < n) : ∀ (j : Nat) (u : Value), (ptcells l)[j]? = some u → w.cell? ((⟨b, off, none⟩ : Addr).add j) = some u := by
  obtain ⟨b', off', e, hb, hc⟩ := h.2 hn
  injection e with e
  injection e with e1 e2
  subst e1 e2
  intro j u hu
  have hj : j < l.length * 2 := by
    rcases Nat.lt_or_ge j (l.length * 2) with h | h
    · exact h
    · rw [List.getElem?_eq_none (by rw [ptcells_len]; exact h)] at hu; cases hu
  have hk : j / 2 < l.length := by omega
  obtain ⟨h1, h2⟩ := ptcells_at l (j / 2) l[j / 2] (List.getElem?_eq_getElem hk)
  obtain ⟨c1, c2⟩ := hc (j / 2) l[j / 2] (List.getElem?_eq_getElem hk)
  have hp : (⟨b, off, none⟩ : Addr).add j = ⟨b, off + j, none⟩ := by unfold Addr.add; split <;> simp_all
  rw [hp]
  have hm : j % 2 = 0 ∨ j % 2 = 1 := by omega
  rcases hm with hm | hm
  · have e : j / 2 * 2 = j := by omega
    rw [e] at h1 c1
    rw [c1, ← h1, hu]
  · have e : j / 2 * 2 + 1 = j := by omega
    rw [e] at h2
    rw [show off + j / 2 * 2 + 1 = off + j by omega] at c2
    rw [c2, ← h2, hu]

set_option maxHeartbeats 2000000 in
set_option maxRecDepth 20000 in
theorem cloneP_any (B n c : Nat) (A : Option Addr) (l : List Pt) (w : World) (hl : PtsAt w B A n l) (hB : B ≤ w.heap.size) (hn : 0 < n) (hn2 : n ≤ 1000000) :
    Calls Tryz.prog 49 #[.slice A n c] w fun e w' => ∃ g c', e = .returned (.slice (some ⟨g, 0, none⟩) n c') ∧ w'.ownsRow w.heap.size 35 2 (.slice (some ⟨g, 0, none⟩) n c') n (ptcells l) ∧ Below w.heap.size w w' := by
  obtain ⟨i0, hi, iz0, iz1, iz2⟩ := info_parts Tryz.infoPtH
  obtain ⟨b, off, rfl, hb, hc⟩ := hl.2 hn
  have q22 : ∀ (w : World) (a : Option Addr) (n c n' c' : Nat), (binOp .eql 22 (.slice a n c) (.slice none n' c')).run Tryz.prog w = .ok (.bool a.isNone) w := fun w a n c n' c' => Lib.run_eql_slice_nil w _ _ a n c n' c' Tryz.underlying22
  have HL := Lib.hid hl
  clear hl hc
  go_enter Tryz.func49, Tryz.ntmps49
  go_wp2_with (at_builtin; refine wpList_append_own _ rfl _ _ 22 rfl w.heap.size 35 i0 (.agg #[.int .i64 0, .int .i64 0]) 2 16 Tryz.underlying22 hi iz0 iz1 iz2 rfl (by decide) _ _ _ rfl (World.ownsRow_made w #[] 0 (Nat.le_refl _) (Nat.zero_le _) rfl) ⟨b, off, none⟩ n c (ptcells l) rfl ?qc1 ?qc2 ?qc3 ?qc4 ?qc5 ?qc6 ?_)
  case qc1 => rw [ptcells_len, HL.out.1]
  case qc2 =>
    intro j u hj
    have := pts_cells HL.out hn j u hj
    have hp : ((⟨b, off, none⟩ : Addr).add j) = ⟨b, off + j, none⟩ := by unfold Addr.add; split <;> simp_all
    rw [hp] at this ⊢
    exact Lib.cell?_alloc_some _ this
  case qc3 => exact pt_one
  case qc4 => unfold maxLen; omega
  case qc5 => omega
  case qc6 => simp
  intro v' w1 hown hgrow hnil
  obtain ⟨h1, ⟨rfl, h0⟩ | ⟨g, c', cur, rfl, r⟩⟩ := hown
  · omega
  go_wp2
  go_ret
  exact ⟨g, c', rfl, ⟨h1, .inr ⟨g, c', cur, rfl, r⟩⟩, ((Below.refl _ w).alloc (Nat.le_refl _) _).grown hgrow (by simp) (by intro k hk; simp [Value.ownBlock] at hk; omega)⟩

theorem reverseP_any (base pb n cap : Nat) (l : List Pt) (t : TypeId) (w : World) (hn : 0 < n) (hn2 : n ≤ 1000000) (hl : l.length = n) (h : w.ownsRow base t 2 (.slice (some ⟨pb, 0, none⟩) n cap) n (ptcells l)) :
    Calls Tryz.prog 56 #[.slice (some ⟨pb, 0, none⟩) n cap] w fun e w' =>
      e = .returned (.tuple #[]) ∧ w'.ownsRow base t 2 (.slice (some ⟨pb, 0, none⟩) n cap) n (ptcells l.reverse) ∧ Below base w w' ∧ ∀ k, k ≠ pb → k < w.heap.size → w'.heap[k]? = w.heap[k]? := by
  have hbp : base ≤ pb ∧ pb < w.heap.size := h.lt pb rfl
  have hs := AnyQ.slices_Reverse Tryz.revPt 2 (fun w => by kernel_rfl) (fun w => by kernel_rfl) ptcs (fun _ => rfl) (fun p v hv => by simp [ptcs] at hv; rcases hv with rfl | rfl <;> rfl) pb 0 cap l.toArray w (own_holds h hl) (by simp; omega)
  have es : l.toArray.size = n := by simp [hl]
  rw [es] at hs
  refine hs.mono ?_
  rintro e w' ⟨rfl, m, rfl⟩
  have eq : Go.Sort.putRowK ptcs 2 (Go.Sort.ahead w m) pb 0 l.toArray.reverse = sortWorldK ptcs 2 w pb 0 m l.reverse.toArray #[] := by
    unfold sortWorldK
    rw [Go.Sort.grow_empty]
    simp
  rw [eq]
  exact ⟨rfl, swk_own w base pb m n cap l l.reverse #[] t h hn (by simp [hl]), (swk_below 2 w pb m _ #[] hbp.2).mono hbp.1, fun k h1 h2 => swk_heap 2 w pb m _ #[] h1 h2⟩
end Go.Proofs.YtmliljdbpkikpaaGreatDoor
set_option linter.unusedSimpArgs false
set_option linter.unusedVariables false
namespace Pg
open Go Go.RowKit
/-- what is left of a side, its last point first, when a point comes -/
def popR (p : Pt) : List Pt → List Pt
  | a :: b :: r => if orient b a p ≤ 0 then popR p (b :: r) else a :: b :: r
  | s => s
def chainR (l : List Pt) : List Pt := l.foldl (fun rs p => p :: popR p rs) []
/-- one side of a hull -/
def chainS (l : List Pt) : List Pt := (chainR l).reverse
theorem chainR_snoc (l : List Pt) (p : Pt) : chainR (l ++ [p]) = p :: popR p (chainR l) := by unfold chainR; rw [List.foldl_append]; rfl
theorem popR_pop {p a b : Pt} {r : List Pt} (h : orient b a p ≤ 0) : popR p (a :: b :: r) = popR p (b :: r) := by rw [popR, if_pos h]
theorem popR_stay {p a b : Pt} {r : List Pt} (h : ¬ orient b a p ≤ 0) : popR p (a :: b :: r) = a :: b :: r := by rw [popR, if_neg h]
theorem ptcells_snoc (l : List Pt) (p : Pt) : ptcells (l ++ [p]) = ptcells l ++ [.int .i64 p.x, .int .i64 p.y] := by simp [ptcells, ptcs]
theorem popR_len (p : Pt) : ∀ s : List Pt, (popR p s).length ≤ s.length
  | [] => by simp [popR]
  | [a] => by simp [popR]
  | a :: b :: r => by
    rw [popR]
    split
    · have := popR_len p (b :: r); simp at this ⊢; omega
    · simp
theorem chainR_len (l : List Pt) : (chainR l).length ≤ l.length := by
  have h : ∀ (l rs : List Pt), (l.foldl (fun rs p => p :: popR p rs) rs).length ≤ l.length + rs.length := by
    intro l
    induction l with
    | nil => intro rs; simp
    | cons a r ih =>
      intro rs
      have h1 := ih (a :: popR a rs)
      have h2 := popR_len a rs
      simp at h1 ⊢
      omega
  have := h l []
  simpa [chainR] using this
def lenV : Value → Nat | .slice _ n _ => n | _ => 0
theorem own_belowP {w w' : World} {base : Nat} {e : TypeId} {size : Nat} {v : Value} {n : Nat} {xs : List Value} (h : w.ownsRow base e size v n xs) (hb : Below w.heap.size w w') : w'.ownsRow base e size v n xs := by
  obtain ⟨h1, h2 | ⟨g, cap, cur, hv, hg, hh, r⟩⟩ := h
  · exact ⟨h1, .inl h2⟩
  · refine ⟨h1, .inr ⟨g, cap, cur, hv, hg, (hb.block g ?_).trans hh, r⟩⟩
    rcases Nat.lt_or_ge g w.heap.size with h | h
    · exact h
    · rw [Array.getElem?_eq_none h] at hh; cases hh
/-- an own row, its last point taken off -/
theorem own_pop {w : World} {base g m cap : Nat} {t : TypeId} {l : List Pt} {p : Pt} (h : w.ownsRow base t 2 (.slice (some ⟨g, 0, none⟩) (m + 1) cap) (m + 1) (ptcells (l ++ [p]))) : w.ownsRow base t 2 (.slice (some ⟨g, 0, none⟩) m cap) m (ptcells l) := by
  obtain ⟨h1, ⟨h2, _⟩ | ⟨g', cap', cur, hv, hg, hh, hnc, hcm, hcs, ht⟩⟩ := h
  · cases h2
  · injection hv with e1 e2 e3
    injection e1 with e1
    injection e1 with e1
    subst e1 e3
    have hl : l.length = m := by rw [ptcells_len, List.length_append] at h1; simp at h1; omega
    refine ⟨by rw [ptcells_len, hl], .inr ⟨g, cap, cur, rfl, hg, hh, by omega, hcm, hcs, ?_⟩⟩
    have e : (cur.toList.take ((m + 1) * 2)).take (m * 2) = cur.toList.take (m * 2) := by rw [List.take_take]; congr 1; omega
    rw [← e, ht, ptcells_snoc, List.take_left' (by rw [ptcells_len, hl])]
end Pg
namespace Go.Proofs.YtmliljdbpkikpaaGreatDoor
open Go.RowKit Pg

theorem own_form {w : World} {base m : Nat} {t : TypeId} {v : Value} {n : Nat} {xs : List Value} (h : w.ownsRow base t m v n xs) : ∃ A k c, v = .slice A k c := by
  obtain ⟨_, ⟨rfl, rfl⟩ | ⟨g, cap, cur, rfl, _⟩⟩ := h
  · exact ⟨none, 0, 0, rfl⟩
  · exact ⟨_, _, _, rfl⟩
theorem own_len {w : World} {base m : Nat} {t : TypeId} {A : Option Addr} {k c n : Nat} {xs : List Value} (h : w.ownsRow base t m (.slice A k c) n xs) : k = n := by
  obtain ⟨_, ⟨h1, rfl⟩ | ⟨g, cap, cur, h1, _⟩⟩ := h
  · injection h1
  · injection h1
theorem own_some {w : World} {base m : Nat} {t : TypeId} {A : Option Addr} {k c n : Nat} {xs : List Value} (h : w.ownsRow base t m (.slice A k c) n xs) (hn : 0 < n) : ∃ g, A = some ⟨g, 0, none⟩ := by
  obtain ⟨_, ⟨_, rfl⟩ | ⟨g, cap, cur, h1, _⟩⟩ := h
  · omega
  · injection h1 with h1
    exact ⟨g, h1⟩
theorem own_cap {w : World} {base m : Nat} {t : TypeId} {g : Nat} {k c n : Nat} {xs : List Value} (h : w.ownsRow base t m (.slice (some ⟨g, 0, none⟩) k c) n xs) : n ≤ c := by
  obtain ⟨_, ⟨h1, _⟩ | ⟨g, cap, cur, h1, _, _, h2, _⟩⟩ := h
  · cases h1
  · injection h1 with _ _ h3
    omega
theorem two_atP {w : World} {x y : Value} {t : TypeId} : ∀ (j : Nat) (v : Value), [x, y][j]? = some v → (w.alloc (.cells #[x, y] t)).cell? ((⟨w.heap.size, 0, none⟩ : Addr).add j) = some v := by
  intro j v hj
  match j, hj with
  | 0, hj => simp at hj; subst hj; simp [Addr.add]
  | 1, hj => simp at hj; subst hj; simp [Addr.add]
theorem two_oneP {x y : Int} : ∀ v ∈ [Value.int .i64 x, .int .i64 y], v.oneCell' = true := by
  intro v hv
  simp at hv
  rcases hv with rfl | rfl <;> rfl

set_option maxHeartbeats 4000000 in
set_option maxRecDepth 20000 in
theorem chain_any (B n c : Nat) (A : Option Addr) (l : List Pt) (w : World) (hl : PtsAt w B A n l) (hB : B ≤ w.heap.size) (hn2 : n ≤ 1000000) :
    Calls Tryz.prog 55 #[.slice A n c] w fun e w' => ∃ v, e = .returned v ∧ w'.ownsRow w.heap.size 35 2 v (chainR l).length (ptcells (chainS l)) ∧ Below w.heap.size w w' := by
  obtain ⟨i0, hi, iz0, iz1, iz2⟩ := info_parts Tryz.infoPtH
  have HL := Lib.hid hl
  clear hl
  go_enter Tryz.func55, Tryz.ntmps55
  go_wp2
  go_loopw [2, 7] (fun vo vi wr => ∃ k : Nat, k ≤ n ∧ vi = .int .i64 k ∧ wr.ownsRow w.heap.size 35 2 vo (chainR (l.take k)).length (ptcells (chainS (l.take k))) ∧ Below w.heap.size w wr) (fun _ vi _ => n - (intOf vi).toNat)
  case atStart => exact ⟨0, by omega, rfl, World.ownsRow_nil _ _ _ _, Below.refl _ _⟩
  case round =>
    obtain ⟨k, hk, rfl, hown, hb⟩ := hrel
    by_cases hlt : k < n
    · obtain ⟨b, off, rfl, hab, a0, a1⟩ := (HL.out.below (hb.mono hB)).at_ hlt
      have hkl : l[k]? = some (pt l k) := pt_of (by rw [HL.out.1]; exact hlt)
      have hsn : l.take (k + 1) = l.take k ++ [pt l k] := by rw [List.take_add_one, hkl]; rfl
      have hCR := chainR_snoc (l.take k) (pt l k)
      rw [← hsn] at hCR
      have hlen0 : (chainR (l.take k)).length ≤ k := Nat.le_trans (chainR_len _) (by simp; omega)
      have hCS : chainS (l.take (k + 1)) = (popR (pt l k) (chainR (l.take k))).reverse ++ [pt l k] := by unfold chainS; rw [hCR, List.reverse_cons]
      have hrev : chainS (l.take k) = (chainR (l.take k)).reverse := rfl
      rw [hrev] at hown
      generalize chainR (l.take k) = R0 at *
      obtain ⟨p, hp⟩ : ∃ p, pt l k = p := ⟨_, rfl⟩
      rw [hp] at a0 a1 hCR hCS
      have HCR := Lib.hid hCR
      have HCS := Lib.hid hCS
      clear hCR hCS hsn hkl hp hrev
      obtain ⟨px, py⟩ := p
      simp only at a0 a1
      have hbw : b < wr.heap.size := by have := hb.size; omega
      have hk0 : (k : Int) < (n : Int) := by omega
      go_wp2
      obtain ⟨G, hG⟩ : ∃ G, wr.heap.size = G := ⟨_, rfl⟩
      rw [hG]
      go_loopw [2] (fun vo w4 => ∃ rs : List Pt, rs.length ≤ k ∧ popR ⟨px, py⟩ rs = popR ⟨px, py⟩ R0 ∧ w4.ownsRow w.heap.size 35 2 vo rs.length (ptcells rs.reverse) ∧ Blk w4 G 35 #[.int .i64 px, .int .i64 py] ∧ Below w.heap.size w w4) (fun vo _ => lenV vo)
      case atStart => exact ⟨R0, hlen0, rfl, hown.alloc _, by rw [← hG]; exact (by repeat (first | with_reducible assumption | with_reducible exact Blk.new (by simp) rfl | with_reducible refine Blk.alloc ?_ _ | with_reducible refine Blk.drew ?_ | with_reducible refine Blk.far ?_ (by first | (simp; done) | (simp; omega)) _ | with_reducible refine Blk.tr ?_ (by with_reducible assumption))), (by repeat (first | with_reducible exact Below.refl _ _ | with_reducible assumption | with_reducible refine al ?_ _ | with_reducible refine Below.drew ?_ | with_reducible refine Below.setCell ?_ (by first | (simp; done) | (simp; omega)) _ | with_reducible refine tr ?_ (by with_reducible assumption)))⟩
      case round =>
        have hGw : w.heap.size ≤ G := by have := hb.size; omega
        clear hown hb a0 a1 hbw
        obtain ⟨rs, hrl, hpop, hown, hGB, hb⟩ := hrel
        obtain ⟨A0, n0, c0, rfl⟩ := own_form hown
        obtain ⟨N, hN⟩ : ∃ N, rs.length = N := ⟨_, rfl⟩
        rw [hN] at hown hrl
        obtain rfl : N = n0 := (own_len hown).symm
        have HN := Lib.hid hN
        by_cases hsh : N ≤ 1
        · have HPP : Hid (rs = popR ⟨px, py⟩ R0) := by
            unfold Hid
            rw [← hpop]
            rw [← hN] at hsh
            match rs, hsh with
            | [], _ => rfl
            | [a], _ => rfl
            | a :: b :: r, h => simp at h
          clear hpop hN
          rcases (show N = 0 ∨ N = 1 by omega) with rfl | rfl
          · go_wp2_with fail
            refine wp_region_belowI (by kernel_rfl) (by kernel_rfl) (fun _ _ d _ _ h => by cases d <;> exact h) ?_
            simp only [List.map_cons, List.map_nil, List.getD_cons_zero, List.getD_cons_succ, bare, gslot, List.getElem?_cons_zero, List.getElem?_cons_succ, Option.bind_some]
            repeat' ((try simp only [Act.put, List.setIfInBounds_toArray, List.set_cons_zero, List.set_cons_succ]); first | (refine lexL_on ?_ ?_; focus (simp only [List.getElem?_toArray, List.getElem?_cons_succ, List.getElem?_cons_zero, Bool.not_true, Bool.not_false]; done)) | (refine lexL_off ?_ ?_ ?_; (focus (simp only [List.getElem?_toArray, List.getElem?_cons_succ, List.getElem?_cons_zero, Bool.not_true, Bool.not_false]; done)); (focus (exact (by repeat (first | with_reducible exact Below.refl _ _ | with_reducible assumption | with_reducible refine al ?_ _ | with_reducible refine Below.drew ?_ | with_reducible refine Below.setCell ?_ (by first | (simp; done) | (simp; omega)) _ | with_reducible refine tr ?_ (by with_reducible assumption)))))) | (refine lexL_splitS (X := ?_) ?_ ?_ (fun hg => ?_) (fun hg => ?_); rotate_left; (focus (simp only [List.getElem?_toArray, List.getElem?_cons_succ, List.getElem?_cons_zero]; with_reducible rfl)); (focus (exact (by repeat (first | with_reducible exact Below.refl _ _ | with_reducible assumption | with_reducible refine al ?_ _ | with_reducible refine Below.drew ?_ | with_reducible refine Below.setCell ?_ (by first | (simp; done) | (simp; omega)) _ | with_reducible refine tr ?_ (by with_reducible assumption))))); all_goals (try simp only [Bool.not_true, Bool.not_false] at hg)) | (refine lexL_quiet (v := ?_) wantB_none rfl ?_ ?_; rotate_left; focus (intro wq hq; obtain ⟨hcq, hfq⟩ := bcell hq; go_simp; try with_reducible rfl)) | (refine lexL_loud wantB_none rfl (fun K hK => ?_); go_simp; ((first |  fail | skip) <;> (refine hK.out _ _ (by repeat (first | with_reducible exact Below.refl _ _ | with_reducible assumption | with_reducible refine al ?_ _ | with_reducible refine Below.drew ?_ | with_reducible refine Below.setCell ?_ (by first | (simp; done) | (simp; omega)) _ | with_reducible refine tr ?_ (by with_reducible assumption))) ?_; clear hK K))))
            (all_goals try simp only [Act.put, List.setIfInBounds_toArray, List.set_cons_zero, List.set_cons_succ]); all_goals (refine lexL_nil ?_)
            refine PgG.keep_world (R := fun w5 => w5.ownsRow w.heap.size 35 2 (.slice A0 0 c0) 0 (ptcells rs.reverse) ∧ Blk w5 G 35 #[.int .i64 px, .int .i64 py] ∧ Below w.heap.size w w5) ⟨hown, (by repeat (first | with_reducible assumption | with_reducible exact Blk.new (by simp) rfl | with_reducible refine Blk.alloc ?_ _ | with_reducible refine Blk.drew ?_ | with_reducible refine Blk.far ?_ (by first | (simp; done) | (simp; omega)) _ | with_reducible refine Blk.tr ?_ (by with_reducible assumption))), (by repeat (first | with_reducible exact Below.refl _ _ | with_reducible assumption | with_reducible refine al ?_ _ | with_reducible refine Below.drew ?_ | with_reducible refine Below.setCell ?_ (by first | (simp; done) | (simp; omega)) _ | with_reducible refine tr ?_ (by with_reducible assumption)))⟩ ?_
            clear hown hGB hb
            rintro w5 ⟨hown, hGB, hb⟩
            have g0 := hGB.cell 0
            have g1 := hGB.cell 1
            simp only [List.getElem?_toArray, List.getElem?_cons_zero, List.getElem?_cons_succ] at g0 g1
            go_wp2_with (at_builtin; go_must (refine wpList_append_own _ rfl _ _ 22 rfl w.heap.size 35 i0 (.agg #[.int .i64 0, .int .i64 0]) 2 16 Tryz.underlying22 hi iz0 iz1 iz2 rfl (by decide) _ _ _ rfl (hown.alloc _) ⟨w5.heap.size, 0, none⟩ 1 1 [.int .i64 px, .int .i64 py] rfl rfl two_atP two_oneP ?qc4 ?qc5 ?qc6 ?_))
            case qc4 => unfold maxLen; omega
            case qc5 => omega
            case qc6 => have := hb.size; simp; omega
            intro v' w7 hown' hgrow _
            have hnx : Below w.heap.size w w7 := (hb.alloc (by have := hb.size; omega) _).grown hgrow (by have := hb.size; simp; omega) (fun j e => (hown.lt j e).1)
            go_wp2
            go_roundw
            case rel => exact ⟨k + 1, by omega, by go_num, by rw [HCR.out, HCS.out, ← HPP.out, ptcells_snoc, List.length_cons, HN.out]; exact hown', hnx⟩
            case measure => simp [intOf]; omega
          · go_wp2_with fail
            refine wp_region_belowI (by kernel_rfl) (by kernel_rfl) (fun _ _ d _ _ h => by cases d <;> exact h) ?_
            simp only [List.map_cons, List.map_nil, List.getD_cons_zero, List.getD_cons_succ, bare, gslot, List.getElem?_cons_zero, List.getElem?_cons_succ, Option.bind_some]
            repeat' ((try simp only [Act.put, List.setIfInBounds_toArray, List.set_cons_zero, List.set_cons_succ]); first | (refine lexL_on ?_ ?_; focus (simp only [List.getElem?_toArray, List.getElem?_cons_succ, List.getElem?_cons_zero, Bool.not_true, Bool.not_false]; done)) | (refine lexL_off ?_ ?_ ?_; (focus (simp only [List.getElem?_toArray, List.getElem?_cons_succ, List.getElem?_cons_zero, Bool.not_true, Bool.not_false]; done)); (focus (exact (by repeat (first | with_reducible exact Below.refl _ _ | with_reducible assumption | with_reducible refine al ?_ _ | with_reducible refine Below.drew ?_ | with_reducible refine Below.setCell ?_ (by first | (simp; done) | (simp; omega)) _ | with_reducible refine tr ?_ (by with_reducible assumption)))))) | (refine lexL_splitS (X := ?_) ?_ ?_ (fun hg => ?_) (fun hg => ?_); rotate_left; (focus (simp only [List.getElem?_toArray, List.getElem?_cons_succ, List.getElem?_cons_zero]; with_reducible rfl)); (focus (exact (by repeat (first | with_reducible exact Below.refl _ _ | with_reducible assumption | with_reducible refine al ?_ _ | with_reducible refine Below.drew ?_ | with_reducible refine Below.setCell ?_ (by first | (simp; done) | (simp; omega)) _ | with_reducible refine tr ?_ (by with_reducible assumption))))); all_goals (try simp only [Bool.not_true, Bool.not_false] at hg)) | (refine lexL_quiet (v := ?_) wantB_none rfl ?_ ?_; rotate_left; focus (intro wq hq; obtain ⟨hcq, hfq⟩ := bcell hq; go_simp; try with_reducible rfl)) | (refine lexL_loud wantB_none rfl (fun K hK => ?_); go_simp; ((first |  fail | skip) <;> (refine hK.out _ _ (by repeat (first | with_reducible exact Below.refl _ _ | with_reducible assumption | with_reducible refine al ?_ _ | with_reducible refine Below.drew ?_ | with_reducible refine Below.setCell ?_ (by first | (simp; done) | (simp; omega)) _ | with_reducible refine tr ?_ (by with_reducible assumption))) ?_; clear hK K))))
            (all_goals try simp only [Act.put, List.setIfInBounds_toArray, List.set_cons_zero, List.set_cons_succ]); all_goals (refine lexL_nil ?_)
            refine PgG.keep_world (R := fun w5 => w5.ownsRow w.heap.size 35 2 (.slice A0 1 c0) 1 (ptcells rs.reverse) ∧ Blk w5 G 35 #[.int .i64 px, .int .i64 py] ∧ Below w.heap.size w w5) ⟨hown, (by repeat (first | with_reducible assumption | with_reducible exact Blk.new (by simp) rfl | with_reducible refine Blk.alloc ?_ _ | with_reducible refine Blk.drew ?_ | with_reducible refine Blk.far ?_ (by first | (simp; done) | (simp; omega)) _ | with_reducible refine Blk.tr ?_ (by with_reducible assumption))), (by repeat (first | with_reducible exact Below.refl _ _ | with_reducible assumption | with_reducible refine al ?_ _ | with_reducible refine Below.drew ?_ | with_reducible refine Below.setCell ?_ (by first | (simp; done) | (simp; omega)) _ | with_reducible refine tr ?_ (by with_reducible assumption)))⟩ ?_
            clear hown hGB hb
            rintro w5 ⟨hown, hGB, hb⟩
            have g0 := hGB.cell 0
            have g1 := hGB.cell 1
            simp only [List.getElem?_toArray, List.getElem?_cons_zero, List.getElem?_cons_succ] at g0 g1
            go_wp2_with (at_builtin; go_must (refine wpList_append_own _ rfl _ _ 22 rfl w.heap.size 35 i0 (.agg #[.int .i64 0, .int .i64 0]) 2 16 Tryz.underlying22 hi iz0 iz1 iz2 rfl (by decide) _ _ _ rfl (hown.alloc _) ⟨w5.heap.size, 0, none⟩ 1 1 [.int .i64 px, .int .i64 py] rfl rfl two_atP two_oneP ?qc4 ?qc5 ?qc6 ?_))
            case qc4 => unfold maxLen; omega
            case qc5 => omega
            case qc6 => have := hb.size; simp; omega
            intro v' w7 hown' hgrow _
            have hnx : Below w.heap.size w w7 := (hb.alloc (by have := hb.size; omega) _).grown hgrow (by have := hb.size; simp; omega) (fun j e => (hown.lt j e).1)
            go_wp2
            go_roundw
            case rel => exact ⟨k + 1, by omega, by go_num, by rw [HCR.out, HCS.out, ← HPP.out, ptcells_snoc, List.length_cons, HN.out]; exact hown', hnx⟩
            case measure => simp [intOf]; omega
        · obtain ⟨p1, p2, r, rfl⟩ : ∃ p1 p2 r, rs = p1 :: p2 :: r := by
            match rs, hN with
            | [], h => simp at h; omega
            | [a], h => simp at h; omega
            | a :: b :: r, _ => exact ⟨a, b, r, rfl⟩
          obtain ⟨m, hm⟩ : ∃ m, r.length = m := ⟨_, rfl⟩
          have hNm : N = m + 2 := by simp at hN; omega
          have hrr : (p1 :: p2 :: r).reverse = (r.reverse ++ [p2]) ++ [p1] := by simp
          have hpopd : w.heap.size ≤ w.heap.size := Nat.le_refl _
          have hown2 := hown
          rw [hrr, hNm] at hown2
          obtain ⟨g, rfl⟩ := own_some hown2 (by omega)
          have hnew := own_pop hown2
          obtain ⟨c0', hc1⟩ : ∃ x, x = m * 2 := ⟨_, rfl⟩
          have hat : ∀ (k : Nat) (q : Pt), (p1 :: p2 :: r).reverse[k]? = some q → wr.cell? ⟨g, k * 2, none⟩ = some (.int .i64 q.x) ∧ wr.cell? ⟨g, k * 2 + 1, none⟩ = some (.int .i64 q.y) := fun k q hq => by
            have hk : k < (p1 :: p2 :: r).reverse.length := by
              rcases Nat.lt_or_ge k (p1 :: p2 :: r).reverse.length with h | h
              · exact h
              · rw [List.getElem?_eq_none h] at hq; cases hq
            rw [List.length_reverse, hN] at hk
            rw [hown.cellAt (k * 2) (by omega), hown.cellAt (k * 2 + 1) (by omega)]
            exact ptcells_at _ k q hq
          have hlr : r.reverse.length = m := by simp [hm]
          have e2 : (p1 :: p2 :: r).reverse[m]? = some p2 := by rw [hrr, List.getElem?_append_left (by simp; omega), List.getElem?_append_right (by omega), hlr]; simp
          have e1 : (p1 :: p2 :: r).reverse[m + 1]? = some p1 := by rw [hrr, List.getElem?_append_right (by simp; omega)]; simp [hm]
          obtain ⟨c2, c3⟩ := hat m p2 e2
          obtain ⟨c4, c5⟩ := hat (m + 1) p1 e1
          have lgg := (hown.lt g rfl).2
          have g0 := hGB.cell 0
          have g1 := hGB.cell 1
          simp only [List.getElem?_toArray, List.getElem?_cons_zero, List.getElem?_cons_succ] at g0 g1
          have lG := hGB.lt
          obtain ⟨m1, hm1⟩ : ∃ m1, m + 1 = m1 := ⟨_, rfl⟩
          rw [hm1] at c4 c5
          have hcap := own_cap hown2
          have z1 : (1 : Int) < (N : Int) := by omega
          have z2 : 1 < N := by omega
          have z3 : (N : Int) - 2 = (m : Int) := by omega
          have z4 : (N : Int) - 1 = (m1 : Int) := by omega
          have z5 : IntKind.i64.wrap (m : Int) = m := by simp [IntKind.wrap, IntKind.bits, IntKind.signed]; omega
          have z6 : IntKind.i64.wrap (m1 : Int) = m1 := by simp [IntKind.wrap, IntKind.bits, IntKind.signed]; omega
          have z7 : (m : Int) < (N : Int) := by omega
          have z8 : (m1 : Int) < (N : Int) := by omega
          have z9 : (m1 : Int) ≤ (c0 : Int) := by omega
          have z10 : ¬ c0 = 0 := by omega
          obtain ⟨o, ho⟩ : ∃ o, orient p2 p1 ⟨px, py⟩ = o := ⟨_, rfl⟩
          have HO : Hid (∀ w, Calls Tryz.prog 84 #[ptV p2.x p2.y, ptV p1.x p1.y, ptV px py] w (Ret w (.int .i64 o))) := fun w => by rw [← ho]; exact orient_any _ _ _ _ _ _ w
          have HOWN := Lib.hid hown
          have HNEW := Lib.hid hnew
          have HPO := Lib.hid hpop
          have HO2 := Lib.hid ho
          have HM1 := Lib.hid hm1
          have HNM := Lib.hid hNm
          have HHM := Lib.hid hm
          clear hown hown2 hnew hpop ho hm1 hNm hat e1 e2 hrr hN hm hlr hsh hpopd hc1
          by_cases hle : o ≤ 0
          · go_wp2_with fail
            refine wp_region_belowI (by kernel_rfl) (by kernel_rfl) (fun _ _ d _ _ h => by cases d <;> exact h) ?_
            simp only [List.map_cons, List.map_nil, List.getD_cons_zero, List.getD_cons_succ, bare, gslot, List.getElem?_cons_zero, List.getElem?_cons_succ, Option.bind_some]
            repeat' ((try simp only [Act.put, List.setIfInBounds_toArray, List.set_cons_zero, List.set_cons_succ]); first | (refine lexL_on ?_ ?_; focus (simp only [List.getElem?_toArray, List.getElem?_cons_succ, List.getElem?_cons_zero, Bool.not_true, Bool.not_false]; done)) | (refine lexL_off ?_ ?_ ?_; (focus (simp only [List.getElem?_toArray, List.getElem?_cons_succ, List.getElem?_cons_zero, Bool.not_true, Bool.not_false]; done)); (focus (exact (by repeat (first | with_reducible exact Below.refl _ _ | with_reducible assumption | with_reducible refine al ?_ _ | with_reducible refine Below.drew ?_ | with_reducible refine Below.setCell ?_ (by first | (simp; done) | (simp; omega)) _ | with_reducible refine tr ?_ (by with_reducible assumption)))))) | (refine lexL_splitS (X := ?_) ?_ ?_ (fun hg => ?_) (fun hg => ?_); rotate_left; (focus (simp only [List.getElem?_toArray, List.getElem?_cons_succ, List.getElem?_cons_zero]; with_reducible rfl)); (focus (exact (by repeat (first | with_reducible exact Below.refl _ _ | with_reducible assumption | with_reducible refine al ?_ _ | with_reducible refine Below.drew ?_ | with_reducible refine Below.setCell ?_ (by first | (simp; done) | (simp; omega)) _ | with_reducible refine tr ?_ (by with_reducible assumption))))); all_goals (try simp only [Bool.not_true, Bool.not_false] at hg)) | (refine lexL_quiet (v := ?_) wantB_none rfl ?_ ?_; rotate_left; focus (intro wq hq; obtain ⟨hcq, hfq⟩ := bcell hq; go_simp; try with_reducible rfl)) | (refine lexL_loud wantB_none rfl (fun K hK => ?_); go_simp; ((first |  (go_at_call 84; (with_reducible refine (HO.out _).mono ?_); rintro e w5 ⟨rfl, hb5⟩; obtain ⟨hc5, hf5⟩ := bcell hb5; have hz5 := hb5.size; (try simp at hz5); have hb5' : Below wr.heap.size wr w5 := (by repeat (first | with_reducible exact Below.refl _ _ | with_reducible assumption | with_reducible refine al ?_ _ | with_reducible refine Below.drew ?_ | with_reducible refine Below.setCell ?_ (by first | (simp; done) | (simp; omega)) _ | with_reducible refine tr ?_ (by with_reducible assumption)))) | skip) <;> (refine hK.out _ _ (by repeat (first | with_reducible exact Below.refl _ _ | with_reducible assumption | with_reducible refine al ?_ _ | with_reducible refine Below.drew ?_ | with_reducible refine Below.setCell ?_ (by first | (simp; done) | (simp; omega)) _ | with_reducible refine tr ?_ (by with_reducible assumption))) ?_; clear hK K))))
            (all_goals try simp only [Act.put, List.setIfInBounds_toArray, List.set_cons_zero, List.set_cons_succ]); all_goals (refine lexL_nil ?_)
            have hn5 := own_belowP HNEW.out hb5'
            have el : m + 1 = m1 := HM1.out
            rw [el] at hn5
            refine PgG.keep_world (R := fun w6 => w6.ownsRow w.heap.size 35 2 (.slice (some ⟨g, 0, none⟩) m1 c0) m1 (ptcells (r.reverse ++ [p2])) ∧ Blk w6 G 35 #[.int .i64 px, .int .i64 py] ∧ Below w.heap.size w w6) ⟨hn5, (by repeat (first | with_reducible assumption | with_reducible exact Blk.new (by simp) rfl | with_reducible refine Blk.alloc ?_ _ | with_reducible refine Blk.drew ?_ | with_reducible refine Blk.far ?_ (by first | (simp; done) | (simp; omega)) _ | with_reducible refine Blk.tr ?_ (by with_reducible assumption))), (by repeat (first | with_reducible exact Below.refl _ _ | with_reducible assumption | with_reducible refine al ?_ _ | with_reducible refine Below.drew ?_ | with_reducible refine Below.setCell ?_ (by first | (simp; done) | (simp; omega)) _ | with_reducible refine tr ?_ (by with_reducible assumption)))⟩ ?_
            clear hb5 hb5' hc5 hf5 hz5 hn5 hGB hb g0 g1 lG c2 c3 c4 c5 lgg HO
            rintro w6 ⟨hown, hGB, hb⟩
            go_wp2
            go_roundw
            case rel =>
              have hlen : (p2 :: r).length = m1 := by simp [HHM.out, el]
              refine ⟨p2 :: r, by rw [hlen]; have := HNM.out; omega, ?_, ?_, hGB, hb⟩
              · rw [← HPO.out]
                exact (popR_pop (by rw [HO2.out]; exact hle)).symm
              · rw [hlen, List.reverse_cons]
                exact hown
            case measure => simp [lenV]; have := HNM.out; have := HM1.out; omega
          · go_wp2_with fail
            refine wp_region_belowI (by kernel_rfl) (by kernel_rfl) (fun _ _ d _ _ h => by cases d <;> exact h) ?_
            simp only [List.map_cons, List.map_nil, List.getD_cons_zero, List.getD_cons_succ, bare, gslot, List.getElem?_cons_zero, List.getElem?_cons_succ, Option.bind_some]
            repeat' ((try simp only [Act.put, List.setIfInBounds_toArray, List.set_cons_zero, List.set_cons_succ]); first | (refine lexL_on ?_ ?_; focus (simp only [List.getElem?_toArray, List.getElem?_cons_succ, List.getElem?_cons_zero, Bool.not_true, Bool.not_false]; done)) | (refine lexL_off ?_ ?_ ?_; (focus (simp only [List.getElem?_toArray, List.getElem?_cons_succ, List.getElem?_cons_zero, Bool.not_true, Bool.not_false]; done)); (focus (exact (by repeat (first | with_reducible exact Below.refl _ _ | with_reducible assumption | with_reducible refine al ?_ _ | with_reducible refine Below.drew ?_ | with_reducible refine Below.setCell ?_ (by first | (simp; done) | (simp; omega)) _ | with_reducible refine tr ?_ (by with_reducible assumption)))))) | (refine lexL_splitS (X := ?_) ?_ ?_ (fun hg => ?_) (fun hg => ?_); rotate_left; (focus (simp only [List.getElem?_toArray, List.getElem?_cons_succ, List.getElem?_cons_zero]; with_reducible rfl)); (focus (exact (by repeat (first | with_reducible exact Below.refl _ _ | with_reducible assumption | with_reducible refine al ?_ _ | with_reducible refine Below.drew ?_ | with_reducible refine Below.setCell ?_ (by first | (simp; done) | (simp; omega)) _ | with_reducible refine tr ?_ (by with_reducible assumption))))); all_goals (try simp only [Bool.not_true, Bool.not_false] at hg)) | (refine lexL_quiet (v := ?_) wantB_none rfl ?_ ?_; rotate_left; focus (intro wq hq; obtain ⟨hcq, hfq⟩ := bcell hq; go_simp; try with_reducible rfl)) | (refine lexL_loud wantB_none rfl (fun K hK => ?_); go_simp; ((first |  (go_at_call 84; (with_reducible refine (HO.out _).mono ?_); rintro e w5 ⟨rfl, hb5⟩; obtain ⟨hc5, hf5⟩ := bcell hb5; have hz5 := hb5.size; (try simp at hz5); have hb5' : Below wr.heap.size wr w5 := (by repeat (first | with_reducible exact Below.refl _ _ | with_reducible assumption | with_reducible refine al ?_ _ | with_reducible refine Below.drew ?_ | with_reducible refine Below.setCell ?_ (by first | (simp; done) | (simp; omega)) _ | with_reducible refine tr ?_ (by with_reducible assumption)))) | skip) <;> (refine hK.out _ _ (by repeat (first | with_reducible exact Below.refl _ _ | with_reducible assumption | with_reducible refine al ?_ _ | with_reducible refine Below.drew ?_ | with_reducible refine Below.setCell ?_ (by first | (simp; done) | (simp; omega)) _ | with_reducible refine tr ?_ (by with_reducible assumption))) ?_; clear hK K))))
            (all_goals try simp only [Act.put, List.setIfInBounds_toArray, List.set_cons_zero, List.set_cons_succ]); all_goals (refine lexL_nil ?_)
            have hn5 := own_belowP HOWN.out hb5'
            have HPP : Hid (p1 :: p2 :: r = popR ⟨px, py⟩ R0) := by
              unfold Hid
              rw [← HPO.out]
              exact (popR_stay (by rw [HO2.out]; omega)).symm
            have HN : Hid ((p1 :: p2 :: r).length = N) := by unfold Hid; rw [HNM.out, ← HHM.out]; rfl
            generalize p1 :: p2 :: r = rs at *
            refine PgG.keep_world (R := fun w5 => w5.ownsRow w.heap.size 35 2 (.slice (some ⟨g, 0, none⟩) N c0) N (ptcells rs.reverse) ∧ Blk w5 G 35 #[.int .i64 px, .int .i64 py] ∧ Below w.heap.size w w5) ⟨hn5, (by repeat (first | with_reducible assumption | with_reducible exact Blk.new (by simp) rfl | with_reducible refine Blk.alloc ?_ _ | with_reducible refine Blk.drew ?_ | with_reducible refine Blk.far ?_ (by first | (simp; done) | (simp; omega)) _ | with_reducible refine Blk.tr ?_ (by with_reducible assumption))), (by repeat (first | with_reducible exact Below.refl _ _ | with_reducible assumption | with_reducible refine al ?_ _ | with_reducible refine Below.drew ?_ | with_reducible refine Below.setCell ?_ (by first | (simp; done) | (simp; omega)) _ | with_reducible refine tr ?_ (by with_reducible assumption)))⟩ ?_
            clear hGB hb hb5 hb5' hc5 hf5 hz5 hn5 g0 g1 lG c2 c3 c4 c5 lgg HO HOWN HNEW
            rintro w5 ⟨hown, hGB, hb⟩
            have g0 := hGB.cell 0
            have g1 := hGB.cell 1
            simp only [List.getElem?_toArray, List.getElem?_cons_zero, List.getElem?_cons_succ] at g0 g1
            go_wp2_with (at_builtin; go_must (refine wpList_append_own _ rfl _ _ 22 rfl w.heap.size 35 i0 (.agg #[.int .i64 0, .int .i64 0]) 2 16 Tryz.underlying22 hi iz0 iz1 iz2 rfl (by decide) _ _ _ rfl (hown.alloc _) ⟨w5.heap.size, 0, none⟩ 1 1 [.int .i64 px, .int .i64 py] rfl rfl two_atP two_oneP ?qc4 ?qc5 ?qc6 ?_))
            case qc4 => unfold maxLen; omega
            case qc5 => omega
            case qc6 => have := hb.size; simp; omega
            intro v' w7 hown' hgrow _
            have hnx : Below w.heap.size w w7 := (hb.alloc (by have := hb.size; omega) _).grown hgrow (by have := hb.size; simp; omega) (fun j e => (hown.lt j e).1)
            go_wp2
            go_roundw
            case rel => exact ⟨k + 1, by omega, by go_num, by rw [HCR.out, HCS.out, ← HPP.out, ptcells_snoc, List.length_cons, HN.out]; exact hown', hnx⟩
            case measure => simp [intOf]; omega
    · obtain rfl : n = k := by omega
      have et : l.take n = l := List.take_of_length_le (by rw [HL.out.1]; exact Nat.le_refl _)
      rw [et] at hown
      clear hlt hk
      go_wp2
      go_ret
      exact ⟨_, rfl, hown, hb⟩
end Go.Proofs.YtmliljdbpkikpaaGreatDoor
set_option linter.unusedSimpArgs false
set_option linter.unusedVariables false
namespace Pg
open Go Go.RowKit
/-- an own row behind a store into it -/
theorem own_set {w : World} {base g n cap : Nat} {t : TypeId} {xs : List Value} (h : w.ownsRow base t 2 (.slice (some ⟨g, 0, none⟩) n cap) n xs) (i : Nat) (u : Value) : (w.setCell ⟨g, i, none⟩ u).ownsRow base t 2 (.slice (some ⟨g, 0, none⟩) n cap) n (xs.set i u) := by
  obtain ⟨h1, ⟨h2, _⟩ | ⟨g', cap', cur, hv, hg, hh, hnc, hcm, hcs, ht⟩⟩ := h
  · cases h2
  · injection hv with e1 e2 e3
    injection e1 with e1
    injection e1 with e1
    subst e1 e3
    refine ⟨by simpa using h1, .inr ⟨g, cap, cur.setIfInBounds i u, rfl, hg, (Blk.set_ (show Blk w g t cur from hh) i u), hnc, hcm, by simpa using hcs, ?_⟩⟩
    rw [← ht, Array.toList_setIfInBounds, List.take_set]
theorem own_cut {w : World} {base g n k cap : Nat} {t : TypeId} {l : List Pt} (h : w.ownsRow base t 2 (.slice (some ⟨g, 0, none⟩) n cap) n (ptcells l)) (hk : k ≤ n) : w.ownsRow base t 2 (.slice (some ⟨g, 0, none⟩) k cap) k (ptcells (l.take k)) := by
  obtain ⟨h1, ⟨h2, _⟩ | ⟨g', cap', cur, hv, hg, hh, hnc, hcm, hcs, ht⟩⟩ := h
  · cases h2
  · injection hv with e1 e2 e3
    injection e1 with e1
    injection e1 with e1
    subst e1 e3
    have hl : l.length = n := by rw [ptcells_len] at h1; omega
    refine ⟨by rw [ptcells_len, List.length_take, hl]; congr 1; omega, .inr ⟨g, cap, cur, rfl, hg, hh, by omega, hcm, hcs, ?_⟩⟩
    have e : (cur.toList.take (n * 2)).take (k * 2) = cur.toList.take (k * 2) := by rw [List.take_take]; congr 1; omega
    have e2 : ptcells l = ptcells (l.take k) ++ ptcells (l.drop k) := by
      conv => lhs; rw [← List.take_append_drop k l]
      unfold ptcells
      rw [List.flatMap_append]
    rw [← e, ht, e2, List.take_left' (by rw [ptcells_len, List.length_take, hl]; congr 1; omega)]
theorem own_high {w : World} {base g n cap : Nat} {t : TypeId} {xs : List Value} (h : w.ownsRow base t 2 (.slice (some ⟨g, 0, none⟩) n cap) n xs) : ∀ (vs : List Value) (i : Nat), n * 2 ≤ i → (w.setCells g i vs).ownsRow base t 2 (.slice (some ⟨g, 0, none⟩) n cap) n xs := by
  intro vs
  induction vs generalizing w with
  | nil => intro i hi; exact h
  | cons v r ih =>
    intro i hi
    have h2 := own_set h i v
    have h1 := h.1
    rw [List.set_eq_of_length_le (by omega)] at h2
    exact ih h2 (i + 1) (by omega)
theorem setCells_below {base g : Nat} {a w : World} (h : Below base a w) (hg : base ≤ g) : ∀ (vs : List Value) (i : Nat), Below base a (w.setCells g i vs) := by
  intro vs
  induction vs generalizing w with
  | nil => intro i; exact h
  | cons v r ih =>
    intro i
    exact ih (h.setCell hg v) (i + 1)
theorem ptcells_set (l : List Pt) (k : Nat) (p : Pt) : ((ptcells l).set (k * 2) (.int .i64 p.x)).set (k * 2 + 1) (.int .i64 p.y) = ptcells (l.set k p) := by
  induction l generalizing k with
  | nil => simp [ptcells]
  | cons a r ih =>
    cases k with
    | zero => simp [ptcells, ptcs]
    | succ k =>
      have e : (k + 1) * 2 = k * 2 + 1 + 1 := by omega
      simp only [ptcells, List.flatMap_cons, ptcs, List.cons_append, List.nil_append, List.set_cons_succ, e] at ih ⊢
      rw [ih k]
end Pg
namespace Go.Proofs.YtmliljdbpkikpaaGreatDoor
open Go.RowKit Pg
theorem run_clear_pts (w : World) (ty : TypeId) (b o n c : Nat) (hn : 0 < n) (hc : ∀ j, j < n * 2 → (w.cell? ⟨b, o + j, none⟩).isSome = true) (hf : ∀ j, j < n * 2 → w.frozen? ⟨b, o + j, none⟩ = false) :
    (Builtin.clear_ #[22] ty #[.slice (some ⟨b, o, none⟩) n c]).run Tryz.prog w = .ok (.tuple #[]) (w.setCells b o (List.replicate (n * 2) (.int .i64 0))) := by
  have hzc : (Builtin.zeroCells (Value.agg #[.int .i64 0, .int .i64 0]).cells n).toList = List.replicate (n * 2) (.int .i64 0) := by
    apply List.ext_getElem
    · simp [Builtin.zeroCells, Value.cells]
    · intro i h1 h2
      have hm : i % 2 = 0 ∨ i % 2 = 1 := by omega
      rcases hm with h | h <;> simp [Builtin.zeroCells, Value.cells, h]
  have hst := run_storeCells_cells (P := Tryz.prog) b o (List.replicate (n * 2) (.int .i64 0)) 0 w (by simpa using hc) (by simpa using hf) (by intro v hv'; rw [List.eq_of_mem_replicate hv']; rfl)
  simp only [Nat.add_zero] at hst
  have hv : ∀ w, (zeroValue 35).run Tryz.prog w = .ok (.agg #[.int .i64 0, .int .i64 0]) w := fun w => by kernel_rfl
  obtain ⟨m, rfl⟩ : ∃ m, n = m + 1 := ⟨n - 1, by omega⟩
  simp [Builtin.clear_, run_underlying Tryz.underlying22, hv, hzc, hst]
theorem own_ptat {w : World} {base g n cap : Nat} {t : TypeId} {l : List Pt} (h : w.ownsRow base t 2 (.slice (some ⟨g, 0, none⟩) n cap) n (ptcells l)) {k : Nat} (hk : k < n) :
    w.cell? ⟨g, k * 2, none⟩ = some (.int .i64 (pt l k).x) ∧ w.cell? ⟨g, k * 2 + 1, none⟩ = some (.int .i64 (pt l k).y) ∧ w.frozen? ⟨g, k * 2, none⟩ = false ∧ w.frozen? ⟨g, k * 2 + 1, none⟩ = false := by
  have hl : l.length = n := by have := h.1; rw [ptcells_len] at this; omega
  have h2 := ptcells_at l k (pt l k) (pt_of (by rw [hl]; exact hk))
  obtain ⟨h1, ⟨h3, _⟩ | ⟨g', cap', cur, hv, hg, hh, hnc, hcm, hcs, ht⟩⟩ := id h
  · cases h3
  · injection hv with e1 e2 e3
    injection e1 with e1
    injection e1 with e1
    subst e1
    refine ⟨(h.cellAt (k * 2) (by omega)).trans h2.1, (h.cellAt (k * 2 + 1) (by omega)).trans h2.2, ?_, ?_⟩ <;> exact Blk.frozen (show Blk w g t cur from hh) _

theorem own_frozen {w : World} {base g n cap : Nat} {t : TypeId} {xs : List Value} {m : Nat} (h : w.ownsRow base t m (.slice (some ⟨g, 0, none⟩) n cap) n xs) (i : Nat) : w.frozen? ⟨g, i, none⟩ = false := by
  obtain ⟨h1, ⟨h3, _⟩ | ⟨g', cap', cur, hv, hg, hh, hnc, hcm, hcs, ht⟩⟩ := h
  · cases h3
  · injection hv with e1 e2 e3
    injection e1 with e1
    injection e1 with e1
    subst e1
    exact Blk.frozen (show Blk w g t cur from hh) _

set_option maxHeartbeats 4000000 in
set_option maxRecDepth 20000 in
theorem compactP_any (base pb n cap : Nat) (l : List Pt) (w : World) (hn : 0 < n) (hn2 : n ≤ 1000000) (hl : l.length = n) (h : w.ownsRow base 35 2 (.slice (some ⟨pb, 0, none⟩) n cap) n (ptcells l)) :
    Calls Tryz.prog 54 #[.slice (some ⟨pb, 0, none⟩) n cap] w fun e w' =>
      e = .returned (.slice (some ⟨pb, 0, none⟩) (Lib.compact l).length cap) ∧ w'.ownsRow base 35 2 (.slice (some ⟨pb, 0, none⟩) (Lib.compact l).length cap) (Lib.compact l).length (ptcells (Lib.compact l)) ∧ Below base w w' := by
  have hbp : base ≤ pb ∧ pb < w.heap.size := h.lt pb rfl
  have hcap := own_cap h
  have hkp : ∀ j, j < n → l.toArray[j]! = pt l j := fun j hj => by
    rw [getElem!_pos l.toArray j (by simp; omega)]
    have := pt_of (l := l) (k := j) (by omega)
    rw [List.getElem?_eq_getElem (by omega)] at this
    simpa using this
  have HKP := Lib.hid hkp
  clear hkp
  obtain ⟨C, hC⟩ : ∃ C, Lib.compact l = C := ⟨_, rfl⟩
  rw [hC]
  have HC := Lib.hid hC
  clear hC
  by_cases hn3 : n < 2
  · have h1 : (n : Int) < 2 := by omega
    have ec : Lib.compact l = l := Lib.compact_all l fun j hj => Lib.keeps_lt_one _ j (by omega)
    have ec2 : C = l := HC.out.symm.trans ec
    subst ec2
    rw [hl]
    have H := Lib.hid h
    clear h ec
    go_enter Tryz.func54, Tryz.ntmps54
    go_wp2
    go_ret
    exact ⟨rfl, H.out, Below.refl _ _⟩
  · have h1 : ¬ (n : Int) < 2 := by omega
    have hown := h
    have hbb : Below base w w := Below.refl _ _
    clear h
    go_enter Tryz.func54, Tryz.ntmps54
    go_wp2
    go_loopw [3] (fun vk wr => ∃ k : Nat, 1 ≤ k ∧ k ≤ n ∧ vk = .int .i64 k ∧ (∀ j, j < k → Lib.keeps l.toArray j = true) ∧ wr.ownsRow base 35 2 (.slice (some ⟨pb, 0, none⟩) n cap) n (ptcells l) ∧ Below base w wr) (fun vk _ => n - (intOf vk).toNat)
    case atStart => exact ⟨1, by omega, by omega, rfl, fun j hj => Lib.keeps_lt_one _ j hj, hown, hbb⟩
    case round =>
      clear hown hbb
      obtain ⟨k, hk1, hk, rfl, hall, hown, hb⟩ := hrel
      by_cases hlt : k < n
      · obtain ⟨c0, c1, _, _⟩ := own_ptat hown hlt
        obtain ⟨d0, d1, _, _⟩ := own_ptat hown (show k - 1 < n by omega)
        have lpb := (hown.lt pb rfl).2
        have ek : (k : Int) - 1 = ((k - 1 : Nat) : Int) := by omega
        have e1 := HKP.out k hlt
        have e2 := HKP.out (k - 1) (by omega)
        obtain ⟨k1, hk1'⟩ : ∃ m, k - 1 = m := ⟨_, rfl⟩
        rw [hk1'] at d0 d1 ek e2
        have z1 : (k : Int) < (n : Int) := by omega
        have z2 : (k1 : Int) < (n : Int) := by omega
        have z3 : IntKind.i64.wrap (k1 : Int) = k1 := by simp [IntKind.wrap, IntKind.bits, IntKind.signed]; omega
        have HA := Lib.hid hall
        have HOW := Lib.hid hown
        by_cases he : pt l k = pt l k1
        · have ex : (pt l k1).x = (pt l k).x := by rw [he]
          have ey : (pt l k1).y = (pt l k).y := by rw [he]
          rw [ex] at d0
          rw [ey] at d1
          have hdup : Lib.keeps l.toArray k = false := Lib.keeps_neg (by omega) (by rw [e1, show k - 1 = k1 from hk1', e2, he])
          have HD := Lib.hid hdup
          clear he ex ey hall hown e1 e2 hdup
          obtain ⟨q, hq⟩ : ∃ q, n - k = q := ⟨_, rfl⟩
          obtain ⟨cq, hcq⟩ : ∃ q, cap - k = q := ⟨_, rfl⟩
          have z4 : ¬ cap = k := by omega
          go_wp2_with fail
          refine wp_region_belowI (by kernel_rfl) (by kernel_rfl) (fun _ _ d _ _ h => by cases d <;> exact h) ?_
          simp only [List.map_cons, List.map_nil, List.getD_cons_zero, List.getD_cons_succ, bare, gslot, List.getElem?_cons_zero, List.getElem?_cons_succ, Option.bind_some]
          repeat' ((try simp only [Act.put, List.setIfInBounds_toArray, List.set_cons_zero, List.set_cons_succ]); first | (refine lexL_quiet (v := ?_) wantB_none rfl ?_ ?_; rotate_left; focus (intro wq hq; obtain ⟨hcq, hfq⟩ := bcell hq; go_simp; try with_reducible rfl)) | (refine lexL_loud wantB_none rfl (fun K hK => ?_); go_simp; ((first | fail | skip) <;> (refine hK.out _ _ (by repeat (first | with_reducible exact Below.refl _ _ | with_reducible assumption | with_reducible refine al ?_ _ | with_reducible refine Below.drew ?_ | with_reducible refine Below.setCell ?_ (by first | (simp; done) | (simp; omega)) _ | with_reducible refine tr ?_ (by with_reducible assumption))) ?_; clear hK K))) | (refine lexL_on ?_ ?_; focus (simp only [List.getElem?_toArray, List.getElem?_cons_succ, List.getElem?_cons_zero, Bool.not_true, Bool.not_false]; done)) | (refine lexL_off ?_ ?_ ?_; (focus (simp only [List.getElem?_toArray, List.getElem?_cons_succ, List.getElem?_cons_zero, Bool.not_true, Bool.not_false]; done)); (focus (exact (by repeat (first | with_reducible exact Below.refl _ _ | with_reducible assumption | with_reducible refine al ?_ _ | with_reducible refine Below.drew ?_ | with_reducible refine Below.setCell ?_ (by first | (simp; done) | (simp; omega)) _ | with_reducible refine tr ?_ (by with_reducible assumption)))))) | (refine lexL_splitS (X := ?_) ?_ ?_ (fun hg => ?_) (fun hg => ?_); rotate_left; (focus (simp only [List.getElem?_toArray, List.getElem?_cons_succ, List.getElem?_cons_zero]; with_reducible rfl)); (focus (exact (by repeat (first | with_reducible exact Below.refl _ _ | with_reducible assumption | with_reducible refine al ?_ _ | with_reducible refine Below.drew ?_ | with_reducible refine Below.setCell ?_ (by first | (simp; done) | (simp; omega)) _ | with_reducible refine tr ?_ (by with_reducible assumption))))); all_goals (try simp only [Bool.not_true, Bool.not_false] at hg)))
          (all_goals try simp only [Act.put, List.setIfInBounds_toArray, List.set_cons_zero, List.set_cons_succ]); all_goals (refine lexL_nil ?_)
          go_wp2_with fail
          go_loopw [3, 5] (fun vk vj w4 => ∃ (kk k2 : Nat) (dk : List Pt), vk = .int .i64 kk ∧ vj = .int .i64 k2 ∧ 1 ≤ k2 ∧ k + k2 ≤ n ∧ dk.length = n ∧ Lib.CompInv l.toArray (k + k2) kk dk.toArray ∧ w4.ownsRow base 35 2 (.slice (some ⟨pb, 0, none⟩) n cap) n (ptcells dk) ∧ Below base w w4) (fun _ vj _ => n - (intOf vj).toNat)
          case atStart => exact ⟨k, 1, l, rfl, rfl, Nat.le_refl _, by omega, hl, Lib.CompInv.start HA.out HD.out, HOW.out, (by repeat (first | with_reducible exact Below.refl _ _ | with_reducible assumption | with_reducible refine al ?_ _ | with_reducible refine Below.drew ?_ | with_reducible refine Below.setCell ?_ (by first | (simp; done) | (simp; omega)) _ | with_reducible refine tr ?_ (by with_reducible assumption)))⟩
          case round =>
            clear c0 c1 d0 d1 z1 z2 z3 ek hb HOW lpb
            obtain ⟨kk, k2, dk, rfl, rfl, hk21, hkn, hdl, hI, hown, hb⟩ := hrel
            have hkk := hI.lt
            have lpb := (hown.lt pb rfl).2
            by_cases hlt2 : k2 < q
            · have hjn : k + k2 < n := by omega
              obtain ⟨c0, c1, _, _⟩ := own_ptat hown hjn
              obtain ⟨k3, hk3⟩ : ∃ m, k2 - 1 = m := ⟨_, rfl⟩
              obtain ⟨d0, d1, _, _⟩ := own_ptat hown (show k + k3 < n by omega)
              obtain ⟨g0, g1, f0, f1⟩ := own_ptat hown (show kk < n by omega)
              have hdk : ∀ j, j < n → dk.toArray[j]! = pt dk j := fun j hj => by
                rw [getElem!_pos dk.toArray j (by simp; omega)]
                have := pt_of (l := dk) (k := j) (by omega)
                rw [List.getElem?_eq_getElem (by omega)] at this
                simpa using this
              have e1 : pt dk (k + k2) = pt l (k + k2) := by rw [← hdk _ hjn, ← HKP.out _ hjn]; exact hI.high _ (by omega)
              have e2 : pt dk (k + k3) = pt l (k + k3) := by rw [← hdk _ (by omega), ← HKP.out _ (show k + k3 < n by omega)]; exact hI.high _ (by omega)
              have e3 := HKP.out (k + k2) hjn
              have e4 := HKP.out (k + k3) (by omega)
              rw [e1] at c0 c1
              rw [e2] at d0 d1
              rw [Nat.add_mul] at c0 c1 d0 d1
              have ek : (k2 : Int) - 1 = ((k3 : Nat) : Int) := by omega
              have z1 : (k2 : Int) < (q : Int) := by omega
              have z2 : (k3 : Int) < (q : Int) := by omega
              have z3 : IntKind.i64.wrap (k3 : Int) = k3 := by simp [IntKind.wrap, IntKind.bits, IntKind.signed]; omega
              have z5 : (kk : Int) < (n : Int) := by omega
              have HI := Lib.hid hI
              have HOW := Lib.hid hown
              clear hdk e1 e2 hI hown
              by_cases he : pt l (k + k2) = pt l (k + k3)
              · have ex : (pt l (k + k3)).x = (pt l (k + k2)).x := by rw [he]
                have ey : (pt l (k + k3)).y = (pt l (k + k2)).y := by rw [he]
                rw [ex] at d0
                rw [ey] at d1
                have hdup2 : Lib.keeps l.toArray (k + k2) = false := Lib.keeps_neg (by omega) (by rw [e3, show k + k2 - 1 = k + k3 by omega, e4, he])
                have HD2 := Lib.hid hdup2
                clear he ex ey e3 e4 hdup2
                go_wp2_with fail
                refine wp_region_belowI (by kernel_rfl) (by kernel_rfl) (fun _ _ d _ _ h => by cases d <;> exact h) ?_
                simp only [List.map_cons, List.map_nil, List.getD_cons_zero, List.getD_cons_succ, bare, gslot, List.getElem?_cons_zero, List.getElem?_cons_succ, Option.bind_some]
                repeat' ((try simp only [Act.put, List.setIfInBounds_toArray, List.set_cons_zero, List.set_cons_succ]); first | (refine lexL_quiet (v := ?_) wantB_none rfl ?_ ?_; rotate_left; focus (intro wq hq; obtain ⟨hcq, hfq⟩ := bcell hq; go_simp; try with_reducible rfl)) | (refine lexL_loud wantB_none rfl (fun K hK => ?_); go_simp; ((first | fail | skip) <;> (refine hK.out _ _ (by repeat (first | with_reducible exact Below.refl _ _ | with_reducible assumption | with_reducible refine al ?_ _ | with_reducible refine Below.drew ?_ | with_reducible refine Below.setCell ?_ (by first | (simp; done) | (simp; omega)) _ | with_reducible refine tr ?_ (by with_reducible assumption))) ?_; clear hK K))) | (refine lexL_on ?_ ?_; focus (simp only [List.getElem?_toArray, List.getElem?_cons_succ, List.getElem?_cons_zero, Bool.not_true, Bool.not_false]; done)) | (refine lexL_off ?_ ?_ ?_; (focus (simp only [List.getElem?_toArray, List.getElem?_cons_succ, List.getElem?_cons_zero, Bool.not_true, Bool.not_false]; done)); (focus (exact (by repeat (first | with_reducible exact Below.refl _ _ | with_reducible assumption | with_reducible refine al ?_ _ | with_reducible refine Below.drew ?_ | with_reducible refine Below.setCell ?_ (by first | (simp; done) | (simp; omega)) _ | with_reducible refine tr ?_ (by with_reducible assumption)))))) | (refine lexL_splitS (X := ?_) ?_ ?_ (fun hg => ?_) (fun hg => ?_); rotate_left; (focus (simp only [List.getElem?_toArray, List.getElem?_cons_succ, List.getElem?_cons_zero]; with_reducible rfl)); (focus (exact (by repeat (first | with_reducible exact Below.refl _ _ | with_reducible assumption | with_reducible refine al ?_ _ | with_reducible refine Below.drew ?_ | with_reducible refine Below.setCell ?_ (by first | (simp; done) | (simp; omega)) _ | with_reducible refine tr ?_ (by with_reducible assumption))))); all_goals (try simp only [Bool.not_true, Bool.not_false] at hg)))
                (all_goals try simp only [Act.put, List.setIfInBounds_toArray, List.set_cons_zero, List.set_cons_succ]); all_goals (refine lexL_nil ?_)
                go_wp2
                go_roundw
                case rel => exact ⟨kk, k2 + 1, dk, rfl, by go_num, by omega, by omega, hdl, HI.out.skip HD2.out, HOW.out, (by repeat (first | with_reducible exact Below.refl _ _ | with_reducible assumption | with_reducible refine al ?_ _ | with_reducible refine Below.drew ?_ | with_reducible refine Below.setCell ?_ (by first | (simp; done) | (simp; omega)) _ | with_reducible refine tr ?_ (by with_reducible assumption)))⟩
                case measure => simp [intOf]; omega
              · have hne : ¬ ((pt l (k + k2)).x = (pt l (k + k3)).x ∧ (pt l (k + k2)).y = (pt l (k + k3)).y) := fun h => he (Pt.ext' h.1 h.2)
                have y2 : ¬ (pt l (k + k2)).x = (pt l (k + k3)).x ∨ ((pt l (k + k2)).x = (pt l (k + k3)).x ∧ ¬ (pt l (k + k2)).y = (pt l (k + k3)).y) := by omega
                have hkeep : Lib.keeps l.toArray (k + k2) = true := Lib.keeps_pos (by rw [e3, show k + k2 - 1 = k + k3 by omega, e4]; exact he)
                have hI2 := HI.out.keep (by simp; omega) hkeep
                rw [e3] at hI2
                have hW := own_set (own_set HOW.out (kk * 2) (.int .i64 (pt l (k + k2)).x)) (kk * 2 + 1) (.int .i64 (pt l (k + k2)).y)
                rw [ptcells_set] at hW
                have HW := Lib.hid hW
                have HI2 := Lib.hid hI2
                clear he hne e3 e4 hkeep hI2 hW
                rcases y2 with y2 | ⟨y0, y2⟩
                rotate_left
                rw [← y0] at d0
                clear y0
                all_goals
                  go_wp2_with fail
                  refine wp_region_belowI (by kernel_rfl) (by kernel_rfl) (fun _ _ d _ _ h => by cases d <;> exact h) ?_
                  simp only [List.map_cons, List.map_nil, List.getD_cons_zero, List.getD_cons_succ, bare, gslot, List.getElem?_cons_zero, List.getElem?_cons_succ, Option.bind_some]
                  repeat' ((try simp only [Act.put, List.setIfInBounds_toArray, List.set_cons_zero, List.set_cons_succ]); first | (refine lexL_quiet (v := ?_) wantB_none rfl ?_ ?_; rotate_left; focus (intro wq hq; obtain ⟨hcq, hfq⟩ := bcell hq; go_simp; try with_reducible rfl)) | (refine lexL_loud wantB_none rfl (fun K hK => ?_); go_simp; ((first | fail | skip) <;> (refine hK.out _ _ (by repeat (first | with_reducible exact Below.refl _ _ | with_reducible assumption | with_reducible refine al ?_ _ | with_reducible refine Below.drew ?_ | with_reducible refine Below.setCell ?_ (by first | (simp; done) | (simp; omega)) _ | with_reducible refine tr ?_ (by with_reducible assumption))) ?_; clear hK K))) | (refine lexL_on ?_ ?_; focus (simp only [List.getElem?_toArray, List.getElem?_cons_succ, List.getElem?_cons_zero, Bool.not_true, Bool.not_false]; done)) | (refine lexL_off ?_ ?_ ?_; (focus (simp only [List.getElem?_toArray, List.getElem?_cons_succ, List.getElem?_cons_zero, Bool.not_true, Bool.not_false]; done)); (focus (exact (by repeat (first | with_reducible exact Below.refl _ _ | with_reducible assumption | with_reducible refine al ?_ _ | with_reducible refine Below.drew ?_ | with_reducible refine Below.setCell ?_ (by first | (simp; done) | (simp; omega)) _ | with_reducible refine tr ?_ (by with_reducible assumption)))))) | (refine lexL_splitS (X := ?_) ?_ ?_ (fun hg => ?_) (fun hg => ?_); rotate_left; (focus (simp only [List.getElem?_toArray, List.getElem?_cons_succ, List.getElem?_cons_zero]; with_reducible rfl)); (focus (exact (by repeat (first | with_reducible exact Below.refl _ _ | with_reducible assumption | with_reducible refine al ?_ _ | with_reducible refine Below.drew ?_ | with_reducible refine Below.setCell ?_ (by first | (simp; done) | (simp; omega)) _ | with_reducible refine tr ?_ (by with_reducible assumption))))); all_goals (try simp only [Bool.not_true, Bool.not_false] at hg)))
                  (all_goals try simp only [Act.put, List.setIfInBounds_toArray, List.set_cons_zero, List.set_cons_succ]); all_goals (refine lexL_nil ?_)
                  go_wp2
                  go_roundw
                  case rel => exact ⟨kk + 1, k2 + 1, dk.set kk (pt l (k + k2)), by go_num, by go_num, by omega, by omega, by rw [List.length_set]; exact hdl, by rw [← List.setIfInBounds_toArray]; exact HI2.out, HW.out, ((hb.drew).setCell hbp.1 _).setCell hbp.1 _⟩
                  case measure => simp [intOf]; omega
            · have hend : k + k2 = n := by omega
              rw [hend] at hI
              have hkn2 : kk < n := by omega
              have hCl : C.length = kk := by rw [← HC.out]; unfold Lib.compact; rw [hl]; exact hI.len
              have hCd : dk.take kk = C := by
                rw [← HC.out]
                unfold Lib.compact
                rw [hl]
                apply List.ext_getElem?
                intro j
                by_cases hj : j < kk
                · rw [List.getElem?_take_of_lt hj, hI.low j hj, getElem!_pos dk.toArray j (by simp; omega), List.getElem?_eq_getElem (by omega)]
                  rfl
                · rw [List.getElem?_eq_none (by simp; omega), List.getElem?_eq_none (by rw [hI.len]; omega)]
              have hfin := own_high (own_cut hown (Nat.le_of_lt hkn2)) (List.replicate ((n - kk) * 2) (.int .i64 0)) (kk * 2) (Nat.le_refl _)
              have hbf := setCells_below hb hbp.1 (List.replicate ((n - kk) * 2) (.int .i64 0)) (kk * 2)
              have hcl : ∀ ty, (Builtin.clear_ #[22] ty #[.slice (some ⟨pb, kk * 2, none⟩) (n - kk) (cap - kk)]).run Tryz.prog wr = .ok (.tuple #[]) (wr.setCells pb (kk * 2) (List.replicate ((n - kk) * 2) (.int .i64 0))) :=
                fun ty => run_clear_pts wr ty pb (kk * 2) (n - kk) (cap - kk) (by omega) (fun j hj => by
                  rw [hown.cellAt (kk * 2 + j) (by omega), List.getElem?_eq_getElem (by rw [hown.1]; omega)]; rfl) (fun j hj => own_frozen hown _)
              rw [hCd] at hfin
              obtain ⟨q2, hq2⟩ : ∃ m, n - kk = m := ⟨_, rfl⟩
              obtain ⟨c2, hc2⟩ : ∃ m, cap - kk = m := ⟨_, rfl⟩
              rw [hq2, hc2] at hcl
              rw [hq2] at hfin hbf
              obtain ⟨wf, hwf⟩ : ∃ x, wr.setCells pb (kk * 2) (List.replicate (q2 * 2) (.int .i64 0)) = x := ⟨_, rfl⟩
              rw [hwf] at hfin hbf hcl
              have HFI := Lib.hid hfin
              have z6 : ¬ cap = kk := by omega
              have z7 : ¬ cap = 0 := by omega
              have z8 : (kk : Int) ≤ (n : Int) := by omega
              have z9 : (kk : Int) ≤ (cap : Int) := by omega
              have HEND := Lib.hid hend
              clear hI hfin hCd hown hend hwf
              go_wp2
              go_ret
              rw [hCl]
              exact ⟨rfl, HFI.out, hbf⟩
        · have hne : ¬ ((pt l k).x = (pt l k1).x ∧ (pt l k).y = (pt l k1).y) := fun h => he (Pt.ext' h.1 h.2)
          have k2 : ¬ (pt l k).x = (pt l k1).x ∨ ((pt l k).x = (pt l k1).x ∧ ¬ (pt l k).y = (pt l k1).y) := by omega
          have hkeep : Lib.keeps l.toArray k = true := Lib.keeps_pos (by rw [e1, show k - 1 = k1 from hk1', e2]; exact he)
          have HD := Lib.hid hkeep
          clear he hne hall hown e1 e2 hkeep
          rcases k2 with k2 | ⟨k0, k2⟩
          all_goals
            go_wp2_with fail
            refine wp_region_belowI (by kernel_rfl) (by kernel_rfl) (fun _ _ d _ _ h => by cases d <;> exact h) ?_
            simp only [List.map_cons, List.map_nil, List.getD_cons_zero, List.getD_cons_succ, bare, gslot, List.getElem?_cons_zero, List.getElem?_cons_succ, Option.bind_some]
            repeat' ((try simp only [Act.put, List.setIfInBounds_toArray, List.set_cons_zero, List.set_cons_succ]); first | (refine lexL_quiet (v := ?_) wantB_none rfl ?_ ?_; rotate_left; focus (intro wq hq; obtain ⟨hcq, hfq⟩ := bcell hq; go_simp; try with_reducible rfl)) | (refine lexL_loud wantB_none rfl (fun K hK => ?_); go_simp; ((first | fail | skip) <;> (refine hK.out _ _ (by repeat (first | with_reducible exact Below.refl _ _ | with_reducible assumption | with_reducible refine al ?_ _ | with_reducible refine Below.drew ?_ | with_reducible refine Below.setCell ?_ (by first | (simp; done) | (simp; omega)) _ | with_reducible refine tr ?_ (by with_reducible assumption))) ?_; clear hK K))) | (refine lexL_on ?_ ?_; focus (simp only [List.getElem?_toArray, List.getElem?_cons_succ, List.getElem?_cons_zero, Bool.not_true, Bool.not_false]; done)) | (refine lexL_off ?_ ?_ ?_; (focus (simp only [List.getElem?_toArray, List.getElem?_cons_succ, List.getElem?_cons_zero, Bool.not_true, Bool.not_false]; done)); (focus (exact (by repeat (first | with_reducible exact Below.refl _ _ | with_reducible assumption | with_reducible refine al ?_ _ | with_reducible refine Below.drew ?_ | with_reducible refine Below.setCell ?_ (by first | (simp; done) | (simp; omega)) _ | with_reducible refine tr ?_ (by with_reducible assumption)))))) | (refine lexL_splitS (X := ?_) ?_ ?_ (fun hg => ?_) (fun hg => ?_); rotate_left; (focus (simp only [List.getElem?_toArray, List.getElem?_cons_succ, List.getElem?_cons_zero]; with_reducible rfl)); (focus (exact (by repeat (first | with_reducible exact Below.refl _ _ | with_reducible assumption | with_reducible refine al ?_ _ | with_reducible refine Below.drew ?_ | with_reducible refine Below.setCell ?_ (by first | (simp; done) | (simp; omega)) _ | with_reducible refine tr ?_ (by with_reducible assumption))))); all_goals (try simp only [Bool.not_true, Bool.not_false] at hg)))
            (all_goals try simp only [Act.put, List.setIfInBounds_toArray, List.set_cons_zero, List.set_cons_succ]); all_goals (refine lexL_nil ?_)
            go_wp2
            go_roundw
            case rel => exact ⟨k + 1, by omega, by omega, by go_num, fun j hj => by
              by_cases e : j = k
              · subst e; exact HD.out
              · exact HA.out j (by omega), HOW.out, (by repeat (first | with_reducible exact Below.refl _ _ | with_reducible assumption | with_reducible refine al ?_ _ | with_reducible refine Below.drew ?_ | with_reducible refine Below.setCell ?_ (by first | (simp; done) | (simp; omega)) _ | with_reducible refine tr ?_ (by with_reducible assumption)))⟩
            case measure => simp [intOf]; omega
      · obtain rfl : n = k := by omega
        have ec : Lib.compact l = l := Lib.compact_all l fun j hj => hall j (by omega)
        have ec2 : C = l := HC.out.symm.trans ec
        clear hall ec hlt
        have HOW := Lib.hid hown
        clear hown
        go_wp2
        go_ret
        rw [ec2, hl]
        exact ⟨rfl, HOW.out, hb⟩
end Go.Proofs.YtmliljdbpkikpaaGreatDoor
