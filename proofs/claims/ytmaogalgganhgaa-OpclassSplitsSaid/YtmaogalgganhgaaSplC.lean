/-
  The split of boxes: its contract.
-/
import Derived.Test.YtmaogalgganhgaaSplB
import Derived.Test.YtmaogalgganhgaaEncG
import Derived.Test.YtmaogalgganhgaaPlainSplit
import Derived.Test.YtmaogalgganhgaaEncD
import Derived.Deep.OwnRows
set_option linter.unusedSimpArgs false
set_option linter.unusedVariables false
namespace Pg
open Go Go.RowKit
/-- a box's number r -/
def co (b : Bx) (r : Nat) : Int := match r with | 0 => b.lo.x | 1 => b.lo.y | 2 => b.hi.x | _ => b.hi.y
def bcl (f : Nat → Bx) (n : Nat) : List Value := (List.range (n * 4)).map fun j => .int .i64 (co (f (j / 4)) (j % 4))
def updB (f : Nat → Bx) (k : Nat) (b : Bx) : Nat → Bx := fun j => if j = k then b else f j
theorem bcl_at {f : Nat → Bx} {n j : Nat} (h : j < n * 4) : (bcl f n)[j]? = some (.int .i64 (co (f (j / 4)) (j % 4))) := by simp [bcl, h]
theorem bcl_set {f : Nat → Bx} {n k : Nat} (b : Bx) (hk : k < n) :
    (((((bcl f n).toArray.setIfInBounds (k * 4) (.int .i64 b.lo.x)).setIfInBounds (k * 4 + 1) (.int .i64 b.lo.y)).setIfInBounds (k * 4 + 2) (.int .i64 b.hi.x)).setIfInBounds (k * 4 + 3) (.int .i64 b.hi.y)) = (bcl (updB f k b) n).toArray := by
  apply Array.ext_getElem?
  intro j
  simp only [Array.getElem?_setIfInBounds, Array.size_setIfInBounds, List.size_toArray, List.getElem?_toArray]
  have hl : (bcl f n).length = n * 4 := by simp [bcl]
  simp only [hl]
  by_cases hj : j < n * 4
  · rw [bcl_at hj, bcl_at hj]
    by_cases e0 : k * 4 + 3 = j
    · subst e0
      rw [if_pos rfl, if_pos (by omega), show (k * 4 + 3) / 4 = k by omega, show (k * 4 + 3) % 4 = 3 by omega]
      simp [updB, co]
    · rw [if_neg e0]
      by_cases e1 : k * 4 + 2 = j
      · subst e1
        rw [if_pos rfl, if_pos (by omega), show (k * 4 + 2) / 4 = k by omega, show (k * 4 + 2) % 4 = 2 by omega]
        simp [updB, co]
      · rw [if_neg e1]
        by_cases e2 : k * 4 + 1 = j
        · subst e2
          rw [if_pos rfl, if_pos (by omega), show (k * 4 + 1) / 4 = k by omega, show (k * 4 + 1) % 4 = 1 by omega]
          simp [updB, co]
        · rw [if_neg e2]
          by_cases e3 : k * 4 = j
          · subst e3
            rw [if_pos rfl, if_pos (by omega), show (k * 4) / 4 = k by omega, show (k * 4) % 4 = 0 by omega]
            simp [updB, co]
          · rw [if_neg e3]
            have : j / 4 ≠ k := by omega
            simp [updB, this]
  · have h0 : (bcl f n)[j]? = none := List.getElem?_eq_none (by rw [hl]; omega)
    have h1 : (bcl (updB f k b) n)[j]? = none := List.getElem?_eq_none (by simp [bcl]; omega)
    rw [h0, h1]
    repeat' split
    all_goals first | rfl | (exfalso; omega)
/-- the places, as far as they are laid -/
def icl (k n : Nat) : List Value := (List.range n).map fun j => .int .i64 (if j < k then (j : Int) else 0)
theorem icl_all (n : Nat) : icl n n = (List.range n).map fun j => Value.int .i64 (j : Nat) := by
  unfold icl
  refine List.map_congr_left fun j hj => ?_
  rw [if_pos (List.mem_range.1 hj)]
theorem icl_set {k n : Nat} (hk : k < n) : (icl k n).toArray.setIfInBounds k (.int .i64 (k : Nat)) = (icl (k + 1) n).toArray := by
  apply Array.ext_getElem?
  intro j
  simp only [Array.getElem?_setIfInBounds, List.size_toArray, List.getElem?_toArray]
  by_cases hj : j < n
  · by_cases e : k = j
    · subst e
      simp [icl, hj]
    · have : (j < k) = (j < k + 1) := by apply propext; omega
      simp [icl, hj, e, this]
  · have e : ¬ k = j := by omega
    simp [icl, hj, e]
/-- who goes, as far as it is told -/
def ocl (s : Nat → Bool) (n : Nat) : List Value := (List.range n).map fun j => .bool (s j)
theorem ocl_set {s : Nat → Bool} {n k : Nat} (hk : k < n) : (ocl s n).toArray.setIfInBounds k (.bool true) = (ocl (fun j => s j || decide (j = k)) n).toArray := by
  apply Array.ext_getElem?
  intro j
  simp only [Array.getElem?_setIfInBounds, List.size_toArray, List.getElem?_toArray]
  by_cases hj : j < n
  · by_cases e : k = j
    · subst e
      simp [ocl, hj]
    · have e2 : ¬ j = k := fun h => e h.symm
      simp [ocl, hj, e, e2]
  · have e : ¬ k = j := by omega
    simp [ocl, hj, e]
theorem made_bcl (n : Nat) : madeCells #[Value.int .i64 0, .int .i64 0, .int .i64 0, .int .i64 0] (n * 4) = (bcl (fun _ => bzero) n).toArray := by
  apply Array.ext_getElem?
  intro j
  by_cases hj : j < n * 4
  · have hm : j % 4 = 0 ∨ j % 4 = 1 ∨ j % 4 = 2 ∨ j % 4 = 3 := by omega
    rw [List.getElem?_toArray (xs := bcl _ n), bcl_at hj]
    rcases hm with h | h | h | h <;> simp [madeCells, hj, h, co, bzero]
  · simp [madeCells, bcl, hj]
theorem made_icl (n : Nat) : madeCells #[Value.int .i64 0] n = (icl 0 n).toArray := by
  apply Array.ext_getElem?
  intro j
  by_cases hj : j < n
  · simp [madeCells, icl, hj, Nat.mod_one]
  · simp [madeCells, icl, hj]
theorem made_ocl (n : Nat) : madeCells #[Value.bool false] n = (ocl (fun _ => false) n).toArray := by
  apply Array.ext_getElem?
  intro j
  by_cases hj : j < n
  · simp [madeCells, ocl, hj, Nat.mod_one]
  · simp [madeCells, ocl, hj]
theorem split_mem {l : List Bx} {d : List Nat} (hp : d.Perm (List.range l.length)) (hs : d.Pairwise fun i k => ahd l i k = true) : ocl (fun j => decide (j ∈ d.drop (l.length - l.length / 2))) l.length = (splitS l).map Value.bool := by
  unfold ocl splitS
  rw [List.map_map]
  refine List.map_congr_left fun j hj => ?_
  simp only [Function.comp]
  congr 1
  rw [decide_eq_decide]
  constructor
  · intro h
    obtain ⟨i, hi, e⟩ := List.getElem_of_mem h
    rw [List.getElem_drop] at e
    have hi2 : l.length - l.length / 2 + i < d.length := by simp at hi; omega
    have := rank_of hp hs hi2
    rw [e] at this
    omega
  · intro h
    obtain ⟨i, hi, e⟩ := List.getElem_of_mem (hp.mem_iff.2 hj)
    have := rank_of hp hs hi
    rw [e] at this
    rw [this] at h
    rw [List.mem_iff_getElem?]
    refine ⟨i - (l.length - l.length / 2), ?_⟩
    rw [List.getElem?_drop, show l.length - l.length / 2 + (i - (l.length - l.length / 2)) = i by omega, List.getElem?_eq_getElem hi, e]
/-- the box of a key, or none's -/
def boxK (l : List Nat) : Bx := (unkeyS l).getD bzero
end Pg
namespace Go.Proofs.Ytmaogalgganhgaa
open Go.RowKit Pg
theorem bxsAt_bcl {w : World} {g : Nat} {t : TypeId} {f : Nat → Bx} {n B : Nat} (h : Blk w g t (bcl f n).toArray) (hB : g < B) : BxsAt w B (some ⟨g, 0, none⟩) n ((List.range n).map f) := by
  refine ⟨by simp, fun _ => ⟨g, 0, rfl, hB, fun k p hp => ?_⟩⟩
  have hk : k < n := by
    rcases Nat.lt_or_ge k n with h | h
    · exact h
    · rw [List.getElem?_eq_none (by simpa using h)] at hp; cases hp
  have e : p = f k := by simpa [hk] using hp.symm
  subst e
  simp only [Nat.zero_add]
  rw [h.cell, h.cell, h.cell, h.cell]
  simp only [List.getElem?_toArray]
  rw [bcl_at (by omega), bcl_at (by omega), bcl_at (by omega), bcl_at (by omega)]
  rw [show (k * 4) / 4 = k by omega, show (k * 4) % 4 = 0 by omega, show (k * 4 + 1) / 4 = k by omega, show (k * 4 + 1) % 4 = 1 by omega, show (k * 4 + 2) / 4 = k by omega, show (k * 4 + 2) % 4 = 2 by omega, show (k * 4 + 3) / 4 = k by omega, show (k * 4 + 3) % 4 = 3 by omega]
  exact ⟨rfl, rfl, rfl, rfl⟩
theorem Try.infoBx : (Try.prog.info? 35).map (fun i => (i.zero, i.size, i.bytes)) = some (some (bxV 0 0 0 0), 4, 32) := by kernel_rfl
theorem Try.infoI : (Try.prog.info? 3).map (fun i => (i.zero, i.size, i.bytes)) = some (some (.int .i64 0), 1, 8) := by kernel_rfl
theorem Try.infoB : (Try.prog.info? 4).map (fun i => (i.zero, i.size, i.bytes)) = some (some (.bool false), 1, 1) := by kernel_rfl
theorem make_bx (n : Nat) (hn : n ≤ 1000000) (w : World) : (Instr.makeSlice 22 (.int .i64 (n : Int)) (.int .i64 (n : Int))).run Try.prog w = .ok (.slice (some ⟨w.heap.size, 0, none⟩) n n) (w.alloc (.cells (bcl (fun _ => bzero) n).toArray 35)) := by
  obtain ⟨i0, hi, iz0, iz1, iz2⟩ := info_parts Try.infoBx
  have h := run_make (P := Try.prog) w 22 35 i0 (bxV 0 0 0 0) Try.underlying22 hi iz0 .i64 .i64 (n : Int) (n : Int) (by omega) (by omega) (by rw [iz2]; omega) (by omega)
  rw [iz1] at h
  rw [← made_bcl]
  exact h
theorem make_i (n : Nat) (hn : n ≤ 1000000) (w : World) : (Instr.makeSlice 83 (.int .i64 (n : Int)) (.int .i64 (n : Int))).run Try.prog w = .ok (.slice (some ⟨w.heap.size, 0, none⟩) n n) (w.alloc (.cells (icl 0 n).toArray 3)) := by
  rw [← made_icl]
  exact run_make_row' _ _ (.int .i64 0) 8 Try.underlying83 Try.infoI rfl .i64 .i64 n (by omega) (by omega) w
theorem make_b (n : Nat) (hn : n ≤ 1000000) (w : World) : (Instr.makeSlice 38 (.int .i64 (n : Int)) (.int .i64 (n : Int))).run Try.prog w = .ok (.slice (some ⟨w.heap.size, 0, none⟩) n n) (w.alloc (.cells (ocl (fun _ => false) n).toArray 4)) := by
  rw [← made_ocl]
  exact run_make_row' _ _ (.bool false) 1 Try.underlying38 Try.infoB rfl .i64 .i64 n (by omega) (by omega) w

theorem unkeyV_box (l : List Nat) : ∃ q, unkeyV l = .tuple #[bxV (boxK l).lo.x (boxK l).lo.y (boxK l).hi.x (boxK l).hi.y, .bool q] := by
  unfold unkeyV boxK
  cases unkeyS l with
  | none => exact ⟨false, rfl⟩
  | some b => exact ⟨true, rfl⟩

theorem boxK_ok {l : List Nat} (h : ∀ x ∈ l, x < 256) : okBx (boxK l) = true ∨ boxK l = bzero := by
  unfold boxK
  cases e : unkeyS l with
  | none => exact .inr rfl
  | some b => exact .inl (unkey_inv h e).1

set_option maxHeartbeats 4000000 in
set_option maxRecDepth 20000 in
theorem Split_any (cv : Value) (B n c : Nat) (A : Option Addr) (L : List (List Nat)) (w : World) (hl : RbsAt w B A n L) (hB : B ≤ w.heap.size) (hn : 2 ≤ n) (hn2 : n ≤ 1000000) (h256 : ∀ l ∈ L, ∀ x ∈ l, x < 256) (hlen : ∀ l ∈ L, l.length ≤ 1000000) :
    Calls Try.prog 35 #[.agg #[cv], .slice A n c] w fun e w' => ∃ g, e = .returned (.slice (some ⟨g, 0, none⟩) n n) ∧ Blk w' g 4 ((splitS (L.map boxK)).map Value.bool).toArray ∧ Below w.heap.size w w' := by
  have HM1 := make_bx n hn2
  have HM2 := make_i n hn2
  have HM3 := make_b n hn2
  obtain ⟨V, hV⟩ : ∃ V, splitS (L.map boxK) = V := ⟨_, rfl⟩
  rw [hV]
  have HV := Lib.hid hV
  have hLn := hl.1
  have HL := Lib.hid hl
  have H256 := Lib.hid h256
  have HLN := Lib.hid hlen
  clear hV hl h256 hlen
  go_enter Try.func35, Try.ntmps35
  go_wp2_with fail
  go_loopw [20] (fun vi wr => ∃ (k : Nat) (f : Nat → Bx), k ≤ n ∧ vi = .int .i64 k ∧ (∀ j, j < k → f j = boxK (L.getD j [])) ∧ Blk wr (w.heap.size + 1) 35 (bcl f n).toArray ∧ Blk wr (w.heap.size + 1 + 1) 22 #[.slice (some ⟨w.heap.size + 1, 0, none⟩) n n] ∧ Blk wr (w.heap.size + 1 + 1 + 1) 3 (icl k n).toArray ∧ Below w.heap.size w wr) (fun vi _ => n - (intOf vi).toNat)
  case atStart => exact ⟨0, fun _ => bzero, by omega, rfl, fun j hj => absurd hj (by omega), (by repeat (first | with_reducible assumption | with_reducible exact Blk.new (by simp) rfl | with_reducible refine Blk.alloc ?_ _ | with_reducible refine Blk.drew ?_ | with_reducible refine Blk.far ?_ (by first | (simp; done) | (simp; omega)) _ | with_reducible refine Blk.tr ?_ (by with_reducible assumption))), (by repeat (first | with_reducible assumption | with_reducible exact Blk.new (by simp) rfl | with_reducible refine Blk.alloc ?_ _ | with_reducible refine Blk.drew ?_ | with_reducible refine Blk.far ?_ (by first | (simp; done) | (simp; omega)) _ | with_reducible refine Blk.tr ?_ (by with_reducible assumption))), (by repeat (first | with_reducible assumption | with_reducible exact Blk.new (by simp) rfl | with_reducible refine Blk.alloc ?_ _ | with_reducible refine Blk.drew ?_ | with_reducible refine Blk.far ?_ (by first | (simp; done) | (simp; omega)) _ | with_reducible refine Blk.tr ?_ (by with_reducible assumption))), (by repeat (first | with_reducible exact Below.refl _ _ | with_reducible assumption | with_reducible refine al ?_ _ | with_reducible refine Below.drew ?_ | with_reducible refine Below.setCell ?_ (by first | (simp; done) | (simp; omega)) _ | with_reducible refine tr ?_ (by with_reducible assumption)))⟩
  case round =>
    obtain ⟨k, f, hk, rfl, hf, hX, hS, hI, hb⟩ := hrel
    by_cases hlt : k < n
    · obtain ⟨b, off, A', n', c', rfl, hab, hcell, hby, he, hz, hnc⟩ := (HL.out.below (hb.mono hB)).at_ hlt
      have hmem : L.getD k [] ∈ L := List.mem_of_getElem? he
      have hn' : n' ≤ 1000000 := by rw [← hby.1]; exact HLN.out _ hmem
      obtain ⟨q, hq⟩ := unkeyV_box (L.getD k [])
      obtain ⟨p, hp⟩ : ∃ p, boxK (L.getD k []) = p := ⟨_, rfl⟩
      rw [hp] at hq
      have hBw : B ≤ wr.heap.size := Nat.le_trans hB hb.size
      have HU : Hid (∀ w', Below wr.heap.size wr w' → Calls Try.prog 38 #[.slice A' n' c'] w' (Ret w' (.tuple #[bxV p.lo.x p.lo.y p.hi.x p.hi.y, .bool q]))) := fun w' h => by
        have h2 := unkey_any B n' c' A' (L.getD k []) w' (hby.tr h hBw) (H256.out _ hmem) (Nat.le_trans hBw h.size) hn' hnc
        rw [hq] at h2
        exact h2
      have HP := Lib.hid hp
      have HF := Lib.hid hf
      clear hp hq hf hby he hmem
      have cS := hS.cell
      have fS := hS.frozen
      have lX := hX.lt
      have lS := hS.lt
      have lI := hI.lt
      have hbw : b < wr.heap.size := by omega
      have hn1 : w.heap.size + 1 + 1 ≠ w.heap.size + 1 := by omega
      have hk0 : (k : Int) < (n : Int) := by omega
      go_wp2_with fail
      refine wp_region_away (w.heap.size + 1) [0, 1, 2, 3, 4, 5, 6, 7, 8] (by kernel_rfl) (by kernel_rfl) (fun _ _ d _ _ h => by cases d <;> exact h) ?_
      simp only [List.map_cons, List.map_nil, List.getD_cons_zero, List.getD_cons_succ, bare, gslot, List.getElem?_cons_zero, List.getElem?_cons_succ, Option.bind_some]
      repeat' ((try simp only [Act.put, List.setIfInBounds_toArray, List.set_cons_zero, List.set_cons_succ]); first | (refine lexL_quiet (v := ?_) wantB_none rfl ?_ ?_; rotate_left; focus (intro wq hq; obtain ⟨hcq, hfq⟩ := acell hq; go_simp; try with_reducible rfl)) | (refine lexL_loud wantB_none rfl (fun K hK => ?_); go_simp; ((first | (go_at_call 38; (with_reducible refine (HU.out _ ?_).mono ?_); (focus exact (by repeat (first | with_reducible exact Below.refl _ _ | with_reducible assumption | with_reducible refine al ?_ _ | with_reducible refine Below.drew ?_ | with_reducible refine Below.setCell ?_ (by first | (simp; done) | (simp; omega)) _ | with_reducible refine tr ?_ (by with_reducible assumption)))); rintro e w5 ⟨rfl, hb5⟩; obtain ⟨hc5, hf5⟩ := bcell hb5; have hz5 := hb5.size; (try simp at hz5); have hX5 : Blk w5 (w.heap.size + 1) 35 (bcl f n).toArray := (by repeat (first | with_reducible assumption | with_reducible exact Blk.new (by simp) rfl | with_reducible refine Blk.alloc ?_ _ | with_reducible refine Blk.drew ?_ | with_reducible refine Blk.far ?_ (by first | (simp; done) | (simp; omega)) _ | with_reducible refine Blk.tr ?_ (by with_reducible assumption))); have e0 := (hX5.cell (k * 4)).trans (List.getElem?_toArray.trans (bcl_at (by omega))); have e1 := (hX5.cell (k * 4 + 1)).trans (List.getElem?_toArray.trans (bcl_at (by omega))); have e2 := (hX5.cell (k * 4 + 2)).trans (List.getElem?_toArray.trans (bcl_at (by omega))); have e3 := (hX5.cell (k * 4 + 3)).trans (List.getElem?_toArray.trans (bcl_at (by omega))); have f5 := hX5.frozen) | skip) <;> (refine hK.out _ _ (by repeat (first | with_reducible exact Away.refl _ _ | with_reducible assumption | with_reducible refine Away.drew ?_ | with_reducible refine Away.put ?_ _ _ | with_reducible refine Away.alloc ?_ _ | with_reducible refine Away.below ?_ (by with_reducible assumption))) ?_; clear hK K))) | (refine lexL_on ?_ ?_; focus (simp only [List.getElem?_toArray, List.getElem?_cons_succ, List.getElem?_cons_zero, Bool.not_true, Bool.not_false]; done)) | (refine lexL_off ?_ ?_ ?_; (focus (simp only [List.getElem?_toArray, List.getElem?_cons_succ, List.getElem?_cons_zero, Bool.not_true, Bool.not_false]; done)); (focus (exact (by repeat (first | with_reducible exact Away.refl _ _ | with_reducible assumption | with_reducible refine Away.drew ?_ | with_reducible refine Away.put ?_ _ _ | with_reducible refine Away.alloc ?_ _ | with_reducible refine Away.below ?_ (by with_reducible assumption)))))) | (refine lexL_splitS (X := ?_) ?_ ?_ (fun hg => ?_) (fun hg => ?_); rotate_left; (focus (simp only [List.getElem?_toArray, List.getElem?_cons_succ, List.getElem?_cons_zero]; with_reducible rfl)); (focus (exact (by repeat (first | with_reducible exact Away.refl _ _ | with_reducible assumption | with_reducible refine Away.drew ?_ | with_reducible refine Away.put ?_ _ _ | with_reducible refine Away.alloc ?_ _ | with_reducible refine Away.below ?_ (by with_reducible assumption))))); all_goals (try simp only [Bool.not_true, Bool.not_false] at hg)))
      (all_goals try simp only [Act.put, List.setIfInBounds_toArray, List.set_cons_zero, List.set_cons_succ]); all_goals (refine lexL_nil ?_)
      have hX6 := ((((hX5.set_ (k * 4) (.int .i64 p.lo.x)).set_ (k * 4 + 1) (.int .i64 p.lo.y)).set_ (k * 4 + 2) (.int .i64 p.hi.x)).set_ (k * 4 + 3) (.int .i64 p.hi.y)).eq_ (bcl_set p hlt)
      refine PgG.keep_world (R := fun w2 => Blk w2 (w.heap.size + 1) 35 (bcl (updB f k p) n).toArray ∧ Blk w2 (w.heap.size + 1 + 1) 22 #[.slice (some ⟨w.heap.size + 1, 0, none⟩) n n] ∧ Blk w2 (w.heap.size + 1 + 1 + 1) 3 (icl k n).toArray ∧ Below w.heap.size w w2) ⟨hX6, (by repeat (first | with_reducible assumption | with_reducible exact Blk.new (by simp) rfl | with_reducible refine Blk.alloc ?_ _ | with_reducible refine Blk.drew ?_ | with_reducible refine Blk.far ?_ (by first | (simp; done) | (simp; omega)) _ | with_reducible refine Blk.tr ?_ (by with_reducible assumption))), (by repeat (first | with_reducible assumption | with_reducible exact Blk.new (by simp) rfl | with_reducible refine Blk.alloc ?_ _ | with_reducible refine Blk.drew ?_ | with_reducible refine Blk.far ?_ (by first | (simp; done) | (simp; omega)) _ | with_reducible refine Blk.tr ?_ (by with_reducible assumption))), (by repeat (first | with_reducible exact Below.refl _ _ | with_reducible assumption | with_reducible refine al ?_ _ | with_reducible refine Below.drew ?_ | with_reducible refine Below.setCell ?_ (by first | (simp; done) | (simp; omega)) _ | with_reducible refine tr ?_ (by with_reducible assumption)))⟩ ?_
      clear hX hS hI hb hX5 e0 e1 e2 e3 f5 hX6 hc5 hf5 hb5 hz5 w5 cS fS lS lI lX HU hcell hbw
      rintro w6 ⟨hX, hS, hI, hb⟩
      have cI := hI.cell k
      have fI := hI.frozen
      have lI := hI.lt
      rw [List.getElem?_toArray] at cI
      have cI2 : (icl k n)[k]? = some (.int .i64 0) := by simp [icl, hlt]
      rw [cI2] at cI
      have hI7 := (hI.set_ k (.int .i64 (k : Nat))).eq_ (icl_set hlt)
      go_wp2
      go_roundw
      case rel => exact ⟨k + 1, updB f k p, by omega, by go_num, fun j hj => by
        unfold updB
        split
        · rename_i h; subst h; exact HP.out.symm
        · exact HF.out j (by omega), (by repeat (first | with_reducible assumption | with_reducible exact Blk.new (by simp) rfl | with_reducible refine Blk.alloc ?_ _ | with_reducible refine Blk.drew ?_ | with_reducible refine Blk.far ?_ (by first | (simp; done) | (simp; omega)) _ | with_reducible refine Blk.tr ?_ (by with_reducible assumption))), (by repeat (first | with_reducible assumption | with_reducible exact Blk.new (by simp) rfl | with_reducible refine Blk.alloc ?_ _ | with_reducible refine Blk.drew ?_ | with_reducible refine Blk.far ?_ (by first | (simp; done) | (simp; omega)) _ | with_reducible refine Blk.tr ?_ (by with_reducible assumption))), hI7, (by repeat (first | with_reducible exact Below.refl _ _ | with_reducible assumption | with_reducible refine al ?_ _ | with_reducible refine Below.drew ?_ | with_reducible refine Below.setCell ?_ (by first | (simp; done) | (simp; omega)) _ | with_reducible refine tr ?_ (by with_reducible assumption)))⟩
      case measure => simp [intOf]; omega
    · obtain rfl : n = k := by omega
      have el : (List.range n).map f = L.map boxK := by
        apply List.ext_getElem
        · simp [hLn]
        · intro j h1 h2
          have h3 : j < L.length := by simpa using h2
          have h4 : j < n := by omega
          simp only [List.getElem_map, List.getElem_range]
          rw [hf j h4, List.getD_eq_getElem?_getD, List.getElem?_eq_getElem h3]
          rfl
      have hbx := bxsAt_bcl hX (Nat.lt_succ_self _)
      rw [el] at hbx
      rw [icl_all] at hI
      have hokL : ∀ b ∈ L.map boxK, okBx b = true ∨ b = bzero := fun b hb => by
        obtain ⟨r, hr, rfl⟩ := List.mem_map.1 hb
        exact boxK_ok (H256.out r hr)
      have HST := Lib.hid (sort_any n (w.heap.size + 1 + 1 + 1) (w.heap.size + 1 + 1) (w.heap.size + 1 + 1) n (some ⟨w.heap.size + 1, 0, none⟩) (L.map boxK) 3 wr (by omega) hn2 hbx (by omega) (hS.cell 0) (by omega) hokL hI)
      clear hlt hk HL H256 HM1 HM2 hf el hbx hokL HLN hX hS hI
      have hLn2 : (L.map boxK).length = n := by simp [hLn]
      clear hLn
      generalize L.map boxK = l at *
      obtain ⟨m2, hm2⟩ : ∃ m, n / 2 = m := ⟨_, rfl⟩
      obtain ⟨h2, hh2⟩ : ∃ m, n - m2 = m := ⟨_, rfl⟩
      have q1 : (n : Int).tdiv 2 = (m2 : Int) := by rw [← hm2]; rfl
      have q2 : (n : Int) / 2 = (m2 : Int) := by omega
      have q3 : (n : Int) - (m2 : Int) = (h2 : Int) := by omega
      have q4 : IntKind.i64.wrap (m2 : Int) = m2 := by simp [IntKind.wrap, IntKind.bits, IntKind.signed]; omega
      have q5 : IntKind.i64.wrap (h2 : Int) = h2 := by simp [IntKind.wrap, IntKind.bits, IntKind.signed]; omega
      have q6 : (0 : Int) ≤ (h2 : Int) := by omega
      have q7 : (h2 : Int) ≤ (n : Int) := by omega
      have q8 : ¬ n = h2 := by omega
      have q9 : n - h2 = m2 := by omega
      have HQ := Lib.hid hm2
      have HQ2 := Lib.hid hh2
      clear hm2 hh2
      go_wp2_with (go_at_call 39; (with_reducible refine HST.out.mono ?_); rintro e w1 ⟨rfl, d, hd1, hd2, hD, hb1⟩; clear HST)
      have hb2 : Below w.heap.size w w1 := hb.trans (hb1.mono (by omega))
      have hd3 : d.length = n := by rw [hd1.length_eq]; simp
      have hZ := hb2.size
      have hX2 : w.heap.size + 1 + 1 + 1 < w1.heap.size := hD.lt
      have HD := Lib.hid (And.intro hd1 hd2)
      clear hd1 hd2 hb1 hb q1 q2 q3 q4 q5 q6 q7
      go_loopw [53] (fun vi wr2 => ∃ k, k ≤ m2 ∧ vi = .int .i64 (k : Nat) ∧ Blk wr2 w1.heap.size 4 (ocl (fun j => decide (j ∈ (d.drop h2).take k)) n).toArray ∧ Blk wr2 (w.heap.size + 1 + 1 + 1) 3 (d.map fun j => Value.int .i64 (j : Nat)).toArray ∧ Below w.heap.size w wr2) (fun vi _ => m2 - (intOf vi).toNat)
      case atStart => exact ⟨0, by omega, rfl, by simpa using (Blk.new rfl rfl), (by repeat (first | with_reducible assumption | with_reducible exact Blk.new (by simp) rfl | with_reducible refine Blk.alloc ?_ _ | with_reducible refine Blk.drew ?_ | with_reducible refine Blk.far ?_ (by first | (simp; done) | (simp; omega)) _ | with_reducible refine Blk.tr ?_ (by with_reducible assumption))), (by repeat (first | with_reducible exact Below.refl _ _ | with_reducible assumption | with_reducible refine al ?_ _ | with_reducible refine Below.drew ?_ | with_reducible refine Below.setCell ?_ (by first | (simp; done) | (simp; omega)) _ | with_reducible refine tr ?_ (by with_reducible assumption)))⟩
      case round =>
        obtain ⟨k, hk, rfl, hO, hP, hbb⟩ := hrel
        by_cases hlt : k < m2
        · have h3 : h2 + k < d.length := by rw [hd3, ← HQ2.out]; omega
          obtain ⟨y, hy⟩ : ∃ y, d[h2 + k]? = some y := ⟨_, List.getElem?_eq_getElem h3⟩
          have hyn : y < n := by
            have := HD.out.1.mem_iff.1 (List.mem_of_getElem? hy)
            simpa using this
          have hy0 : (y : Int) < (n : Int) := by omega
          have hk0 : (k : Int) < (m2 : Int) := by omega
          have cP : wr.cell? ⟨w.heap.size + 1 + 1 + 1, h2 + k, none⟩ = some (.int .i64 (y : Nat)) := by rw [hP.cell, List.getElem?_toArray, List.getElem?_map, hy]; rfl
          have cO : wr.cell? ⟨w1.heap.size, y, none⟩ = some (.bool (decide (y ∈ (d.drop h2).take k))) := by rw [hO.cell, List.getElem?_toArray]; simp [ocl, hyn]
          have fO := hO.frozen
          have lO := hO.lt
          have hO7 := (hO.set_ y (.bool true)).eq_ (ocl_set hyn)
          have es : (fun j => decide (j ∈ (d.drop h2).take k) || decide (j = y)) = fun j => decide (j ∈ (d.drop h2).take (k + 1)) := by
            funext j
            have e2 : (d.drop h2)[k]? = some y := by rw [List.getElem?_drop]; exact hy
            rw [List.take_add_one, e2]
            simp
          rw [es] at hO7
          clear es hy hyn HV hd3 h3
          have HN : Hid (w.heap.size + 1 + 1 + 1 ≠ w1.heap.size) := by unfold Hid; omega
          go_wp2
          go_roundw
          case rel => exact ⟨k + 1, by omega, by go_num, hO7, hP.far HN.out _, hbb.setCell (by simp; omega) _⟩
          case measure => simp [intOf]; omega
        · obtain rfl : m2 = k := by omega
          have et : (d.drop h2).take m2 = d.drop h2 := List.take_of_length_le (by simp; omega)
          rw [et] at hO
          have eh : h2 = l.length - l.length / 2 := by rw [hLn2, HQ.out, HQ2.out]
          have ho := split_mem (l := l) (d := d) (by rw [hLn2]; exact HD.out.1) HD.out.2
          rw [← eh, hLn2] at ho
          rw [ho, HV.out] at hO
          go_wp2
          go_ret
          exact ⟨_, rfl, hO, hbb⟩
end Go.Proofs.Ytmaogalgganhgaa
