/-
  The contract of ring.Box at a ring that may be.
-/
import Derived.Test.YtjdgibpjlhpanaaGreatDoorRingIn
import Derived.OwnWalk
set_option linter.unusedSimpArgs false
set_option linter.unusedVariables false
namespace Go.Proofs.YtjdgibpjlhpanaaGreatDoor
open Go.RowKit Pg

def pbox (p : Pt) : Bx := ⟨p, p⟩
def bcells (l : List Bx) : List Value := l.flatMap fun b => [.int .i64 b.lo.x, .int .i64 b.lo.y, .int .i64 b.hi.x, .int .i64 b.hi.y]
theorem bcells_length (l : List Bx) : (bcells l).length = l.length * 4 := by
  induction l with
  | nil => rfl
  | cons b r ih => simp only [bcells, List.flatMap_cons, List.length_append] at ih ⊢; simp [ih]; omega
theorem bcells_at (l : List Bx) : ∀ (k : Nat) (b : Bx), l[k]? = some b → (bcells l)[k * 4]? = some (.int .i64 b.lo.x) ∧ (bcells l)[k * 4 + 1]? = some (.int .i64 b.lo.y) ∧ (bcells l)[k * 4 + 2]? = some (.int .i64 b.hi.x) ∧ (bcells l)[k * 4 + 3]? = some (.int .i64 b.hi.y) := by
  induction l with
  | nil => intro k b h; simp at h
  | cons c r ih =>
    intro k b h
    cases k with
    | zero =>
      simp at h
      subst h
      simp [bcells]
    | succ k =>
      have := ih k b (by simpa using h)
      simp only [bcells, List.flatMap_cons] at this ⊢
      rw [List.getElem?_append_right (by simp; omega), List.getElem?_append_right (by simp; omega), List.getElem?_append_right (by simp; omega), List.getElem?_append_right (by simp; omega)]
      simp only [List.length_cons, List.length_nil]
      rw [show (k + 1) * 4 - (0 + 1 + 1 + 1 + 1) = k * 4 by omega, show (k + 1) * 4 + 1 - (0 + 1 + 1 + 1 + 1) = k * 4 + 1 by omega, show (k + 1) * 4 + 2 - (0 + 1 + 1 + 1 + 1) = k * 4 + 2 by omega, show (k + 1) * 4 + 3 - (0 + 1 + 1 + 1 + 1) = k * 4 + 3 by omega]
      exact this
theorem bcells_snoc (l : List Bx) (b : Bx) : bcells (l ++ [b]) = bcells l ++ [.int .i64 b.lo.x, .int .i64 b.lo.y, .int .i64 b.hi.x, .int .i64 b.hi.y] := by
  simp [bcells]
/-- an owned row of boxes reads as boxes -/
theorem bxs_of_own {w : World} {base : Nat} {e : TypeId} {v : Value} {n : Nat} {l : List Bx} (h : w.ownsRow base e 4 v n (bcells l)) (hl : l.length = n) :
    ∃ A c, v = .slice A n c ∧ BxsAt w w.heap.size A n l := by
  obtain ⟨h1, ⟨rfl, rfl⟩ | ⟨g, cap, cur, rfl, hg, hh, hc⟩⟩ := h
  · exact ⟨none, 0, rfl, hl, fun h => absurd h (by omega)⟩
  · refine ⟨_, cap, rfl, hl, fun hn => ⟨g, 0, rfl, lt_of_block hh, fun k p hp => ?_⟩⟩
    have hown : w.ownsRow base e 4 (.slice (some ⟨g, 0, none⟩) n cap) n (bcells l) := ⟨h1, .inr ⟨g, cap, cur, rfl, hg, hh, hc⟩⟩
    have hk : k < n := by
      rw [← hl]
      rcases Nat.lt_or_ge k l.length with h | h
      · exact h
      · rw [List.getElem?_eq_none h] at hp; cases hp
    have := bcells_at l k p hp
    simp only [Nat.zero_add]
    rw [hown.cellAt (k * 4) (by omega), hown.cellAt (k * 4 + 1) (by omega), hown.cellAt (k * 4 + 2) (by omega), hown.cellAt (k * 4 + 3) (by omega)]
    exact this

theorem Tryz.infoBox : (Tryz.prog.info? 28).map (fun i => (i.zero, i.size, i.bytes)) = some (some (.agg #[.int .i64 0, .int .i64 0, .int .i64 0, .int .i64 0]), 4, 32) := by kernel_rfl
theorem ck_len {l : List Pt} (h : ckRing l = 0) : 3 ≤ l.length ∧ l.length ≤ 64 := by
  unfold ckRing at h
  split at h
  · cases h
  · omega
theorem ck_all {l : List Pt} (h : ckRing l = 0) : l.all okPt = true := by
  unfold ckRing at h
  split at h
  · cases h
  · split at h
    · assumption
    · cases h
theorem ckBox_pt {p : Pt} (h : okPt p = true) : ckBox (pbox p) = 0 := by
  have h1 : ¬ (pbox p).hi.x < (pbox p).lo.x := by simp [pbox]
  have h2 : ¬ (pbox p).hi.y < (pbox p).lo.y := by simp [pbox]
  simp [ckBox, pbox, h] at *
theorem unionGo_ok {l : List Bx} (h : ∀ b ∈ l, ckBox b = 0) : ∀ u, (unionGo u l).2 = 0 := by
  induction l with
  | nil => intro u; rfl
  | cons b r ih =>
    intro u
    rw [unionGo, if_pos (h b (by simp))]
    exact ih (fun x hx => h x (by simp [hx])) _
theorem ringBx_ok {l : List Pt} (h : ckRing l = 0) : union (l.map fun p => ⟨p, p⟩) = (ringBx l, 0) := by
  refine Prod.ext rfl ?_
  have hl := ck_len h
  cases l with
  | nil => simp at hl
  | cons p r =>
    refine unionGo_ok (l := (p :: r).map fun p => ⟨p, p⟩) (fun b hb => ?_) _
    obtain ⟨q, hq, rfl⟩ := List.mem_map.1 hb
    exact ckBox_pt (List.all_eq_true.1 (ck_all h) q hq)

set_option maxHeartbeats 1000000 in
set_option maxRecDepth 20000 in
theorem ringBox_ok (B n c : Nat) (A : Option Addr) (l : List Pt) (w : World) (hl : PtsAt w B A n l) (hB : B ≤ w.heap.size) (hck : ckRing l = 0) :
    Calls Tryz.prog 103 #[.slice A n c] w (Ret w (.tuple #[bxV (ringBx l).lo.x (ringBx l).lo.y (ringBx l).hi.x (ringBx l).hi.y, .nilIface])) := by
  have hn : n ≤ 64 := by have := ck_len hck; rw [hl.1] at this; omega
  have HC := Lib.hid hck
  clear hck
  obtain ⟨i0, hi, iz0, iz1, iz2⟩ := info_parts Tryz.infoBox
  go_enter Tryz.func103, Tryz.ntmps103
  go_wp2_with (go_at_call 78; refine (check_ok B n c A l _ (hl.tr (by repeat (first | with_reducible exact Below.refl _ _ | with_reducible assumption | with_reducible refine al ?_ _ | with_reducible refine Below.drew ?_ | with_reducible refine Below.setCell ?_ (by first | (simp; done) | (simp; omega)) _ | with_reducible refine tr ?_ (by with_reducible assumption))) hB) (Nat.le_trans hB (Below.size (B := w.heap.size) (w := w) (by repeat (first | with_reducible exact Below.refl _ _ | with_reducible assumption | with_reducible refine al ?_ _ | with_reducible refine Below.drew ?_ | with_reducible refine Below.setCell ?_ (by first | (simp; done) | (simp; omega)) _ | with_reducible refine tr ?_ (by with_reducible assumption))))) (by omega) HC.out).mono ?_; rintro e w1 ⟨rfl, hb1⟩; obtain ⟨hc1, hf1⟩ := bcell hb1; have hz1 := hb1.size; (try simp at hz1); have hy0 : w.heap.size < w1.heap.size := (by omega))
  have hP0 : Blk w1 w.heap.size 28 #[.int .i64 0, .int .i64 0, .int .i64 0, .int .i64 0] := (by repeat (first | with_reducible assumption | with_reducible exact Blk.new (by simp) rfl | with_reducible refine Blk.alloc ?_ _ | with_reducible refine Blk.drew ?_ | with_reducible refine Blk.far ?_ (by first | (simp; done) | (simp; omega)) _ | with_reducible refine Blk.tr ?_ (by with_reducible assumption)))
  have hb0 : Below w.heap.size w w1 := (by repeat (first | with_reducible exact Below.refl _ _ | with_reducible assumption | with_reducible refine al ?_ _ | with_reducible refine Below.drew ?_ | with_reducible refine Below.setCell ?_ (by first | (simp; done) | (simp; omega)) _ | with_reducible refine tr ?_ (by with_reducible assumption)))
  go_loopw [5, 16] (fun s i wr => ∃ k : Nat, k ≤ n ∧ i = .int .i64 k ∧ wr.ownsRow (w.heap.size + 1) 28 4 s k (bcells ((l.take k).map pbox)) ∧ Blk wr w.heap.size 28 #[.int .i64 0, .int .i64 0, .int .i64 0, .int .i64 0] ∧ Below w.heap.size w wr) (fun _ i _ => n - (intOf i).toNat)
  case atStart => exact ⟨0, Nat.zero_le _, rfl, World.ownsRow_nil _ _ _ _, hP0, hb0⟩
  case round =>
    obtain ⟨k, hk, rfl, hown, hP, hb⟩ := hrel
    by_cases hlt : k < n
    · obtain ⟨b, off, rfl, hab, c0, c1⟩ := (hl.below (hb.mono hB)).at_ hlt
      have hPl := hP.lt
      have hbs := hb.size
      have hbw : b < wr.heap.size := by omega
      have hk0 : (k : Int) < (n : Int) := by omega
      clear hb0 hP0
      have hkl : k < l.length := by rw [hl.1]; exact hlt
      go_wp2_with (at_builtin; go_must (refine wpList_append_own _ rfl _ _ 63 rfl (w.heap.size + 1) 28 i0 (.agg #[.int .i64 0, .int .i64 0, .int .i64 0, .int .i64 0]) 4 32 Tryz.underlying63 hi iz0 iz1 iz2 rfl (by decide) _ _ _ rfl ((hown.alloc _).alloc _) ⟨wr.heap.size + 1, 0, none⟩ 1 1 [.int .i64 (pt l k).x, .int .i64 (pt l k).y, .int .i64 (pt l k).x, .int .i64 (pt l k).y] rfl rfl ?c1 ?c2 ?c3 ?c4 ?c5 ?_))
      case c1 => 
        intro j u hj
        match j, hj with
        | 0, hj => simp at hj; subst hj; simp [Addr.add]
        | 1, hj => simp at hj; subst hj; simp [Addr.add]
        | 2, hj => simp at hj; subst hj; simp [Addr.add]
        | 3, hj => simp at hj; subst hj; simp [Addr.add]
      case c2 => intro u hu; simp only [List.mem_cons, List.not_mem_nil, or_false] at hu; rcases hu with rfl | rfl | rfl | rfl <;> rfl
      case c3 => unfold maxLen; omega
      case c4 => omega
      case c5 => simp; omega
      intro v' w2 hown' hgrow _
      have hlt' := hown.lt
      have hb2 : Below w.heap.size w w2 := Below.grown (w := (wr.alloc _).alloc _) (by repeat (first | with_reducible exact Below.refl _ _ | with_reducible assumption | with_reducible refine al ?_ _ | with_reducible refine Below.drew ?_ | with_reducible refine Below.setCell ?_ (by first | (simp; done) | (simp; omega)) _ | with_reducible refine tr ?_ (by with_reducible assumption))) hgrow (by simp; omega) (fun j e => by have := (hlt' j e).1; omega)
      have hb3 : Below (w.heap.size + 1) ((wr.alloc _).alloc _) w2 := Below.grown (w := (wr.alloc (.cells #[.int .i64 (pt l k).x, .int .i64 (pt l k).y] 26)).alloc (.cells #[.int .i64 (pt l k).x, .int .i64 (pt l k).y, .int .i64 (pt l k).x, .int .i64 (pt l k).y] 28)) (Below.refl _ _) hgrow (by simp; omega) (fun j e => (hlt' j e).1)
      have hP2 : Blk w2 w.heap.size 28 #[.int .i64 0, .int .i64 0, .int .i64 0, .int .i64 0] := ((hP.alloc _).alloc _).below hb3 (by omega)
      have hown2 : w2.ownsRow (w.heap.size + 1) 28 4 v' (k + 1) (bcells ((l.take (k + 1)).map pbox)) := by
        have : bcells ((l.take (k + 1)).map pbox) = bcells ((l.take k).map pbox) ++ [.int .i64 (pt l k).x, .int .i64 (pt l k).y, .int .i64 (pt l k).x, .int .i64 (pt l k).y] := by
          rw [List.take_add_one, pt_of hkl]
          simp only [Option.toList_some, List.map_append, List.map_cons, List.map_nil, bcells_snoc]
          rfl
        rw [this, List.map_take]
        exact hown'
      clear hown' hgrow hown hP hlt' hb3 c0 c1
      go_wp2
      go_roundw
      case rel => exact ⟨k + 1, by omega, by go_num, hown2, hP2, hb2⟩
      case measure => simp [intOf]; omega
    · have hkn : k = n := by omega
      subst hkn
      obtain ⟨A2, c2, rfl, hbx⟩ := bxs_of_own (l := (l.take k).map pbox) hown (by simp [hl.1])
      rw [List.take_of_length_le (by rw [hl.1]; exact Nat.le_refl _)] at hbx
      have hPc := hP.cell
      have hPf := hP.frozen
      have hPl := hP.lt
      have HW : Calls Tryz.prog 81 #[.slice A2 k c2] wr (Ret wr (.tuple #[bxV (ringBx l).lo.x (ringBx l).lo.y (ringBx l).hi.x (ringBx l).hi.y, .nilIface])) := by
        have := union_any wr.heap.size k c2 A2 (l.map pbox) wr hbx (Nat.le_refl _) (by unfold maxLen; omega)
        rw [show l.map pbox = l.map (fun p => ⟨p, p⟩) from rfl, ringBx_ok HC.out] at this
        exact this
      clear hb0 hP0 hb1 hc1 hf1 hy0
      go_wp2_with (go_at_call 81; refine HW.mono ?_; rintro e w1 ⟨rfl, hb1⟩; obtain ⟨hc1, hf1⟩ := bcell hb1; have hz1 := hb1.size; (try simp at hz1); have hy0 : w.heap.size < w1.heap.size := (by omega))
      have HR := (((((hP.tr hb1)).set_ 0 (.int .i64 (ringBx l).lo.x)).set_ 1 (.int .i64 (ringBx l).lo.y)).set_ 2 (.int .i64 (ringBx l).hi.x)).set_ 3 (.int .i64 (ringBx l).hi.y)
      have r0 := HR.cell 0
      have r1 := HR.cell 1
      have r2 := HR.cell 2
      have r3 := HR.cell 3
      simp at r0 r1 r2 r3
      exact bodyPost_ret (v := .tuple #[bxV (ringBx l).lo.x (ringBx l).lo.y (ringBx l).hi.x (ringBx l).hi.y, .nilIface]) (by simp [results, Tryz.results103, go_sem, r0, r1, r2, r3]) rfl ⟨rfl, (by repeat (first | with_reducible exact Below.refl _ _ | with_reducible assumption | with_reducible refine al ?_ _ | with_reducible refine Below.drew ?_ | with_reducible refine Below.setCell ?_ (by first | (simp; done) | (simp; omega)) _ | with_reducible refine tr ?_ (by with_reducible assumption)))⟩
end Go.Proofs.YtjdgibpjlhpanaaGreatDoor
