/-
  The contract of plane.Union.
  Contracts of package segm: may, span, On, Proper, Meet.
-/
import Derived.Test.YtkfbkfcmdfpfjaaGreatDoorQPlane
namespace Go.Proofs.YtkfbkfcmdfpfjaaGreatDoor
open Go.RowKit Pg

theorem drop_bx {l : List Bx} {k : Nat} (h : k < l.length) : l.drop k = bx l k :: l.drop (k + 1) := by
  have := bx_of h
  rw [List.drop_eq_getElem_cons h]
  rw [List.getElem?_eq_getElem h] at this
  injection this with this
  rw [this]
def bxs (b : Bx) : Array Value := #[.int .i64 b.lo.x, .int .i64 b.lo.y, .int .i64 b.hi.x, .int .i64 b.hi.y]

theorem min_if (a b : Int) : (if b < a then b else a) = min a b := by omega
theorem max_if (a b : Int) : (if a < b then b else a) = max a b := by omega

set_option maxHeartbeats 400000 in
theorem union_any (B n c : Nat) (A : Option Addr) (l : List Bx) (w : World) (hl : BxsAt w B A n l) (hB : B ≤ w.heap.size) (hn : n ≤ maxLen) :
    Calls Tryz.prog 168 #[.slice A n c] w (Ret w (.tuple #[bxV (union l).1.lo.x (union l).1.lo.y (union l).1.hi.x (union l).1.hi.y, errV (union l).2])) := by
  unfold maxLen at hn
  rcases Nat.eq_zero_or_pos n with h0 | h0
  · have hnil : l = [] := List.eq_nil_of_length_eq_zero (hl.1.trans h0)
    subst h0 hnil
    go_enter Tryz.func168, Tryz.ntmps168
    go_wp2
    exact bodyPost_ret (v := .tuple #[.agg #[.int .i64 0, .int .i64 0, .int .i64 0, .int .i64 0], .iface 68 (.int .i64 1)]) (by simp [results, Tryz.results168, go_sem]) rfl ⟨rfl, bel⟩
  · obtain ⟨b, off, rfl, hab, c0, c1, c2, c3⟩ := hl.at_ h0
    have hn0 : ((n : Int) == 0) = false := by rw [beq_eq_false_iff_ne]; omega
    have HU : Hid (union l = unionGo (bx l 0) (l.drop 0)) := by
      unfold Hid
      rw [List.drop_zero]
      cases l with
      | nil => have := hl.1; simp at this; omega
      | cons b r => rfl
    simp only [Nat.zero_mul, Nat.add_zero] at c0 c1 c2 c3
    have hbw : b < w.heap.size := by omega
    go_enter Tryz.func168, Tryz.ntmps168
    go_wp2
    go_loopw [18] (fun i wr => ∃ (k : Nat) (u : Bx), k ≤ n ∧ i = .int .i64 k ∧ unionGo u (l.drop k) = union l ∧ Blk wr w.heap.size 60 #[.int .i64 0, .int .i64 0, .int .i64 0, .int .i64 0] ∧ Blk wr (w.heap.size + 1) 60 (bxs u) ∧ Below w.heap.size w wr) (fun i _ => n - (intOf i).toNat)
    case atStart => exact ⟨0, bx l 0, by omega, rfl, HU.out.symm, (Blk.new rfl rfl).alloc _, Blk.new (by simp) rfl, bel⟩
    case round =>
      obtain ⟨k, u, hk, rfl, hU, hb0, hb1, hb⟩ := hrel
      have HU' := Lib.hid hU
      clear hU
      have z0 := hb0.cell 0
      have z1 := hb0.cell 1
      have z2 := hb0.cell 2
      have z3 := hb0.cell 3
      have f0 := hb0.frozen
      have u0 := hb1.cell 0
      have u1 := hb1.cell 1
      have u2 := hb1.cell 2
      have u3 := hb1.cell 3
      have f1 := hb1.frozen
      have HB0 := Lib.hid hb0
      have HB1 := Lib.hid hb1
      have hl1 := hb1.lt
      have hl0 := hb0.lt
      clear hb0 hb1
      simp [bxs] at z0 z1 z2 z3 u0 u1 u2 u3
      by_cases hlt : k < n
      · obtain ⟨b', off', ho, hab', c0, c1, c2, c3⟩ := (hl.below (hb.mono hB)).at_ hlt
        injection ho with ho
        injection ho with ho1 ho2
        subst ho1 ho2
        rcases Nat.eq_zero_or_pos (ckBox (bx l k)) with hz | hz
        · have HE := Lib.hid (errV_zero hz)
          have Hz := Lib.hid hz
          clear hz
          go_wp2_with (go_at_call 99; refine (checkBox_any _ _ _ _ _).mono ?_; rw [HE.out]; rintro e w1 ⟨rfl, hb1⟩; obtain ⟨hc1, hf1⟩ := bcell hb1; have hz1 := hb1.size; (try simp at hz1); have hy0 : w.heap.size < w1.heap.size := (by omega); have hy1 : w.heap.size + 1 < w1.heap.size := (by omega))
          go_roundw
          case rel =>
            refine ⟨k + 1, bjoin u (bx l k), by omega, by go_num, ?_, ?_, ?_, bel⟩
            · have h := HU'.out
              rw [drop_bx (by rw [hl.1]; exact hlt), unionGo, if_pos Hz.out] at h
              exact h
            · exact ((((((HB0.out.alloc _).below hb1 (by simp; omega)).far (by simp) _).far (by simp) _).far (by simp) _).far (by simp) _)
            · refine ((((((HB1.out.alloc _).below hb1 (by simp; omega)).set_ 0 _).set_ 1 _).set_ 2 _).set_ 3 _).eq_ ?_
              simp [bxs, bjoin, min_if, max_if]
          case measure => simp [intOf]; omega
        · have HE := Lib.hid (errV_pos (k := ckBox (bx l k)) (by omega))
          have Hz : Hid (ckBox (bx l k) ≠ 0) := by unfold Hid; omega
          clear hz
          go_wp2_with (go_at_call 99; refine (checkBox_any _ _ _ _ _).mono ?_; rw [HE.out]; rintro e w1 ⟨rfl, hb1⟩; obtain ⟨hc1, hf1⟩ := bcell hb1; have hz1 := hb1.size; (try simp at hz1); have hy0 : w.heap.size < w1.heap.size := (by omega); have hy1 : w.heap.size + 1 < w1.heap.size := (by omega))
          have HF : union l = (bzero, ckBox (bx l k)) := by
            have h := HU'.out
            rw [drop_bx (by rw [hl.1]; exact hlt), unionGo, if_neg Hz.out] at h
            exact h.symm
          have HR := (((((HB0.out.alloc _).below hb1 (by simp; omega)).set_ 0 (.int .i64 0)).set_ 1 (.int .i64 0)).set_ 2 (.int .i64 0)).set_ 3 (.int .i64 0)
          have r0 := HR.cell 0
          have r1 := HR.cell 1
          have r2 := HR.cell 2
          have r3 := HR.cell 3
          simp at r0 r1 r2 r3
          refine bodyPost_ret (v := .tuple #[.agg #[.int .i64 0, .int .i64 0, .int .i64 0, .int .i64 0], .iface 68 (.int .i64 (ckBox (bx l k)))]) (by simp [results, Tryz.results168, go_sem, r0, r1, r2, r3]) rfl ⟨by rw [HF, ← HE.out]; rfl, bel⟩
      · have HF : Hid (union l = (u, 0)) := by
          have h := HU'.out
          rw [List.drop_of_length_le (by rw [hl.1]; omega)] at h
          exact h.symm
        go_wp2
        refine bodyPost_ret (v := .tuple #[.agg #[.int .i64 u.lo.x, .int .i64 u.lo.y, .int .i64 u.hi.x, .int .i64 u.hi.y], .nilIface]) (by simp [results, Tryz.results168, go_sem, z0, z1, z2, z3]) rfl ⟨by rw [HF.out]; rfl, bel⟩
end Go.Proofs.YtkfbkfcmdfpfjaaGreatDoor
set_option linter.unusedSimpArgs false
set_option linter.unusedVariables false
namespace Go.Proofs.YtkfbkfcmdfpfjaaGreatDoor
open Go.RowKit Pg

set_option maxHeartbeats 400000 in
theorem smay_any (B n c : Nat) (A : Option Addr) (l : List Pt) (w : World) (hl : PtsAt w B A n l) (hB : B ≤ w.heap.size) (hn : n ≤ maxLen) :
    Calls Tryz.prog 119 #[.slice A n c] w (Ret w (.bool (l.all okPt))) := by
  unfold maxLen at hn
  go_enter Tryz.func119, Tryz.ntmps119
  go_wp2
  go_loopw [7] (fun i wr => ∃ k : Nat, k ≤ n ∧ i = .int .i64 k ∧ (l.take k).all okPt = true ∧ Below w.heap.size w wr) (fun i _ => n - (intOf i).toNat)
  case atStart => exact ⟨0, Nat.zero_le _, rfl, by simp, Below.refl _ _⟩
  case round =>
    obtain ⟨k, hk, rfl, hall, hb⟩ := hrel
    by_cases hlt : k < n
    · obtain ⟨b, off, rfl, hab, c0, c1⟩ := (hl.below (hb.mono hB)).at_ hlt
      have Hp := Lib.hid (all_take_succ okPt l k _ (pt_of (by rw [hl.1]; exact hlt)))
      have Hf := Lib.hid (all_false_of okPt l k _ (pt_of (by rw [hl.1]; exact hlt)))
      have Ha := Lib.hid hall
      clear hall
      cases hx : okPt (pt l k)
      case true =>
        have HE : Hid (errV (if okPt ⟨(pt l k).x, (pt l k).y⟩ = true then 0 else 2) = .nilIface) := by unfold Hid; rw [show (⟨(pt l k).x, (pt l k).y⟩ : Pt) = pt l k from rfl, hx]; rfl
        have Hx := Lib.hid hx
        clear hx
        go_wp2_with (go_at_call 28; refine (checkPoint_any _ _ _).mono ?_; rw [HE.out]; rintro e w1 ⟨rfl, hb1⟩; obtain ⟨hc1, hf1⟩ := bcell hb1; have hz1 := hb1.size; (try simp at hz1))
        go_roundw
        case rel => exact ⟨k + 1, by omega, by go_num, by rw [Hp.out, Ha.out, Hx.out]; rfl, bel⟩
        case measure => simp [intOf]; omega
      case false =>
        have HE : Hid (errV (if okPt ⟨(pt l k).x, (pt l k).y⟩ = true then 0 else 2) = .iface 68 (.int .i64 2)) := by unfold Hid; rw [show (⟨(pt l k).x, (pt l k).y⟩ : Pt) = pt l k from rfl, hx]; rfl
        have Hx := Lib.hid hx
        clear hx
        go_wp2_with (go_at_call 28; refine (checkPoint_any _ _ _).mono ?_; rw [HE.out]; rintro e w1 ⟨rfl, hb1⟩; obtain ⟨hc1, hf1⟩ := bcell hb1; have hz1 := hb1.size; (try simp at hz1))
        go_ret
        exact ⟨ret_bool (Hf.out Hx.out).symm, bel⟩
    · have hkn : l.length ≤ k := by rw [hl.1]; omega
      rw [List.take_of_length_le hkn] at hall
      have Ha := Lib.hid hall
      clear hall
      go_wp2
      go_ret
      exact ⟨ret_bool Ha.out.symm, hb⟩

theorem smay3 (ax ay bx by_ cx cy : Int) (g : Nat) (w : World) (hg : w.heap[g]? = some (.cells #[.int .i64 ax, .int .i64 ay, .int .i64 bx, .int .i64 by_, .int .i64 cx, .int .i64 cy] 38 (0, 0))) :
    Calls Tryz.prog 119 #[.slice (some ⟨g, 0, none⟩) 3 3] w (Ret w (.bool (okPt ⟨ax, ay⟩ && okPt ⟨bx, by_⟩ && okPt ⟨cx, cy⟩))) := by
  have h := smay_any w.heap.size 3 3 _ [⟨ax, ay⟩, ⟨bx, by_⟩, ⟨cx, cy⟩] w (ptsAt_block [⟨ax, ay⟩, ⟨bx, by_⟩, ⟨cx, cy⟩] hg (lt_of_block hg) rfl (by intro k hk; match k, hk with | 0, _ => exact ⟨rfl, rfl⟩ | 1, _ => exact ⟨rfl, rfl⟩ | 2, _ => exact ⟨rfl, rfl⟩)) (Nat.le_refl _) (by decide)
  simpa [Bool.and_assoc] using h
theorem smay4 (ax ay bx by_ cx cy dx dy : Int) (g : Nat) (w : World) (hg : w.heap[g]? = some (.cells #[.int .i64 ax, .int .i64 ay, .int .i64 bx, .int .i64 by_, .int .i64 cx, .int .i64 cy, .int .i64 dx, .int .i64 dy] 38 (0, 0))) :
    Calls Tryz.prog 119 #[.slice (some ⟨g, 0, none⟩) 4 4] w (Ret w (.bool (okPt ⟨ax, ay⟩ && okPt ⟨bx, by_⟩ && okPt ⟨cx, cy⟩ && okPt ⟨dx, dy⟩))) := by
  have h := smay_any w.heap.size 4 4 _ [⟨ax, ay⟩, ⟨bx, by_⟩, ⟨cx, cy⟩, ⟨dx, dy⟩] w (ptsAt_block [⟨ax, ay⟩, ⟨bx, by_⟩, ⟨cx, cy⟩, ⟨dx, dy⟩] hg (lt_of_block hg) rfl (by intro k hk; match k, hk with | 0, _ => exact ⟨rfl, rfl⟩ | 1, _ => exact ⟨rfl, rfl⟩ | 2, _ => exact ⟨rfl, rfl⟩ | 3, _ => exact ⟨rfl, rfl⟩)) (Nat.le_refl _) (by decide)
  simpa [Bool.and_assoc] using h

set_option maxHeartbeats 400000 in
theorem span_any (ax ay bx by_ : Int) (w : World) :
    Calls Tryz.prog 170 #[ptV ax ay, ptV bx by_] w (Ret w (bxV (min ax bx) (min ay by_) (max ax bx) (max ay by_))) := by
  go_enter Tryz.func170, Tryz.ntmps170
  go_wp2
  all_goals exact bodyPost_ret (v := bxV (min ax bx) (min ay by_) (max ax bx) (max ay by_)) (by simp [results, Tryz.results170, go_sem]; omega) rfl ⟨rfl, bel⟩

end Go.Proofs.YtkfbkfcmdfpfjaaGreatDoor
