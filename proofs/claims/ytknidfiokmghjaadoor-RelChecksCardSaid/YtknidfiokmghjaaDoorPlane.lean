/-
  Contracts of package plane, in whatever world: what each call returns, and that it only makes new memory.
-/
import Derived.Test.YtknidfiokmghjaaDoorRows
import Derived.Test.YtknidfiokmghjaaDoorWords
import Derived.WalkKit
import Derived.WalkSpells
import Derived.WalkLawsBesides
namespace Go.Proofs.YtknidfiokmghjaaDoor
open Go.RowKit Pg

set_option maxHeartbeats 400000 in
theorem far_any (n : Int) (w : World) :
    Calls Tryd.prog 69 #[.int .i64 n] w fun e w' => e = .returned (.bool (farB n)) ∧ w = w' := by
  by_cases h : n < -1073741823
  all_goals
    go_enter Tryd.func69, Tryd.ntmps69
    go_wp2
    go_ret
    exact ⟨by simp [farB]; omega, rfl⟩

set_option maxHeartbeats 400000 in
theorem may_any (B n c : Nat) (A : Option Addr) (l : List Pt) (w : World) (hl : PtsAt w B A n l) (hB : B ≤ w.heap.size) (hn : n ≤ maxLen) :
    Calls Tryd.prog 58 #[.slice A n c] w (Ret w (.bool (l.all okPt))) := by
  unfold maxLen at hn
  go_enter Tryd.func58, Tryd.ntmps58
  go_wp2
  go_loopw [7] (fun i wr => ∃ k : Nat, k ≤ n ∧ i = .int .i64 k ∧ (l.take k).all okPt = true ∧ Below w.heap.size w wr) (fun i _ => n - (intOf i).toNat)
  case atStart => exact ⟨0, Nat.zero_le _, rfl, by simp, Below.refl _ _⟩
  case round =>
    obtain ⟨k, hk, rfl, hall, hb⟩ := hrel
    by_cases hlt : k < n
    · obtain ⟨b, off, rfl, hab, c0, c1⟩ := (hl.below (hb.mono hB)).at_ hlt
      have Hp := Lib.hid (all_take_succ okPt l k _ (pt_of (by rw [hl.1]; exact hlt)))
      have Hf := Lib.hid (all_false_of okPt l k _ (pt_of (by rw [hl.1]; exact hlt)))
      have Ha := Lib.hid hall
      clear hall
      cases hx : farB (pt l k).x <;> cases hy : farB (pt l k).y
      case false.false =>
        have Hxy : Hid (okPt (pt l k) = true) := by simp [Hid, okPt, hx, hy]
        go_wp2_with (go_at_call 69; refine (far_any _ _).mono ?_; rintro e w' ⟨rfl, rfl⟩)
        go_roundw
        case rel => exact ⟨k + 1, by omega, by go_num, by rw [Hp.out, Ha.out, Hxy.out]; rfl, hb.alloc hb.size _⟩
        case measure => simp [intOf]; omega
      all_goals
        have Hxy : Hid (okPt (pt l k) = false) := by simp [Hid, okPt, hx, hy]
        go_wp2_with (go_at_call 69; refine (far_any _ _).mono ?_; rintro e w' ⟨rfl, rfl⟩)
        go_ret
        exact ⟨ret_bool (Hf.out Hxy.out).symm, hb.alloc hb.size _⟩
    · have hkn : l.length ≤ k := by rw [hl.1]; omega
      rw [List.take_of_length_le hkn] at hall
      have Ha := Lib.hid hall
      clear hall
      go_wp2
      go_ret
      exact ⟨ret_bool Ha.out.symm, hb⟩

theorem may1 (ax ay : Int) (g : Nat) (w : World) (hg : w.heap[g]? = some (.cells #[.int .i64 ax, .int .i64 ay] 26 (0, 0))) :
    Calls Tryd.prog 58 #[.slice (some ⟨g, 0, none⟩) 1 1] w (Ret w (.bool (okPt ⟨ax, ay⟩))) := by
  have h := may_any w.heap.size 1 1 _ [⟨ax, ay⟩] w (ptsAt_block [⟨ax, ay⟩] hg (by rcases Nat.lt_or_ge g w.heap.size with h | h; exact h; rw [Array.getElem?_eq_none h] at hg; cases hg) rfl (by intro k hk; match k, hk with | 0, _ => exact ⟨rfl, rfl⟩)) (Nat.le_refl _) (by decide)
  simpa using h
theorem may2 (ax ay bx by_ : Int) (g : Nat) (w : World) (hg : w.heap[g]? = some (.cells #[.int .i64 ax, .int .i64 ay, .int .i64 bx, .int .i64 by_] 26 (0, 0))) :
    Calls Tryd.prog 58 #[.slice (some ⟨g, 0, none⟩) 2 2] w (Ret w (.bool (okPt ⟨ax, ay⟩ && okPt ⟨bx, by_⟩))) := by
  have h := may_any w.heap.size 2 2 _ [⟨ax, ay⟩, ⟨bx, by_⟩] w (ptsAt_block [⟨ax, ay⟩, ⟨bx, by_⟩] hg (by rcases Nat.lt_or_ge g w.heap.size with h | h; exact h; rw [Array.getElem?_eq_none h] at hg; cases hg) rfl (by intro k hk; match k, hk with | 0, _ => exact ⟨rfl, rfl⟩ | 1, _ => exact ⟨rfl, rfl⟩)) (Nat.le_refl _) (by decide)
  simpa using h
theorem may3 (ax ay bx by_ cx cy : Int) (g : Nat) (w : World) (hg : w.heap[g]? = some (.cells #[.int .i64 ax, .int .i64 ay, .int .i64 bx, .int .i64 by_, .int .i64 cx, .int .i64 cy] 26 (0, 0))) :
    Calls Tryd.prog 58 #[.slice (some ⟨g, 0, none⟩) 3 3] w (Ret w (.bool (okPt ⟨ax, ay⟩ && okPt ⟨bx, by_⟩ && okPt ⟨cx, cy⟩))) := by
  have h := may_any w.heap.size 3 3 _ [⟨ax, ay⟩, ⟨bx, by_⟩, ⟨cx, cy⟩] w (ptsAt_block [⟨ax, ay⟩, ⟨bx, by_⟩, ⟨cx, cy⟩] hg (by rcases Nat.lt_or_ge g w.heap.size with h | h; exact h; rw [Array.getElem?_eq_none h] at hg; cases hg) rfl (by intro k hk; match k, hk with | 0, _ => exact ⟨rfl, rfl⟩ | 1, _ => exact ⟨rfl, rfl⟩ | 2, _ => exact ⟨rfl, rfl⟩)) (Nat.le_refl _) (by decide)
  simpa [Bool.and_assoc] using h

end Go.Proofs.YtknidfiokmghjaaDoor
