/-
  Contracts of package plane, more.
-/
import Derived.Test.YtknidfiokmghjaaDoorPlane
namespace Go.Proofs.YtknidfiokmghjaaDoor
open Go.RowKit Pg

/-- the number of an error as Go's value: 0: nil -/
def errV (k : Nat) : Value := match k with | 0 => .nilIface | k + 1 => .iface 66 (.int .i64 ((k + 1 : Nat) : Int))

set_option maxHeartbeats 400000 in
theorem checkPoint_any (x y : Int) (w : World) :
    Calls Tryd.prog 45 #[ptV x y] w (Ret w (errV (if okPt ⟨x, y⟩ then 0 else 2))) := by
  cases h : okPt ⟨x, y⟩
  all_goals
    go_enter Tryd.func45, Tryd.ntmps45
    go_wp2_with (go_at_call 58; refine (may1 x y _ _ ?_).mono ?_; exact block_last (by simp); rintro e w1 ⟨rfl, hb1⟩; obtain ⟨hc1, hf1⟩ := bcell hb1; have hz1 := hb1.size; (try simp at hz1))
    go_ret
    exact ⟨rfl, (by repeat (first | with_reducible exact Below.refl _ _ | with_reducible assumption | with_reducible refine al ?_ _ | with_reducible refine Below.drew ?_ | with_reducible refine Below.setCell ?_ (by first | (simp; done) | (simp; omega)) _ | with_reducible refine tr ?_ (by with_reducible assumption)))⟩

theorem okBx_iff (b : Bx) : okBx b = true ↔ ckBox b = 0 := by simp [okBx]

set_option maxHeartbeats 400000 in
theorem checkBox_any (a b c d : Int) (w : World) :
    Calls Tryd.prog 43 #[bxV a b c d] w (Ret w (errV (ckBox ⟨⟨a, b⟩, ⟨c, d⟩⟩))) := by
  cases h : (okPt ⟨a, b⟩ && okPt ⟨c, d⟩)
  · have H : Hid (ckBox ⟨⟨a, b⟩, ⟨c, d⟩⟩ = 2) := by simp [Hid, ckBox, h]
    go_enter Tryd.func43, Tryd.ntmps43
    go_wp2_with (go_at_call 58; refine (may2 a b c d _ _ ?_).mono ?_; exact block_last (by simp); rintro e w1 ⟨rfl, hb1⟩; obtain ⟨hc1, hf1⟩ := bcell hb1; have hz1 := hb1.size; (try simp at hz1))
    go_ret
    exact ⟨by rw [H.out]; rfl, (by repeat (first | with_reducible exact Below.refl _ _ | with_reducible assumption | with_reducible refine al ?_ _ | with_reducible refine Below.drew ?_ | with_reducible refine Below.setCell ?_ (by first | (simp; done) | (simp; omega)) _ | with_reducible refine tr ?_ (by with_reducible assumption)))⟩
  · by_cases h1 : c < a
    · have H : Hid (ckBox ⟨⟨a, b⟩, ⟨c, d⟩⟩ = 1) := by simp [Hid, ckBox, h, h1]
      go_enter Tryd.func43, Tryd.ntmps43
      go_wp2_with (go_at_call 58; refine (may2 a b c d _ _ ?_).mono ?_; exact block_last (by simp); rintro e w1 ⟨rfl, hb1⟩; obtain ⟨hc1, hf1⟩ := bcell hb1; have hz1 := hb1.size; (try simp at hz1))
      go_ret
      exact ⟨by rw [H.out]; rfl, (by repeat (first | with_reducible exact Below.refl _ _ | with_reducible assumption | with_reducible refine al ?_ _ | with_reducible refine Below.drew ?_ | with_reducible refine Below.setCell ?_ (by first | (simp; done) | (simp; omega)) _ | with_reducible refine tr ?_ (by with_reducible assumption)))⟩
    · by_cases h2 : d < b
      · have H : Hid (ckBox ⟨⟨a, b⟩, ⟨c, d⟩⟩ = 1) := by simp [Hid, ckBox, h, h2]
        go_enter Tryd.func43, Tryd.ntmps43
        go_wp2_with (go_at_call 58; refine (may2 a b c d _ _ ?_).mono ?_; exact block_last (by simp); rintro e w1 ⟨rfl, hb1⟩; obtain ⟨hc1, hf1⟩ := bcell hb1; have hz1 := hb1.size; (try simp at hz1))
        go_ret
        exact ⟨by rw [H.out]; rfl, (by repeat (first | with_reducible exact Below.refl _ _ | with_reducible assumption | with_reducible refine al ?_ _ | with_reducible refine Below.drew ?_ | with_reducible refine Below.setCell ?_ (by first | (simp; done) | (simp; omega)) _ | with_reducible refine tr ?_ (by with_reducible assumption)))⟩
      · have H : Hid (ckBox ⟨⟨a, b⟩, ⟨c, d⟩⟩ = 0) := by simp [Hid, ckBox, h, h1, h2]
        go_enter Tryd.func43, Tryd.ntmps43
        go_wp2_with (go_at_call 58; refine (may2 a b c d _ _ ?_).mono ?_; exact block_last (by simp); rintro e w1 ⟨rfl, hb1⟩; obtain ⟨hc1, hf1⟩ := bcell hb1; have hz1 := hb1.size; (try simp at hz1))
        go_ret
        exact ⟨by rw [H.out]; rfl, (by repeat (first | with_reducible exact Below.refl _ _ | with_reducible assumption | with_reducible refine al ?_ _ | with_reducible refine Below.drew ?_ | with_reducible refine Below.setCell ?_ (by first | (simp; done) | (simp; omega)) _ | with_reducible refine tr ?_ (by with_reducible assumption)))⟩
end Go.Proofs.YtknidfiokmghjaaDoor
