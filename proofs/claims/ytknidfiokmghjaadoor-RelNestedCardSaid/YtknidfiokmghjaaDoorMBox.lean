/-
  Contracts of package segm: MeetsBox.
-/
import Derived.Test.YtknidfiokmghjaaDoorOn
import Derived.BigRegion
set_option linter.unusedSimpArgs false
set_option linter.unusedVariables false
namespace Go.Proofs.YtknidfiokmghjaaDoor
open Go.RowKit Pg

set_option maxHeartbeats 2000000 in
theorem meetsBox_any (ax ay bx by_ lx ly hx hy : Int) (w : World) :
    Calls Tryd.prog 65 #[ptV ax ay, ptV bx by_, bxV lx ly hx hy] w (Ret w (.bool (mbox ⟨ax, ay⟩ ⟨bx, by_⟩ ⟨⟨lx, ly⟩, ⟨hx, hy⟩⟩))) := by
  cases h1 : (okPt ⟨ax, ay⟩ && okPt ⟨bx, by_⟩)
  · have H1 := Lib.hid h1
    go_enter Tryd.func65, Tryd.ntmps65
    go_wp2_with (first | (go_at_call 73; refine (smay2 ax ay bx by_ _ _ ?_).mono ?_; exact block_last (by simp); rw [h1]; rintro e w1 ⟨rfl, hb1⟩; obtain ⟨hc1, hf1⟩ := bcell hb1; have hz1 := hb1.size; (try simp at hz1); have hy0 : w.heap.size < w1.heap.size := (by omega); have hy1 : w.heap.size + 1 < w1.heap.size := (by omega); have hy2 : w.heap.size + 1 + 1 < w1.heap.size := (by omega)))
    go_ret
    exact ⟨ret_bool (by have h := H1.out; simp [mbox, h]), (by repeat (first | with_reducible exact Below.refl _ _ | with_reducible assumption | with_reducible refine al ?_ _ | with_reducible refine Below.drew ?_ | with_reducible refine Below.setCell ?_ (by first | (simp; done) | (simp; omega)) _ | with_reducible refine tr ?_ (by with_reducible assumption)))⟩
  · have H1 := Lib.hid h1
    by_cases hk : ckBox ⟨⟨lx, ly⟩, ⟨hx, hy⟩⟩ = 0
    · have HE := Lib.hid (errV_zero hk)
      have HK : Hid (okBx ⟨⟨lx, ly⟩, ⟨hx, hy⟩⟩ = true) := by simp [Hid, okBx, hk]
      clear hk
      go_enter Tryd.func65, Tryd.ntmps65
      go_wp2_with (first | (go_at_call 73; refine (smay2 ax ay bx by_ _ _ ?_).mono ?_; exact block_last (by simp); rw [h1]; rintro e w1 ⟨rfl, hb1⟩; obtain ⟨hc1, hf1⟩ := bcell hb1; have hz1 := hb1.size; (try simp at hz1); have hy0 : w.heap.size < w1.heap.size := (by omega); have hy1 : w.heap.size + 1 < w1.heap.size := (by omega); have hy2 : w.heap.size + 1 + 1 < w1.heap.size := (by omega)) | (go_at_call 43; refine (checkBox_any _ _ _ _ _).mono ?_; rw [HE.out]; rintro e w1 ⟨rfl, hb1⟩; obtain ⟨hc1, hf1⟩ := bcell hb1; have hz1 := hb1.size; (try simp at hz1); have hy0 : w.heap.size < w1.heap.size := (by omega); have hy1 : w.heap.size + 1 < w1.heap.size := (by omega); have hy2 : w.heap.size + 1 + 1 < w1.heap.size := (by omega)) | (go_at_call 52; refine (has_any _ _ _ _ _ _ _).mono ?_; rintro e w1 ⟨rfl, hb1⟩; obtain ⟨hc1, hf1⟩ := bcell hb1; have hz1 := hb1.size; (try simp at hz1); have hy0 : w.heap.size < w1.heap.size := (by omega); have hx01 : w.heap.size < w1.heap.size + 1 + 1 := (by omega); have hy1 : w.heap.size + 1 < w1.heap.size := (by omega); have hx11 : w.heap.size + 1 < w1.heap.size + 1 + 1 := (by omega); have hy2 : w.heap.size + 1 + 1 < w1.heap.size := (by omega); have hx21 : w.heap.size + 1 + 1 < w1.heap.size + 1 + 1 := (by omega)))
      · go_ret
        exact ⟨ret_bool (by have h := HK.out; have g := H1.out; simp only [mbox, h, g]; simp [*]), (by repeat (first | with_reducible exact Below.refl _ _ | with_reducible assumption | with_reducible refine al ?_ _ | with_reducible refine Below.drew ?_ | with_reducible refine Below.setCell ?_ (by first | (simp; done) | (simp; omega)) _ | with_reducible refine tr ?_ (by with_reducible assumption)))⟩
      · go_ret
        exact ⟨ret_bool (by have h := HK.out; have g := H1.out; simp only [mbox, h, g]; simp [*]), (by repeat (first | with_reducible exact Below.refl _ _ | with_reducible assumption | with_reducible refine al ?_ _ | with_reducible refine Below.drew ?_ | with_reducible refine Below.setCell ?_ (by first | (simp; done) | (simp; omega)) _ | with_reducible refine tr ?_ (by with_reducible assumption)))⟩
      · go_region
        all_goals go_wp2_with (first | (go_at_call 67; refine (meet_any _ _ _ _ _ _ _ _ _).mono ?_; rintro e w1 ⟨rfl, hb1⟩; obtain ⟨hc1, hf1⟩ := bcell hb1; have hz1 := hb1.size; (try simp at hz1); have hy0 : w.heap.size < w1.heap.size := (by omega); have hy1 : w.heap.size + 1 < w1.heap.size := (by omega); have hy2 : w.heap.size + 1 + 1 < w1.heap.size := (by omega); have hy3 : w.heap.size + 1 + 1 + 1 < w1.heap.size := (by omega); have hy4 : w.heap.size + 1 + 1 + 1 + 1 < w1.heap.size := (by omega)))
        all_goals go_ret
        all_goals exact ⟨ret_bool (by have h := HK.out; have g := H1.out; simp only [mbox, h, g]; simp [*]), (by repeat (first | with_reducible exact Below.refl _ _ | with_reducible assumption | with_reducible refine al ?_ _ | with_reducible refine Below.drew ?_ | with_reducible refine Below.setCell ?_ (by first | (simp; done) | (simp; omega)) _ | with_reducible refine tr ?_ (by with_reducible assumption)))⟩
    · have HE := Lib.hid (errV_pos hk)
      have HK : Hid (okBx ⟨⟨lx, ly⟩, ⟨hx, hy⟩⟩ = false) := by simp [Hid, okBx, hk]
      clear hk
      go_enter Tryd.func65, Tryd.ntmps65
      go_wp2_with (first | (go_at_call 73; refine (smay2 ax ay bx by_ _ _ ?_).mono ?_; exact block_last (by simp); rw [h1]; rintro e w1 ⟨rfl, hb1⟩; obtain ⟨hc1, hf1⟩ := bcell hb1; have hz1 := hb1.size; (try simp at hz1); have hy0 : w.heap.size < w1.heap.size := (by omega); have hy1 : w.heap.size + 1 < w1.heap.size := (by omega); have hy2 : w.heap.size + 1 + 1 < w1.heap.size := (by omega)) | (go_at_call 43; refine (checkBox_any _ _ _ _ _).mono ?_; rw [HE.out]; rintro e w1 ⟨rfl, hb1⟩; obtain ⟨hc1, hf1⟩ := bcell hb1; have hz1 := hb1.size; (try simp at hz1); have hy0 : w.heap.size < w1.heap.size := (by omega); have hy1 : w.heap.size + 1 < w1.heap.size := (by omega); have hy2 : w.heap.size + 1 + 1 < w1.heap.size := (by omega)))
      all_goals go_ret
      all_goals exact ⟨ret_bool (by have h := HK.out; simp [mbox, h]), (by repeat (first | with_reducible exact Below.refl _ _ | with_reducible assumption | with_reducible refine al ?_ _ | with_reducible refine Below.drew ?_ | with_reducible refine Below.setCell ?_ (by first | (simp; done) | (simp; omega)) _ | with_reducible refine tr ?_ (by with_reducible assumption)))⟩
end Go.Proofs.YtknidfiokmghjaaDoor
