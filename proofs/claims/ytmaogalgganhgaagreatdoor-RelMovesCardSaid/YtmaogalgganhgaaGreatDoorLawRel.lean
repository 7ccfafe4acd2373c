/-
  What the statements of chapter 6 share: awake, small.
-/
import Derived.Test.YtmaogalgganhgaaGreatDoorAlike
import Derived.Test.YtmaogalgganhgaaGreatDoorRel5
import Derived.Test.YtmaogalgganhgaaGreatDoorPlain7
set_option linter.unusedSimpArgs false
set_option linter.unusedVariables false
namespace Go.Proofs.YtmaogalgganhgaaGreatDoor
open Go.RowKit Pg

theorem ptsNil {w : World} {B : Nat} : PtsAt w B none 0 [] := ⟨rfl, fun h => absurd h (by omega)⟩
theorem pts3 {w : World} {g : Nat} {p q r : Pt} {t : TypeId} (h : Blk w g t #[.int .i64 p.x, .int .i64 p.y, .int .i64 q.x, .int .i64 q.y, .int .i64 r.x, .int .i64 r.y]) : PtsAt w w.heap.size (some ⟨g, 0, none⟩) 3 [p, q, r] :=
  ⟨rfl, fun _ => ⟨g, 0, rfl, h.lt, fun k s hs => by
    match k, hs with
    | 0, hs =>
      simp at hs
      subst hs
      exact ⟨by rw [h.cell]; rfl, by rw [h.cell]; rfl⟩
    | 1, hs =>
      simp at hs
      subst hs
      exact ⟨by rw [h.cell]; rfl, by rw [h.cell]; rfl⟩
    | 2, hs =>
      simp at hs
      subst hs
      exact ⟨by rw [h.cell]; rfl, by rw [h.cell]; rfl⟩⟩⟩
def tri : List Pt := [⟨0, 0⟩, ⟨4, 0⟩, ⟨0, 4⟩]
theorem ErrW.zero {w : World} {v : Value} {s : ByteArray} {id : Int} (h : ErrW w v 0 s id) : v = .nilIface := by
  rcases h with ⟨_, h⟩ | ⟨h, _⟩
  · exact h
  · exact absurd rfl h
theorem tri_ck : ckOb ⟨4, tri⟩ = 0 := by decide +kernel
theorem tri_match : matchS ⟨4, tri⟩ ⟨3, ⟨⟨1, 1⟩, ⟨0, 0⟩⟩, []⟩ = true := by decide +kernel
theorem nine_ck : ckOb ⟨9, []⟩ = 5 := by decide +kernel

set_option maxHeartbeats 1000000 in
set_option maxRecDepth 20000 in
theorem awake_true (w : World) (hT : ErrT w) : Calls Tryz.prog 11 #[] w (Ret w (.bool true)) := by
  have HT := Lib.hid hT
  have TM := Lib.hid tri_match
  have TC := Lib.hid tri_ck
  have NC := Lib.hid nine_ck
  clear hT
  go_enter Tryz.func11, Tryz.ntmps11
  go_wp2_with (first
    | (go_at_call 14; refine (match_any _ 3 3 0 0 4 3 ⟨⟨1, 1⟩, ⟨0, 0⟩⟩ _ none tri [] _ (pts3 (g := w.heap.size) (t := 26) (p := ⟨0, 0⟩) (q := ⟨4, 0⟩) (r := ⟨0, 4⟩) (by repeat (first | with_reducible assumption | with_reducible exact Blk.new (by simp) rfl | with_reducible refine Blk.alloc ?_ _ | with_reducible refine Blk.drew ?_ | with_reducible refine Blk.far ?_ (by simp; omega) _ | with_reducible refine Blk.tr ?_ (by with_reducible assumption)))) ptsNil (Nat.le_refl _) (by decide) (by decide)).mono ?_; rw [TM.out]; rintro e w1 ⟨rfl, hb1⟩; obtain ⟨hc1, hf1⟩ := bcell hb1; have hz1 := hb1.size; (try simp at hz1))
    | (go_at_call 45; refine (Check_any _ 3 3 4 _ tri _ (pts3 (g := w.heap.size) (t := 26) (p := ⟨0, 0⟩) (q := ⟨4, 0⟩) (r := ⟨0, 4⟩) (by repeat (first | with_reducible assumption | with_reducible exact Blk.new (by simp) rfl | with_reducible refine Blk.alloc ?_ _ | with_reducible refine Blk.drew ?_ | with_reducible refine Blk.far ?_ (by simp; omega) _ | with_reducible refine Blk.tr ?_ (by with_reducible assumption)))) (Nat.le_refl _) (by decide)).mono ?_; rw [TC.out]; rintro e w2 ⟨v2, rfl, hv2, hb2⟩; obtain rfl := hv2.zero; obtain ⟨hc2, hf2⟩ := bcell hb2; have hz2 := hb2.size; (try simp at hz2))
    | (go_at_call 45; refine (Check_any _ 0 0 9 none [] _ ptsNil (Nat.le_refl _) (by decide)).mono ?_; rw [NC.out]; rintro e w3 ⟨v3, rfl, hv3, hb3⟩; obtain ⟨hc3, hf3⟩ := bcell hb3; have hz3 := hb3.size; (try simp at hz3))
    | (go_at_call 19; refine (isW_true _ 5 _ _ _ (HT.out.tr (by repeat (first | with_reducible exact Below.refl _ _ | with_reducible assumption | with_reducible refine al ?_ _ | with_reducible refine Below.drew ?_ | with_reducible refine Below.setCell ?_ (by first | (simp; done) | (simp; omega)) _ | with_reducible refine tr ?_ (by with_reducible assumption)))) hv3 (by decide)).mono ?_; rintro e w4 ⟨rfl, hb4⟩))
  go_ret
  exact ⟨rfl, (by repeat (first | with_reducible exact Below.refl _ _ | with_reducible assumption | with_reducible refine al ?_ _ | with_reducible refine Below.drew ?_ | with_reducible refine Below.setCell ?_ (by first | (simp; done) | (simp; omega)) _ | with_reducible refine tr ?_ (by with_reducible assumption)))⟩

end Go.Proofs.YtmaogalgganhgaaGreatDoor
