/-
  pergolalaw21.awake.
-/
import Derived.Test.YtmliljdbpkikpaaGreatDoorHulE
import Derived.Test.YtmliljdbpkikpaaGreatDoorRefP
import Derived.Test.YtmliljdbpkikpaaGreatDoorErrIs
import Derived.Test.YtmliljdbpkikpaaGreatDoorRel1
set_option linter.unusedSimpArgs false
set_option linter.unusedVariables false
namespace Pg
open Go Go.RowKit
theorem sortP_eq {l m : List Pt} (hp : l.Perm m) (hs : m.Pairwise fun a b => ltP b a = false) : sortP l = m :=
  List.Perm.eq_of_pairwise (fun _ _ _ _ h1 h2 => ltP_total h2 h1) (sortP_sorted l) hs ((sortP_perm l).trans hp)
theorem hull4 : hullS [⟨0, 0⟩, ⟨2, 0⟩, ⟨1, 1⟩, ⟨0, 2⟩] = [⟨0, 0⟩, ⟨2, 0⟩, ⟨0, 2⟩] := by
  have e : sortP [⟨0, 0⟩, ⟨2, 0⟩, ⟨1, 1⟩, ⟨0, 2⟩] = [⟨0, 0⟩, ⟨0, 2⟩, ⟨1, 1⟩, ⟨2, 0⟩] := sortP_eq (by decide) (by decide)
  have e2 : Lib.compact ([⟨0, 0⟩, ⟨0, 2⟩, ⟨1, 1⟩, ⟨2, 0⟩] : List Pt) = [⟨0, 0⟩, ⟨0, 2⟩, ⟨1, 1⟩, ⟨2, 0⟩] := by decide +kernel
  unfold hullS
  rw [e, e2]
  decide +kernel
theorem hck4 : hullCk [⟨0, 0⟩, ⟨2, 0⟩, ⟨1, 1⟩, ⟨0, 2⟩] 1 = (0, 0) := by decide +kernel
theorem hck0 : hullCk [] 1 = (1, 0) := by decide +kernel
end Pg
namespace Go.Proofs.YtmliljdbpkikpaaGreatDoor
open Go.RowKit Pg
theorem pts_of_blk {w : World} {g : Nat} {t : TypeId} {l : List Pt} {cs : Array Value} (h : Blk w g t cs) (hc : cs = (ptcells l).toArray) : PtsAt w w.heap.size (some ⟨g, 0, none⟩) l.length l := by
  subst hc
  refine ⟨rfl, fun _ => ⟨g, 0, rfl, h.lt, fun k p hp => ?_⟩⟩
  obtain ⟨h1, h2⟩ := ptcells_at l k p hp
  rw [Nat.zero_add, h.cell, h.cell, List.getElem?_toArray, List.getElem?_toArray]
  exact ⟨h1, h2⟩
theorem hull_four (g : Nat) (W : World) (h : Blk W g 35 #[.int .i64 0, .int .i64 0, .int .i64 2, .int .i64 0, .int .i64 1, .int .i64 1, .int .i64 0, .int .i64 2]) :
    Calls Tryz.prog 24 #[.slice (some ⟨g, 0, none⟩) 4 4] W fun e w' => ∃ g' c', e = .returned (.tuple #[.slice (some ⟨g', 0, none⟩) 3 c', .nilIface]) ∧ PtsAt w' w'.heap.size (some ⟨g', 0, none⟩) 3 [⟨0, 0⟩, ⟨2, 0⟩, ⟨0, 2⟩] ∧ Below W.heap.size W w' := by
  refine (hull_any W.heap.size 4 4 (some ⟨g, 0, none⟩) [⟨0, 0⟩, ⟨2, 0⟩, ⟨1, 1⟩, ⟨0, 2⟩] W (pts_of_blk h rfl) (Nat.le_refl _) (by omega)).mono ?_
  rintro e w' ⟨s, v, rfl, _, hs, hE, hb⟩
  rw [hck4] at hs hE
  have hs2 := hs rfl
  rw [hull4] at hs2
  obtain rfl := errW_zero hE
  obtain ⟨g', c', rfl⟩ := own_pos2 hs2 (by decide)
  exact ⟨g', c', rfl, own_pts hs2, hb⟩
theorem hull_nil (W : World) : Calls Tryz.prog 24 #[.slice none 0 0] W fun e w' => ∃ t u, e = .returned (.tuple #[.slice none 0 0, .iface t u]) ∧ ErrW w' (.iface t u) 1 hullW 0 ∧ Below W.heap.size W w' := by
  refine (hull_any W.heap.size 0 0 none [] W ⟨rfl, fun h => absurd h (by omega)⟩ (Nat.le_refl _) (by omega)).mono ?_
  rintro e w' ⟨s, v, rfl, hs, _, hE, hb⟩
  rw [hck0] at hs hE
  have hs2 := hs (by decide)
  subst hs2
  obtain ⟨t, u, rfl⟩ := errW_some hE (by decide)
  exact ⟨t, u, rfl, hE, hb⟩
theorem second_any (s v : Value) (w : World) : Calls Tryz.prog 26 #[s, v] w fun e w' => e = .returned v ∧ w = w' := by
  go_enter Tryz.func26, Tryz.ntmps26
  go_wp2
  go_ret
  exact ⟨rfl, rfl⟩

theorem points_four {w1 : World} {g1 c1 : Nat} (hP1 : PtsAt w1 w1.heap.size (some ⟨g1, 0, none⟩) 3 [⟨0, 0⟩, ⟨2, 0⟩, ⟨0, 2⟩]) : ∀ (W : World) (g : Nat), Below w1.heap.size w1 W → Blk W g 35 #[.int .i64 0, .int .i64 0, .int .i64 2, .int .i64 0, .int .i64 0, .int .i64 2] →
    Calls Tryz.prog 25 #[.slice (some ⟨g1, 0, none⟩) 3 c1, .slice (some ⟨g, 0, none⟩) 3 3] W (Ret W (.bool true)) := by
  intro W g hb hB
  have h := rpoints_any W.heap.size 3 c1 3 3 _ _ _ _ W (pts_up hP1 (fun p hp => hb.cell hp) hb.size) (pts_of_blk (l := [⟨0, 0⟩, ⟨2, 0⟩, ⟨0, 2⟩]) hB rfl) (Nat.le_refl _) (by omega)
  have e : ptsEq [⟨0, 0⟩, ⟨2, 0⟩, ⟨0, 2⟩] [⟨0, 0⟩, ⟨2, 0⟩, ⟨0, 2⟩] = true := by decide +kernel
  rw [e] at h
  exact h

set_option maxHeartbeats 1000000 in
set_option maxRecDepth 20000 in
theorem awake21_true (w : World) (hT : ErrT w) : Calls Tryz.prog 6 #[] w (Ret w (.bool true)) := by
  have HT := Lib.hid hT
  clear hT
  go_enter Tryz.func6, Tryz.ntmps6
  go_wp2_with (first | (go_at_call 24; (with_reducible refine (hull_nil _).mono ?_); rintro e w3 ⟨t3, u3, rfl, hE3, hb3⟩; have HE3 := Lib.hid hE3; clear hE3) | (go_at_call 24; (with_reducible refine (hull_four _ _ ?_).mono ?_); (focus exact (by repeat (first | with_reducible assumption | with_reducible exact Blk.new (by simp) rfl | with_reducible refine Blk.alloc ?_ _ | with_reducible refine Blk.drew ?_ | with_reducible refine Blk.far ?_ (by first | (simp; done) | (simp; omega)) _ | with_reducible refine Blk.tr ?_ (by with_reducible assumption)))); rintro e w1 ⟨g1, c1, rfl, hP1, hb1⟩; have HPF := Lib.hid (points_four (c1 := c1) hP1); clear hP1) | (go_at_call 26; (with_reducible refine (second_any _ _ _).mono ?_); rintro e w4 ⟨rfl, rfl⟩) | (go_at_call 25; (with_reducible refine (HPF.out _ _ ?_ ?_).mono ?_); (focus exact (by repeat (first | with_reducible exact Below.refl _ _ | with_reducible assumption | with_reducible refine al ?_ _ | with_reducible refine Below.drew ?_ | with_reducible refine Below.setCell ?_ (by first | (simp; done) | (simp; omega)) _ | with_reducible refine tr ?_ (by with_reducible assumption)))); (focus exact (by repeat (first | with_reducible assumption | with_reducible exact Blk.new (by simp) rfl | with_reducible refine Blk.alloc ?_ _ | with_reducible refine Blk.drew ?_ | with_reducible refine Blk.far ?_ (by first | (simp; done) | (simp; omega)) _ | with_reducible refine Blk.tr ?_ (by with_reducible assumption)))); rintro e w2 ⟨rfl, hb2⟩) | (go_at_call 15; go_must (have hT5 := HT.out.tr (w' := w3) (by repeat (first | with_reducible exact Below.refl _ _ | with_reducible assumption | with_reducible refine al ?_ _ | with_reducible refine Below.drew ?_ | with_reducible refine Below.setCell ?_ (by first | (simp; done) | (simp; omega)) _ | with_reducible refine tr ?_ (by with_reducible assumption))); refine (isW_true _ 1 hullW 0 _ hT5 HE3.out (by decide)).mono ?_); rintro e w5 ⟨rfl, hb5⟩))
  go_ret
  exact ⟨rfl, (by repeat (first | with_reducible exact Below.refl _ _ | with_reducible assumption | with_reducible refine al ?_ _ | with_reducible refine Below.drew ?_ | with_reducible refine Below.setCell ?_ (by first | (simp; done) | (simp; omega)) _ | with_reducible refine tr ?_ (by with_reducible assumption)))⟩
theorem small_any (A : Option Addr) (n c : Nat) (w : World) : Calls Tryz.prog 5 #[.slice A n c] w (Ret w (.bool (decide (n ≤ 100)))) := by
  by_cases h : n ≤ 100
  · go_enter Tryz.func5, Tryz.ntmps5
    go_wp2
    go_ret
    exact ⟨by simp [h]; omega, (by repeat (first | with_reducible exact Below.refl _ _ | with_reducible assumption | with_reducible refine al ?_ _ | with_reducible refine Below.drew ?_ | with_reducible refine Below.setCell ?_ (by first | (simp; done) | (simp; omega)) _ | with_reducible refine tr ?_ (by with_reducible assumption)))⟩
  · go_enter Tryz.func5, Tryz.ntmps5
    go_wp2
    go_ret
    exact ⟨by simp [h]; omega, (by repeat (first | with_reducible exact Below.refl _ _ | with_reducible assumption | with_reducible refine al ?_ _ | with_reducible refine Below.drew ?_ | with_reducible refine Below.setCell ?_ (by first | (simp; done) | (simp; omega)) _ | with_reducible refine tr ?_ (by with_reducible assumption)))⟩
end Go.Proofs.YtmliljdbpkikpaaGreatDoor
