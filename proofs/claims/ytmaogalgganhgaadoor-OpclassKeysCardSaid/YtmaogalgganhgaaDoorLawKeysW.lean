/-
  The walk of the statement OpclassKeys, joined with its plain law.
-/
import Derived.Test.YtmaogalgganhgaaDoorLawKeys
set_option linter.unusedSimpArgs false
set_option linter.unusedVariables false
namespace Go.Proofs.YtmaogalgganhgaaDoor
open Go.RowKit Pg

set_option maxHeartbeats 4000000 in
set_option maxRecDepth 20000 in
theorem opclassKeys_walk (B n c : Nat) (A : Option Addr) (l : List Nat) (b : Bx) (w : World) (hl : BysAt w B A n l) (h256 : ∀ x ∈ l, x < 256) (hAn : A = none → c = 0) (hnc : n ≤ c) (hB : B ≤ w.heap.size) (hb : inBx b) (hT : ErrT w) :
    Calls Tryd.prog 3 #[bxV b.lo.x b.lo.y b.hi.x b.hi.y, .slice A n c] w (Ret w (.bool true)) := by
  by_cases hn : n ≤ 300
  case neg =>
    have hn3 : (300 : Int) < (n : Int) := by omega
    clear hl hb
    go_enter Tryd.func3, Tryd.ntmps3
    go_wp2_with (go_at_call 6; refine (awake16_true _).mono ?_; rintro e w9 ⟨rfl, hb9⟩)
    go_ret
    exact ⟨rfl, (by repeat (first | with_reducible exact Below.refl _ _ | with_reducible assumption | with_reducible refine al ?_ _ | with_reducible refine Below.drew ?_ | with_reducible refine Below.setCell ?_ (by first | (simp; done) | (simp; omega)) _ | with_reducible refine tr ?_ (by with_reducible assumption)))⟩
  have hn6 : n ≤ 1000000 := by omega
  obtain ⟨u, hu⟩ : ∃ u, unkeyS l = u := ⟨_, rfl⟩
  have hk := unkey_key hb
  have hkl := keyL_len hb
  refine opclassKeys_core A n c (ckBox b) b.lo.x b.lo.y b.hi.x b.hi.y (u.getD bzero).lo.x (u.getD bzero).lo.y (u.getD bzero).hi.x (u.getD bzero).hi.y ((unkeyS (keyL b)).getD bzero).lo.x ((unkeyS (keyL b)).getD bzero).lo.y ((unkeyS (keyL b)).getD bzero).hi.x ((unkeyS (keyL b)).getD bzero).hi.y u.isSome (okBx b) (keyL b) w hT hn (by omega) (fun w' h => ?_) (fun w' h => ?_) (fun w' => ?_) (fun w' => ?_) (fun w' A3 c3 h3 hc3 => ?_) (fun w' => ?_) (fun e => ?_) (fun e => ?_)
  · refine (Unkey_any B n c A l w' (hl.tr h hB) h256 (Nat.le_trans hB h.size) hn6 hnc).mono ?_
    rintro e w2 ⟨b', v, rfl, hb', hE, hbl⟩
    subst hb'
    rw [hu] at hE ⊢
    exact ⟨v, rfl, hE, hbl⟩
  · have h2 := runkey_any B n c A l w' (hl.tr h hB) h256 (Nat.le_trans hB h.size) hn6 hnc hAn
    rw [unkeyV, hu] at h2
    cases u with
    | none => exact h2
    | some z => exact h2
  · exact key_any b.lo.x b.lo.y b.hi.x b.hi.y hb w'
  · exact rkey_any b.lo.x b.lo.y b.hi.x b.hi.y hb w'
  · refine (Unkey_any w'.heap.size _ c3 A3 (keyL b) w' h3 (fun c hc => keyL_byte hc) (Nat.le_refl _) (by omega) hc3).mono ?_
    rintro e w2 ⟨b', v, rfl, hb', hE, hbl⟩
    subst hb'
    refine ⟨v, rfl, ?_, hbl⟩
    have e2 : (unkeyS (keyL b)).isSome = okBx b := by rw [hk]; cases okBx b <;> rfl
    rw [e2] at hE
    exact hE
  · exact rcheckBox_any b.lo.x b.lo.y b.hi.x b.hi.y w'
  · rw [hk, if_pos e]
    unfold okBx at e
    rw [decide_eq_true_eq] at e
    exact ⟨e.symm, rfl, rfl, rfl, rfl⟩
  · unfold okBx at e
    rw [decide_eq_false_iff_not] at e
    exact e
end Go.Proofs.YtmaogalgganhgaaDoor
