/-
  Contracts of pergolaalike: Code, Is, May.
-/
import Derived.Test.YtjdgibpjlhpanaaGreatDoorRef4
import Derived.Test.YtjdgibpjlhpanaaGreatDoorErrAs
set_option linter.unusedSimpArgs false
set_option linter.unusedVariables false
namespace Go.Proofs.YtjdgibpjlhpanaaGreatDoor
open Go.RowKit Pg

/-- errors.Is, at an error that stands for k, bare or wrapped -/
theorem is_errC {v : Value} {k : Nat} (b : Nat) (w : World) (hv : ErrC w v k) (hb : 1 ≤ b) :
    Calls Tryz.prog 126 #[v, .iface 131 (.int .i64 b)] w fun e w' => e = .returned (.bool (decide (k = b))) ∧ w = w' := by
  have hd : ∀ m : Nat, decide ((m : Int) = (b : Int)) = decide (m = b) := fun m => by rw [decide_eq_decide]; omega
  rcases hv with hv | ⟨h0, hv⟩ | ⟨h0, g, s, id, hv, hB⟩
  · subst hv
    cases k with
    | zero =>
      refine (is_nil b w).mono ?_
      rintro e w' ⟨rfl, rfl⟩
      exact ⟨ret_bool (by rw [eq_comm, decide_eq_false_iff_not]; omega), rfl⟩
    | succ k =>
      refine (is_bare ((k + 1 : Nat) : Int) b w).mono ?_
      rintro e w' ⟨rfl, rfl⟩
      exact ⟨ret_bool (hd _), rfl⟩
  · subst hv h0
    refine (is_nil b w).mono ?_
    rintro e w' ⟨rfl, rfl⟩
    exact ⟨ret_bool (by rw [eq_comm, decide_eq_false_iff_not]; omega), rfl⟩
  · subst hv
    refine (is_f1 k b g w (by rw [hB.cell, errV_ne h0]; rfl)).mono ?_
    rintro e w' ⟨rfl, rfl⟩
    exact ⟨ret_bool (hd _), rfl⟩
theorem is_errW {v : Value} {k : Nat} {s : ByteArray} {id : Int} (b : Nat) (w : World) (hv : ErrW w v k s id) (hb : 1 ≤ b) :
    Calls Tryz.prog 126 #[v, .iface 131 (.int .i64 b)] w fun e w' => e = .returned (.bool (decide (k = b))) ∧ w = w' := by
  have hd : ∀ m : Nat, decide ((m : Int) = (b : Int)) = decide (m = b) := fun m => by rw [decide_eq_decide]; omega
  rcases hv with ⟨h0, hv⟩ | ⟨h0, g, inner, hv, hB, hi⟩
  · subst hv h0
    exact is_errC b w (.inl rfl) hb
  · subst hv
    rcases hi with hi | ⟨h, _⟩ | ⟨_, g', s', id', hi, hB'⟩
    · subst hi
      refine (is_f1 k b g w (by rw [hB.cell, errV_ne h0]; rfl)).mono ?_
      rintro e w' ⟨rfl, rfl⟩
      exact ⟨ret_bool (hd _), rfl⟩
    · exact absurd h h0
    · subst hi
      refine (is_f2 k b g g' w (by rw [hB.cell]; rfl) (by rw [hB'.cell, errV_ne h0]; rfl)).mono ?_
      rintro e w' ⟨rfl, rfl⟩
      exact ⟨ret_bool (hd _), rfl⟩

/-- v stands for the number k, whatever wraps it: errors.Is says so -/
def IsErr (w : World) (v : Value) (k : Nat) : Prop :=
  (k = 0 ∧ v = .nilIface) ∨ (k ≠ 0 ∧ k ≤ 15 ∧ (∃ t u, v = .iface t u) ∧ ∀ b : Nat, 1 ≤ b → Calls Tryz.prog 126 #[v, .iface 131 (.int .i64 b)] w fun e w' => e = .returned (.bool (decide (k = b))) ∧ w = w')
theorem IsErr.ofC {w : World} {v : Value} {k : Nat} (h : ErrC w v k) (hk : k ≤ 15) : IsErr w v k := by
  by_cases h0 : k = 0
  · subst h0; exact .inl ⟨rfl, h.zero⟩
  · exact .inr ⟨h0, hk, h.succ h0, fun b hb => is_errC b w h hb⟩
theorem IsErr.ofW {w : World} {v : Value} {k : Nat} {s : ByteArray} {id : Int} (h : ErrW w v k s id) (hk : k ≤ 15) : IsErr w v k := by
  rcases h with ⟨h0, hv⟩ | ⟨h0, g, inner, hv, hB, hi⟩
  · exact .inl ⟨h0, hv⟩
  · exact .inr ⟨h0, hk, ⟨_, _, hv⟩, fun b hb => is_errW b w (.inr ⟨h0, g, inner, hv, hB, hi⟩) hb⟩

set_option maxHeartbeats 1000000 in
theorem code_any (v : Value) (k : Nat) (w : World) (hv : IsErr w v k) :
    Calls Tryz.prog 76 #[v] w fun e w' => e = .returned (.int .i64 k) ∧ w = w' := by
  rcases hv with ⟨h0, rfl⟩ | ⟨h0, hk, ⟨t, u, rfl⟩, hi⟩
  · subst h0
    go_enter Tryz.func76, Tryz.ntmps76
    go_wp2
    go_ret
    exact ⟨rfl, rfl⟩
  · have HI := Lib.hid hi
    clear hi
    go_enter Tryz.func76, Tryz.ntmps76
    go_wp2
    go_loop [3] (fun i => ∃ m : Nat, 1 ≤ m ∧ m ≤ k ∧ i = .int .i64 m) (fun i => 16 - (intOf i).toNat)
    case atStart => exact ⟨1, by omega, by omega, rfl⟩
    case round =>
      obtain ⟨m, hm1, hmk, rfl⟩ := hrel
      have hm15 : (m : Int) ≤ 15 := by omega
      by_cases e : k = m
      · have HE : Hid (decide (k = m) = true) := by simp [Hid, e]
        have HK := Lib.hid e
        clear e
        go_wp2_with (go_at_call 126; refine (HI.out m hm1).mono ?_; rw [HE.out]; rintro e w1 ⟨rfl, rfl⟩)
        go_ret
        exact ⟨ret_int (by rw [HK.out]), rfl⟩
      · have HE : Hid (decide (k = m) = false) := by simp [Hid, e]
        have hlt : m < k := by omega
        clear e
        go_wp2_with (go_at_call 126; refine (HI.out m hm1).mono ?_; rw [HE.out]; rintro e w1 ⟨rfl, rfl⟩)
        go_round
        case rel => exact ⟨m + 1, by omega, by omega, by go_num⟩
        case measure => simp [intOf]; omega

theorem ErrT.lt {w : World} (h : ErrT w) : 0 < w.heap.size := by
  unfold ErrT at h
  rcases Nat.lt_or_ge 0 w.heap.size with k | k
  · exact k
  · simp [World.cell?, Array.getElem?_eq_none k] at h
theorem ErrT.below {w w' : World} {B : Nat} (h : ErrT w) (hb : Below B w w') (hB : 0 < B) : ErrT w' := by
  unfold ErrT at *
  rw [← h]
  exact hb.cell (p := ⟨0, 0, none⟩) hB
theorem ErrT.tr {w w' : World} (h : ErrT w) (hb : Below w.heap.size w w') : ErrT w' := h.below hb h.lt

/-- errors.As, with what it leaves -/
theorem as_hit2 (e : Addr) (tb : Nat) (old : Value) (w : World) (hg : ErrT w) (ht : w.cell? ⟨tb, 0, none⟩ = some old) (hf : w.frozen? ⟨tb, 0, none⟩ = false) :
    Calls Tryz.prog 77 #[.iface 121 (.pointer (some e)), .iface 123 (.pointer (some ⟨tb, 0, none⟩))] w fun ev w' => ev = .returned (.bool true) ∧ w'.cell? ⟨tb, 0, none⟩ = some (.pointer (some e)) ∧ (∀ b o, b < w.heap.size → b ≠ tb → w'.cell? ⟨b, o, none⟩ = w.cell? ⟨b, o, none⟩) ∧ Below tb w w' := by
  have htl : tb < w.heap.size := by
    rcases Nat.lt_or_ge tb w.heap.size with h | h
    · exact h
    · simp [World.cell?, Array.getElem?_eq_none h] at ht
  refine (as_hit e ⟨tb, 0, none⟩ old w hg ht hf).mono ?_
  rintro ev w' ⟨rfl, rfl⟩
  obtain ⟨w4, hw4⟩ : ∃ w4, ((((w.alloc (.cells #[.pointer (some ⟨tb, 0, none⟩)] 123)).alloc (.cells #[.pointer (some ⟨3, 123, none⟩), .pointer (some ⟨w.heap.size, 0, none⟩), .int .u64 150] 172)).alloc (.cells #[.pointer (some ⟨3, 123, none⟩), .pointer (some ⟨w.heap.size, 0, none⟩), .int .u64 150] 172)).alloc (.cells #[.pointer (some e)] 121)) = w4 := ⟨_, rfl⟩
  have hb : Below w.heap.size w w4 := by subst hw4; exact (by repeat (first | with_reducible exact Below.refl _ _ | with_reducible assumption | with_reducible refine al ?_ _ | with_reducible refine Below.drew ?_ | with_reducible refine Below.setCell ?_ (by first | (simp; done) | (simp; omega)) _ | with_reducible refine tr ?_ (by with_reducible assumption)))
  rw [hw4]
  have h0 : w4.cell? ⟨tb, 0, none⟩ = some old := (hb.cell (p := ⟨tb, 0, none⟩) htl).trans ht
  refine ⟨rfl, ?_, fun b o hb1 hne => ?_, (hb.mono (Nat.le_of_lt htl)).setCell (Nat.le_refl _) _⟩
  · rw [World.cell?_setCell_same _ _ _ h0]
  · rw [World.cell?_setCell_other]
    · exact hb.cell (p := ⟨b, o, none⟩) hb1
    · intro e; injection e with e1; exact hne e1.symm
set_option maxHeartbeats 2000000 in
/-- Is, at an error that is wrapped in just these words -/
theorem isW_true (v : Value) (k : Nat) (s : ByteArray) (id : Int) (w : World) (hT : ErrT w) (hv : ErrW w v k s id) (hk : k ≤ 15) :
    Calls Tryz.prog 26 #[v, .int .i64 k, .string s, .int .i64 id] w (Ret w (.bool true)) := by
  have HC := Lib.hid (fun w => code_any v k w)
  have HI := Lib.hid (IsErr.ofW hv hk)
  rcases hv with ⟨h0, rfl⟩ | ⟨h0, g, inner, rfl, hB, _⟩
  · subst h0
    go_enter Tryz.func26, Tryz.ntmps26
    go_wp2_with (go_at_call 76; refine (HC.out _ HI.out).mono ?_; rintro e w1 ⟨rfl, rfl⟩)
    go_ret
    exact ⟨rfl, (by repeat (first | with_reducible exact Below.refl _ _ | with_reducible assumption | with_reducible refine al ?_ _ | with_reducible refine Below.drew ?_ | with_reducible refine Below.setCell ?_ (by first | (simp; done) | (simp; omega)) _ | with_reducible refine tr ?_ (by with_reducible assumption)))⟩
  · have hk0 : ((k : Int) == 0) = false := by rw [beq_eq_false_iff_ne]; omega
    have gl := hB.lt
    have c0 := hB.cell 0
    have c1 := hB.cell 1
    simp at c0 c1
    have HB := Lib.hid hB
    have HT := Lib.hid hT
    clear hB hT h0
    unfold faultV at *
    go_enter Tryz.func26, Tryz.ntmps26
    go_wp2_with (first | (go_at_call 76; refine (HC.out _ HI.out).mono ?_; rintro e w1 ⟨rfl, rfl⟩) | (go_at_call 77; refine (as_hit2 _ _ (.pointer none) _ (HT.out.tr (by repeat (first | with_reducible exact Below.refl _ _ | with_reducible assumption | with_reducible refine al ?_ _ | with_reducible refine Below.drew ?_ | with_reducible refine Below.setCell ?_ (by first | (simp; done) | (simp; omega)) _ | with_reducible refine tr ?_ (by with_reducible assumption)))) (by simp) (by simp)).mono ?_; rintro e w1 ⟨rfl, hcp, hco, hb1⟩; have d0 := (hco g 0 (by simp; omega) (by omega)).trans (World.cell?_alloc_lt _ _ _ gl); rw [c0] at d0; have d1 := (hco g 1 (by simp; omega) (by omega)).trans (World.cell?_alloc_lt _ _ _ gl); rw [c1] at d1; clear hco))
    go_ret
    exact ⟨rfl, Below.trans (by repeat (first | with_reducible exact Below.refl _ _ | with_reducible assumption | with_reducible refine al ?_ _ | with_reducible refine Below.drew ?_ | with_reducible refine Below.setCell ?_ (by first | (simp; done) | (simp; omega)) _ | with_reducible refine tr ?_ (by with_reducible assumption))) hb1⟩
end Go.Proofs.YtjdgibpjlhpanaaGreatDoor
