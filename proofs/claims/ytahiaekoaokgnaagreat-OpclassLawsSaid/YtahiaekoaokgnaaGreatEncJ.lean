/-
  Contracts: opclass.Boxes, Make where nothing stops it; what the statements of chapter 16 share: awake.
-/
import Derived.Test.YtahiaekoaokgnaaGreatEncG
import Derived.Test.YtahiaekoaokgnaaGreatRel8
set_option linter.unusedSimpArgs false
set_option linter.unusedVariables false
namespace Go.Proofs.YtahiaekoaokgnaaGreat
open Go.RowKit Pg

/-- the class of a kind -/
abbrev clsV (k : Int) : Value := .iface 81 (.agg #[.int .i64 k])
theorem Boxes_ok (k : Int) (w : World) (h1 : 1 ≤ k) (h4 : k ≤ 4) : Calls Tryz.prog 14 #[.int .i64 k] w (Ret w (.tuple #[clsV k, .nilIface])) := by
  have e1 : ¬ k < 1 := by omega
  have e2 : ¬ 4 < k := by omega
  go_enter Tryz.func14, Tryz.ntmps14
  go_wp2
  go_ret2
  exact ⟨rfl, bel⟩

set_option maxHeartbeats 4000000 in
set_option maxRecDepth 20000 in
theorem Make_ok (B n c : Nat) (k : Int) (A : Option Addr) (l : List Pt) (w : World) (hl : PtsAt w B A n l) (hB : B ≤ w.heap.size) (hn : n ≤ 1000000) (ho : ckOb ⟨k, l⟩ = 0) (hb : inBx (boundsS ⟨k, l⟩)) :
    Calls Tryz.prog 178 #[.agg #[.int .i64 k], obV k A n c] w fun e w' => ∃ s, e = .returned (.tuple #[s, .nilIface]) ∧ w'.ownsRow w.heap.size 5 1 s (keyL (boundsS ⟨k, l⟩)).length (ycells (keyL (boundsS ⟨k, l⟩))) ∧ Below w.heap.size w w' := by
  obtain ⟨X, hX⟩ : ∃ X, boundsS ⟨k, l⟩ = X := ⟨_, rfl⟩
  have HB : Hid (∀ w', Below w.heap.size w w' → Calls Tryz.prog 184 #[obV k A n c] w' (Ret w' (.tuple #[bxV X.lo.x X.lo.y X.hi.x X.hi.y, .nilIface]))) := fun w' h => by
    have := Bounds_ok B n c k A l w' (hl.tr h hB) (Nat.le_trans hB h.size) hn ho
    rw [hX] at this
    exact this
  rw [hX] at hb ⊢
  have HK : Hid (∀ w', Calls Tryz.prog 18 #[bxV X.lo.x X.lo.y X.hi.x X.hi.y] w' (RetB w' (keyL X))) := fun w' => key_any _ _ _ _ hb w'
  generalize keyL X = K at *
  clear hl ho hb hX
  go_enter Tryz.func178, Tryz.ntmps178
  go_wp2_with (first | (go_at_call 184; (with_reducible refine (HB.out _ ?_).mono ?_); exact bel; rintro e wu ⟨rfl, hbu⟩; obtain ⟨hcu, hfu⟩ := bcell hbu; have hzu := hbu.size; (try simp at hzu); have hyu0 : w.heap.size < wu.heap.size := (by omega); have hyu1 : w.heap.size + 1 < wu.heap.size := (by omega)) | (go_at_call 18; (with_reducible refine (HK.out _).mono ?_); rintro e w5 ⟨s5, rfl, ho5, hb5⟩; obtain ⟨hc5, hf5⟩ := bcell hb5; have hz5 := hb5.size; (try simp at hz5)))
  go_ret2
  exact ⟨_, rfl, ownB_base ho5 (by (try simp); omega), bel⟩

theorem bnd12 : boundsS ⟨1, [⟨1, 2⟩]⟩ = ⟨⟨1, 2⟩, ⟨1, 2⟩⟩ := by simp [boundsS, isBox, obBox, pt]
theorem methodMake (v : Value) (w : World) : (Go.method 329 81 v "Make").run Tryz.prog w = .ok (178, v) w := by kernel_rfl
theorem ck12 : ckOb ⟨1, [⟨1, 2⟩]⟩ = 0 := by decide +kernel
theorem key12 : (keyL ⟨⟨1, 2⟩, ⟨1, 2⟩⟩).length = 4 := by
  unfold keyL sint
  simp only [List.length_append]
  rw [vint_small (by decide), vint_small (by decide)]
  rfl
theorem pts1E {w : World} {g : Nat} {p : Pt} {t : TypeId} (h : Blk w g t #[.int .i64 p.x, .int .i64 p.y]) : PtsAt w w.heap.size (some ⟨g, 0, none⟩) 1 [p] :=
  ⟨rfl, fun _ => ⟨g, 0, rfl, h.lt, fun k s hs => by
    match k, hs with
    | 0, hs =>
      simp at hs
      subst hs
      exact ⟨by rw [h.cell]; rfl, by rw [h.cell]; rfl⟩⟩⟩

set_option maxHeartbeats 4000000 in
set_option maxRecDepth 20000 in
theorem awake16_true (w : World) : Calls Tryz.prog 6 #[] w (Ret w (.bool true)) := by
  have hi : inBx ⟨⟨1, 2⟩, ⟨1, 2⟩⟩ := by unfold inBx in64; simp
  obtain ⟨K, hK⟩ : ∃ K, keyL ⟨⟨1, 2⟩, ⟨1, 2⟩⟩ = K := ⟨_, rfl⟩
  have hK4 : K.length = 4 := by rw [← hK]; exact key12
  have HK : Hid (∀ w', Calls Tryz.prog 18 #[bxV 1 2 1 2] w' (RetB w' K)) := fun w' => by
    have := key_any 1 2 1 2 hi w'
    rw [hK] at this
    exact this
  have HM : Hid (∀ w' g, Blk w' g 52 #[.int .i64 1, .int .i64 2] → Calls Tryz.prog 178 #[.agg #[.int .i64 1], .agg #[.int .i64 1, .slice (some ⟨g, 0, none⟩) 1 1]] w' fun e w2 => ∃ s, e = .returned (.tuple #[s, .nilIface]) ∧ w2.ownsRow w'.heap.size 5 1 s K.length (ycells K) ∧ Below w'.heap.size w' w2) := fun w' g hg => by
    have := Make_ok w'.heap.size 1 1 1 _ [⟨1, 2⟩] w' (pts1E hg) (Nat.le_refl _) (by decide) ck12 (by rw [bnd12]; exact hi)
    rw [bnd12, hK] at this
    exact this
  clear hK hi
  rw [hK4] at HM
  have HK4 := Lib.hid hK4
  have mM := methodMake
  go_enter Tryz.func6, Tryz.ntmps6
  go_wp2_with (first | (go_at_call 14; (with_reducible refine (Boxes_ok _ _ (by decide) (by decide)).mono ?_); rintro e w1 ⟨rfl, hb1⟩; obtain ⟨hc1, hf1⟩ := bcell hb1; have hz1 := hb1.size; (try simp at hz1)) | (go_at_call 178; refine (HM.out _ w1.heap.size blkA).mono ?_; rintro e w2 ⟨s2, rfl, ho2, hb2⟩; obtain ⟨A2, c2, rfl, hB2, hl2, hn2, hm2⟩ := bys_of_own2 ho2; obtain ⟨hc2, hf2⟩ := bcell hb2; have hz2 := hb2.size; (try simp at hz2)) | (go_at_call 18; (with_reducible refine (HK.out _).mono ?_); rintro e w3 ⟨s3, rfl, ho3, hb3⟩; rw [HK4.out] at ho3; obtain ⟨A3, c3, rfl, hB3, hl3, hn3, hm3⟩ := bys_of_own2 ho3; obtain ⟨hc3, hf3⟩ := bcell hb3; have hz3 := hb3.size; (try simp at hz3)) | (go_at_call 17; refine (bytes_any w3.heap.size 4 c2 4 c3 A2 A3 K K _ ((hB2.tr bel (Nat.le_refl _)).more (by omega)) hB3 (Nat.le_refl _) (by decide)).mono ?_; rw [decide_eq_true (rfl : K = K)]; rintro e w4 ⟨rfl, hb4⟩))
  go_ret
  exact ⟨rfl, bel⟩
end Go.Proofs.YtahiaekoaokgnaaGreat
