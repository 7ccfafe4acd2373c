/-
  Contracts: opclass.Boxes, Make where nothing stops it; what the statements of chapter 16 share: awake.
-/
import Derived.Test.YtkfbkfcmdfpfjaaGreatDoorQEncG
import Derived.Test.YtkfbkfcmdfpfjaaGreatDoorQRel8
set_option linter.unusedSimpArgs false
set_option linter.unusedVariables false
namespace Go.Proofs.YtkfbkfcmdfpfjaaGreatDoor
open Go.RowKit Pg

/-- the class of a kind -/
abbrev clsV (k : Int) : Value := .iface 183 (.agg #[.int .i64 k])
theorem Boxes_ok (k : Int) (w : World) (h1 : 1 ≤ k) (h4 : k ≤ 4) : Calls Tryz.prog 57 #[.int .i64 k] w (Ret w (.tuple #[clsV k, .nilIface])) := by
  have e1 : ¬ k < 1 := by omega
  have e2 : ¬ 4 < k := by omega
  go_enter Tryz.func57, Tryz.ntmps57
  go_wp2
  go_ret2
  exact ⟨rfl, bel⟩

set_option maxHeartbeats 4000000 in
set_option maxRecDepth 20000 in
theorem Make_ok (B n c : Nat) (k : Int) (A : Option Addr) (l : List Pt) (w : World) (hl : PtsAt w B A n l) (hB : B ≤ w.heap.size) (hn : n ≤ 1000000) (ho : ckOb ⟨k, l⟩ = 0) (hb : inBx (boundsS ⟨k, l⟩)) :
    Calls Tryz.prog 259 #[.agg #[.int .i64 k], obV k A n c] w fun e w' => ∃ s, e = .returned (.tuple #[s, .nilIface]) ∧ w'.ownsRow w.heap.size 5 1 s (keyL (boundsS ⟨k, l⟩)).length (ycells (keyL (boundsS ⟨k, l⟩))) ∧ Below w.heap.size w w' := by
  obtain ⟨X, hX⟩ : ∃ X, boundsS ⟨k, l⟩ = X := ⟨_, rfl⟩
  have HB : Hid (∀ w', Below w.heap.size w w' → Calls Tryz.prog 97 #[obV k A n c] w' (Ret w' (.tuple #[bxV X.lo.x X.lo.y X.hi.x X.hi.y, .nilIface]))) := fun w' h => by
    have := Bounds_ok B n c k A l w' (hl.tr h hB) (Nat.le_trans hB h.size) hn ho
    rw [hX] at this
    exact this
  rw [hX] at hb ⊢
  have HK : Hid (∀ w', Calls Tryz.prog 264 #[bxV X.lo.x X.lo.y X.hi.x X.hi.y] w' (RetB w' (keyL X))) := fun w' => key_any _ _ _ _ hb w'
  generalize keyL X = K at *
  clear hl ho hb hX
  go_enter Tryz.func259, Tryz.ntmps259
  go_wp2_with (first | (go_at_call 97; (with_reducible refine (HB.out _ ?_).mono ?_); exact bel; rintro e wu ⟨rfl, hbu⟩; obtain ⟨hcu, hfu⟩ := bcell hbu; have hzu := hbu.size; (try simp at hzu); have hyu0 : w.heap.size < wu.heap.size := (by omega); have hyu1 : w.heap.size + 1 < wu.heap.size := (by omega)) | (go_at_call 264; (with_reducible refine (HK.out _).mono ?_); rintro e w5 ⟨s5, rfl, ho5, hb5⟩; obtain ⟨hc5, hf5⟩ := bcell hb5; have hz5 := hb5.size; (try simp at hz5)))
  go_ret2
  exact ⟨_, rfl, ownB_base ho5 (by (try simp); omega), bel⟩

theorem pts1E {w : World} {g : Nat} {p : Pt} {t : TypeId} (h : Blk w g t #[.int .i64 p.x, .int .i64 p.y]) : PtsAt w w.heap.size (some ⟨g, 0, none⟩) 1 [p] :=
  ⟨rfl, fun _ => ⟨g, 0, rfl, h.lt, fun k s hs => by
    match k, hs with
    | 0, hs =>
      simp at hs
      subst hs
      exact ⟨by rw [h.cell]; rfl, by rw [h.cell]; rfl⟩⟩⟩

end Go.Proofs.YtkfbkfcmdfpfjaaGreatDoor
