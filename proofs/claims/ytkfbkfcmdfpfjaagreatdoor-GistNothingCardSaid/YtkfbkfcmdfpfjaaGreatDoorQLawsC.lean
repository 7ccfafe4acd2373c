/-
  The boxes classes as classes in memory.
-/
import Derived.Test.YtkfbkfcmdfpfjaaGreatDoorQUnA
import Derived.Test.YtkfbkfcmdfpfjaaGreatDoorQSplA
import Derived.Test.YtkfbkfcmdfpfjaaGreatDoorQLawsA
set_option linter.unusedSimpArgs false
set_option linter.unusedVariables false
namespace Go.Proofs.YtkfbkfcmdfpfjaaGreatDoor
open Go.RowKit Pg
def boxC (kd : Int) : Cl := ⟨fun o => (makeS kd o, makeK kd o), consS, farS, unionK, fun L => splitS (L.map boxK)⟩
theorem methodSplitU (v : Value) (w : World) : (Go.method 467 183 v "Split").run Tryz.prog w = .ok (261, v) w := by kernel_rfl
theorem enterMake (args : Array Value) (w : World) : (callFunc 259 args).run Tryz.prog w = .ok (.enter 259 args) w := by kernel_rfl
theorem enterUnion (args : Array Value) (w : World) : (callFunc 262 args).run Tryz.prog w = .ok (.enter 262 args) w := by kernel_rfl
theorem enterSplit (args : Array Value) (w : World) : (callFunc 261 args).run Tryz.prog w = .ok (.enter 261 args) w := by kernel_rfl
theorem bos_of_blk {w : World} {g : Nat} {s : List Bool} (h : Blk w g 4 (s.map Value.bool).toArray) : BosAt w w.heap.size (some ⟨g, 0, none⟩) s.length s :=
  ⟨rfl, fun _ => ⟨g, 0, rfl, h.lt, fun k x hx => by
    rw [Nat.zero_add, h.cell]
    simp [hx]⟩⟩
theorem makeK_form (kd : Int) (o : Ob) : (∀ x ∈ makeK kd o, x < 256) ∧ (makeK kd o).length ≤ 1000000 := by
  unfold makeK
  split
  · rename_i h
    refine ⟨fun x hx => keyL_byte hx, ?_⟩
    have hck : ckOb o = 0 := by
      unfold makeS at h
      split at h
      · exact h
      · cases h
    have := (keyL_len (okBx_in (bounds_okBx hck))).2
    omega
  · exact ⟨by simp, by simp⟩
theorem unionK_formC (L : List (List Nat)) : (∀ x ∈ unionK L, x < 256) ∧ (unionK L).length ≤ 1000000 := by
  unfold unionK
  split
  · refine ⟨fun x hx => keyL_byte hx, ?_⟩
    by_cases hne : boxesK L = []
    · rename_i h
      rw [hne] at h
      exact absurd h (by decide)
    · have := (keyL_len (okBx_in (union_all hne fun b hb => boxesK_ok hb).2.1)).2
      omega
  · exact ⟨by simp, by simp⟩
theorem clAt_box (kd : Int) : ClAt 183 (.agg #[.int .i64 kd]) (boxC kd) 259 257 258 262 261 where
  mM := methodMakeU _
  mC := methodConsU _
  mD := methodDistU _
  mU := methodUnionU _
  mS := methodSplitU _
  nC := nilAheadUC _
  nD := nilAheadUD _
  eM := enterMake
  eU := enterUnion
  form := makeK_form kd
  formU := fun L _ _ => unionK_formC L
  make := fun W B m c k A l hl hB hm => (Make_any B m c kd k A l W hl hB hm).mono fun e w' h => by
    obtain ⟨s, v, rfl, h1, h2, h3⟩ := h
    refine ⟨s, v, rfl, h1, fun h0 => ?_, fun h0 => ?_, h3⟩
    · rcases h2 with ⟨_, h⟩ | ⟨h, _⟩
      · exact h
      · exact absurd h0 h
    · rcases h2 with ⟨h, _⟩ | ⟨_, g, d, inner, rfl, _⟩
      · exact absurd h h0
      · exact ⟨_, _, rfl⟩
  cons := fun Y h1 h2 => consAt_box _ Y h1 h2
  far := fun Y h1 h2 => distAt_box _ Y h1 h2
  un := fun W B c A L hl hB hn h1 h2 => Union_any _ B L.length c A L W hl hB hn h1 h2
  split := fun L hn h1 h2 => ⟨enterSplit, by show (splitS (L.map boxK)).length ≤ 1000000; rw [splitS_len, List.length_map]; exact hn, fun W B A c hl hB => (Split_any _ B L.length c A L W hl hB hn h1 h2).mono fun e w' h => by
    obtain ⟨g, rfl, h3, h4⟩ := h
    have h5 := bos_of_blk h3
    refine ⟨some ⟨g, 0, none⟩, L.length, ?_, h5, h4⟩
    show Ending.returned _ = Ending.returned (.slice _ (splitS (L.map boxK)).length _)
    rw [splitS_len, List.length_map]⟩
end Go.Proofs.YtkfbkfcmdfpfjaaGreatDoor
