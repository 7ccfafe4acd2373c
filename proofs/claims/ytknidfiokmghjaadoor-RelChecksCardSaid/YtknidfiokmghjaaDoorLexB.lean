/-
  The law for a drawn region with a base of one's own: for regions that store into the call's own blocks.
-/
import Derived.Test.YtknidfiokmghjaaDoorLex
namespace Pg
open Go Go.RowKit

theorem wp_region_belowB {P : Program} {Q : Exit → Act → World → Prop} (B : Nat) (p : List Nat) {l : List Oper} {id : Nat} {a : Act} {w : World} (hm : P.follows .mixedOrders = true)
    (hs : (Region.noSelect l.toArray && (decide (p.length ≤ l.length) && (planOk l.toArray p (Array.replicate l.length false) && p.all fun i => decide (i < l.length)))) = true) (hQ : ∀ c a d v w, Q (.panic c) (a.put d v) w → Q (.panic c) a w)
    (h : lexL P Q (fun w' => RowKit.Below B w w') (p.map fun i => (bare (l.getD i default), gslot l (l.getD i default))) a w.drew) : (Code.region id l.toArray true).wp P Q a w := by
  simp only [Bool.and_eq_true, decide_eq_true_eq, List.all_eq_true] at hs
  exact wp_region_lex p _ hm hs.1 (by simpa using hs.2.1) (by simpa using hs.2.2.1) hQ ((RowKit.Below.refl _ _).drew) (lexH_of_lexL p a _ hs.2.2.2 h)
theorem swapB {B : Nat} {W : World} {o1 o2 : Obj} (hB : B ≤ W.heap.size) : Below B (W.alloc o1) (W.alloc o2) :=
  ⟨rfl, rfl, rfl, by simp, fun k hk => (Below.heap_alloc _ _ _ (by omega)).trans (Below.heap_alloc _ _ _ (by omega)).symm⟩
theorem swapB1 {w : World} {o o1 o2 : Obj} : Below (w.heap.size + 1) ((w.alloc o).alloc o1) ((w.alloc o).alloc o2) := swapB (by simp)
theorem bcellB {B : Nat} {W w1 : World} (hb : Below B W w1) : (∀ b o, b < B → w1.cell? ⟨b, o, none⟩ = W.cell? ⟨b, o, none⟩) ∧ (∀ b o, b < B → w1.frozen? ⟨b, o, none⟩ = W.frozen? ⟨b, o, none⟩) :=
  ⟨fun b o h => hb.cell (p := ⟨b, o, none⟩) h, fun b o h => hb.frozen (p := ⟨b, o, none⟩) h⟩
end Pg
