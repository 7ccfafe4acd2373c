/-
  The law for a drawn region that stores into one block of the call's own and reads others, older and newer: nothing but that block turns.
  The law for a drawn region where the blocks below a base, and some newer ones that are named, stay as they are: for an append to the call's own row beside loads of newer blocks.
-/
import Derived.Test.YtjdgibpjlhpanaaGreatDoorLex
import Derived.Test.YtjdgibpjlhpanaaGreatDoorWords
namespace Pg
open Go Go.RowKit

/-- all blocks but B are as they were -/
structure Away (B : Nat) (a w : World) : Prop where
  size : a.heap.size ≤ w.heap.size
  block : ∀ k, k < a.heap.size → k ≠ B → w.heap[k]? = a.heap[k]?
namespace Away
variable {B : Nat} {a b w : World}
theorem refl (B : Nat) (w : World) : Away B w w := ⟨Nat.le_refl _, fun _ _ _ => rfl⟩
theorem drew (h : Away B a w) : Away B a w.drew := ⟨h.size, h.block⟩
theorem put (h : Away B a w) (i : Nat) (u : Value) : Away B a (w.setCell ⟨B, i, none⟩ u) :=
  ⟨by simp [World.setCell]; exact h.size, fun k hk hB => (Below.heap_setCell _ _ _ _ hB).trans (h.block k hk hB)⟩
theorem alloc (h : Away B a w) (o : Obj) : Away B a (w.alloc o) :=
  ⟨by simp; exact Nat.le_succ_of_le h.size, fun k hk hB => (Below.heap_alloc _ _ _ (Nat.lt_of_lt_of_le hk h.size)).trans (h.block k hk hB)⟩
theorem below (h : Away B a w) (k : Below w.heap.size w b) : Away B a b :=
  ⟨Nat.le_trans h.size k.size, fun j hj hB => (k.block j (Nat.lt_of_lt_of_le hj h.size)).trans (h.block j hj hB)⟩
end Away
theorem acell {B : Nat} {W w1 : World} (h : Away B W w1) : (∀ b o, b ≠ B → b < W.heap.size → w1.cell? ⟨b, o, none⟩ = W.cell? ⟨b, o, none⟩) ∧ (∀ b o, b ≠ B → b < W.heap.size → w1.frozen? ⟨b, o, none⟩ = W.frozen? ⟨b, o, none⟩) :=
  ⟨fun b o h1 h2 => World.cell?_of_block (a := ⟨b, o, none⟩) (h.block b h2 h1), fun b o h1 h2 => World.frozen?_of_block (a := ⟨b, o, none⟩) (h.block b h2 h1)⟩
theorem wp_region_away {P : Program} {Q : Exit → Act → World → Prop} (B : Nat) (p : List Nat) {l : List Oper} {id : Nat} {a : Act} {w : World} (hm : P.follows .mixedOrders = true)
    (hs : (Region.noSelect l.toArray && (decide (p.length ≤ l.length) && (planOk l.toArray p (Array.replicate l.length false) && p.all fun i => decide (i < l.length)))) = true) (hQ : ∀ c a d v w, Q (.panic c) (a.put d v) w → Q (.panic c) a w)
    (h : lexL P Q (fun w' => Away B w w') (p.map fun i => (bare (l.getD i default), gslot l (l.getD i default))) a w.drew) : (Code.region id l.toArray true).wp P Q a w := by
  simp only [Bool.and_eq_true, decide_eq_true_eq, List.all_eq_true] at hs
  exact wp_region_lex p _ hm hs.1 (by simpa using hs.2.1) (by simpa using hs.2.2.1) hQ ((Away.refl _ _).drew) (lexH_of_lexL p a _ hs.2.2.2 h)
end Pg
namespace Pg
open Go Go.RowKit

/-- the blocks below B, and those of L, are as they were -/
structure Keep (B : Nat) (L : List Nat) (a w : World) : Prop where
  size : a.heap.size ≤ w.heap.size
  block : ∀ k, k < a.heap.size → (k < B ∨ k ∈ L) → w.heap[k]? = a.heap[k]?
namespace Keep
variable {B : Nat} {L : List Nat} {a b w : World}
theorem refl (B : Nat) (L : List Nat) (w : World) : Keep B L w w := ⟨Nat.le_refl _, fun _ _ _ => rfl⟩
theorem drew (h : Keep B L a w) : Keep B L a w.drew := ⟨h.size, h.block⟩
theorem alloc (h : Keep B L a w) (o : Obj) : Keep B L a (w.alloc o) :=
  ⟨by simp; exact Nat.le_succ_of_le h.size, fun k hk hB => (Below.heap_alloc _ _ _ (Nat.lt_of_lt_of_le hk h.size)).trans (h.block k hk hB)⟩
theorem below (h : Keep B L a w) (k : Below w.heap.size w b) : Keep B L a b :=
  ⟨Nat.le_trans h.size k.size, fun j hj hB => (k.block j (Nat.lt_of_lt_of_le hj h.size)).trans (h.block j hj hB)⟩
theorem grown (h : Keep B L a w) {row : Option Nat} (hg : w.grownBy b row) (hr : ∀ k, row = some k → B ≤ k ∧ k ∉ L) : Keep B L a b :=
  ⟨Nat.le_trans h.size hg.size, fun j hj hB => (hg.block j (Nat.lt_of_lt_of_le hj h.size) (fun e => by have := hr j e.symm; rcases hB with hB | hB; omega; exact this.2 hB)).trans (h.block j hj hB)⟩
end Keep
theorem kcell {B : Nat} {L : List Nat} {W w1 : World} (h : Keep B L W w1) : (∀ b o, (b < B ∨ b ∈ L) → b < W.heap.size → w1.cell? ⟨b, o, none⟩ = W.cell? ⟨b, o, none⟩) ∧ (∀ b o, (b < B ∨ b ∈ L) → b < W.heap.size → w1.frozen? ⟨b, o, none⟩ = W.frozen? ⟨b, o, none⟩) :=
  ⟨fun b o h1 h2 => World.cell?_of_block (a := ⟨b, o, none⟩) (h.block b h2 h1), fun b o h1 h2 => World.frozen?_of_block (a := ⟨b, o, none⟩) (h.block b h2 h1)⟩
theorem wp_region_keep {P : Program} {Q : Exit → Act → World → Prop} (B : Nat) (L : List Nat) (p : List Nat) {l : List Oper} {id : Nat} {a : Act} {w : World} (hm : P.follows .mixedOrders = true)
    (hs : (Region.noSelect l.toArray && (decide (p.length ≤ l.length) && (planOk l.toArray p (Array.replicate l.length false) && p.all fun i => decide (i < l.length)))) = true) (hQ : ∀ c a d v w, Q (.panic c) (a.put d v) w → Q (.panic c) a w)
    (h : lexL P Q (fun w' => Keep B L w w') (p.map fun i => (bare (l.getD i default), gslot l (l.getD i default))) a w.drew) : (Code.region id l.toArray true).wp P Q a w := by
  simp only [Bool.and_eq_true, decide_eq_true_eq, List.all_eq_true] at hs
  exact wp_region_lex p _ hm hs.1 (by simpa using hs.2.1) (by simpa using hs.2.2.1) hQ ((Keep.refl _ _ _).drew) (lexH_of_lexL p a _ hs.2.2.2 h)
theorem owns_drew {w : World} {base : Nat} {e : TypeId} {s n : Nat} {v : Value} {cs : List Value} (h : w.ownsRow base e s v n cs) : w.drew.ownsRow base e s v n cs := h
end Pg
