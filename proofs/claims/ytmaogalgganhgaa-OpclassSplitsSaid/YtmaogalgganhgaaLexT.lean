/-
  A law for a drawn region whose last operations ask of memory that the region itself has made: behind the last loud operation the world is known.
-/
import Derived.Test.YtmaogalgganhgaaLexS
namespace Pg
open Go Go.RowKit

/-- what is to be shown where the first part of the plan has come up: the second, in this very world -/
def two (P : Program) (Q : Exit → Act → World → Prop) (l2 : List (Oper × Option (Option Tmp × Bool))) : Exit → Act → World → Prop
  | .normal, a, w => lexL P Q (fun w' => w' = w) l2 a w
  | x, a, w => Q x a w

theorem wpAnyH_weaken {P : Program} {ops : Array Oper} {Q : Exit → Act → World → Prop} {md : Region.Mode} {S S' : World → Prop} (hS : ∀ w, S' w → S w) : ∀ (fuel : Nat) (listed : Array Bool) (a : Act) (w : World), wpAnyH P md ops Q S' fuel listed a w → wpAnyH P md ops Q S fuel listed a w
  | 0, _, _, _, h => h
  | fuel + 1, _, _, _, h => ⟨h.1, fun i hi => wpOp_mono (fun a' w' h' => ⟨hS _ h'.1, wpAnyH_weaken hS fuel _ a' w' h'.2⟩) (h.2 i hi)⟩

theorem wpOp_two {P : Program} {ops : Array Oper} {Q1 Q2 : Exit → Act → World → Prop} {i : Nat} {K : Act → World → Prop} {a : Act} {w : World} (h1 : ∀ c a w, Q1 (.panic c) a w → Q2 (.panic c) a w) (h2 : LetsOut Q1 → LetsOut Q2)
    (h : wpOp P ops Q1 i K a w) : wpOp P ops Q2 i K a w := by
  unfold wpOp at *
  cases ho : ops[i]? with
  | none => rw [ho] at h; exact h
  | some o =>
    rw [ho] at h
    simp only at h ⊢
    by_cases hw : Region.wanted o (yielded ops a.tmps) = true
    · rw [if_pos hw] at h ⊢
      rcases h with h | ⟨h3, h4⟩
      · exact .inl (opwp_mono2 (fun _ _ h => h) h1 h2 h)
      · exact .inr ⟨h3, h2 h4⟩
    · rw [if_neg hw] at h ⊢
      exact h

section
variable {P : Program} {ops : Array Oper} {Q : Exit → Act → World → Prop} {S : World → Prop} {l2 : List (Oper × Option (Option Tmp × Bool))}
theorem lexH_two (hs : Region.noSelect ops = true) (hQ : ∀ c a d v w, Q (.panic c) (a.put d v) w → Q (.panic c) a w) (p2 : List Nat)
    (h2 : ∀ a w, lexL P Q (fun w' => w' = w) l2 a w → lexH P ops Q (fun w' => w' = w) p2 a w) : ∀ (p1 : List Nat) (fuel : Nat) (listed : Array Bool) (a : Act) (w : World),
    (p1 ++ p2).length ≤ fuel → planOk ops (p1 ++ p2) listed = true → S w → lexH P ops (two P Q l2) S p1 a w → wpAnyH P .any ops Q S fuel listed a w := by
  intro p1
  induction p1 with
  | nil =>
    intro fuel listed a w hf hp hS h
    have h : lexL P Q (fun w' => w' = w) l2 a w := h
    exact wpAnyH_weaken (S' := fun w' => w' = w) (fun w' e => by subst e; exact hS) _ _ _ _ (lexH_sound (S := fun w' => w' = w) hs hQ p2 fuel listed a w (by simpa using hf) (by simpa using hp) rfl (h2 a w h))
  | cons i r ih =>
    intro fuel listed a w hf hp hS h
    obtain ⟨n, rfl⟩ : ∃ n, fuel = n + 1 := ⟨fuel - 1, by simp at hf; omega⟩
    have hn : (r ++ p2).length ≤ n := by simp at hf ⊢; omega
    simp only [List.cons_append, planOk, Bool.and_eq_true] at hp
    obtain ⟨hp1, hp2⟩ := hp
    unfold lexH at h
    by_cases hq : quietAt ops i = true
    · rw [if_pos hq] at h
      rw [if_pos hq, Bool.and_eq_true] at hp1
      obtain ⟨o, v, ho, hy, h⟩ := h
      exact wpAnyH_take ho hs hp1.1 hp1.2 (fun c a w hh => hQ c a _ _ w hh) hy hS (ih n _ _ w hn hp2 hS h)
    · rw [if_neg hq] at h
      rw [if_neg hq] at hp1
      have hr : Region.ready .any ops listed = [i] := by simpa using hp1
      refine wpAnyH_all hr (by simp) (fun j hj => ?_)
      have hj : j = i := by simpa using hj
      subst hj
      exact wpOp_two (Q1 := two P Q l2) (fun _ _ _ h => h) (fun ⟨a, w, h⟩ => ⟨a, w, h⟩) (wpOp_mono (fun a' w' hh => ⟨hh.1, ih n _ a' w' hn hp2 hh.1 hh.2⟩) h)
end

theorem wp_region_two {P : Program} {Q : Exit → Act → World → Prop} (S : World → Prop) (p1 p2 : List Nat) {l : List Oper} {id : Nat} {a : Act} {w : World} (hm : P.follows .mixedOrders = true)
    (hs : (Region.noSelect l.toArray && (decide ((p1 ++ p2).length ≤ l.length) && (planOk l.toArray (p1 ++ p2) (Array.replicate l.length false) && (p1 ++ p2).all fun i => decide (i < l.length)))) = true) (hQ : ∀ c a d v w, Q (.panic c) (a.put d v) w → Q (.panic c) a w)
    (hS : S w.drew) (h : lexL P (two P Q (p2.map fun i => (bare (l.getD i default), gslot l (l.getD i default)))) S (p1.map fun i => (bare (l.getD i default), gslot l (l.getD i default))) a w.drew) : (Code.region id l.toArray true).wp P Q a w := by
  simp only [Bool.and_eq_true, decide_eq_true_eq, List.all_eq_true] at hs
  obtain ⟨s1, s2, s3, s4⟩ := hs
  refine wp_region_held hm (lexH_two s1 hQ p2 (fun a w h => lexH_of_lexL p2 a w (fun i hi => s4 i (by simp [hi])) h) p1 _ _ a _ (by simpa using s2) (by simpa using s3) hS (lexH_of_lexL p1 a _ (fun i hi => s4 i (by simp [hi])) h))
theorem wp_region_belowT {P : Program} {Q : Exit → Act → World → Prop} (p1 p2 : List Nat) {l : List Oper} {id : Nat} {a : Act} {w : World} (hm : P.follows .mixedOrders = true)
    (hs : (Region.noSelect l.toArray && (decide ((p1 ++ p2).length ≤ l.length) && (planOk l.toArray (p1 ++ p2) (Array.replicate l.length false) && (p1 ++ p2).all fun i => decide (i < l.length)))) = true) (hQ : ∀ c a d v w, Q (.panic c) (a.put d v) w → Q (.panic c) a w)
    (h : lexL P (two P Q (p2.map fun i => (bare (l.getD i default), gslot l (l.getD i default)))) (fun w' => RowKit.Below w.heap.size w w') (p1.map fun i => (bare (l.getD i default), gslot l (l.getD i default))) a w.drew) : (Code.region id l.toArray true).wp P Q a w :=
  wp_region_two _ p1 p2 hm hs hQ ((RowKit.Below.refl _ _).drew) h
theorem wp_region_belowBT {P : Program} {Q : Exit → Act → World → Prop} (B : Nat) (p1 p2 : List Nat) {l : List Oper} {id : Nat} {a : Act} {w : World} (hm : P.follows .mixedOrders = true)
    (hs : (Region.noSelect l.toArray && (decide ((p1 ++ p2).length ≤ l.length) && (planOk l.toArray (p1 ++ p2) (Array.replicate l.length false) && (p1 ++ p2).all fun i => decide (i < l.length)))) = true) (hQ : ∀ c a d v w, Q (.panic c) (a.put d v) w → Q (.panic c) a w)
    (h : lexL P (two P Q (p2.map fun i => (bare (l.getD i default), gslot l (l.getD i default)))) (fun w' => RowKit.Below B w w') (p1.map fun i => (bare (l.getD i default), gslot l (l.getD i default))) a w.drew) : (Code.region id l.toArray true).wp P Q a w :=
  wp_region_two _ p1 p2 hm hs hQ ((RowKit.Below.refl _ _).drew) h
end Pg
