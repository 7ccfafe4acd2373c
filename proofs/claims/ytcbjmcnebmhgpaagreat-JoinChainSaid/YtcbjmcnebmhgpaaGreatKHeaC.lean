/-
  heap: its entries in memory,how two are compared;the contracts of rank,number,compare,less,Len,Top,New,Push,Pop.
  heap: less, Len, Top, New, Push, Pop.
  heap: Pop.
-/
import Derived.Test.YtcbjmcnebmhgpaaGreatKGisB
import Derived.Test.YtcbjmcnebmhgpaaGreatKNearP
import Derived.Test.YtcbjmcnebmhgpaaGreatKPlainSplit
import Derived.Test.YtcbjmcnebmhgpaaGreatKWide
import Derived.Test.YtcbjmcnebmhgpaaGreatKBits2
import Derived.StillTailTactics
import Derived.Test.YtcbjmcnebmhgpaaGreatKLex
import Derived.Test.YtcbjmcnebmhgpaaGreatKAlloc
import Derived.Test.YtcbjmcnebmhgpaaGreatKSplA
import Derived.Test.YtcbjmcnebmhgpaaGreatKLexR
set_option linter.unusedVariables false
set_option linter.unusedSimpArgs false
namespace Pg
open Go Go.RowKit
section
variable {α : Type} {f : α → List Value} {s : Nat}
theorem flat_len (hf : ∀ a,(f a).length = s) (l : List α) : (l.flatMap f).length = l.length * s := by
 induction l with
 | nil => simp
 | cons a r ih => rw [List.flatMap_cons,List.length_append,ih,hf,List.length_cons,Nat.succ_mul];omega
theorem flat_drop (hf : ∀ a,(f a).length = s) (l : List α) (k : Nat) : (l.flatMap f).drop (k * s) = (l.drop k).flatMap f := by
 induction l generalizing k with
 | nil => simp
 | cons a r ih =>
   cases k with
   | zero => simp
   | succ k =>
     rw [List.drop_succ_cons,List.flatMap_cons,← ih,show (k + 1) * s = s + k * s by rw [Nat.succ_mul];omega,← List.drop_drop]
     congr 1
     rw [List.drop_append_of_le_length (by rw [hf];omega),List.drop_eq_nil_of_le (by rw [hf];omega),List.nil_append]
theorem flat_take (hf : ∀ a,(f a).length = s) (l : List α) (k : Nat) : (l.flatMap f).take (k * s) = (l.take k).flatMap f := by
 induction l generalizing k with
 | nil => simp
 | cons a r ih =>
   cases k with
   | zero => simp
   | succ k =>
     rw [List.take_succ_cons,List.flatMap_cons,List.flatMap_cons,← ih,show (k + 1) * s = (f a).length + k * s by rw [Nat.succ_mul,hf];omega,List.take_length_add_append]
def setN (xs : List Value) (o : Nat) : List Value → List Value
 | [] => xs
 | u :: r => setN (xs.set o u) (o + 1) r
theorem setN_eq : ∀ (us xs : List Value) (o : Nat),o + us.length ≤ xs.length → setN xs o us = xs.take o ++ us ++ xs.drop (o + us.length)
 | [],xs,o,_ => by simp [setN]
 | u :: r,xs,o,h => by
   unfold setN
   rw [List.length_cons] at h ⊢
   rw [setN_eq r _ _ (by rw [List.length_set];omega)]
   rw [List.take_set, List.drop_set_of_lt (by omega), List.take_add_one, List.getElem?_eq_getElem (show o < xs.length by omega)]
   rw [List.set_append_right _ _ (by simp;omega)]
   simp
   have h1 : o - min o xs.length = 0 := by omega
   rw [h1]
   simp
   congr 1
   omega
theorem flat_setN (hf : ∀ a,(f a).length = s) {l : List α} {k : Nat} (hk : k < l.length) (y : α) : setN (l.flatMap f) (k * s) (f y) = (l.set k y).flatMap f := by
 have h1 : k * s + s ≤ l.length * s := by rw [← Nat.succ_mul];exact Nat.mul_le_mul_right _ hk
 rw [setN_eq _ _ _ (by rw [hf,flat_len hf];exact h1),hf,flat_take hf,show k * s + s = (k + 1) * s by rw [Nat.succ_mul],flat_drop hf,List.set_eq_take_append_cons_drop,if_pos hk]
 simp [List.flatMap_append,List.flatMap_cons]
end
end Pg
namespace Go.Proofs.YtcbjmcnebmhgpaaGreat
open Go Go.RowKit Pg
theorem gen_w {Φ : World → Prop} {w : World} (R : World → Prop) (h : R w) (k : ∀ w2,R w2 → Φ w2) : Φ w := k w h
section
variable {w w' : World} {F : Nat → Prop} {hb c : Nat} {v : Value}
theorem own_setH {w : World} {base size n g c o : Nat} {e : TypeId} {xs : List Value} (h : w.ownsRow base e size (.slice (some ⟨g,0,none⟩) n c) n xs) (ho : o < n * size) (u : Value) : (w.setCell ⟨g,o,none⟩ u).ownsRow base e size (.slice (some ⟨g,0,none⟩) n c) n (xs.set o u) := by
 rcases h.2 with ⟨h0,_⟩ | ⟨g',cap,cur,h0,hbg,hg,hnc,hcm,hcs,htake⟩
 · cases h0
 · injection h0 with h1 h2 h3
   injection h1 with h1
   injection h1 with h1
   subst h1 h3;refine ⟨by rw [List.length_set];exact h.1,.inr ⟨g,c,cur.setIfInBounds o u,rfl,hbg,?_,hnc,hcm,?_,?_⟩⟩
   · simp [World.setCell, Array.getElem?_modify, hg]
   · simpa using hcs
   · simp [List.take_set, htake]
end
section
variable {w w' : World} {F : Nat → Prop} {hb c : Nat} {v : Value}
theorem own_shrink {base size n m g cc : Nat} {e : TypeId} {xs : List Value} (h : w.ownsRow base e size (.slice (some ⟨g,0,none⟩) n cc) n xs) (hm : m ≤ n) : w.ownsRow base e size (.slice (some ⟨g,0,none⟩) m cc) m (xs.take (m * size)) := by
 rcases h.2 with ⟨h0,_⟩ | ⟨g',cap,cur,h0,hbg,hg,hnc,hcm,hcs,htake⟩
 · cases h0
 · injection h0 with h1 h2 h3
   injection h1 with h1
   injection h1 with h1
   subst h1 h3;have hx := h.1;have hms : m * size ≤ n * size := Nat.mul_le_mul_right _ hm;refine ⟨by rw [List.length_take];omega,.inr ⟨g,cc,cur,rfl,hbg,hg,by omega,hcm,hcs,?_⟩⟩
   rw [← htake, List.take_take, Nat.min_eq_left hms]
end
end Go.Proofs.YtcbjmcnebmhgpaaGreat
