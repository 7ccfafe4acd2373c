/-
  What touches what, turned round, in plain Lean. (No program.)
  What hangs together, in plain Lean: under a list of pairs, each number's least one. (No program.)
  The reference's groups, in plain Lean: marks that grow until nothing touches what is not marked. (No program.)
-/
import Derived.Test.YtcbjmcnebmhgpaaGreatKJoiA
import Derived.Test.YtcbjmcnebmhgpaaGreatKRefRB
import Derived.Test.YtcbjmcnebmhgpaaGreatKJoiB
set_option linter.unusedVariables false
set_option linter.unusedSimpArgs false
namespace Go.Proofs.YtcbjmcnebmhgpaaGreat
open Go.RowKit Pg
theorem touch_swapJ (k k' : Int) (l l' : List Pt) : touchS ⟨k',l'⟩ ⟨k,l⟩ = touchS ⟨k,l⟩ ⟨k',l'⟩ := by
 by_cases ho : ckOb ⟨k,l⟩ = 0
 case neg => rw [touch_no1 ho,touch_no2 ho]
 by_cases hq : ckOb ⟨k',l'⟩ = 0
 case neg => rw [touch_no1 hq,touch_no2 hq]
 by_cases hk : k = 4
 · subst hk
   by_cases hk' : k' = 4
   · subst hk'
     rw [touch_44 ho hq, touch_44 hq ho, ringsR_swap]
   · rw [touch_4b ho hq hk', touch_b4 hq ho hk']
 · by_cases hk' : k' = 4
   · subst hk'
     rw [touch_4b hq ho hk, touch_b4 ho hq hk]
   · rw [touch_bb ho hq hk hk', touch_bb hq ho hk' hk, _root_.Pg.bmeets_swap]
theorem mem_pairsP {a b : List (Int × Ob)} {i j : Int} : (i,j) ∈ pairsP a b ↔ ∃ x y,(i,x) ∈ a ∧ (j,y) ∈ b ∧ touchS x y = true := by
 unfold pairsP rowP
 simp only [List.mem_flatMap,List.mem_map,List.mem_filter]
 constructor
 · rintro ⟨⟨i',x⟩,hx,⟨j',y⟩,⟨hy,ht⟩,e⟩
   injection e with e1 e2
   subst e1 e2;exact ⟨x,y,hx,hy,ht⟩
 · rintro ⟨x,y,hx,hy,ht⟩
   exact ⟨(i,x),hx,(j,y),⟨hy,ht⟩,rfl⟩
end Go.Proofs.YtcbjmcnebmhgpaaGreat
namespace Pg
def mrg (c : Int → Int) (p : Int × Int) : Int → Int := fun i => if c i = max (c p.1) (c p.2) then min (c p.1) (c p.2) else c i
def ufC (l : List (Int × Int)) : Int → Int := l.foldl mrg fun i => i
theorem ufC_snoc (l : List (Int × Int)) (p : Int × Int) : ufC (l ++ [p]) = mrg (ufC l) p := by unfold ufC;rw [List.foldl_append];rfl
theorem list_snoc {α : Type} {P : List α → Prop} (h0 : P []) (hs : ∀ l x,P l → P (l ++ [x])) : ∀ l,P l := by
 intro l
 have : ∀ l : List α,P l.reverse := fun l => by
  induction l with
  | nil => exact h0
  | cons x r ih => rw [List.reverse_cons];exact hs _ _ ih
 rw [← List.reverse_reverse l]
 exact this _
structure CanC (c : Int → Int) : Prop where
 le : ∀ i,c i ≤ i
 idem : ∀ i,c (c i) = c i
theorem CanC.mrg {c : Int → Int} (h : CanC c) (p : Int × Int) : CanC (mrg c p) := by
 refine ⟨fun i => ?_,fun i => ?_⟩
 · unfold Pg.mrg
   have := h.le i
   split <;> omega
 · have e1 := h.idem p.1
   have e2 := h.idem p.2;have e3 := h.idem i;unfold Pg.mrg
   by_cases hi : c i = max (c p.1) (c p.2)
   · rw [if_pos hi]
     have hm : c (min (c p.1) (c p.2)) = min (c p.1) (c p.2) := by
      rcases Int.le_total (c p.1) (c p.2) with q | q
      · rw [Int.min_eq_left q];exact e1
      · rw [Int.min_eq_right q];exact e2
     split
     · rfl
     · exact hm
   · rw [if_neg hi, e3, if_neg hi]
theorem ufC_can : ∀ l,CanC (ufC l) := list_snoc ⟨fun i => Int.le_refl _,fun i => rfl⟩ fun l x ih => by rw [ufC_snoc];exact ih.mrg x
theorem mrg_same {c : Int → Int} {p : Int × Int} {i j : Int} (h : c i = c j) : mrg c p i = mrg c p j := by unfold mrg;rw [h]
theorem mrg_pair (c : Int → Int) (p : Int × Int) : mrg c p p.1 = mrg c p p.2 := by
 unfold mrg
 rcases Int.le_total (c p.1) (c p.2) with q | q
 · rw [Int.max_eq_right q,Int.min_eq_left q,if_pos rfl]
   split
   · rfl
   · rfl
 · rw [Int.max_eq_left q,Int.min_eq_right q,if_pos rfl]
   split
   · rfl
   · rfl
theorem ufC_joins : ∀ l (p : Int × Int),p ∈ l → ufC l p.1 = ufC l p.2 := list_snoc (fun p h => by cases h) fun l x ih p h => by
 rw [ufC_snoc]
 rcases List.mem_append.1 h with q | q
 · exact mrg_same (ih p q)
 · rw [List.mem_singleton.1 q]
   exact mrg_pair _ _
theorem ufC_closed {S : Int → Prop} : ∀ l : List (Int × Int),(∀ p ∈ l,S p.1 ↔ S p.2) → ∀ i,S i ↔ S (ufC l i) := list_snoc (fun _ i => Iff.rfl) fun l x ih h i => by
 have ih' := ih fun p hp => h p (List.mem_append_left _ hp)
 have hx := h x (by simp)
 have h12 : S (ufC l x.1) ↔ S (ufC l x.2) := (ih' x.1).symm.trans (hx.trans (ih' x.2))
 rw [ufC_snoc]
 unfold mrg
 split
 · rename_i e
   rw [ih' i, e]
   rcases Int.le_total (ufC l x.1) (ufC l x.2) with q | q
   · rw [Int.max_eq_right q,Int.min_eq_left q];exact h12.symm
   · rw [Int.max_eq_left q,Int.min_eq_right q];exact h12
 · exact ih' i
def memS (c : Int → Int) (ids : List Int) (r : Int) : List Int := ids.filter fun i => decide (c i = r)
def grpS (c : Int → Int) (ids : List Int) : List (List Int) := (ids.filter fun i => decide (c i = i)).map (memS c ids)
structure UfP (F : List (Int × Int)) (ids : List Int) (c : Int → Int) : Prop where
 rise : Rising F
 can : CanC c
 at_ : ∀ i ∈ ids,∃ j,getK i F = some j ∧ j ∈ ids ∧ j ≤ i ∧ c j = c i ∧ (j = i → c i = i)
theorem UfP.mem {F : List (Int × Int)} {ids : List Int} {c : Int → Int} (h : UfP F ids c) (h0 : ∀ i ∈ ids,0 ≤ i) : ∀ i ∈ ids,c i ∈ ids := by
 have : ∀ (n : Nat) (i : Int),i ∈ ids → i.toNat ≤ n → c i ∈ ids := by
  intro n
  induction n with
  | zero =>
    intro i hi hn;obtain ⟨j,_,hj,hle,hc,he⟩ := h.at_ i hi;have h1 := h0 i hi;have h2 := h0 j hj;have : j = i := by omega
    rw [he this]
    exact hi
  | succ n ih =>
    intro i hi hn;obtain ⟨j,_,hj,hle,hc,he⟩ := h.at_ i hi
    by_cases e : j = i
    · rw [he e];exact hi
    · rw [← hc]
      have h1 := h0 i hi;have h2 := h0 j hj;exact ih j hj (by omega)
 exact fun i hi => this _ i hi (Nat.le_refl _)
theorem UfP.merge {F : List (Int × Int)} {ids : List Int} {c : Int → Int} (h : UfP F ids c) (h0 : ∀ i ∈ ids,0 ≤ i) {p : Int × Int} (h1 : p.1 ∈ ids) (h2 : p.2 ∈ ids) :
 UfP (putK (max (c p.1) (c p.2)) (min (c p.1) (c p.2)) F) ids (mrg c p) := by
 refine ⟨h.rise.put _ _,h.can.mrg p,fun i hi => ?_⟩
 have hm := h.mem h0
 rw [get_put h.rise]
 have hmin : min (c p.1) (c p.2) ∈ ids ∧ c (min (c p.1) (c p.2)) = min (c p.1) (c p.2) := by
  rcases Int.le_total (c p.1) (c p.2) with q | q
  · rw [Int.min_eq_left q];exact ⟨hm _ h1,h.can.idem _⟩
  · rw [Int.min_eq_right q];exact ⟨hm _ h2,h.can.idem _⟩
 have hmax : c (max (c p.1) (c p.2)) = max (c p.1) (c p.2) := by
  rcases Int.le_total (c p.1) (c p.2) with q | q
  · rw [Int.max_eq_right q];exact h.can.idem _
  · rw [Int.max_eq_left q];exact h.can.idem _
 by_cases e : i = max (c p.1) (c p.2)
 · rw [if_pos e]
   refine ⟨_,rfl,hmin.1,by omega,?_,fun q => ?_⟩
   · unfold mrg
     rw [hmin.2, e, hmax, if_pos rfl]
     split <;> rfl
   · unfold mrg
     rw [e, hmax, if_pos rfl]
     omega
 · rw [if_neg e]
   obtain ⟨j,hj,hji,hle,hc,he⟩ := h.at_ i hi;refine ⟨j,hj,hji,hle,mrg_same hc,fun q => ?_⟩
   unfold mrg
   rw [if_neg (by rw [he q];exact e)]
   exact he q
def idsO (l : List (Int × Ob)) : List Int := l.map (·.1)
theorem mem_upJ {a b : List (Int × Ob)} {i j : Int} : (i,j) ∈ upJ (pairsP a b) ↔ i < j ∧ ∃ x y,(i,x) ∈ a ∧ (j,y) ∈ b ∧ touchS x y = true := by
 unfold upJ
 rw [List.mem_filter,Go.Proofs.YtcbjmcnebmhgpaaGreat.mem_pairsP]
 simp
 constructor
 · rintro ⟨h1,h2⟩
   exact ⟨h2,h1⟩
 · rintro ⟨h1,h2⟩
   exact ⟨h2,h1⟩
def tchC (l : List (Int × Ob)) : Int → Int := ufC (upJ (pairsP l l))
theorem tchC_joins {l : List (Int × Ob)} {i j : Int} {x y : Ob} (hx : (i,x) ∈ l) (hy : (j,y) ∈ l) (h : touchS x y = true) : tchC l i = tchC l j := by
 rcases Int.lt_trichotomy i j with q | q | q
 · exact ufC_joins _ (i,j) (mem_upJ.2 ⟨q,x,y,hx,hy,h⟩)
 · rw [q]
 · exact (ufC_joins _ (j,i) (mem_upJ.2 ⟨q,y,x,hy,hx,by rw [← h];exact Go.Proofs.YtcbjmcnebmhgpaaGreat.touch_swapJ x.kind y.kind x.pts y.pts⟩)).symm
theorem tchC_closed {l : List (Int × Ob)} {S : Int → Prop} (h : ∀ i j x y,(i,x) ∈ l → (j,y) ∈ l → touchS x y = true → (S i ↔ S j)) (i : Int) : S i ↔ S (tchC l i) :=
 ufC_closed _ (fun p hp => by
  obtain ⟨_,x,y,hx,hy,ht⟩ := mem_upJ.1 hp
  exact h _ _ x y hx hy ht) i
theorem tchC_mem {l : List (Int × Ob)} {i : Int} (h : i ∈ idsO l) : tchC l i ∈ idsO l :=
 (tchC_closed (S := fun i => i ∈ idsO l) (fun i j x y hx hy _ => ⟨fun _ => List.mem_map.2 ⟨_,hy,rfl⟩,fun _ => List.mem_map.2 ⟨_,hx,rfl⟩⟩) i).1 h
theorem UfP.start {ids : List Int} {F : List (Int × Int)} (hF : Rising F) (h : ∀ i ∈ ids,getK i F = some i) : UfP F ids fun i => i :=
 ⟨hF,⟨fun i => Int.le_refl _,fun i => rfl⟩,fun i hi => ⟨i,h i hi,hi,Int.le_refl _,rfl,fun _ => rfl⟩⟩
section
variable {L : List (Int × Ob)} {r : Int} {f ds : Nat → Bool}
end
section
variable {c : Int → Int} {ids : List Int}
def memT (c : Int → Int) (ids : List Int) (r : Int) (i : Nat) : List Int := (ids.take i).filter fun i => decide (c i = r)
theorem memT_all (r : Int) : memT c ids r ids.length = memS c ids r := by unfold memT memS;rw [List.take_length]
theorem memT_step {i : Nat} {d : Int} (h : ids[i]? = some d) (r : Int) : memT c ids r (i + 1) = memT c ids r i ++ if c d = r then [d] else [] := by
 unfold memT
 rw [List.take_add_one,h,Option.toList_some,List.filter_append]
 congr 1
 by_cases q : c d = r <;> simp [q]
theorem memT_len (r : Int) (i : Nat) : (memT c ids r i).length ≤ i := Nat.le_trans (List.length_filter_le _ _) (by rw [List.length_take];omega)
theorem memS_ne {d : Int} (h : d ∈ ids) (hc : c d = d) : memS c ids d ≠ [] := by
 have : d ∈ memS c ids d := List.mem_filter.2 ⟨h,by simpa using hc⟩
 exact List.ne_nil_of_mem this
end
end Pg
