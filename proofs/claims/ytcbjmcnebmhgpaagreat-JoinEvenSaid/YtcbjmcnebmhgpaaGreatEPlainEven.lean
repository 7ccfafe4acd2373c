/-
  What touches what, turned round, in plain Lean. (No program.)
-/
import Derived.Test.YtcbjmcnebmhgpaaGreatEJoiA
import Derived.Test.YtcbjmcnebmhgpaaGreatERefRB
import Derived.Test.YtcbjmcnebmhgpaaGreatEJoiB
set_option linter.unusedVariables false
set_option linter.unusedSimpArgs false
namespace Go.Proofs.YtcbjmcnebmhgpaaGreat
open Go.RowKit Pg
theorem touch_swapJ (k k' : Int) (l l' : List Pt) : touchS ⟨k',l'⟩ ⟨k,l⟩ = touchS ⟨k,l⟩ ⟨k',l'⟩ := by
 by_cases ho : ckOb ⟨k,l⟩ = 0
 case neg => rw [touch_no1 ho,touch_no2 ho]
 by_cases hq : ckOb ⟨k',l'⟩ = 0
 case neg => rw [touch_no1 hq,touch_no2 hq]
 by_cases hk : k = 4
 · subst hk
   by_cases hk' : k' = 4
   · subst hk'
     rw [touch_44 ho hq, touch_44 hq ho, ringsR_swap]
   · rw [touch_4b ho hq hk', touch_b4 hq ho hk']
 · by_cases hk' : k' = 4
   · subst hk'
     rw [touch_4b hq ho hk, touch_b4 ho hq hk]
   · rw [touch_bb ho hq hk hk', touch_bb hq ho hk' hk, _root_.Pg.bmeets_swap]
theorem mem_pairsP {a b : List (Int × Ob)} {i j : Int} : (i,j) ∈ pairsP a b ↔ ∃ x y,(i,x) ∈ a ∧ (j,y) ∈ b ∧ touchS x y = true := by
 unfold pairsP rowP
 simp only [List.mem_flatMap,List.mem_map,List.mem_filter]
 constructor
 · rintro ⟨⟨i',x⟩,hx,⟨j',y⟩,⟨hy,ht⟩,e⟩
   injection e with e1 e2
   subst e1 e2;exact ⟨x,y,hx,hy,ht⟩
 · rintro ⟨x,y,hx,hy,ht⟩
   exact ⟨(i,x),hx,(j,y),⟨hy,ht⟩,rfl⟩
theorem pairs_turned {a b : List (Int × Ob)} {i j : Int} (h : (i,j) ∈ pairsP a b) : (j,i) ∈ pairsP b a := by
 obtain ⟨x,y,hx,hy,ht⟩ := mem_pairsP.1 h;exact mem_pairsP.2 ⟨y,x,hy,hx,by rw [← ht];exact touch_swapJ x.kind y.kind x.pts y.pts⟩
def lexP (p q : Int × Int) : Prop := p.1 < q.1 ∨ (p.1 = q.1 ∧ p.2 < q.2)
theorem pairs_rise {a b : List (Int × Ob)} (ha : Rising a) (hb : Rising b) : (pairsP a b).Pairwise lexP := by
 induction a with
 | nil => exact List.Pairwise.nil
 | cons x r ih =>
   obtain ⟨h1,h2⟩ := List.pairwise_cons.1 ha;have e : pairsP (x :: r) b = rowP x b ++ pairsP r b := rfl
   rw [e, List.pairwise_append]
   refine ⟨?_,ih h2,?_⟩
   · unfold rowP
     rw [List.pairwise_map]
     exact (hb.sublist List.filter_sublist).imp fun h => .inr ⟨rfl,h⟩
   · rintro p hp ⟨i, j⟩ hq
     obtain ⟨u,v,hu,_,_⟩ := mem_pairsP.1 hq;unfold rowP at hp;obtain ⟨y,_,rfl⟩ := List.mem_map.1 hp;exact .inl (h1 _ hu)
theorem lexP_nodup {l : List (Int × Int)} (h : l.Pairwise lexP) : l.Nodup := h.imp fun {p q} h e => by
 subst e
 rcases h with h | ⟨_,h⟩ <;> omega
theorem sub_len {α : Type} [BEq α] [LawfulBEq α] : ∀ {l m : List α},l.Nodup → (∀ x ∈ l,x ∈ m) → l.length ≤ m.length
 | [],_,_,_ => Nat.zero_le _
 | x :: r,m,h,hs => by
   obtain ⟨h1,h2⟩ := List.nodup_cons.1 h;have hx : x ∈ m := hs x (by simp)
   have := sub_len (l := r) (m := m.erase x) h2 fun y hy => (List.mem_erase_of_ne (fun e : y = x => h1 (by rw [← e];exact hy))).2 (hs y (by simp [hy]))
   rw [List.length_erase_of_mem hx] at this;have := List.length_pos_of_mem hx
   rw [List.length_cons]
   omega
theorem pairs_even {a b : List (Int × Ob)} (ha : Rising a) (hb : Rising b) : (pairsP a b).length = (pairsP b a).length := by
 have key : ∀ {a b : List (Int × Ob)},Rising a → Rising b → (pairsP a b).length ≤ (pairsP b a).length := fun {a b} ha hb => by
  have hn : ((pairsP a b).map fun p => (p.2,p.1)).Nodup := by
   have := lexP_nodup (pairs_rise ha hb)
   rw [List.Nodup, List.pairwise_map]
   exact this.imp fun {p q} h e => h (by obtain ⟨p1,p2⟩ := p;obtain ⟨q1,q2⟩ := q;injection e with e1 e2;simp_all)
  have := sub_len hn fun x hx => by
   obtain ⟨⟨i,j⟩,hp,rfl⟩ := List.mem_map.1 hx;exact pairs_turned hp
  rwa [List.length_map] at this
 exact Nat.le_antisymm (key ha hb) (key hb ha)
end Go.Proofs.YtcbjmcnebmhgpaaGreat
