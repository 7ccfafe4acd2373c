/-
  Contracts: opclass.Boxes,Make where nothing stops it;what the statements of chapter 16 share: awake.
  Own rows of keys: built by append, each key a row of bytes of its own.
-/
import Derived.Test.YtildgbhliaonnaaGreatQEncG
import Derived.Test.YtildgbhliaonnaaGreatQRel1
import Derived.LaidEql
import Derived.Stop.Asserts
import Derived.Lib.IfaceEq
import Derived.RowKitTokens
import Derived.Test.YtildgbhliaonnaaGreatQRef3
set_option linter.unusedVariables false
set_option linter.unusedSimpArgs false
namespace Go.Proofs.YtildgbhliaonnaaGreat
open Go.RowKit Pg
theorem pts1E {w : World} {g : Nat} {p : Pt} {t : TypeId} (h : Blk w g t #[.int .i64 p.x,.int .i64 p.y]) : PtsAt w w.heap.size (some ⟨g,0,none⟩) 1 [p] :=
 ⟨rfl,fun _ => ⟨g,0,rfl,h.lt,fun k s hs => by
  match k, hs with
  | 0, hs =>
    simp at hs
    subst hs
    exact ⟨by rw [h.cell];rfl,by rw [h.cell];rfl⟩⟩⟩
end Go.Proofs.YtildgbhliaonnaaGreat
namespace Pg
open Go Go.RowKit
theorem own_belowK {w w' : World} {base : Nat} {e : TypeId} {size : Nat} {v : Value} {n : Nat} {xs : List Value} (h : w.ownsRow base e size v n xs) (hb : Below w.heap.size w w') : w'.ownsRow base e size v n xs := by
 obtain ⟨h1,h2 | ⟨g,cap,cur,hv,hg,hh,r⟩⟩ := h
 · exact ⟨h1,.inl h2⟩
 · refine ⟨h1,.inr ⟨g,cap,cur,hv,hg,(hb.block g ?_).trans hh,r⟩⟩
   rcases Nat.lt_or_ge g w.heap.size with h | h
   · exact h
   · rw [Array.getElem?_eq_none h] at hh;cases hh
theorem own_grown {w w' : World} {base base' : Nat} {e e' : TypeId} {size size' : Nat} {v v' : Value} {n n' : Nat} {xs xs' : List Value} (h : w.ownsRow base e size v n xs) (h' : w.ownsRow base' e' size' v' n' xs') (he : e ≠ e') (hg : w.grownBy w' v'.ownBlock) : w'.ownsRow base e size v n xs := by
 obtain ⟨h1,h2 | ⟨g,cap,cur,hv,hgb,hh,r⟩⟩ := h
 · exact ⟨h1,.inl h2⟩
 · refine ⟨h1,.inr ⟨g,cap,cur,hv,hgb,(hg.block g ?_ ?_).trans hh,r⟩⟩
   · rcases Nat.lt_or_ge g w.heap.size with h | h
     · exact h
     · rw [Array.getElem?_eq_none h] at hh;cases hh
   · intro hne
     obtain ⟨_,⟨rfl,_⟩ | ⟨g',_,cur',rfl,_,hh',_⟩⟩ := h'
     · cases hne
     · unfold Value.ownBlock at hne
       injection hne with hne
       subst hne
       rw [hh] at hh'
       injection hh' with hh'
       injection hh' with _ h2 _
       exact he h2
end Pg
namespace Go.Proofs.YtildgbhliaonnaaGreat
open Go.RowKit Pg
def KeysAt (w : World) (base : Nat) (v : Value) (L : List (List Nat)) : Prop :=
 ∃ cs : List Value,w.ownsRow base 109 1 v L.length cs ∧ ∀ (j : Nat) (u : Value),cs[j]? = some u → ∃ l,L[j]? = some l ∧ w.ownsRow base 5 1 u l.length (ycells l)
theorem KeysAt.nil (w : World) (base : Nat) : KeysAt w base (.slice none 0 0) [] := ⟨[],World.ownsRow_nil _ _ _ _,fun j u h => by simp at h⟩
theorem KeysAt.below {w w' : World} {base : Nat} {v : Value} {L : List (List Nat)} (h : KeysAt w base v L) (hb : Below w.heap.size w w') : KeysAt w' base v L := by
 obtain ⟨cs,h1,h2⟩ := h;refine ⟨cs,own_belowK h1 hb,fun j u hu => ?_⟩
 obtain ⟨l,hl,ho⟩ := h2 j u hu;exact ⟨l,hl,own_belowK ho hb⟩
theorem keys_append {w w' : World} {base : Nat} {v v' s : Value} {L : List (List Nat)} {l : List Nat} {cs : List Value} (h1 : w.ownsRow base 109 1 v L.length cs) (h2 : ∀ (j : Nat) (u : Value),cs[j]? = some u → ∃ l,L[j]? = some l ∧ w.ownsRow base 5 1 u l.length (ycells l))
 (hs : w.ownsRow base 5 1 s l.length (ycells l)) (h3 : w'.ownsRow base 109 1 v' (L.length + 1) (cs ++ [s])) (hg : w.grownBy w' v.ownBlock) : KeysAt w' base v' (L ++ [l]) := by
 have hcl : cs.length = L.length := by rw [h1.1];omega
 refine ⟨cs ++ [s],by rw [List.length_append,List.length_singleton];exact h3,fun j u hu => ?_⟩
 rcases Nat.lt_or_ge j cs.length with hj | hj
 · rw [List.getElem?_append_left hj] at hu
   obtain ⟨l',hl',ho⟩ := h2 j u hu;exact ⟨l',by rw [List.getElem?_append_left (by omega)];exact hl',own_grown ho h1 (by decide) hg⟩
 · rw [List.getElem?_append_right hj] at hu
   have hj0 : j = cs.length := by
    rcases Nat.eq_or_lt_of_le hj with h | h
    · exact h.symm
    · rw [List.getElem?_eq_none (by simp;omega)] at hu;cases hu
   subst hj0
   simp at hu
   subst hu;exact ⟨l,by rw [hcl,List.getElem?_append_right (Nat.le_refl _)];simp,own_grown hs h1 (by decide) hg⟩
theorem rbs_of_keys {w : World} {base : Nat} {v : Value} {L : List (List Nat)} (h : KeysAt w base v L) : ∃ A c,v = .slice A L.length c ∧ RbsAt w w.heap.size A L.length L := by
 obtain ⟨cs,h1,h2⟩ := h;have h1' := h1;obtain ⟨hlen,⟨rfl,h0⟩ | ⟨g,cap,cur,rfl,hg,hh,r⟩⟩ := h1
 · rw [h0]
   exact ⟨none,0,rfl,h0,fun h => absurd h (by omega)⟩
 · refine ⟨_,cap,rfl,rfl,fun hn => ⟨g,0,rfl,?_,fun k l hl => ?_⟩⟩
   · rcases Nat.lt_or_ge g w.heap.size with h | h
     · exact h
     · rw [Array.getElem?_eq_none h] at hh;cases hh
   have hk : k < L.length := by
    rcases Nat.lt_or_ge k L.length with h | h
    · exact h
    · rw [List.getElem?_eq_none h] at hl;cases hl
   have hk2 : k < cs.length := by omega
   obtain ⟨u,hu⟩ : ∃ u,cs[k]? = some u := ⟨_,List.getElem?_eq_getElem hk2⟩;obtain ⟨l',hl',ho⟩ := h2 k u hu
   rw [hl] at hl'
   injection hl' with hl'
   subst hl';obtain ⟨A',c',rfl,hB,hln,hz,hm⟩ := bys_of_own2 ho;refine ⟨A',l.length,c',?_,hB,hz,hm⟩
   rw [Nat.zero_add, h1'.cellAt k (by omega)]
   exact hu
end Go.Proofs.YtildgbhliaonnaaGreat
