/-
  A row of items that a law builds itself.
  pergolalaw22: the walk of JoinGroups.
-/
import Derived.Test.YtcbjmcnebmhgpaaGreatKAwk22
import Derived.Test.YtcbjmcnebmhgpaaGreatKItsA
import Derived.Test.YtcbjmcnebmhgpaaGreatKGrpC
import Derived.Test.YtcbjmcnebmhgpaaGreatKRefRB
import Derived.Test.YtcbjmcnebmhgpaaGreatKMadJ
import Derived.Test.YtcbjmcnebmhgpaaGreatKItmO
import Derived.Test.YtcbjmcnebmhgpaaGreatKEncK
import Derived.Test.YtcbjmcnebmhgpaaGreatKLawsC
set_option linter.unusedVariables false
set_option linter.unusedSimpArgs false
namespace Go.Proofs.YtcbjmcnebmhgpaaGreat
open Go Go.RowKit Pg
def RowL (base : Nat) (w : World) (v : Value) (l : List (Int × Ob)) : Prop :=
 ∃ Li : List (Int × Mi),obsM Li = l ∧ w.ownsRow base 52 3 v l.length (mcells Li) ∧ ∀ p ∈ Li,p.2.ob.pts.length ≤ 1000000 ∧ w.ownsRow base 47 2 p.2.ov p.2.ob.pts.length (ptcells p.2.ob.pts)
theorem RowL.nil (base : Nat) (w : World) : RowL base w (.slice none 0 0) [] := ⟨[],rfl,World.ownsRow_nil _ _ _ _,by simp⟩
theorem RowL.form {base : Nat} {w : World} {v : Value} {l : List (Int × Ob)} (h : RowL base w v l) : ∃ A c,v = .slice A l.length c := by
 obtain ⟨Li,_,h1,_⟩ := h;obtain ⟨A,c,e,_⟩ := row_form h1;exact ⟨A,c,e⟩
theorem rowL_snoc {base : Nat} {w W w8 : World} {v v8 ov : Value} {l : List (Int × Ob)} {Li : List (Int × Mi)} {id : Int} {ob : Ob} (h0 : obsM Li = l) (h1 : w.ownsRow base 52 3 v l.length (mcells Li)) (h2 : ∀ p ∈ Li,p.2.ob.pts.length ≤ 1000000 ∧ w.ownsRow base 47 2 p.2.ov p.2.ob.pts.length (ptcells p.2.ob.pts))
 (hb : Below w.heap.size w W) (hp : ob.pts.length ≤ 1000000) (ho : W.ownsRow base 47 2 ov ob.pts.length (ptcells ob.pts)) (hown : w8.ownsRow base 52 3 v8 (l.length + 1) (mcells Li ++ [.int .i64 id,.int .i64 ob.kind,ov])) (hg : W.grownBy w8 v.ownBlock) : RowL base w8 v8 (l ++ [(id,ob)]) := by
 have h1' := own_kept h1 (grown_below hb) (by simp)
 have key : ∀ {u : Value} {n : Nat} {xs : List Value},W.ownsRow base 47 2 u n xs → w8.ownsRow base 47 2 u n xs := fun h => own_kept h hg fun g e => by
  obtain ⟨cur,hB⟩ := own_blk h1' e;exact own_ne h hB (by decide)
 refine ⟨Li ++ [(id,⟨ob,ov⟩)],by rw [← h0];unfold obsM;rw [List.map_append];rfl,by rw [List.length_append,mcells_append];exact hown,fun p hq => ?_⟩
 rcases List.mem_append.1 hq with q | q
 · exact ⟨(h2 p q).1,key (own_kept (h2 p q).2 (grown_below hb) (by simp))⟩
 · rw [List.mem_singleton.1 q]
   exact ⟨hp,key ho⟩
theorem own_newP {W : World} {base g k : Nat} {xs : List Value} (hB : Blk W g 47 xs.toArray) (hb : base ≤ g) (hk : xs.length = k * 2) (hm : k ≤ 1000000) : W.ownsRow base 47 2 (.slice (some ⟨g,0,none⟩) k k) k xs :=
 ⟨hk,.inr ⟨g,k,xs.toArray,rfl,hb,hB,Nat.le_refl _,by unfold maxLen;omega,by simp [hk],by rw [← hk];simp⟩⟩
theorem RowL.itms {base : Nat} {w : World} {A : Option Addr} {c : Nat} {l : List (Int × Ob)} (h : RowL base w (.slice A l.length c) l) : ItmsAt w w.heap.size A l.length l := by
 obtain ⟨Li,h0,h1,h2⟩ := h;have hl : Li.length = l.length := by rw [← h0];unfold obsM;rw [List.length_map]
 refine ⟨rfl,fun hn => ?_,fun b off k p hA hp => ?_⟩
 · rcases h1.2 with ⟨_,h⟩ | ⟨g,cap,cur,e,_,hg,_⟩
   · omega
   · injection e with e1
     exact ⟨g,0,e1,(Array.getElem?_eq_some_iff.1 hg).1⟩
 · rw [← h0] at hp
   unfold obsM at hp;rw [List.getElem?_map] at hp;obtain ⟨q,hq,e⟩ := Option.map_eq_some_iff.1 hp;subst e;obtain ⟨g,c',hv,hgl,r0,r1,r2⟩ := mrow_at (own_lower (by rw [hl];exact h1) (Nat.zero_le _)) hq
   injection hv with e1
   rw [hA] at e1;injection e1 with e1
   injection e1 with e1 e2
   subst e1 e2;obtain ⟨h3,h4⟩ := h2 q (List.mem_of_getElem? hq);obtain ⟨A',c'',e,_⟩ := row_form h4;rw [e] at h4 r2;refine ⟨A',_,c'',by simpa using r0,by simpa using r1,by simpa using r2,?_⟩
   rcases h4.2 with ⟨e3, e4⟩ | ⟨g', cap, cur, e3, r⟩
   · injection e3 with e3 _ _
     rw [e3]
     exact ⟨rfl,fun q => absurd q (by omega)⟩
   · injection e3 with e3 e5 e6
     subst e3 e6;exact own_pts ⟨h4.1,.inr ⟨g',c'',cur,rfl,r⟩⟩
theorem side_told {k : Int} {W0 w2 : World} {ta ma : Nat} {a : List (Int × Ob)} (h : MadeJ k W0 w2 ta ma a) (ha : a.length ≤ 100) : Rising a ∧ (∀ x ∈ a,0 ≤ x.1 ∧ x.1 ≤ 1099511627776) ∧ (∀ x ∈ a,ckOb x.2 = 0) ∧ ∀ W,Below w2.heap.size w2 W → Told W (some ⟨ta,0,none⟩) a := by
 obtain ⟨mA,ownA,immA,ZA,tA,LA,hA,_,_⟩ := h;have e1 : tA.items.length = a.length := by rw [← hA.ot];unfold obsT;rw [List.length_map]
 have key : ∀ x ∈ a,(0 ≤ x.1 ∧ x.1 ≤ 1099511627776) ∧ ckOb x.2 = 0 := fun x hx => by
  rw [← hA.ot] at hx;obtain ⟨⟨i,it⟩,hm,e⟩ := List.mem_map.1 hx;obtain ⟨h1,h3,_⟩ := hA.g.its i it (getK_mem hA.g.shape.rise hm)
  rw [← e]
  exact ⟨h1,h3⟩
 refine ⟨by rw [← hA.ot];unfold obsT Rising;rw [List.pairwise_map];exact hA.g.shape.rise,fun x hx => (key x hx).1,fun x hx => (key x hx).2,fun W hW => ?_⟩
 have := told_tree (hA.g.tr hW) (by omega)
 rwa [hA.ot] at this
end Go.Proofs.YtcbjmcnebmhgpaaGreat
