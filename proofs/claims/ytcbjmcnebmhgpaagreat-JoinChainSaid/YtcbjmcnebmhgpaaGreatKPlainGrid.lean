/-
  Boxes on a grid, intervals in a chain: what touches, what hangs together. (No program.)
-/
import Derived.Test.YtcbjmcnebmhgpaaGreatKPlainCls
import Derived.Test.YtcbjmcnebmhgpaaGreatKMadJ
set_option linter.unusedVariables false
set_option linter.unusedSimpArgs false
namespace Go.Proofs.YtcbjmcnebmhgpaaGreat
open Go Go.RowKit Pg
theorem insK_endG {α : Type} {id : Int} {v : α} : ∀ {m : List (Int × α)},(∀ p ∈ m,p.1 < id) → insK id v m = m ++ [(id,v)]
 | [],_ => rfl
 | p :: r,h => by
   unfold insK;have := h p (by simp)
   rw [if_neg (by omega), insK_endG fun q hq => h q (by simp [hq])]
   rfl
theorem delK_noneG {α : Type} {id : Int} {m : List (Int × α)} (h : ∀ p ∈ m,p.1 ≠ id) : delK id m = m := by
 unfold delK
 rw [List.filter_eq_self]
 intro p hp
 simp [h p hp]
theorem madeP_self : ∀ l : List (Int × Ob),Rising l → (∀ x ∈ l,ckPut x.1 x.2 = 0) → madeP l = l := list_snoc (fun _ _ => rfl) fun l x ih hr hc => by
 obtain ⟨h1,_,h3⟩ := List.pairwise_append.1 hr;have e : madeP (l ++ [x]) = putP (madeP l) x := by unfold madeP;rw [List.foldl_append];rfl
 rw [e,ih h1 fun y hy => hc y (List.mem_append_left _ hy)]
 have hlt : ∀ p ∈ l,p.1 < x.1 := fun p hp => h3 p hp x (by simp)
 unfold putP;have hg : getK x.1 l = none := getK_none.2 fun p hp => by have := hlt p hp;omega
 rw [if_pos ⟨hc x (by simp),by rw [hg];rfl⟩]
 unfold putK
 rw [delK_noneG fun p hp => by have := hlt p hp;omega,insK_endG hlt]
section
variable {c : Int → Int} {ids : List Int}
theorem filter_one : ∀ {ids : List Int} {r : Int},ids.Nodup → r ∈ ids → (ids.filter fun i => decide (i = r)) = [r]
 | [],_,_,h => by cases h
 | a :: t,r,hn,h => by
   obtain ⟨h1,h2⟩ := List.nodup_cons.1 hn
   rw [List.filter_cons]
   by_cases e : a = r
   · subst e
     have : (t.filter fun i => decide (i = a)) = [] := by
      rw [List.filter_eq_nil_iff]
      intro i hi hd;rw [decide_eq_true_eq] at hd;subst hd;exact h1 hi
     simp [this]
   · rcases List.mem_cons.1 h with q | q
     · exact absurd q.symm e
     · simp [e, filter_one h2 q]
theorem grpS_all {r : Int} (hn : ids.Nodup) (hr : r ∈ ids) (h : ∀ i ∈ ids,c i = r) : grpS c ids = [ids] := by
 unfold grpS;have e : (ids.filter fun i => decide (c i = i)) = ids.filter fun i => decide (i = r) := List.filter_congr fun i hi => by rw [h i hi];exact decide_eq_decide.2 ⟨fun q => q.symm,fun q => q.symm⟩
 rw [e,filter_one hn hr,List.map_singleton]
 congr 1;unfold memS
 rw [List.filter_eq_self]
 intro i hi
 simp [h i hi]
theorem grpS_two {A B : List Int} {a b : Int} (hn : (A ++ B).Nodup) (ha : a ∈ A) (hb : b ∈ B) (hA : ∀ i ∈ A,c i = a) (hB : ∀ i ∈ B,c i = b) : grpS c (A ++ B) = [A,B] := by
 obtain ⟨h1,h2,h3⟩ := List.nodup_append.1 hn;have hab : a ≠ b := h3 a ha b hb;unfold grpS
 have e1 : (A.filter fun i => decide (c i = i)) = [a] := by
  rw [← filter_one h1 ha]
  exact List.filter_congr fun i hi => by rw [hA i hi];exact decide_eq_decide.2 ⟨fun q => q.symm,fun q => q.symm⟩
 have e2 : (B.filter fun i => decide (c i = i)) = [b] := by
  rw [← filter_one h2 hb]
  exact List.filter_congr fun i hi => by rw [hB i hi];exact decide_eq_decide.2 ⟨fun q => q.symm,fun q => q.symm⟩
 rw [List.filter_append,e1,e2]
 have m1 : memS c (A ++ B) a = A := by
  unfold memS
  rw [List.filter_append,List.filter_eq_self.2 fun i hi => by simp [hA i hi],List.filter_eq_nil_iff.2 fun i hi => by simp [hB i hi];exact fun q => hab q.symm,List.append_nil]
 have m2 : memS c (A ++ B) b = B := by
  unfold memS
  rw [List.filter_append, List.filter_eq_nil_iff.2 fun i hi => by simp [hA i hi, hab], List.filter_eq_self.2 fun i hi => by simp [hB i hi], List.nil_append]
 show [memS c (A ++ B) a,memS c (A ++ B) b] = [A,B]
 rw [m1,m2]
end
theorem tchC_down {l : List (Int × Ob)} {r : Int} {S : Int → Prop} (h0 : ∀ i,S i → r ≤ i) (h : ∀ i,S i → i ≠ r → ∃ j x y,S j ∧ j < i ∧ (j,x) ∈ l ∧ (i,y) ∈ l ∧ touchS x y = true) : ∀ i,S i → tchC l i = tchC l r := by
 have : ∀ (n : Nat) (i : Int),S i → (i - r).toNat ≤ n → tchC l i = tchC l r := by
  intro n
  induction n with
  | zero =>
    intro i hi hn;have := h0 i hi
    rw [show i = r by omega]
  | succ n ih =>
    intro i hi hn
    by_cases e : i = r
    · rw [e]
    · obtain ⟨j, x, y, hj, hlt, hx, hy, ht⟩ := h i hi e
      rw [← tchC_joins hx hy ht]
      have := h0 i hi;have := h0 j hj;exact ih j hj (by omega)
 exact fun i hi => this _ i hi (Nat.le_refl _)
theorem tchC_least {l : List (Int × Ob)} {r : Int} (h0 : ∀ i ∈ idsO l,r ≤ i) (hr : r ∈ idsO l) : tchC l r = r := by
 have h1 := (ufC_can (upJ (pairsP l l))).le r;have h2 := h0 _ (tchC_mem hr);unfold tchC at h2 ⊢
 omega
theorem rising_nodup {l : List (Int × Ob)} (h : Rising l) : (idsO l).Nodup := by
 unfold idsO
 rw [List.Nodup,List.pairwise_map]
 exact h.imp fun h e => by omega
def obC (i : Nat) : Ob := ⟨2,[⟨((10 * i : Nat) : Int),((10 * i + 10 : Nat) : Int)⟩]⟩
def chainL (n : Nat) : List (Int × Ob) := (List.range n).map fun (j : Nat) => ((j : Int),obC j)
theorem chainL_len (n : Nat) : (chainL n).length = n := by unfold chainL;rw [List.length_map,List.length_range]
theorem chainL_at {n j : Nat} (h : j < n) : (chainL n)[j]? = some ((j : Int),obC j) := by unfold chainL;rw [List.getElem?_map,List.getElem?_range h];rfl
theorem chainL_succ (j : Nat) : chainL (j + 1) = chainL j ++ [((j : Int),obC j)] := by unfold chainL;rw [List.range_succ,List.map_append];rfl
theorem chainL_mem {n : Nat} {x : Int × Ob} (h : x ∈ chainL n) : ∃ j,j < n ∧ x = ((j : Int),obC j) := by
 unfold chainL at h;obtain ⟨j,hj,rfl⟩ := List.mem_map.1 h;exact ⟨j,List.mem_range.1 hj,rfl⟩
theorem chainL_rise (n : Nat) : Rising (chainL n) := by
 unfold chainL Rising
 rw [List.pairwise_map]
 exact List.pairwise_lt_range.imp fun h => by simp;omega
theorem obC_ck {i : Nat} (h1 : 10 * i + 10 ≤ 1073741823) : ckOb (obC i) = 0 := by
 unfold ckOb obC ckInt okPt farB
 simp [pt]
 rw [if_pos (by omega),if_neg (by omega)]
theorem obC_touch {a b : Nat} (h1 : 10 * a + 10 ≤ 1073741823) (h2 : 10 * b + 10 ≤ 1073741823) : touchS (obC a) (obC b) = (Nat.ble a (b + 1) && Nat.ble b (a + 1)) := by
 have k : ∀ {a : Nat},10 * a + 10 ≤ 1073741823 → ckBox (obBox (obC a)) = 0 := fun {a} h => by
  unfold ckBox obBox obC okPt farB
  simp [pt]
  rw [if_pos (by omega), if_neg (by omega)]
 unfold touchS meetsO
 rw [obC_ck h1,obC_ck h2,show isBox (obC a) = true from rfl,show isBox (obC b) = true from rfl]
 unfold bmeets okBx
 rw [k h1,k h2]
 unfold bmeetsR
 simp only [obBox,obC,pt,decide_true,Bool.true_and,if_true,show ¬ (2 : Int) = 1 by decide,if_false,ldz]
 rw [Bool.eq_iff_iff]
 simp only [Bool.and_eq_true,decide_eq_true_eq,Nat.ble_eq]
 omega
theorem chain_put {n : Nat} (hn : n ≤ 1000) : madeP (chainL n) = chainL n := madeP_self _ (chainL_rise n) fun x hx => by
 obtain ⟨j,hj,rfl⟩ := chainL_mem hx;unfold ckPut
 simp only
 rw [if_neg (by omega),obC_ck (by omega)]
theorem idsC (n : Nat) : idsO (chainL n) = (List.range n).map fun (j : Nat) => (j : Int) := by unfold idsO chainL;rw [List.map_map];rfl
theorem chain_one {n : Nat} (h0 : 0 < n) (hn : n ≤ 1000) : grpS (tchC (chainL n)) (idsO (chainL n)) = [idsO (chainL n)] ∧ (idsO (chainL n)).length = n := by
 have h1 : ∀ i ∈ idsO (chainL n),(0 : Int) ≤ i := fun i hi => by
  rw [idsC] at hi;obtain ⟨j,_,rfl⟩ := List.mem_map.1 hi
  omega
 have h00 : (0 : Int) ∈ idsO (chainL n) := by rw [idsC];exact List.mem_map.2 ⟨0,List.mem_range.2 h0,rfl⟩
 refine ⟨grpS_all (r := 0) (rising_nodup (chainL_rise _)) h00 fun i hi => ?_,by unfold idsO;rw [List.length_map,chainL_len]⟩
 rw [← tchC_least h1 h00]
 refine tchC_down (S := fun i => i ∈ idsO (chainL n)) h1 (fun i hi hne => ?_) i hi
 rw [idsC] at hi;obtain ⟨j,hj,rfl⟩ := List.mem_map.1 hi;have hj := List.mem_range.1 hj;have hj0 : j ≠ 0 := fun e => hne (by rw [e];rfl)
 obtain ⟨k,rfl⟩ : ∃ k,j = k + 1 := ⟨j - 1,by omega⟩
 exact ⟨(k : Int),_,_,by rw [idsC];exact List.mem_map.2 ⟨k,List.mem_range.2 (by omega),rfl⟩,by omega,List.mem_of_getElem? (chainL_at (show k < n by omega)),List.mem_of_getElem? (chainL_at hj),by rw [obC_touch (by omega) (by omega)];simp [Nat.ble_eq];omega⟩
theorem chain_two {n out : Nat} (h0 : 0 < out) (h1 : out + 1 < n) (hn : n ≤ 1000) : grpS (tchC (delK (out : Int) (chainL n))) (idsO (delK (out : Int) (chainL n))) = [(List.range out).map fun (j : Nat) => (j : Int),(List.range (n - 1 - out)).map fun (j : Nat) => ((out + 1 + j : Nat) : Int)] := by
 have hmem : ∀ {x : Int × Ob},x ∈ delK (out : Int) (chainL n) → ∃ j,j < n ∧ j ≠ out ∧ x = ((j : Int),obC j) := fun h => by
  obtain ⟨h2,h3⟩ := mem_delK.1 h;obtain ⟨j,hj,rfl⟩ := chainL_mem h2;exact ⟨j,hj,fun e => h3 (by rw [e]),rfl⟩
 have hin : ∀ {j : Nat},j < n → j ≠ out → ((j : Int),obC j) ∈ delK (out : Int) (chainL n) := fun hj hne => mem_delK.2 ⟨List.mem_of_getElem? (chainL_at hj),fun e => hne (by simp only at e;omega)⟩
 have hids : idsO (delK (out : Int) (chainL n)) = (List.range out).map (fun (j : Nat) => (j : Int)) ++ (List.range (n - 1 - out)).map fun (j : Nat) => ((out + 1 + j : Nat) : Int) := by
  have e1 : chainL n = (List.range out).map (fun (j : Nat) => ((j : Int),obC j)) ++ (((out : Int),obC out) :: (List.range (n - 1 - out)).map fun (j : Nat) => (((out + 1 + j : Nat) : Int),obC (out + 1 + j))) := by
   refine List.ext_getElem? fun k => ?_
   rcases Nat.lt_trichotomy k out with c | c | c
   · rw [chainL_at (by omega), List.getElem?_append_left (by simpa using c), List.getElem?_map, List.getElem?_range c]
     rfl
   · subst c
     rw [chainL_at (by omega), List.getElem?_append_right (by simp)]
     simp
   · rw [List.getElem?_append_right (by simp;omega)]
     simp only [List.length_map, List.length_range]
     obtain ⟨d,rfl⟩ : ∃ d,k = out + 1 + d := ⟨k - out - 1,by omega⟩
     rw [show out + 1 + d - out = d + 1 by omega, lcs, List.getElem?_map]
     rcases Nat.lt_or_ge d (n - 1 - out) with q | q
     · rw [chainL_at (by omega), List.getElem?_range q]
       rfl
     · rw [List.getElem?_eq_none (by rw [chainL_len];omega),List.getElem?_eq_none (by simpa using q)]
       rfl
  unfold idsO delK
  rw [e1, List.filter_append, List.filter_cons]
  simp only [decide_true, Bool.not_true, Bool.false_eq_true, if_false]
  rw [List.filter_eq_self.2 (by
   intro x hx;obtain ⟨j,hj,rfl⟩ := List.mem_map.1 hx;have := List.mem_range.1 hj
   simp
   omega), List.filter_eq_self.2 (by
   intro x hx;obtain ⟨j,hj,rfl⟩ := List.mem_map.1 hx
   simp
   omega), List.map_append, List.map_map, List.map_map]
  rfl
 have hS := tchC_closed (l := delK (out : Int) (chainL n)) (S := fun i => i < (out : Int)) fun i j x y hx hy ht => by
  obtain ⟨a,ha,hao,e⟩ := hmem hx;injection e with e1 e2
  obtain ⟨b,hb,hbo,e⟩ := hmem hy;injection e with e3 e4
  subst e1 e2 e3 e4;rw [obC_touch (by omega) (by omega)] at ht
  simp [Nat.ble_eq] at ht
  omega
 rw [hids]
 have hr := (chainL_rise n).del (out : Int)
 have hA0 : tchC (delK (out : Int) (chainL n)) 0 = 0 := tchC_least (fun i hi => by
  obtain ⟨x,hx,rfl⟩ := List.mem_map.1 hi;obtain ⟨j,_,_,rfl⟩ := hmem hx
  simp) (List.mem_map.2 ⟨_, hin (j := 0) (by omega) (by omega), rfl⟩)
 have hB0 : tchC (delK (out : Int) (chainL n)) ((out + 1 : Nat) : Int) = ((out + 1 : Nat) : Int) := by
  have h2 : tchC (delK (out : Int) (chainL n)) ((out + 1 : Nat) : Int) ∈ idsO (delK (out : Int) (chainL n)) := tchC_mem (List.mem_map.2 ⟨_,hin (j := out + 1) (by omega) (by omega),rfl⟩)
  obtain ⟨x,hx,e⟩ := List.mem_map.1 h2;obtain ⟨j,hj,hjo,rfl⟩ := hmem hx;have h3 := (ufC_can (upJ (pairsP (delK (out : Int) (chainL n)) (delK (out : Int) (chainL n))))).le ((out + 1 : Nat) : Int);have h4 := hS ((out + 1 : Nat) : Int)
  rw [← e] at h4 ⊢
  have h5 : ((j : Nat) : Int) ≤ ((out + 1 : Nat) : Int) := by
   have : tchC (delK (out : Int) (chainL n)) ((out + 1 : Nat) : Int) ≤ ((out + 1 : Nat) : Int) := h3;rw [← e] at this;exact this
  simp only at h4 h5 ⊢
  omega
 refine grpS_two (a := 0) (b := ((out + 1 : Nat) : Int)) ?_ (List.mem_map.2 ⟨0,List.mem_range.2 h0,rfl⟩) (List.mem_map.2 ⟨0,List.mem_range.2 (by omega),rfl⟩) (fun i hi => ?_) fun i hi => ?_
 · rw [← hids]
   exact rising_nodup hr
 · rw [← hA0]
   refine tchC_down (S := fun i => ∃ j : Nat,j < out ∧ i = j) (fun i ⟨j,_,e⟩ => by omega) (fun i ⟨j,hj,e⟩ hne => ?_) i (by
    obtain ⟨j,hj,rfl⟩ := List.mem_map.1 hi
    exact ⟨j,List.mem_range.1 hj,rfl⟩)
   subst e;obtain ⟨k,rfl⟩ : ∃ k,j = k + 1 := ⟨j - 1,by omega⟩
   exact ⟨(k : Int),_,_,⟨k,by omega,rfl⟩,by omega,hin (j := k) (by omega) (by omega),hin (j := k + 1) (by omega) (by omega),by rw [obC_touch (by omega) (by omega)];simp [Nat.ble_eq];omega⟩
 · rw [← hB0]
   refine tchC_down (S := fun i => ∃ j : Nat,out + 1 ≤ j ∧ j < n ∧ i = j) (fun i ⟨j,_,_,e⟩ => by omega) (fun i ⟨j,hj,hjn,e⟩ hne => ?_) i (by
    obtain ⟨j,hj,rfl⟩ := List.mem_map.1 hi;have := List.mem_range.1 hj
    exact ⟨out + 1 + j,by omega,by omega,rfl⟩)
   subst e;obtain ⟨k,rfl⟩ : ∃ k,j = k + 1 := ⟨j - 1,by omega⟩
   exact ⟨(k : Int),_,_,⟨k,by omega,by omega,rfl⟩,by omega,hin (j := k) (by omega) (by omega),hin (j := k + 1) (by omega) (by omega),by rw [obC_touch (by omega) (by omega)];simp [Nat.ble_eq];omega⟩
end Go.Proofs.YtcbjmcnebmhgpaaGreat
