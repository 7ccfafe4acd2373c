/-
  Boxes on a grid, intervals in a chain: what touches, what hangs together. (No program.)
-/
import Derived.Test.YtcbjmcnebmhgpaaGreatIPlainCls
import Derived.Test.YtcbjmcnebmhgpaaGreatIMadJ
set_option linter.unusedVariables false
set_option linter.unusedSimpArgs false
set_option maxRecDepth 20000
namespace Go.Proofs.YtcbjmcnebmhgpaaGreat
open Go Go.RowKit Pg
theorem insK_endG {α : Type} {id : Int} {v : α} : ∀ {m : List (Int × α)},(∀ p ∈ m,p.1 < id) → insK id v m = m ++ [(id,v)]
 | [],_ => rfl
 | p :: r,h => by
   unfold insK;have := h p (by simp)
   rw [if_neg (by omega), insK_endG fun q hq => h q (by simp [hq])]
   rfl
theorem delK_noneG {α : Type} {id : Int} {m : List (Int × α)} (h : ∀ p ∈ m,p.1 ≠ id) : delK id m = m := by
 unfold delK
 rw [List.filter_eq_self]
 intro p hp
 simp [h p hp]
theorem madeP_self : ∀ l : List (Int × Ob),Rising l → (∀ x ∈ l,ckPut x.1 x.2 = 0) → madeP l = l := list_snoc (fun _ _ => rfl) fun l x ih hr hc => by
 obtain ⟨h1,_,h3⟩ := List.pairwise_append.1 hr;have e : madeP (l ++ [x]) = putP (madeP l) x := by unfold madeP;rw [List.foldl_append];rfl
 rw [e,ih h1 fun y hy => hc y (List.mem_append_left _ hy)]
 have hlt : ∀ p ∈ l,p.1 < x.1 := fun p hp => h3 p hp x (by simp)
 unfold putP;have hg : getK x.1 l = none := getK_none.2 fun p hp => by have := hlt p hp;omega
 rw [if_pos ⟨hc x (by simp),by rw [hg];rfl⟩]
 unfold putK
 rw [delK_noneG fun p hp => by have := hlt p hp;omega,insK_endG hlt]
section
variable {c : Int → Int} {ids : List Int}
theorem filter_one : ∀ {ids : List Int} {r : Int},ids.Nodup → r ∈ ids → (ids.filter fun i => decide (i = r)) = [r]
 | [],_,_,h => by cases h
 | a :: t,r,hn,h => by
   obtain ⟨h1,h2⟩ := List.nodup_cons.1 hn
   rw [List.filter_cons]
   by_cases e : a = r
   · subst e
     have : (t.filter fun i => decide (i = a)) = [] := by
      rw [List.filter_eq_nil_iff]
      intro i hi hd;rw [decide_eq_true_eq] at hd;subst hd;exact h1 hi
     simp [this]
   · rcases List.mem_cons.1 h with q | q
     · exact absurd q.symm e
     · simp [e, filter_one h2 q]
theorem grpS_all {r : Int} (hn : ids.Nodup) (hr : r ∈ ids) (h : ∀ i ∈ ids,c i = r) : grpS c ids = [ids] := by
 unfold grpS;have e : (ids.filter fun i => decide (c i = i)) = ids.filter fun i => decide (i = r) := List.filter_congr fun i hi => by rw [h i hi];exact decide_eq_decide.2 ⟨fun q => q.symm,fun q => q.symm⟩
 rw [e,filter_one hn hr,List.map_singleton]
 congr 1;unfold memS
 rw [List.filter_eq_self]
 intro i hi
 simp [h i hi]
theorem grpS_none (hn : ids.Nodup) (h : ∀ i ∈ ids,c i = i) : grpS c ids = ids.map fun i => [i] := by
 unfold grpS
 have e : (ids.filter fun i => decide (c i = i)) = ids := by
  rw [List.filter_eq_self]
  intro i hi
  simp [h i hi]
 rw [e]
 refine List.map_congr_left fun r hr => ?_
 unfold memS;have e : (ids.filter fun i => decide (c i = r)) = ids.filter fun i => decide (i = r) := List.filter_congr fun i hi => by rw [h i hi]
 rw [e,filter_one hn hr]
theorem alone_none : ∀ ids : List Int,aloneS (ids.map fun i => [i]) = ids
 | [] => rfl
 | a :: t => by
   have e : aloneS ((a :: t).map fun i => [i]) = [a] ++ aloneS (t.map fun i => [i]) := rfl
   rw [e, alone_none t]
   rfl
end
theorem tchC_down {l : List (Int × Ob)} {r : Int} {S : Int → Prop} (h0 : ∀ i,S i → r ≤ i) (h : ∀ i,S i → i ≠ r → ∃ j x y,S j ∧ j < i ∧ (j,x) ∈ l ∧ (i,y) ∈ l ∧ touchS x y = true) : ∀ i,S i → tchC l i = tchC l r := by
 have : ∀ (n : Nat) (i : Int),S i → (i - r).toNat ≤ n → tchC l i = tchC l r := by
  intro n
  induction n with
  | zero =>
    intro i hi hn;have := h0 i hi
    rw [show i = r by omega]
  | succ n ih =>
    intro i hi hn
    by_cases e : i = r
    · rw [e]
    · obtain ⟨j, x, y, hj, hlt, hx, hy, ht⟩ := h i hi e
      rw [← tchC_joins hx hy ht]
      have := h0 i hi;have := h0 j hj;exact ih j hj (by omega)
 exact fun i hi => this _ i hi (Nat.le_refl _)
theorem tchC_least {l : List (Int × Ob)} {r : Int} (h0 : ∀ i ∈ idsO l,r ≤ i) (hr : r ∈ idsO l) : tchC l r = r := by
 have h1 := (ufC_can (upJ (pairsP l l))).le r;have h2 := h0 _ (tchC_mem hr);unfold tchC at h2 ⊢
 omega
theorem rising_nodup {l : List (Int × Ob)} (h : Rising l) : (idsO l).Nodup := by
 unfold idsO
 rw [List.Nodup,List.pairwise_map]
 exact h.imp fun h e => by omega
def obG (s i k : Nat) : Ob := ⟨3,[⟨((s * i : Nat) : Int),((s * k : Nat) : Int)⟩,⟨((s * i + 2 : Nat) : Int),((s * k + 2 : Nat) : Int)⟩]⟩
def gridL (s m N : Nat) : List (Int × Ob) := (List.range N).map fun (j : Nat) => ((j : Int),obG s (j / m) (j % m))
theorem gridL_len (s m N : Nat) : (gridL s m N).length = N := by unfold gridL;rw [List.length_map,List.length_range]
theorem gridL_at {s m N j : Nat} (h : j < N) : (gridL s m N)[j]? = some ((j : Int),obG s (j / m) (j % m)) := by unfold gridL;rw [List.getElem?_map,List.getElem?_range h];rfl
theorem gridL_succ (s m j : Nat) : gridL s m (j + 1) = gridL s m j ++ [((j : Int),obG s (j / m) (j % m))] := by unfold gridL;rw [List.range_succ,List.map_append];rfl
theorem gridL_mem {s m N : Nat} {x : Int × Ob} (h : x ∈ gridL s m N) : ∃ j,j < N ∧ x = ((j : Int),obG s (j / m) (j % m)) := by
 unfold gridL at h;obtain ⟨j,hj,rfl⟩ := List.mem_map.1 h;exact ⟨j,List.mem_range.1 hj,rfl⟩
theorem gridL_rise (s m N : Nat) : Rising (gridL s m N) := by
 unfold gridL Rising
 rw [List.pairwise_map]
 exact List.pairwise_lt_range.imp fun h => by simp;omega
theorem obG_ck {s i k : Nat} (h1 : s * i + 2 ≤ 1073741823) (h2 : s * k + 2 ≤ 1073741823) : ckOb (obG s i k) = 0 := by
 unfold ckOb obG ckBox okPt farB
 simp [pt]
 rw [if_pos (by omega),if_neg (by omega)]
def nearG (s a b c d : Nat) : Bool := Nat.ble (s * a) (s * c + 2) && Nat.ble (s * c) (s * a + 2) && Nat.ble (s * b) (s * d + 2) && Nat.ble (s * d) (s * b + 2)
theorem obG_touch {s a b c d : Nat} (h1 : s * a + 2 ≤ 1073741823) (h2 : s * b + 2 ≤ 1073741823) (h3 : s * c + 2 ≤ 1073741823) (h4 : s * d + 2 ≤ 1073741823) : touchS (obG s a b) (obG s c d) = nearG s a b c d := by
 have k1 : ckBox (obBox (obG s a b)) = 0 := by have := obG_ck h1 h2;unfold ckOb obG at this;simpa [obBox,obG] using this
 have k2 : ckBox (obBox (obG s c d)) = 0 := by have := obG_ck h3 h4;unfold ckOb obG at this;simpa [obBox,obG] using this
 unfold touchS meetsO
 rw [obG_ck h1 h2,obG_ck h3 h4,show isBox (obG s a b) = true from rfl,show isBox (obG s c d) = true from rfl]
 unfold bmeets okBx
 rw [k1,k2]
 unfold bmeetsR nearG
 simp only [obBox,obG,pt,decide_true,Bool.true_and,if_true,show ¬ (3 : Int) = 1 by decide,show ¬ (3 : Int) = 2 by decide,if_false,ldz,lds]
 rw [Bool.eq_iff_iff]
 simp only [Bool.and_eq_true,decide_eq_true_eq,Nat.ble_eq]
 omega
def cntG (s m N : Nat) : Nat := ((List.range N).map fun a => ((List.range N).filter fun b => Nat.blt a b && nearG s (a / m) (a % m) (b / m) (b % m)).length).sum
theorem len_flatG {α β : Type} (f : α → List β) : ∀ l : List α,(l.flatMap f).length = (l.map fun x => (f x).length).sum
 | [] => rfl
 | a :: r => by rw [List.flatMap_cons,List.length_append,len_flatG f r];rfl
theorem grid_small {s m N j : Nat} (hs : s ≤ 3) (hm : 0 < m) (hN : N ≤ 1000) (hj : j < N) : s * (j / m) + 2 ≤ 1073741823 ∧ s * (j % m) + 2 ≤ 1073741823 := by
 have h1 : j / m ≤ j := Nat.div_le_self _ _;have h2 : j % m ≤ j := Nat.mod_le _ _;have h3 : s * (j / m) ≤ 3 * 1000 := Nat.mul_le_mul hs (by omega)
 have h4 : s * (j % m) ≤ 3 * 1000 := Nat.mul_le_mul hs (by omega)
 omega
theorem grid_count {s m N : Nat} (hs : s ≤ 3) (hm : 0 < m) (hN : N ≤ 1000) : (upJ (pairsP (gridL s m N) (gridL s m N))).length = cntG s m N := by
 have e1 : upJ (pairsP (gridL s m N) (gridL s m N)) = (gridL s m N).flatMap fun x => (rowP x (gridL s m N)).filter fun e => decide (e.1 < e.2) := by
  unfold upJ pairsP
  rw [List.filter_flatMap]
 rw [e1,len_flatG]
 unfold cntG
 conv => lhs;arg 1;arg 2;unfold gridL
 rw [List.map_map]
 congr 1;refine List.map_congr_left fun a ha => ?_
 have ha := List.mem_range.1 ha;obtain ⟨a1,a2⟩ := grid_small hs hm hN ha
 simp only [Function.comp]
 unfold rowP
 rw [List.filter_map,List.length_map,List.filter_filter]
 unfold gridL
 rw [List.filter_map,List.length_map]
 congr 1;refine List.filter_congr fun b hb => ?_
 have hb := List.mem_range.1 hb;obtain ⟨b1,b2⟩ := grid_small hs hm hN hb
 simp only [Function.comp]
 rw [obG_touch a1 a2 b1 b2]
 congr 1
 rw [Bool.eq_iff_iff]
 simp [Nat.blt_eq]
theorem cnt_table : ∀ n,n < 9 → ∀ m,m < 9 → 0 < n → 0 < m → cntG 3 m (n * m) = 0 ∧ cntG 2 m (n * m) = (n - 1) * m + n * (m - 1) + 2 * (n - 1) * (m - 1) := by decide +kernel
theorem grid_put {s m N : Nat} (hs : s ≤ 3) (hm : 0 < m) (hN : N ≤ 1000) : madeP (gridL s m N) = gridL s m N := madeP_self _ (gridL_rise s m N) fun x hx => by
 obtain ⟨j,hj,rfl⟩ := gridL_mem hx;obtain ⟨a1,a2⟩ := grid_small hs hm hN hj;unfold ckPut
 simp only
 rw [if_neg (by omega),obG_ck a1 a2]
theorem idsG (s m N : Nat) : idsO (gridL s m N) = (List.range N).map fun (j : Nat) => (j : Int) := by unfold idsO gridL;rw [List.map_map];rfl
theorem grid_gap {n m : Nat} (hn : 0 < n) (hm : 0 < m) (hn9 : n < 9) (hm9 : m < 9) : (upJ (pairsP (gridL 3 m (n * m)) (gridL 3 m (n * m)))).length = 0 ∧ (grpS (tchC (gridL 3 m (n * m))) (idsO (gridL 3 m (n * m)))).length = n * m ∧ (aloneS (grpS (tchC (gridL 3 m (n * m))) (idsO (gridL 3 m (n * m))))).length = n * m := by
 have hN : n * m ≤ 8 * 8 := Nat.mul_le_mul (by omega) (by omega)
 have h1 : (upJ (pairsP (gridL 3 m (n * m)) (gridL 3 m (n * m)))).length = 0 := by rw [grid_count (by decide) hm (by omega)];exact (cnt_table n hn9 m hm9 hn hm).1
 have h2 : tchC (gridL 3 m (n * m)) = fun i => i := by unfold tchC;rw [List.length_eq_zero_iff.1 h1];rfl
 have h3 : grpS (tchC (gridL 3 m (n * m))) (idsO (gridL 3 m (n * m))) = (idsO (gridL 3 m (n * m))).map fun i => [i] := grpS_none (rising_nodup (gridL_rise _ _ _)) fun i _ => by rw [h2]
 rw [h3,alone_none,List.length_map]
 have h4 : (idsO (gridL 3 m (n * m))).length = n * m := by unfold idsO;rw [List.length_map,gridL_len]
 exact ⟨h1,h4,h4⟩
theorem grid_one {n m : Nat} (hn : 0 < n) (hm : 0 < m) (hn9 : n < 9) (hm9 : m < 9) : (upJ (pairsP (gridL 2 m (n * m)) (gridL 2 m (n * m)))).length = (n - 1) * m + n * (m - 1) + 2 * (n - 1) * (m - 1) ∧ grpS (tchC (gridL 2 m (n * m))) (idsO (gridL 2 m (n * m))) = [idsO (gridL 2 m (n * m))] ∧ (idsO (gridL 2 m (n * m))).length = n * m := by
 have hN : n * m ≤ 8 * 8 := Nat.mul_le_mul (by omega) (by omega)
 have hN0 : 0 < n * m := Nat.mul_pos hn hm
 have h0 : ∀ i ∈ idsO (gridL 2 m (n * m)),(0 : Int) ≤ i := fun i hi => by
  rw [idsG] at hi;obtain ⟨j,_,rfl⟩ := List.mem_map.1 hi
  omega
 have h00 : (0 : Int) ∈ idsO (gridL 2 m (n * m)) := by rw [idsG];exact List.mem_map.2 ⟨0,List.mem_range.2 hN0,rfl⟩
 refine ⟨by rw [grid_count (by decide) hm (by omega)];exact (cnt_table n hn9 m hm9 hn hm).2,grpS_all (r := 0) (rising_nodup (gridL_rise _ _ _)) h00 fun i hi => ?_,by unfold idsO;rw [List.length_map,gridL_len]⟩
 rw [← tchC_least h0 h00]
 refine tchC_down (S := fun i => i ∈ idsO (gridL 2 m (n * m))) h0 (fun i hi hne => ?_) i hi
 rw [idsG] at hi;obtain ⟨j,hj,rfl⟩ := List.mem_map.1 hi;have hj := List.mem_range.1 hj;have hj0 : j ≠ 0 := fun e => hne (by rw [e];rfl)
 obtain ⟨b1,b2⟩ := grid_small (s := 2) (by decide) hm (by omega) hj
 have hdm := Nat.div_add_mod j m;have hml := Nat.mod_lt j hm
 -- the neighbour ahead,or below
 have key : ∀ j',j' < j → nearG 2 (j' / m) (j' % m) (j / m) (j % m) = true → ∃ k x y,k ∈ idsO (gridL 2 m (n * m)) ∧ k < (j : Int) ∧ (k,x) ∈ gridL 2 m (n * m) ∧ ((j : Int),y) ∈ gridL 2 m (n * m) ∧ touchS x y = true := fun j' hl ht => by
  have hj' : j' < n * m := by omega
  obtain ⟨a1,a2⟩ := grid_small (s := 2) (by decide) hm (by omega) hj'
  exact ⟨j',_,_,by rw [idsG];exact List.mem_map.2 ⟨j',List.mem_range.2 hj',rfl⟩,by omega,List.mem_of_getElem? (gridL_at hj'),List.mem_of_getElem? (gridL_at hj),by rw [obG_touch a1 a2 b1 b2];exact ht⟩
 by_cases hk : j % m = 0
 · have hd : 0 < j / m := by
    rcases Nat.eq_zero_or_pos (j / m) with q | q
    · rw [q, hk] at hdm
      omega
    · exact q
   obtain ⟨d,hd'⟩ : ∃ d,j / m = d + 1 := ⟨j / m - 1,by omega⟩
   have e : j = m * d + m := by rw [hd',hk] at hdm;rw [← hdm,Nat.mul_add];omega
   refine key (m * d) (by omega) ?_
   rw [hd', hk, Nat.mul_div_cancel_left _ hm, Nat.mul_mod_right]
   unfold nearG
   simp [Nat.ble_eq]
   omega
 · obtain ⟨r,hr⟩ : ∃ r,j % m = r + 1 := ⟨j % m - 1,by omega⟩
   refine key (j - 1) (by omega) ?_
   have e : j - 1 = m * (j / m) + r := by omega
   have hd : (j - 1) / m = j / m := by
    rw [e, Nat.mul_add_div hm, Nat.div_eq_of_lt (show r < m by omega), Nat.add_zero]
   have hmm : (j - 1) % m = r := by
    rw [e, Nat.mul_add_mod, Nat.mod_eq_of_lt (show r < m by omega)]
   rw [hd, hmm, hr]
   unfold nearG
   simp [Nat.ble_eq]
   omega
end Go.Proofs.YtcbjmcnebmhgpaaGreat
