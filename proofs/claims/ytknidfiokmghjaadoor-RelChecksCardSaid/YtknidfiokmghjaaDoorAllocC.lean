/-
  A region that draws its order, makes variables of its own, calls, and stores: the law as a walk uses it.
-/
import Derived.Test.YtknidfiokmghjaaDoorAllocB
set_option linter.unusedSimpArgs false
set_option linter.unusedVariables false
namespace Pg
open Go Go.RowKit

section
variable {P : Program} {ops : Array Oper} {Q : Exit → Act → World → Prop}

def lexN (P : Program) (S : World → Prop) (K : Act → Prop) : List (Oper × Option (Option Tmp × Bool)) → Act → Prop
  | [], a => K a
  | (o, g) :: r, a => ∃ v, ((wantB g a.tmps = false ∧ v = undef) ∨ (wantB g a.tmps = true ∧ ((quietKind o.op = true ∧ ∀ w, S w → (execOp a.eval o).run P w = .ok (.value v) w) ∨
      (quietKind o.op = false ∧ ∀ w, S w → o.wp P a w (fun a' w' => a' = a.put o.dst v ∧ Below w.heap.size w w') QF)))) ∧ lexN P S K r (a.put o.dst v)

theorem obl_of {l : List Oper} {S : World → Prop} {i : Nat} (hi : i < l.length) {a : Act} {v : Value}
    (h : (wantB (gslot l (l.getD i default)) a.tmps = false ∧ v = undef) ∨ (wantB (gslot l (l.getD i default)) a.tmps = true ∧ ((quietKind (bare (l.getD i default)).op = true ∧ ∀ w, S w → (execOp a.eval (bare (l.getD i default))).run P w = .ok (.value v) w) ∨
      (quietKind (bare (l.getD i default)).op = false ∧ ∀ w, S w → (bare (l.getD i default)).wp P a w (fun a' w' => a' = a.put (bare (l.getD i default)).dst v ∧ Below w.heap.size w w') QF)))) :
    obl P l.toArray S i a v := by
  intro o ho
  have e : l.getD i default = o := by
    simp only [List.getElem?_toArray] at ho
    rw [List.getD_eq_getElem?_getD, ho]; rfl
  rw [e, ← wanted_gslot] at h
  rcases h with ⟨hw, hv⟩ | ⟨hw, h⟩
  · exact ⟨fun _ => hv, (fun h => by rw [hw] at h; (cases h))⟩
  · refine ⟨(fun h => by rw [hw] at h; (cases h)), fun _ => ?_⟩
    rcases h with ⟨hk, h⟩ | ⟨hk, h⟩
    · exact .inl ⟨hk, fun w hw => by rw [← execOp_bare]; exact h w hw⟩
    · refine .inr ⟨hk, fun w hw => ?_⟩
      have := h w hw
      unfold Oper.wp at this ⊢
      rw [execOp_bare] at this
      exact this

theorem lexN_walk {l : List Oper} (hu : Uniq l.toArray) {S : World → Prop} {K : Act → Prop} (a0 : Act) : ∀ (m k : Nat) (c : Nat → Value), k + m = l.length →
    lexN P S K (((List.range' k m).filter (isN l.toArray)).map fun i => (bare (l.getD i default), gslot l (l.getD i default))) (actOf l.toArray c (fun j => isN l.toArray j && decide (j < k)) a0) →
    ∃ c' : Nat → Value, (∀ j, j < k → c' j = c j) ∧ (∀ i, k ≤ i → i < l.length → kindOf l.toArray i = 0 → obl P l.toArray S i (actOf l.toArray c' (fun j => isN l.toArray j && decide (j < i)) a0) (c' i)) ∧
      K (actOf l.toArray c' (isN l.toArray) a0) := by
  intro m
  induction m with
  | zero =>
    intro k c hk h
    refine ⟨c, fun _ _ => rfl, fun i h1 h2 _ => by omega, ?_⟩
    simp only [List.range'_zero, List.filter_nil, List.map_nil, lexN] at h
    rwa [actOf_congr (c' := c) (L' := isN l.toArray) (fun j hj => by simp at hj; simp; omega) (fun _ _ _ => rfl)] at h
  | succ m ih =>
    intro k c hk h
    rw [List.range'_succ] at h
    by_cases hn : isN l.toArray k = true
    · rw [List.filter_cons_of_pos hn, List.map_cons] at h
      unfold lexN at h
      obtain ⟨v, hv, h⟩ := h
      have hd : (bare (l.getD k default)).dst = dstOf l.toArray k := by
        simp [dstOf, bare, List.getD_eq_getElem?_getD, show k < l.length by omega]
      have e : (actOf l.toArray c (fun j => isN l.toArray j && decide (j < k)) a0).put (bare (l.getD k default)).dst v = actOf l.toArray (upd c k v) (fun j => isN l.toArray j && decide (j < k + 1)) a0 := by
        rw [hd, put_actOf hu (by simp; omega) (by simp)]
        refine actOf_congr (fun j hj => ?_) (fun _ _ _ => rfl) a0
        simp only [also]
        by_cases ej : j = k
        · subst ej; simp [hn]
        · have : decide (j < k + 1) = decide (j < k) := by simp; omega
          rw [this]; simp [ej]
      rw [e] at h
      obtain ⟨c', h1, h2, h3⟩ := ih (k + 1) (upd c k v) (by omega) h
      have hck : c' k = v := by rw [h1 k (by omega)]; simp [upd]
      have hlt : ∀ j, j < k → c' j = c j := fun j hj => by rw [h1 j (by omega)]; simp [upd, show j ≠ k by omega]
      refine ⟨c', hlt, fun i hi1 hi2 hi3 => ?_, h3⟩
      by_cases ei : i = k
      · subst ei
        rw [hck, actOf_congr (c := c') (c' := c) (L' := fun j => isN l.toArray j && decide (j < i)) (fun _ _ => rfl) (fun j _ hj => hlt j (by simp at hj; exact hj.2))]
        exact obl_of (by omega) hv
      · exact h2 i (by omega) hi2 hi3
    · rw [List.filter_cons_of_neg hn] at h
      have hn' : isN l.toArray k = false := by simpa using hn
      rw [actOf_congr (c' := c) (L' := fun j => isN l.toArray j && decide (j < k + 1)) (fun j _ => by
        by_cases ej : j = k
        · subst ej; simp [hn']
        · have : decide (j < k + 1) = decide (j < k) := by simp; omega
          rw [this]) (fun _ _ _ => rfl)] at h
      obtain ⟨c', h1, h2, h3⟩ := ih (k + 1) c (by omega) h
      refine ⟨c', fun j hj => h1 j (by omega), fun i hi1 hi2 hi3 => ?_, h3⟩
      by_cases ei : i = k
      · subst ei; simp [isN, hi3] at hn'
      · exact h2 i (by omega) hi2 hi3

theorem foldl_put (hu : Uniq ops) {c : Nat → Value} {a0 : Act} : ∀ (q : List Nat) (L : Nat → Bool), q.Nodup → (∀ i ∈ q, i < ops.size ∧ L i = false) →
    q.foldl (fun a i => a.put (dstOf ops i) (c i)) (actOf ops c L a0) = actOf ops c (fun j => L j || q.contains j) a0 := by
  intro q
  induction q with
  | nil => intro L _ _; simp
  | cons i r ih =>
    intro L hnd hq
    obtain ⟨hi, hLi⟩ := hq i (by simp)
    rw [List.nodup_cons] at hnd
    rw [List.foldl_cons, put_actOf hu hi hLi]
    have hc : upd c i (c i) = c := by funext j; simp only [upd]; split <;> simp_all
    rw [hc, ih (also L i) hnd.2 (fun j hj => ⟨(hq j (by simp [hj])).1, by
      have hne : j ≠ i := fun e => hnd.1 (e ▸ hj)
      simp [also, (hq j (by simp [hj])).2, hne]⟩)]
    refine actOf_congr (fun j _ => ?_) (fun _ _ _ => rfl) a0
    simp only [also, List.contains_cons]
    by_cases e : j = i
    · subst e; simp
    · have : (j == i) = false := by simpa using e
      simp [e, this]

theorem repl_false (n i : Nat) : (Array.replicate n false).getD i false = false := by
  rw [Array.getD_eq_getD_getElem?, Array.getElem?_replicate]
  split <;> rfl
def tyOf (o : Oper) : TypeId := match o.op with | .alloc t => t | _ => 0
/-- the closed check of the three lists -/
def partsOk (l : List Oper) (p q r : List Nat) : Bool :=
  allocOk l.toArray && (p == (List.range' 0 l.length).filter (isN l.toArray) && (q == (List.range l.length).filter (fun i => kindOf l.toArray i == 1) &&
    (planOk l.toArray r ((List.range l.length).map (nonS l.toArray)).toArray && (r.all (fun i => decide (i < l.length)) && decide (r.length ≤ cnt (fun j => !nonS l.toArray j) l.length)))))

theorem wp_region_alloc (p q r : List Nat) (z : Nat → Array Value) {l : List Oper} {id : Nat} {a : Act} {W0 : World} (hm : P.follows .mixedOrders = true)
    (hs : partsOk l p q r = true) (hQ : ∀ c a d v w, Q (.panic c) (a.put d v) w → Q (.panic c) a w)
    (hz : ∀ i ∈ q, ∀ w : World, (Instr.alloc (tyOf (l.getD i default)) true (.tuple #[])).run P w = .ok (ptrV w.heap.size) (w.alloc (.cells (z i) (tyOf (l.getD i default)))))
    (h : lexN P (fun w => Below W0.heap.size W0 w) (fun aN => ∀ (gs : Nat → Nat) (wf : World), Below W0.heap.size W0 wf → (∀ i ∈ q, W0.heap.size ≤ gs i ∧ Blk wf (gs i) (tyOf (l.getD i default)) (z i)) → (∀ i ∈ q, ∀ j ∈ q, i ≠ j → gs i ≠ gs j) →
        lexL P Q (fun w => Below W0.heap.size W0 w) (r.map fun i => (bare (l.getD i default), gslot l (l.getD i default))) (q.foldl (fun a i => a.put (l.getD i default).dst (ptrV (gs i))) aN) wf)
      (p.map fun i => (bare (l.getD i default), gslot l (l.getD i default))) a) : (Code.region id l.toArray true).wp P Q a W0 := by
  simp only [partsOk, Bool.and_eq_true, beq_iff_eq, List.all_eq_true, decide_eq_true_eq] at hs
  obtain ⟨hchk, hp, hq, hpl, hr, hrl⟩ := hs
  have hu := uniq_of hchk
  have hns : Region.noSelect l.toArray = true := by
    have := hchk
    simp only [allocOk, Bool.and_eq_true] at this
    exact this.1
  have hq' : ∀ i, i ∈ q ↔ i < l.length ∧ kindOf l.toArray i = 1 := fun i => by rw [hq]; simp
  have hqn : q.Nodup := by rw [hq]; exact List.Pairwise.filter _ List.nodup_range
  have e0 : a = actOf l.toArray (fun _ => undef) (fun j => isN l.toArray j && decide (j < 0)) a := by
    refine act_ext rfl fun s => ?_
    rw [actOf_slot, find_none (fun i _ h _ => by simp at h)]
    cases a.tmps[s]? <;> rfl
  rw [hp, e0] at h
  obtain ⟨cN, _, hN, hK⟩ := lexN_walk hu a l.length 0 _ (by omega) h
  refine wp_region_held (S := fun w => Below W0.heap.size W0 w) hm ?_
  have e1 : a = actOf l.toArray cN (fun j => (Array.replicate l.toArray.size false).getD j false) a := by
    refine act_ext rfl fun s => ?_
    rw [actOf_slot, find_none (fun i hi h _ => by rw [repl_false] at h; cases h)]
    cases a.tmps[s]? <;> rfl
  rw [e1]
  refine alloc_main hchk hQ W0 a cN (fun i hi hk => hN i (Nat.zero_le _) (by simpa using hi) hk) z (fun i => tyOf (l.getD i default)) ?_ ?_ _ _ cN _ (by simp) ?_ ((Below.refl _ _).drew) (fun j hj _ => repl_false _ _) (fun _ _ _ => rfl)
    (fun i hi _ h => by rw [repl_false] at h; cases h) (fun i j _ _ _ _ h _ _ => by rw [repl_false] at h; cases h) (fun j o _ h => by rw [repl_false] at h; cases h)
  · -- the allocs
    intro i o ho hk a' w
    have hi : i < l.length := by
      have := (Array.getElem?_eq_some_iff.1 ho).1
      simpa using this
    have e : l.getD i default = o := by
      simp only [List.getElem?_toArray] at ho
      rw [List.getD_eq_getElem?_getD, ho]; rfl
    have hop : ∃ t, o.op = .alloc t := by
      unfold kindOf at hk
      rw [ho] at hk
      simp only at hk
      cases hA' : isA o
      · rw [hA'] at hk; simp at hk; split at hk <;> cases hk
      · simp only [isA, Bool.and_eq_true] at hA'
        cases hop : o.op <;> simp [hop] at hA'
        exact ⟨_, rfl⟩
    obtain ⟨t, hop⟩ := hop
    have hzz := hz i ((hq' i).2 ⟨hi, hk⟩) w
    rw [e] at hzz ⊢
    have ht : tyOf o = t := by simp [tyOf, hop]
    rw [ht] at hzz ⊢
    unfold execOp
    rw [hop]
    simp only [Sem.run_bind, hzz, Result.andThen_ok, Sem.run_pure]
  · -- the stores
    intro c w hC hc hal hdi fuel L hL1 hL2 hcnt
    have hLe : L = ((List.range l.length).map (nonS l.toArray)).toArray := by
      apply Array.ext_getElem?
      intro j
      rcases Nat.lt_or_ge j l.length with hj | hj
      · have := hL2 j (by simpa using hj)
        have hlt : j < L.size := by rw [hL1]; simpa using hj
        have hg : L[j] = nonS l.toArray j := by simpa [hlt] using this
        rw [Array.getElem?_eq_getElem hlt, hg]
        simp [hj]
      · rw [Array.getElem?_eq_none (by rw [hL1]; simpa using hj)]
        simp [hj]
    have hcn : r.length ≤ fuel := by
      refine Nat.le_trans hrl (Nat.le_trans (Nat.le_of_eq ?_) hcnt)
      simp only [List.size_toArray]
      exact cnt_congr fun j hj => by rw [hL2 j (by simpa using hj)]
    obtain ⟨gs, hgs⟩ : ∃ gs : Nat → Nat, ∀ i, i < l.toArray.size → kindOf l.toArray i = 1 → c i = ptrV (gs i) ∧ W0.heap.size ≤ gs i ∧ Blk w (gs i) (tyOf (l.getD i default)) (z i) := by
      refine ⟨fun i => match c i with | .pointer (some ad) => ad.block | _ => 0, fun i hi hk => ?_⟩
      obtain ⟨g, h1, h2, h3⟩ := hal i hi hk
      simp only [h1, ptrV]
      exact ⟨trivial, h2, h3⟩
    have hfin := hK gs w hC (fun i hi => (hgs i (by simpa using ((hq' i).1 hi).1) ((hq' i).1 hi).2).2) (fun i hi j hj hne e => by
      obtain ⟨hi1, hi2⟩ := (hq' i).1 hi
      obtain ⟨hj1, hj2⟩ := (hq' j).1 hj
      refine hdi i j (by simpa using hi1) (by simpa using hj1) hi2 hj2 hne ?_
      rw [(hgs i (by simpa using hi1) hi2).1, (hgs j (by simpa using hj1) hj2).1, e])
    have hact : q.foldl (fun a i => a.put (l.getD i default).dst (ptrV (gs i))) (actOf l.toArray cN (isN l.toArray) a) = actOf l.toArray c (nonS l.toArray) a := by
      have h1 : actOf l.toArray cN (isN l.toArray) a = actOf l.toArray c (isN l.toArray) a :=
        actOf_congr (fun _ _ => rfl) (fun j hj h => (hc j hj (by simpa [isN] using h)).symm) a
      have h2 : ∀ (qq : List Nat) (x : Act), (∀ i ∈ qq, i ∈ q) → qq.foldl (fun a i => a.put (l.getD i default).dst (ptrV (gs i))) x = qq.foldl (fun a i => a.put (dstOf l.toArray i) (c i)) x := by
        intro qq
        induction qq with
        | nil => intro x _; rfl
        | cons i r ih =>
          intro x hx
          have hi := (hq' i).1 (hx i (by simp))
          rw [List.foldl_cons, List.foldl_cons, (hgs i (by simpa using hi.1) hi.2).1, show (l.getD i default).dst = dstOf l.toArray i by
            simp [dstOf, List.getD_eq_getElem?_getD, hi.1]]
          exact ih _ fun j hj => hx j (by simp [hj])
      rw [h1, h2 q _ (fun _ h => h), foldl_put hu q _ hqn (fun i hi => ⟨by simpa using ((hq' i).1 hi).1, by simp [isN, ((hq' i).1 hi).2]⟩)]
      refine actOf_congr (fun j hj => ?_) (fun _ _ _ => rfl) a
      have hj' : j < l.length := by simpa using hj
      simp only [isN, nonS]
      have hk3 : kindOf l.toArray j ≠ 3 := by
        unfold kindOf
        rw [Array.getElem?_eq_getElem hj]
        simp only
        split
        · simp
        · split <;> simp
      have hk : kindOf l.toArray j = 0 ∨ kindOf l.toArray j = 1 ∨ kindOf l.toArray j = 2 := by
        unfold kindOf at hk3 ⊢
        rw [Array.getElem?_eq_getElem hj] at hk3 ⊢
        simp only at hk3 ⊢
        split
        · simp
        · split <;> simp
      rcases hk with hk | hk | hk
      · simp [hk]
      · have : q.contains j = true := by simpa using (hq' j).2 ⟨hj', hk⟩
        rw [hk, this]; rfl
      · have : q.contains j = false := by
          simp only [List.contains_eq_mem, decide_eq_false_iff_not]
          exact fun h => by have := ((hq' j).1 h).2; omega
        rw [hk, this]; rfl
    rw [hact] at hfin
    exact lexH_sound hns hQ r fuel L _ w hcn (by rw [hLe]; exact hpl) hC (lexH_of_lexL r _ _ hr hfin)
  · rw [show l.toArray.size = l.length by simp]
    have : ∀ n, cnt (fun j => !(Array.replicate l.length false).getD j false) n ≤ n := fun n => by
      induction n with
      | zero => simp [cnt]
      | succ n ih => simp only [cnt]; split <;> omega
    exact this _

/-- the same, with what comes behind the walk out of sight while the walk goes on -/
theorem wp_region_alloc' (p q r : List Nat) (z : Nat → Array Value) {l : List Oper} {id : Nat} {a : Act} {W0 : World} (hm : P.follows .mixedOrders = true)
    (hs : partsOk l p q r = true) (hQ : ∀ c a d v w, Q (.panic c) (a.put d v) w → Q (.panic c) a w)
    (hz : ∀ i ∈ q, ∀ w : World, (Instr.alloc (tyOf (l.getD i default)) true (.tuple #[])).run P w = .ok (ptrV w.heap.size) (w.alloc (.cells (z i) (tyOf (l.getD i default)))))
    (h : ∀ K : Act → Prop, Shut (∀ aN, (∀ (gs : Nat → Nat) (wf : World), Below W0.heap.size W0 wf → (∀ i ∈ q, W0.heap.size ≤ gs i ∧ Blk wf (gs i) (tyOf (l.getD i default)) (z i)) → (∀ i ∈ q, ∀ j ∈ q, i ≠ j → gs i ≠ gs j) →
        lexL P Q (fun w => Below W0.heap.size W0 w) (r.map fun i => (bare (l.getD i default), gslot l (l.getD i default))) (q.foldl (fun a i => a.put (l.getD i default).dst (ptrV (gs i))) aN) wf) → K aN) →
      lexN P (fun w => Below W0.heap.size W0 w) K (p.map fun i => (bare (l.getD i default), gslot l (l.getD i default))) a) : (Code.region id l.toArray true).wp P Q a W0 :=
  wp_region_alloc p q r z hm hs hQ hz (h _ fun _ h => h)
theorem lexN_quiet {S : World → Prop} {K : Act → Prop} {r : List (Oper × Option (Option Tmp × Bool))} {o : Oper} {v : Value} {a : Act} (hk : quietKind o.op = true)
    (hy : ∀ w, S w → (execOp a.eval o).run P w = .ok (.value v) w) (h : lexN P S K r (a.put o.dst v)) : lexN P S K ((o, none) :: r) a :=
  ⟨v, .inr ⟨rfl, .inl ⟨hk, hy⟩⟩, h⟩
theorem lexN_loud {S : World → Prop} {K : Act → Prop} {r : List (Oper × Option (Option Tmp × Bool))} {o : Oper} {v : Value} {a : Act} (hk : quietKind o.op = false)
    (hy : ∀ w, S w → ∀ K' : Act → World → Prop, Shut (∀ a' w', a' = a.put o.dst v → Below w.heap.size w w' → K' a' w') → o.wp P a w K' QF) (h : lexN P S K r (a.put o.dst v)) : lexN P S K ((o, none) :: r) a :=
  ⟨v, .inr ⟨rfl, .inr ⟨hk, fun w hw => hy w hw _ (fun _ _ ha hb => ⟨ha, hb⟩)⟩⟩, h⟩
theorem keep_world {R G : World → Prop} {W : World} (h : R W) (k : ∀ w2, R w2 → G w2) : G W := k W h
theorem lexN_nil {S : World → Prop} {K : Act → Prop} {a : Act} (h : K a) : lexN P S K [] a := h
end
attribute [irreducible] lexN
end Pg
