/-
  A region that draws its order, makes variables of its own, calls, and stores: the law.
-/
import Derived.Test.YtknidfiokmghjaaDoorAlloc
set_option linter.unusedSimpArgs false
set_option linter.unusedVariables false
namespace Pg
open Go Go.RowKit

section
variable {P : Program} {ops : Array Oper} {Q : Exit → Act → World → Prop}

/-- What is owed at an operation that is neither alloc nor store, in state a: it leaves v in every world of the class, and a world of the class. -/
def obl (P : Program) (ops : Array Oper) (C : World → Prop) (i : Nat) (a : Act) (v : Value) : Prop :=
  ∀ o, ops[i]? = some o → (Region.wanted o (yielded ops a.tmps) = false → v = undef) ∧
    (Region.wanted o (yielded ops a.tmps) = true → (quietKind o.op = true ∧ ∀ w, C w → (execOp a.eval o).run P w = .ok (.value v) w) ∨
      (quietKind o.op = false ∧ ∀ w, C w → o.wp P a w (fun a' w' => a' = a.put o.dst v ∧ Below w.heap.size w w') QF))

def ptrV (g : Nat) : Value := .pointer (some ⟨g, 0, none⟩)
def isN (ops : Array Oper) (j : Nat) : Bool := kindOf ops j == 0
def nonS (ops : Array Oper) (j : Nat) : Bool := kindOf ops j != 2

theorem getD_set_self {L : Array Bool} {i : Nat} (hi : i < L.size) : (L.setIfInBounds i true).getD i false = true := by
  simp [hi]
theorem getD_set_other {L : Array Bool} {i j : Nat} (h : j ≠ i) : (L.setIfInBounds i true).getD j false = L.getD j false := by
  simp [Array.getElem?_setIfInBounds_ne (Ne.symm h)]
theorem getD_true_of {L : Array Bool} {j : Nat} (hj : j < L.size) : L.getD j true = L.getD j false := by
  simp [hj]

theorem alloc_main (hchk : allocOk ops = true) (hQ : ∀ c a d v w, Q (.panic c) (a.put d v) w → Q (.panic c) a w) (W0 : World) (a0 : Act) (cN : Nat → Value)
    (hN : ∀ i, i < ops.size → kindOf ops i = 0 → obl P ops (fun w => Below W0.heap.size W0 w) i (actOf ops cN (fun j => isN ops j && decide (j < i)) a0) (cN i))
    (z : Nat → Array Value) (t : Nat → TypeId)
    (hA : ∀ i o, ops[i]? = some o → kindOf ops i = 1 → ∀ (a : Act) w, (execOp a.eval o).run P w = .ok (.value (ptrV w.heap.size)) (w.alloc (.cells (z i) (t i))))
    (hF : ∀ c (w : World), Below W0.heap.size W0 w → (∀ i, i < ops.size → kindOf ops i = 0 → c i = cN i) →
      (∀ i, i < ops.size → kindOf ops i = 1 → ∃ g, c i = ptrV g ∧ W0.heap.size ≤ g ∧ Blk w g (t i) (z i)) →
      (∀ i j, i < ops.size → j < ops.size → kindOf ops i = 1 → kindOf ops j = 1 → i ≠ j → c i ≠ c j) →
      ∀ (fuel : Nat) (L : Array Bool), L.size = ops.size → (∀ j, j < ops.size → L.getD j false = nonS ops j) → cnt (fun j => !L.getD j false) ops.size ≤ fuel →
        wpAnyH P .any ops Q (fun w => Below W0.heap.size W0 w) fuel L (actOf ops c (nonS ops) a0) w) :
    ∀ (fuel : Nat) (L : Array Bool) (c : Nat → Value) (w : World), L.size = ops.size → cnt (fun j => !L.getD j false) ops.size ≤ fuel → Below W0.heap.size W0 w →
      (∀ j, j < ops.size → kindOf ops j = 2 → L.getD j false = false) →
      (∀ i, i < ops.size → kindOf ops i = 0 → c i = cN i) →
      (∀ i, i < ops.size → kindOf ops i = 1 → L.getD i false = true → ∃ g, c i = ptrV g ∧ W0.heap.size ≤ g ∧ Blk w g (t i) (z i)) →
      (∀ i j, i < ops.size → j < ops.size → kindOf ops i = 1 → kindOf ops j = 1 → L.getD i false = true → L.getD j false = true → i ≠ j → c i ≠ c j) →
      (∀ j o, ops[j]? = some o → L.getD j false = true → ∀ e ∈ o.after, Region.binds .any e = true → L.getD e.on false = true) →
      wpAnyH P .any ops Q (fun w => Below W0.heap.size W0 w) fuel L (actOf ops c (fun j => L.getD j false) a0) w := by
  have hu := uniq_of hchk
  have hns : Region.noSelect ops = true := by
    simp only [allocOk, Bool.and_eq_true] at hchk
    exact hchk.1
  have hsel := Region.noSelect_spec hns
  intro fuel
  induction fuel with
  | zero =>
    intro L c w hsz hcnt hC hst hcN hal hdi hcl
    have hall := cnt_zero (Nat.le_zero.1 hcnt)
    have hno : ∀ j, j < ops.size → L.getD j false = nonS ops j := fun j hj => by
      have h1 : L.getD j false = true := by simpa using hall j hj
      rw [h1]
      by_cases hk : kindOf ops j = 2
      · rw [hst j hj hk] at h1; cases h1
      · simp [nonS, hk]
    have := hF c w hC hcN (fun i hi hk => hal i hi hk (by simpa using hall i hi)) (fun i j hi hj hki hkj hne => hdi i j hi hj hki hkj (by simpa using hall i hi) (by simpa using hall j hj) hne) 0 L hsz hno hcnt
    rwa [actOf_congr (c' := c) (L' := nonS ops) hno (fun _ _ _ => rfl)]
  | succ fuel ih =>
    intro L c w hsz hcnt hC hst hcN hal hdi hcl
    by_cases hU : ∃ j, j < ops.size ∧ (nonS ops j && !L.getD j false) = true
    case neg =>
      have hno : ∀ j, j < ops.size → L.getD j false = nonS ops j := fun j hj => by
        by_cases hk : kindOf ops j = 2
        · rw [hst j hj hk]; simp [nonS, hk]
        · have : nonS ops j = true := by simp [nonS, hk]
          rw [this]
          cases h : L.getD j false
          · exact absurd ⟨j, hj, by rw [this, h]; rfl⟩ hU
          · rfl
      have hl : ∀ i, i < ops.size → kindOf ops i = 1 → L.getD i false = true := fun i hi hk => by rw [hno i hi]; simp [nonS, hk]
      have := hF c w hC hcN (fun i hi hk => hal i hi hk (hl i hi hk)) (fun i j hi hj hki hkj hne => hdi i j hi hj hki hkj (hl i hi hki) (hl j hj hkj) hne) (fuel + 1) L hsz hno hcnt
      rwa [actOf_congr (c' := c) (L' := nonS ops) hno (fun _ _ _ => rfl)]
    -- facts on one operation that is ready and no store
    have ready_of : ∀ i, i < ops.size → i ∈ Region.ready .any ops L → L.getD i false = false ∧ ∃ o, ops[i]? = some o ∧ ∀ e ∈ o.after, Region.binds .any e = true → L.getD e.on false = true := fun i hi h => by
      obtain ⟨h1, o, ho, h2⟩ := mem_ready.1 h
      rw [getD_true_of (by omega)] at h1
      exact ⟨h1, o, ho, h2⟩
    -- what an operation of the first kind does, in the state at hand
    have same : ∀ i o, i < ops.size → i ∈ Region.ready .any ops L → ops[i]? = some o → kindOf ops i = 0 →
        execOp (actOf ops c (fun j => L.getD j false) a0).eval o = execOp (actOf ops cN (fun j => isN ops j && decide (j < i)) a0).eval o ∧
        Region.wanted o (yielded ops (actOf ops c (fun j => L.getD j false) a0).tmps) = Region.wanted o (yielded ops (actOf ops cN (fun j => isN ops j && decide (j < i)) a0).tmps) := by
      intro i o hi hr ho hk
      obtain ⟨hun, o', ho', hed⟩ := ready_of i hi hr
      rw [ho] at ho'
      injection ho' with ho'
      subst ho'
      have ck := chk_of hchk ho
      have e1 := exec_more hu o (fun cs b => hsel i o cs b ho) c a0 (fun j => L.getD j false && (isN ops j && decide (j < i))) (fun j => L.getD j false) (by
        intro j; simp only [Bool.and_eq_true]; exact fun h => h.1) (by
        intro j d h2 h1 hd hin
        have hj : j < ops.size := by
          rcases Nat.lt_or_ge j ops.size with h | h
          · exact h
          · unfold dstOf at hd; rw [Array.getElem?_eq_none h] at hd; cases hd
        have hne : i ≠ j := fun e => by subst e; rw [hun] at h2; cases h2
        obtain ⟨k1, k2, k3⟩ := ck.looks hk j d hj hne hd hin
        simp [h2, isN, k1, k3] at h1)
      have e2 := exec_more hu o (fun cs b => hsel i o cs b ho) c a0 (fun j => L.getD j false && (isN ops j && decide (j < i))) (fun j => isN ops j && decide (j < i)) (by
        intro j; simp only [Bool.and_eq_true]; exact fun h => h.2) (by
        intro j d h2 h1 hd hin
        have hj : j < ops.size := by
          rcases Nat.lt_or_ge j ops.size with h | h
          · exact h
          · unfold dstOf at hd; rw [Array.getElem?_eq_none h] at hd; cases hd
        have hji : j < i := by simp at h2; exact h2.2
        obtain ⟨k1, k2, k3⟩ := ck.looks hk j d hj (by omega) hd hin
        obtain ⟨e, he, hb, hon⟩ := (edgeTo_iff ho).1 k2
        have := hed e he hb
        rw [hon] at this
        rw [this] at h1
        simp [isN, k1, k3] at h1)
      have e3 : actOf ops c (fun j => isN ops j && decide (j < i)) a0 = actOf ops cN (fun j => isN ops j && decide (j < i)) a0 :=
        actOf_congr (fun _ _ => rfl) (fun j hj h => hcN j hj (by simp [isN] at h; exact h.1)) a0
      rw [e3] at e2
      exact ⟨e1.1.trans e2.1.symm, e1.2.trans e2.2.symm⟩
    have cntS : ∀ i, i < ops.size → L.getD i false = false → cnt (fun j => !(L.setIfInBounds i true).getD j false) ops.size ≤ fuel := fun i hi hun => by
      have := cnt_drop (f := fun j => !L.getD j false) (g := fun j => !(L.setIfInBounds i true).getD j false) hi (by simp only [hun]; rfl) (by rw [getD_set_self (by omega)]; rfl) (fun j hj => by rw [getD_set_other hj])
      omega
    have actS : ∀ i v, i < ops.size → L.getD i false = false → (actOf ops c (fun j => L.getD j false) a0).put (dstOf ops i) v = actOf ops (upd c i v) (fun j => (L.setIfInBounds i true).getD j false) a0 := fun i v hi hun => by
      rw [put_actOf hu hi hun]
      refine actOf_congr (fun j hj => ?_) (fun _ _ _ => rfl) a0
      simp only [also]
      by_cases e : j = i
      · subst e; rw [getD_set_self (by omega)]; simp
      · rw [getD_set_other e]; simp [e]
    have updN : ∀ i, i < ops.size → kindOf ops i = 0 → upd c i (cN i) = c := fun i hi hk => by
      funext j
      simp only [upd]
      split
      · rename_i e; subst e; exact (hcN j hi hk).symm
      · rfl
    have clS : ∀ i, i < ops.size → i ∈ Region.ready .any ops L → ∀ j o, ops[j]? = some o → (L.setIfInBounds i true).getD j false = true → ∀ e ∈ o.after, Region.binds .any e = true → (L.setIfInBounds i true).getD e.on false = true := fun i hi hr j o ho hl e he hb => by
      have up : L.getD e.on false = true → (L.setIfInBounds i true).getD e.on false = true := fun h => by
        by_cases ee : e.on = i
        · rw [ee]; exact getD_set_self (by omega)
        · rw [getD_set_other ee]; exact h
      by_cases ej : j = i
      · subst ej
        obtain ⟨_, o', ho', hed⟩ := ready_of j hi hr
        rw [ho] at ho'
        injection ho' with ho'
        subst ho'
        exact up (hed e he hb)
      · rw [getD_set_other ej] at hl
        exact up (hcl j o ho hl e he hb)
    have dstE : ∀ i o, ops[i]? = some o → o.dst = dstOf ops i := fun i o ho => by simp [dstOf, ho]
    -- the step behind an operation of the first kind
    have nextN : ∀ i w', i < ops.size → i ∈ Region.ready .any ops L → kindOf ops i = 0 → L.getD i false = false → Below W0.heap.size W0 w' → (∀ g ty cs, Blk w g ty cs → Blk w' g ty cs) →
        wpAnyH P .any ops Q (fun w => Below W0.heap.size W0 w) fuel (L.setIfInBounds i true) ((actOf ops c (fun j => L.getD j false) a0).put (dstOf ops i) (cN i)) w' := by
      intro i w' hi hri hk hun hC' hkeep
      rw [actS i _ hi hun, updN i hi hk]
      have hlk : ∀ j, kindOf ops j = 1 → (L.setIfInBounds i true).getD j false = true → L.getD j false = true := fun j hj h => by
        rwa [getD_set_other (fun e => by subst e; rw [hk] at hj; cases hj)] at h
      exact ih _ c w' (by simpa using hsz) (cntS i hi hun) hC' (fun j hj hk2 => by rw [getD_set_other (fun e => by subst e; rw [hk] at hk2; cases hk2)]; exact hst j hj hk2) hcN
        (fun j hj hk1 h => let ⟨g, h1, h2, h3⟩ := hal j hj hk1 (hlk j hk1 h); ⟨g, h1, h2, hkeep _ _ _ h3⟩)
        (fun j k hj hkk hkj hkk1 h1 h2 hne => hdi j k hj hkk hkj hkk1 (hlk j hkj h1) (hlk k hkk1 h2) hne) (clS i hi hri)
    by_cases hq : ∃ i, i < ops.size ∧ i ∈ Region.ready .any ops L ∧ kindOf ops i = 0 ∧ quietAt ops i = true
    · -- a quiet one is taken first
      obtain ⟨i, hi, hr, hk, hqi⟩ := hq
      obtain ⟨hun, o, ho, hed⟩ := ready_of i hi hr
      have ck := chk_of hchk ho
      obtain ⟨s1, s2⟩ := same i o hi hr ho hk
      obtain ⟨o1, o2⟩ := hN i hi hk o ho
      have hy : YieldsIf P ops (fun w => Below W0.heap.size W0 w) o (cN i) (actOf ops c (fun j => L.getD j false) a0) := by
        cases hw : Region.wanted o (yielded ops (actOf ops c (fun j => L.getD j false) a0).tmps)
        · exact .inr ⟨hw, o1 (by rw [← s2]; exact hw)⟩
        · rcases o2 (by rw [← s2]; exact hw) with ⟨_, h⟩ | ⟨h, _⟩
          · exact .inl ⟨hw, fun w hw => by rw [s1]; exact h w hw⟩
          · rw [quietAt, ho] at hqi; simp [h] at hqi
      refine wpAnyH_first ho hsel (fun c a w h => hQ c a _ _ w h) fuel L _ w ?_ hr hy hC ?_
      · intro j oj hoj hne hunj hno
        rcases ck.apart hk hqi j oj hoj (fun e => hne e.symm) with h | h | h
        · obtain ⟨e, he, hb, hon⟩ := (edgeTo_iff hoj).1 h
          exact absurd hon (hno e he hb)
        · obtain ⟨e, he, hb, hon⟩ := (edgeTo_iff ho).1 h
          have h1 := hed e he hb
          rw [hon] at h1
          have hj : j < ops.size := (Array.getElem?_eq_some_iff.1 hoj).1
          rw [getD_true_of (by omega), h1] at hunj
          cases hunj
        · exact h
      · rw [dstE i o ho]
        exact nextN i w hi hr hk hun hC (fun _ _ _ h => h)
    · -- else whatever may come up is a call or an alloc
      obtain ⟨m, hm, hmU, hmin⟩ := least hU
      simp only [Bool.and_eq_true, Bool.not_eq_true'] at hmU
      obtain ⟨om, hom⟩ : ∃ o, ops[m]? = some o := ⟨_, Array.getElem?_eq_getElem hm⟩
      have ckm := chk_of hchk hom
      have hmk : kindOf ops m ≠ 2 := by simpa [nonS] using hmU.1
      have hmr : m ∈ Region.ready .any ops L := by
        refine mem_ready.2 ⟨by rw [getD_true_of (by omega)]; exact hmU.2, om, hom, fun e he hb => ?_⟩
        have hlt := ckm.back e he hb
        have hks : kindOf ops e.on ≠ 2 := fun hk2 => by
          have h1 := ckm.nostore hmk e.on (by omega) (by omega) hk2
          have h2 := (edgeTo_iff (j := e.on) hom).2 ⟨e, he, hb, rfl⟩
          rw [h1] at h2
          cases h2
        have h3 := hmin e.on hlt
        simp only [nonS] at h3
        simpa [hks] using h3
      have hmq : ¬ (kindOf ops m = 0 ∧ quietAt ops m = true) := fun h => hq ⟨m, hm, hmr, h.1, h.2⟩
      refine ⟨fun h0 => by rw [h0] at hmr; (cases hmr), fun i hir => ?_⟩
      have hi : i < ops.size := by
        obtain ⟨_, o, ho, _⟩ := mem_ready.1 hir
        exact (Array.getElem?_eq_some_iff.1 ho).1
      obtain ⟨hun, o, ho, hed⟩ := ready_of i hi hir
      have ck := chk_of hchk ho
      have hk2 : kindOf ops i ≠ 2 := fun hk2 => by
        have h1 := ck.waits hk2 m hm (fun e => by subst e; exact hmk hk2) hmk hmq
        unfold edgeTo2 at h1
        rw [Bool.or_eq_true] at h1
        rcases h1 with h1 | h1
        · obtain ⟨e, he, hb, hon⟩ := (edgeTo_iff ho).1 h1
          have := hed e he hb
          rw [hon, hmU.2] at this
          cases this
        · obtain ⟨k, hk, hkk⟩ := List.any_eq_true.1 h1
          rw [Bool.and_eq_true] at hkk
          obtain ⟨e, he, hb, hon⟩ := (edgeTo_iff ho).1 hkk.1
          have h3 := hed e he hb
          rw [hon] at h3
          obtain ⟨ok, hok⟩ : ∃ o, ops[k]? = some o := ⟨_, Array.getElem?_eq_getElem (List.mem_range.1 hk)⟩
          obtain ⟨e2, he2, hb2, hon2⟩ := (edgeTo_iff hok).1 hkk.2
          have h4 := hcl k ok hok h3 e2 he2 hb2
          rw [hon2, hmU.2] at h4
          cases h4
      have hkk : kindOf ops i = 0 ∨ kindOf ops i = 1 := by
        unfold kindOf at hk2 ⊢
        rw [ho] at hk2 ⊢
        simp only at hk2 ⊢
        split
        · exact .inr rfl
        · split
          · rename_i h1 h2; rw [if_neg h1, if_pos h2] at hk2; exact absurd rfl hk2
          · exact .inl rfl
      rcases hkk with hk | hk
      · -- a call
        have hnq : quietAt ops i = false := by
          cases h : quietAt ops i
          · rfl
          · exact absurd ⟨i, hi, hir, hk, h⟩ hq
        obtain ⟨s1, s2⟩ := same i o hi hir ho hk
        obtain ⟨o1, o2⟩ := hN i hi hk o ho
        have hKn : ∀ w', Below W0.heap.size W0 w' → (∀ g ty cs, Blk w g ty cs → Blk w' g ty cs) → (Below W0.heap.size W0 w' ∧ wpAnyH P .any ops Q (fun w => Below W0.heap.size W0 w) fuel (L.setIfInBounds i true) ((actOf ops c (fun j => L.getD j false) a0).put o.dst (cN i)) w') :=
          fun w' hC' hkeep => ⟨hC', by rw [dstE i o ho]; exact nextN i w' hi hir hk hun hC' hkeep⟩
        unfold wpOp
        simp only [ho]
        cases hw : Region.wanted o (yielded ops (actOf ops c (fun j => L.getD j false) a0).tmps)
        · rw [if_neg (by simp), ← o1 (by rw [← s2]; exact hw)]
          exact hKn w hC (fun _ _ _ h => h)
        · rw [if_pos rfl]
          refine .inl ?_
          rcases o2 (by rw [← s2]; exact hw) with ⟨hqq, _⟩ | ⟨_, h⟩
          · rw [quietAt, ho] at hnq; simp [hqq] at hnq
          · exact wp_transport s1 (by rw [actOf_size, actOf_size]) (h w hC) (fun w' hb => hKn w' (hC.trans (hb.mono hC.size)) (fun g ty cs hg => hg.below hb hg.lt))
      · -- an alloc
        have hw : Region.wanted o (yielded ops (actOf ops c (fun j => L.getD j false) a0).tmps) = true := by
          have : o.guard = none := by
            unfold kindOf at hk
            rw [ho] at hk
            simp only at hk
            cases hA' : isA o
            · rw [hA'] at hk; simp at hk; split at hk <;> cases hk
            · simp only [isA, Bool.and_eq_true, Option.isNone_iff_eq_none] at hA'; exact hA'.1.2
          simp [Region.wanted, this]
        have hrun := hA i o ho hk (actOf ops c (fun j => L.getD j false) a0) w
        unfold wpOp
        simp only [ho]
        rw [if_pos hw]
        refine .inl ?_
        unfold Oper.wp
        rw [hrun]
        simp only [Oper.upon]
        have hC' : Below W0.heap.size W0 (w.alloc (.cells (z i) (t i))) := hC.alloc hC.size _
        refine ⟨hC', ?_⟩
        rw [dstE i o ho, actS i _ hi hun]
        refine ih _ _ _ (by simpa using hsz) (cntS i hi hun) hC' (fun j hj hj2 => by rw [getD_set_other (fun e => by subst e; rw [hk] at hj2; cases hj2)]; exact hst j hj hj2) ?_ ?_ ?_ (clS i hi hir)
        · intro j hj hk0
          have : j ≠ i := fun e => by subst e; rw [hk] at hk0; cases hk0
          simp only [upd, if_neg this]
          exact hcN j hj hk0
        · intro j hj hk1 hl
          by_cases e : j = i
          · subst e
            exact ⟨w.heap.size, by simp [upd], hC.size, Blk.new rfl rfl⟩
          · rw [getD_set_other e] at hl
            obtain ⟨g, h1, h2, h3⟩ := hal j hj hk1 hl
            exact ⟨g, by simp only [upd, if_neg e]; exact h1, h2, h3.alloc _⟩
        · have fresh : ∀ j, j < ops.size → kindOf ops j = 1 → L.getD j false = true → c j ≠ ptrV w.heap.size := fun j hj hk1 hl => by
            obtain ⟨g, h1, h2, h3⟩ := hal j hj hk1 hl
            rw [h1]
            intro e
            have := h3.lt
            simp only [ptrV] at e
            injection e with e
            injection e with e
            injection e with e
            omega
          intro j k hj hkk hkj hkk1 h1 h2 hne
          by_cases ej : j = i
          · subst ej
            rw [getD_set_other (Ne.symm hne)] at h2
            simp only [upd, if_true, if_neg (Ne.symm hne)]
            exact fun e => fresh k hkk hkk1 h2 e.symm
          · rw [getD_set_other ej] at h1
            by_cases ek : k = i
            · subst ek
              simp only [upd, if_true, if_neg hne]
              exact fresh j hj hkj h1
            · rw [getD_set_other ek] at h2
              simp only [upd, if_neg ej, if_neg ek]
              exact hdi j k hj hkk hkj hkk1 h1 h2 hne
end
end Pg
