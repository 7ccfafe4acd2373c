/-
  A region that draws its order, makes variables of its own (alloc), calls, and stores at its end: one walk of what is neither alloc nor store, then the stores, whatever addresses the allocs got.
-/
import Derived.Test.YtknidfiokmghjaaDoorLex
import Derived.Test.YtknidfiokmghjaaDoorWords
set_option linter.unusedSimpArgs false
set_option linter.unusedVariables false
namespace Pg
open Go Go.RowKit

def isA (o : Oper) : Bool := (match o.op with | .alloc _ => true | _ => false) && o.guard.isNone && o.dst.isSome
def isS (o : Oper) : Bool := match o.op with | .store .. => true | _ => false
/-- 0: neither; 1: an alloc; 2: a store -/
def kindOf (ops : Array Oper) (i : Nat) : Nat := match ops[i]? with
  | none => 3
  | some o => if isA o then 1 else if isS o then 2 else 0
def dstOf (ops : Array Oper) (i : Nat) : Option Tmp := (ops[i]?).bind (·.dst)
def look (ops : Array Oper) (i : Nat) : List Tmp := match ops[i]? with | some o => o.looksAt ops | none => []
def edgeTo (ops : Array Oper) (i j : Nat) : Bool := match ops[i]? with | some o => o.after.any (fun e => Region.binds .any e && e.on == j) | none => false
/-- waits for it, or for what waits for it -/
def edgeTo2 (ops : Array Oper) (i j : Nat) : Bool := edgeTo ops i j || (List.range ops.size).any fun k => edgeTo ops i k && edgeTo ops k j
/-- the closed check -/
def allocOk (ops : Array Oper) : Bool :=
  let n := ops.size
  Region.noSelect ops &&
  (List.range n).all fun i =>
    ((match ops[i]? with | some o => o.after.all (fun e => !Region.binds .any e || decide (e.on < i)) | none => false)) &&
    ((kindOf ops i != 0 || (match dstOf ops i with | none => true | some d => !(look ops i).contains d)) &&
    (List.range n).all fun j => i == j ||
      (((dstOf ops i).isNone || dstOf ops i != dstOf ops j) &&
      ((kindOf ops i != 2 || kindOf ops j == 2 || (kindOf ops j == 0 && quietAt ops j) || edgeTo2 ops i j) &&
      ((kindOf ops i == 2 || kindOf ops j != 2 || !edgeTo ops i j) &&
      ((kindOf ops i != 0 || (match dstOf ops j with | none => true | some d => !(look ops i).contains d || (kindOf ops j == 0 && edgeTo ops i j && decide (j < i)))) &&
      (kindOf ops i != 0 || !quietAt ops i || edgeTo ops j i || edgeTo ops i j || (match ops[i]?, ops[j]? with | some oi, some oj => oi.apart ops oj | _, _ => false)))))))

section
variable {P : Program} {ops : Array Oper} {Q : Exit → Act → World → Prop}

def actOf (ops : Array Oper) (c : Nat → Value) (L : Nat → Bool) (a0 : Act) : Act :=
  { a0 with tmps := a0.tmps.mapIdx fun s v => match (List.range ops.size).find? (fun i => L i && dstOf ops i == some s) with | some i => c i | none => v }

theorem actOf_slot (c : Nat → Value) (L : Nat → Bool) (a0 : Act) (s : Nat) :
    (actOf ops c L a0).tmps[s]? = a0.tmps[s]?.map fun v => match (List.range ops.size).find? (fun i => L i && dstOf ops i == some s) with | some i => c i | none => v := by
  simp [actOf]
theorem actOf_size (c : Nat → Value) (L : Nat → Bool) (a0 : Act) : (actOf ops c L a0).tmps.size = a0.tmps.size := by simp [actOf]

theorem find_congr {p q : Nat → Bool} {l : List Nat} (h : ∀ i, i ∈ l → p i = q i) : l.find? p = l.find? q := by
  induction l with
  | nil => rfl
  | cons x r ih =>
    simp only [List.find?_cons, h x (by simp), ih fun i hi => h i (by simp [hi])]
def Uniq (ops : Array Oper) : Prop := ∀ i j s, dstOf ops i = some s → dstOf ops j = some s → i = j
theorem find_of {L : Nat → Bool} {i s : Nat} (hu : Uniq ops) (hi : i < ops.size) (hL : L i = true) (hd : dstOf ops i = some s) :
    (List.range ops.size).find? (fun i => L i && dstOf ops i == some s) = some i := by
  cases h : (List.range ops.size).find? (fun i => L i && dstOf ops i == some s) with
  | none =>
    have := List.find?_eq_none.1 h i (List.mem_range.2 hi)
    simp [hL, hd] at this
  | some j =>
    have := List.find?_some h
    simp only [Bool.and_eq_true, beq_iff_eq] at this
    rw [hu i j s hd this.2]
theorem find_none {L : Nat → Bool} {s : Nat} (h : ∀ i, i < ops.size → L i = true → dstOf ops i ≠ some s) :
    (List.range ops.size).find? (fun i => L i && dstOf ops i == some s) = none := by
  rw [List.find?_eq_none]
  intro i hi
  simp only [Bool.and_eq_true, beq_iff_eq, not_and]
  exact fun hL hd => h i (List.mem_range.1 hi) hL hd

theorem act_ext {a b : Act} (h : a.defers = b.defers) (k : ∀ s : Nat, a.tmps[s]? = b.tmps[s]?) : a = b := by
  obtain ⟨t, d⟩ := a
  obtain ⟨t', d'⟩ := b
  simp only at h k
  subst h
  congr 1
  exact Array.ext_getElem? k

theorem put_slot (a : Act) (d : Nat) (v : Value) (s : Nat) : (a.put (some d) v).tmps[s]? = if d = s then a.tmps[s]?.map (fun _ => v) else a.tmps[s]? := by
  simp only [Act.put, Array.getElem?_setIfInBounds]
  split
  · rename_i h; subst h
    split
    · rename_i hlt; rw [Array.getElem?_eq_getElem hlt]; rfl
    · rename_i hlt; rw [Array.getElem?_eq_none (by omega)]; rfl
  · rfl

def upd (c : Nat → Value) (i : Nat) (v : Value) : Nat → Value := fun j => if j = i then v else c j
def also (L : Nat → Bool) (i : Nat) : Nat → Bool := fun j => L j || decide (j = i)

theorem put_actOf (hu : Uniq ops) {c : Nat → Value} {L : Nat → Bool} {a0 : Act} {i : Nat} (hi : i < ops.size) (hL : L i = false) (v : Value) :
    (actOf ops c L a0).put (dstOf ops i) v = actOf ops (upd c i v) (also L i) a0 := by
  refine act_ext ?_ fun s => ?_
  · cases dstOf ops i <;> rfl
  · have same : dstOf ops i ≠ some s → (actOf ops c L a0).tmps[s]? = (actOf ops (upd c i v) (also L i) a0).tmps[s]? := by
      intro hne
      rw [actOf_slot, actOf_slot]
      congr 1
      funext u
      have e : (List.range ops.size).find? (fun j => also L i j && dstOf ops j == some s) = (List.range ops.size).find? (fun j => L j && dstOf ops j == some s) := by
        congr 1
        funext j
        simp only [also]
        by_cases hj : j = i
        · subst hj; simp [hne]
        · simp [hj]
      rw [e]
      cases h : (List.range ops.size).find? (fun j => L j && dstOf ops j == some s) with
      | none => rfl
      | some j =>
        have hj := List.find?_some h
        simp only [Bool.and_eq_true, beq_iff_eq] at hj
        have : j ≠ i := fun e => by subst e; rw [hL] at hj; cases hj.1
        simp [upd, this]
    cases hd : dstOf ops i with
    | none => exact same (by rw [hd]; simp)
    | some d =>
      rw [put_slot]
      by_cases h : d = s
      · subst h
        rw [if_pos rfl, actOf_slot, actOf_slot, Option.map_map, find_of (L := also L i) hu hi (by simp [also]) hd]
        simp only [upd, if_true]
        cases a0.tmps[d]? <;> rfl
      · rw [if_neg h]
        exact same (by rw [hd]; simp [h])

/-- Acts that differ only in slots that o does not look at do the same. -/
theorem exec_more (hu : Uniq ops) (o : Oper) (hs : ∀ cs b, o.op ≠ .select cs b) (c : Nat → Value) (a0 : Act) (L1 L2 : Nat → Bool) (hsub : ∀ j, L1 j = true → L2 j = true)
    (hd : ∀ j d, L2 j = true → L1 j = false → dstOf ops j = some d → d ∉ o.looksAt ops) :
    execOp (actOf ops c L2 a0).eval o = execOp (actOf ops c L1 a0).eval o ∧ Region.wanted o (yielded ops (actOf ops c L2 a0).tmps) = Region.wanted o (yielded ops (actOf ops c L1 a0).tmps) := by
  have step : ∀ k, execOp (actOf ops c (fun j => L1 j || (L2 j && decide (j < k))) a0).eval o = execOp (actOf ops c L1 a0).eval o ∧
      Region.wanted o (yielded ops (actOf ops c (fun j => L1 j || (L2 j && decide (j < k))) a0).tmps) = Region.wanted o (yielded ops (actOf ops c L1 a0).tmps) := by
    intro k
    induction k with
    | zero => simp
    | succ k ih =>
      by_cases hk : k < ops.size ∧ L2 k = true ∧ L1 k = false
      · obtain ⟨hk, h2, h1⟩ := hk
        have e : actOf ops c (fun j => L1 j || (L2 j && decide (j < k + 1))) a0 = (actOf ops c (fun j => L1 j || (L2 j && decide (j < k))) a0).put (dstOf ops k) (c k) := by
          rw [put_actOf hu hk (by simp [h1])]
          have hc : upd c k (c k) = c := by funext j; simp only [upd]; split <;> simp_all
          rw [hc]
          congr 1
          funext j
          simp only [also]
          by_cases hj : j = k
          · subst hj; simp [h2]
          · have : decide (j < k + 1) = decide (j < k) := by simp; omega
            rw [this]; simp [hj]
        rw [e, execOp_put o hs _ _ _ (fun d hdd => hd k d h2 h1 hdd), wanted_put o _ _ _ (fun d hdd => hd k d h2 h1 hdd)]
        exact ih
      · have e : actOf ops c (fun j => L1 j || (L2 j && decide (j < k + 1))) a0 = actOf ops c (fun j => L1 j || (L2 j && decide (j < k))) a0 := by
          refine act_ext rfl fun s => ?_
          rw [actOf_slot, actOf_slot]
          congr 1
          funext u
          have : (List.range ops.size).find? (fun i => (L1 i || (L2 i && decide (i < k + 1))) && dstOf ops i == some s) = (List.range ops.size).find? (fun i => (L1 i || (L2 i && decide (i < k))) && dstOf ops i == some s) := by
            apply find_congr
            intro i hi
            have hi := List.mem_range.1 hi
            by_cases hik : i = k
            · subst hik
              have : L1 i = true ∨ L2 i = false := by
                cases h1 : L1 i <;> cases h2 : L2 i <;> simp_all
              rcases this with h | h <;> simp [h]
            · have : decide (i < k + 1) = decide (i < k) := by simp; omega
              rw [this]
          rw [this]
        rw [e]
        exact ih
  have e : actOf ops c L2 a0 = actOf ops c (fun j => L1 j || (L2 j && decide (j < ops.size))) a0 := by
    refine act_ext rfl fun s => ?_
    rw [actOf_slot, actOf_slot]
    congr 1
    funext u
    have : (List.range ops.size).find? (fun i => L2 i && dstOf ops i == some s) = (List.range ops.size).find? (fun i => (L1 i || (L2 i && decide (i < ops.size))) && dstOf ops i == some s) := by
      apply find_congr
      intro i hi
      have hi := List.mem_range.1 hi
      cases h1 : L1 i
      · simp [hi]
      · simp [hsub i h1]
    rw [this]
  rw [e]
  exact step ops.size

/-- the post of a walk that may not panic -/
def QF : Exit → Act → World → Prop := fun _ _ _ => False
theorem letsOut_QF : ¬ LetsOut QF := fun ⟨_, _, h⟩ => h
theorem put_other {a act : Act} {dst : Option Tmp} {v c : Value} (hsz : act.tmps.size = a.tmps.size) (h : a.put dst v = a.put dst c) : act.put dst v = act.put dst c := by
  cases dst with
  | none => rfl
  | some d =>
    refine act_ext rfl fun s => ?_
    rw [put_slot, put_slot]
    have hd := congrArg (fun x : Act => x.tmps[d]?) h
    simp only [put_slot, if_true] at hd
    split
    · rename_i e; subst e
      rcases Nat.lt_or_ge d a.tmps.size with hlt | hge
      · rw [Array.getElem?_eq_getElem hlt] at hd
        simp only [Option.map_some, Option.some.injEq] at hd
        rw [hd]
      · rw [Array.getElem?_eq_none (by omega)]; rfl
    · rfl
theorem wp_transport {o : Oper} {a act : Act} {w : World} {c : Value} {C : World → Prop} {K : Act → World → Prop} (hex : execOp act.eval o = execOp a.eval o) (hsz : act.tmps.size = a.tmps.size)
    (h : o.wp P a w (fun a' w' => a' = a.put o.dst c ∧ C w') QF) (hK : ∀ w', C w' → K (act.put o.dst c) w') : o.wp P act w K Q := by
  unfold Oper.wp at *
  rw [hex]
  generalize (execOp a.eval o).run P w = r at *
  cases r with
  | ok n w' =>
    cases n <;> simp only [Oper.upon] at h ⊢
    case value v => rw [put_other hsz h.1]; exact hK _ h.2
    case skip => rw [put_other hsz h.1]; exact hK _ h.2
    case defer d =>
      have hd := congrArg Act.defers h.1
      cases ho : o.dst <;> simp [ho, Act.put] at hd
    case enter f args =>
      refine Calls.mono h fun e w'' he => ?_
      cases e with
      | returned v => simp only at he ⊢; rw [put_other hsz he.1]; exact hK _ he.2
      | panicked ch => exact he.elim
      | outgrown => exact (letsOut_QF he).elim
    case row row args => exact Rows.mono h fun v w'' he => by rw [put_other hsz he.1]; exact hK _ he.2
  | halt x w' =>
    cases x <;> simp only [Oper.upon] at h ⊢
    case panic v => exact h.elim

/-! ### What the check says -/
structure ChkI (ops : Array Oper) (i : Nat) (o : Oper) : Prop where
  back : ∀ e ∈ o.after, Region.binds .any e = true → e.on < i
  self : kindOf ops i = 0 → ∀ d, dstOf ops i = some d → d ∉ o.looksAt ops
  dst : ∀ j, j < ops.size → i ≠ j → ∀ d, dstOf ops i = some d → dstOf ops j ≠ some d
  waits : kindOf ops i = 2 → ∀ j, j < ops.size → i ≠ j → kindOf ops j ≠ 2 → ¬ (kindOf ops j = 0 ∧ quietAt ops j = true) → edgeTo2 ops i j = true
  nostore : kindOf ops i ≠ 2 → ∀ j, j < ops.size → i ≠ j → kindOf ops j = 2 → edgeTo ops i j = false
  looks : kindOf ops i = 0 → ∀ j d, j < ops.size → i ≠ j → dstOf ops j = some d → d ∈ o.looksAt ops → kindOf ops j = 0 ∧ edgeTo ops i j = true ∧ j < i
  apart : kindOf ops i = 0 → quietAt ops i = true → ∀ j oj, ops[j]? = some oj → i ≠ j → edgeTo ops j i = true ∨ edgeTo ops i j = true ∨ o.apart ops oj = true
theorem chk_of (h : allocOk ops = true) {i : Nat} {o : Oper} (ho : ops[i]? = some o) : ChkI ops i o := by
  have hi : i < ops.size := (Array.getElem?_eq_some_iff.1 ho).1
  simp only [allocOk, Bool.and_eq_true, List.all_eq_true, List.mem_range] at h
  obtain ⟨h1, h2, h3⟩ := h.2 i hi
  rw [ho] at h1
  have hl : look ops i = o.looksAt ops := by rw [look, ho]
  have key := fun j (hj : j < ops.size) (hne : i ≠ j) => by
    have := h3 j hj
    simp only [Bool.or_eq_true, beq_iff_eq, hne, false_or, Bool.and_eq_true] at this
    exact this
  refine ⟨?_, ?_, ?_, ?_, ?_, ?_, ?_⟩
  · intro e he hb
    have := Array.all_eq_true_iff_forall_mem.1 h1 e he
    simpa [hb] using this
  · intro hk d hd
    rw [hl, hd, hk] at h2
    simpa using h2
  · intro j hj hne d hd
    have := (key j hj hne).1
    rw [hd] at this
    intro hd2
    rw [hd2] at this
    simp at this
  · intro hk j hj hne hk2 hnq
    have := (key j hj hne).2.1
    simp [hk, hk2] at this
    rcases this with h | h
    · exact absurd h hnq
    · exact h
  · intro hk j hj hne hk2
    have := (key j hj hne).2.2.1
    simpa [hk, hk2] using this
  · intro hk j d hj hne hd hin
    have := (key j hj hne).2.2.2.1
    rw [hl, hd] at this
    simp [hk] at this
    rcases this with h | h
    · exact absurd hin h
    · exact ⟨h.1.1, h.1.2, h.2⟩
  · intro hk hq j oj hoj hne
    have hj : j < ops.size := (Array.getElem?_eq_some_iff.1 hoj).1
    have := (key j hj hne).2.2.2.2
    simp only [ho, hoj, hk, hq] at this
    simp at this
    rcases this with (h | h) | h
    · exact .inl h
    · exact .inr (.inl h)
    · exact .inr (.inr h)
theorem uniq_of (h : allocOk ops = true) : Uniq ops := by
  intro i j s hi hj
  by_cases hij : i = j
  · exact hij
  · have hlt : ∀ k s, dstOf ops k = some s → k < ops.size := fun k s hk => by
      unfold dstOf at hk
      cases ho : ops[k]? with
      | none => rw [ho] at hk; cases hk
      | some o => exact (Array.getElem?_eq_some_iff.1 ho).1
    obtain ⟨o, ho⟩ : ∃ o, ops[i]? = some o := ⟨_, Array.getElem?_eq_getElem (hlt i s hi)⟩
    exact absurd hj ((chk_of h ho).dst j (hlt j s hj) hij s hi)
theorem edgeTo_iff {i j : Nat} {o : Oper} (ho : ops[i]? = some o) : edgeTo ops i j = true ↔ ∃ e ∈ o.after, Region.binds .any e = true ∧ e.on = j := by
  unfold edgeTo
  rw [ho]
  simp only [Array.any_eq_true', Bool.and_eq_true, beq_iff_eq]
theorem actOf_congr {c c' : Nat → Value} {L L' : Nat → Bool} (hL : ∀ j, j < ops.size → L j = L' j) (hc : ∀ j, j < ops.size → L j = true → c j = c' j) (a0 : Act) : actOf ops c L a0 = actOf ops c' L' a0 := by
  refine act_ext rfl fun s => ?_
  rw [actOf_slot, actOf_slot]
  congr 1
  funext u
  have e : (List.range ops.size).find? (fun i => L i && dstOf ops i == some s) = (List.range ops.size).find? (fun i => L' i && dstOf ops i == some s) :=
    find_congr fun i hi => by rw [hL i (List.mem_range.1 hi)]
  rw [← e]
  cases h : (List.range ops.size).find? (fun i => L i && dstOf ops i == some s) with
  | none => rfl
  | some j =>
    have hj := List.find?_some h
    have hm := List.mem_of_find?_eq_some h
    simp only [Bool.and_eq_true, beq_iff_eq] at hj
    exact hc j (List.mem_range.1 hm) hj.1

/-! ### How many are not listed yet -/
def cnt (f : Nat → Bool) : Nat → Nat
  | 0 => 0
  | n + 1 => cnt f n + if f n then 1 else 0
theorem cnt_congr {f g : Nat → Bool} {n : Nat} (h : ∀ j, j < n → f j = g j) : cnt f n = cnt g n := by
  induction n with
  | zero => rfl
  | succ n ih => simp only [cnt, h n (by omega), ih fun j hj => h j (by omega)]
theorem cnt_drop {f g : Nat → Bool} {n i : Nat} (hi : i < n) (hf : f i = true) (hg : g i = false) (h : ∀ j, j ≠ i → f j = g j) : cnt g n + 1 = cnt f n := by
  induction n with
  | zero => omega
  | succ n ih =>
    by_cases e : i = n
    · subst e
      simp only [cnt, hf, hg]
      rw [cnt_congr fun j hj => h j (by omega)]
      simp
    · have := ih (by omega)
      simp only [cnt, ← h n (fun e' => e e'.symm)]
      omega
theorem cnt_zero {f : Nat → Bool} {n : Nat} (h : cnt f n = 0) : ∀ j, j < n → f j = false := by
  induction n with
  | zero => intro j hj; omega
  | succ n ih =>
    simp only [cnt] at h
    intro j hj
    by_cases e : j = n
    · subst e
      cases hf : f j
      · rfl
      · rw [hf] at h; simp at h
    · exact ih (by omega) j (by omega)
/-- the least of them -/
theorem least {f : Nat → Bool} : ∀ {n : Nat}, (∃ j, j < n ∧ f j = true) → ∃ i, i < n ∧ f i = true ∧ ∀ j, j < i → f j = false
  | 0, ⟨_, h, _⟩ => absurd h (by omega)
  | n + 1, ⟨j, hj, hf⟩ => by
    by_cases e : ∃ k, k < n ∧ f k = true
    · obtain ⟨i, h1, h2, h3⟩ := least e
      exact ⟨i, by omega, h2, h3⟩
    · have hn : f n = true := by
        by_cases hjn : j = n
        · subst hjn; exact hf
        · exact absurd ⟨j, by omega, hf⟩ e
      exact ⟨n, by omega, hn, fun k hk => by
        cases h : f k
        · rfl
        · exact absurd ⟨k, hk, h⟩ e⟩
end
end Pg
