/-
  Maps from numbers to objects, plainly: what the model's calls answer. (No program.)
  A search tree (gist), plainly: nodes by their numbers, each with its level, the node above and its entries. What must always hold of it (Shape, Fill, Keyed), which ids stand below a node, and that each step of the program leaves it so: keys made anew, an entry more in a leaf, a node cut in two, a new root, an id taken out, a node dropped, a root of one node sunk. (No program.)
  A heap in a list, plainly: pushed, popped; the first one is the least. (No program.)
  The nearest objects by a heap, plainly: whatever the tree, what is told is the first part of all objects, sorted by distance, then id. (No program.)
-/
import Derived.Test.YtkfbkfcmdfpfjaaGreatDoorQPlainSplit
import Derived.Lib.SlKeysI
import Derived.Maps.OwnSet
set_option linter.unusedSimpArgs false
set_option linter.unusedVariables false
namespace Pg
open Go Go.RowKit Go.Maps

section
variable {α β : Type}
/-- rising numbers -/
def Rising (m : List (Int × α)) : Prop := m.Pairwise fun p q => p.1 < q.1
def insK (id : Int) (v : α) : List (Int × α) → List (Int × α)
  | [] => [(id, v)]
  | p :: r => if id < p.1 then (id, v) :: p :: r else p :: insK id v r
def delK (id : Int) (m : List (Int × α)) : List (Int × α) := m.filter fun p => !decide (p.1 = id)
def putK (id : Int) (v : α) (m : List (Int × α)) : List (Int × α) := insK id v (delK id m)
def getK (id : Int) (m : List (Int × α)) : Option α := (m.find? fun p => decide (p.1 = id)).map (·.2)

theorem getK_nil (id : Int) : getK id ([] : List (Int × α)) = none := rfl
theorem getK_cons (id : Int) (p : Int × α) (m : List (Int × α)) : getK id (p :: m) = if p.1 = id then some p.2 else getK id m := by
  unfold getK
  rw [List.find?_cons]
  by_cases h : p.1 = id
  · simp [h]
  · simp [h]
theorem mem_insK {id : Int} {v : α} {p : Int × α} : ∀ {m : List (Int × α)}, p ∈ insK id v m ↔ p = (id, v) ∨ p ∈ m
  | [] => by simp [insK]
  | q :: r => by
    unfold insK
    split
    · simp
    · simp only [List.mem_cons, mem_insK (m := r)]
      constructor
      · rintro (h | h | h) <;> simp [h]
      · rintro (h | h | h) <;> simp [h]
theorem mem_delK {id : Int} {p : Int × α} {m : List (Int × α)} : p ∈ delK id m ↔ p ∈ m ∧ p.1 ≠ id := by simp [delK]
theorem mem_putK {id : Int} {v : α} {p : Int × α} {m : List (Int × α)} : p ∈ putK id v m ↔ p = (id, v) ∨ (p ∈ m ∧ p.1 ≠ id) := by
  unfold putK
  rw [mem_insK, mem_delK]
theorem Rising.del {m : List (Int × α)} (h : Rising m) (id : Int) : Rising (delK id m) := h.sublist List.filter_sublist
theorem insK_rising {id : Int} {v : α} : ∀ {m : List (Int × α)}, Rising m → (∀ p ∈ m, p.1 ≠ id) → Rising (insK id v m)
  | [], _, _ => by simp [insK, Rising]
  | q :: r, h, hne => by
    obtain ⟨h1, h2⟩ := List.pairwise_cons.1 h
    unfold insK
    split
    · rename_i hlt
      refine List.pairwise_cons.2 ⟨fun p hp => ?_, h⟩
      rcases List.mem_cons.1 hp with rfl | hp
      · exact hlt
      · exact Int.lt_trans hlt (h1 p hp)
    · rename_i hlt
      have hq := hne q (by simp)
      refine List.pairwise_cons.2 ⟨fun p hp => ?_, insK_rising h2 fun p hp => hne p (by simp [hp])⟩
      rcases mem_insK.1 hp with rfl | hp
      · show q.1 < id
        omega
      · exact h1 p hp
theorem Rising.put {m : List (Int × α)} (h : Rising m) (id : Int) (v : α) : Rising (putK id v m) := insK_rising (h.del id) fun p hp => (mem_delK.1 hp).2
theorem getK_some {m : List (Int × α)} {id : Int} {v : α} (h : getK id m = some v) : (id, v) ∈ m := by
  unfold getK at h
  rw [Option.map_eq_some_iff] at h
  obtain ⟨p, hp, rfl⟩ := h
  have h1 := List.find?_some hp
  have h2 := List.mem_of_find?_eq_some hp
  have : p.1 = id := by simpa using h1
  subst this
  exact h2
theorem getK_none {m : List (Int × α)} {id : Int} : getK id m = none ↔ ∀ p ∈ m, p.1 ≠ id := by
  unfold getK
  rw [Option.map_eq_none_iff, List.find?_eq_none]
  simp
theorem Rising.uniq {m : List (Int × α)} (h : Rising m) {p q : Int × α} (hp : p ∈ m) (hq : q ∈ m) (e : p.1 = q.1) : p = q := by
  induction m with
  | nil => cases hp
  | cons x r ih =>
    obtain ⟨h1, h2⟩ := List.pairwise_cons.1 h
    rcases List.mem_cons.1 hp with e1 | hp <;> rcases List.mem_cons.1 hq with e2 | hq
    · rw [e1, e2]
    · have := h1 q hq; rw [e1] at e; omega
    · have := h1 p hp; rw [e2] at e; omega
    · exact ih h2 hp hq
theorem getK_mem {m : List (Int × α)} (h : Rising m) {id : Int} {v : α} (hm : (id, v) ∈ m) : getK id m = some v := by
  cases hg : getK id m with
  | none => exact absurd rfl (getK_none.1 hg _ hm)
  | some u =>
    have := h.uniq (getK_some hg) hm rfl
    injection this with _ e
    rw [e]
theorem get_put {m : List (Int × α)} (hm : Rising m) (id : Int) (v : α) (i : Int) : getK i (putK id v m) = if i = id then some v else getK i m := by
  split
  · rename_i h
    subst h
    exact getK_mem (hm.put i v) (mem_putK.2 (.inl rfl))
  · rename_i h
    cases hg : getK i m with
    | none =>
      rw [getK_none] at hg ⊢
      intro p hp
      rcases mem_putK.1 hp with rfl | ⟨hp, _⟩
      · exact fun e => h e.symm
      · exact hg p hp
    | some u => exact getK_mem (hm.put id v) (mem_putK.2 (.inr ⟨getK_some hg, h⟩))
theorem get_del {m : List (Int × α)} (hm : Rising m) (id i : Int) : getK i (delK id m) = if i = id then none else getK i m := by
  split
  · rename_i h
    subst h
    exact getK_none.2 fun p hp => (mem_delK.1 hp).2
  · rename_i h
    cases hg : getK i m with
    | none => exact getK_none.2 fun p hp => getK_none.1 hg p (mem_delK.1 hp).1
    | some u => exact getK_mem (hm.del id) (mem_delK.2 ⟨getK_some hg, h⟩)
theorem insK_map (f : α → β) (id : Int) (v : α) : ∀ m : List (Int × α), insK id (f v) (m.map fun p => (p.1, f p.2)) = (insK id v m).map fun p => (p.1, f p.2)
  | [] => rfl
  | p :: r => by
    rw [List.map_cons]
    unfold insK
    split
    · rfl
    · rw [List.map_cons, insK_map f id v r]
end

/-! ### a map's raw values -/
/-- a value as it stands -/
def RV (v : Value) : Option (DataW Value × List MemPlace) := some (.held v, [])
def toD (V : List (Int × Value)) : DataW Value := .map (V.map fun p => (Lit.int .i64 p.1, .held p.2))
theorem sameKey_int (a b : Int) : (Lit.int .i64 a).sameKey (.int .i64 b) = decide (a = b) := by simp [Lit.sameKey]
theorem toD_insert (id : Int) (v : Value) : ∀ V : List (Int × Value), DataW.insert (Lit.int .i64 id, .held v) (V.map fun p => (Lit.int .i64 p.1, DataW.held p.2)) = (insK id v V).map fun p => (Lit.int .i64 p.1, DataW.held p.2)
  | [] => rfl
  | p :: r => by
    rw [List.map_cons]
    unfold DataW.insert insK
    simp only [Lit.before, decide_eq_true_eq]
    split
    · rfl
    · rw [List.map_cons, toD_insert id v r]
theorem toD_filter (id : Int) : ∀ V : List (Int × Value), (V.map fun p => (Lit.int .i64 p.1, (DataW.held p.2 : DataW Value))).filter (fun p => !p.1.sameKey (.int .i64 id)) = (delK id V).map fun p => (Lit.int .i64 p.1, DataW.held p.2)
  | [] => rfl
  | p :: r => by
    unfold delK
    rw [List.map_cons, List.filter_cons, List.filter_cons, sameKey_int, toD_filter id r]
    unfold delK
    split <;> simp_all
theorem toD_put (id : Int) (v : Value) (V : List (Int × Value)) : (toD V).put (.int .i64 id) (.held v) = toD (putK id v V) := by
  unfold toD DataW.put putK
  simp only
  rw [toD_filter, toD_insert]
theorem toD_del (id : Int) (V : List (Int × Value)) : (toD V).del (.int .i64 id) = toD (delK id V) := by
  unfold toD DataW.del
  simp only
  rw [toD_filter]
theorem toD_find (id : Int) : ∀ V : List (Int × Value), (V.map fun p => (Lit.int .i64 p.1, (DataW.held p.2 : DataW Value))).find? (fun p => p.1.sameKey (.int .i64 id)) = (V.find? fun p => decide (p.1 = id)).map fun p => (Lit.int .i64 p.1, DataW.held p.2)
  | [] => rfl
  | p :: r => by
    rw [List.map_cons, List.find?_cons, List.find?_cons, sameKey_int, toD_find id r]
    split <;> rfl
theorem toD_at (id : Int) (z : Value) (V : List (Int × Value)) : (toD V).atKey (.int .i64 id) (.held z) = .held ((getK id V).getD z) := by
  unfold toD DataW.atKey getK
  simp only
  rw [toD_find]
  cases V.find? fun p => decide (p.1 = id) <;> rfl
theorem toD_size (V : List (Int × Value)) : Maps.size (toD V) = V.length := by unfold toD; rw [Maps.size_eq, List.length_map]
theorem toD_inj : ∀ {V V' : List (Int × Value)}, toD V = toD V' → V = V' := by
  intro V V' h
  unfold toD at h
  injection h with h
  induction V generalizing V' with
  | nil =>
    cases V' with
    | nil => rfl
    | cons q s => cases h
  | cons p r ih =>
    cases V' with
    | nil => cases h
    | cons q s =>
      rw [List.map_cons, List.map_cons] at h
      injection h with h1 h2
      injection h1 with h3 h4
      injection h3 with _ h5
      injection h4 with h6
      rw [ih h2, Prod.ext h5 h6]
end Pg
namespace Pg
end Pg
set_option linter.unusedSimpArgs false
set_option linter.unusedVariables false
namespace Pg
open Go Go.RowKit
/-! ### a search tree, plainly -/
/-- an entry: its key (where it lies, its bytes), an id, a node -/
structure En where
  kv : Value
  kb : List Nat
  id : Int
  kid : Nat
/-- an object of the tree: its variable's block, the object, where its points lie, its key -/
structure It where
  blk : Nat
  ob : Ob
  ov : Value
  kv : Value
  kb : List Nat
/-- a tree: for each node its level (0: a leaf), the node above, its entries, where these lie; for each id its leaf; the objects by rising ids -/
structure Tr where
  fan : Nat
  root : Nat
  lv : Nat → Option Nat
  up : Nat → Option Nat
  es : Nat → List En
  sl : Nat → Value
  leaf : Int → Nat
  items : List (Int × It)

def updT {α β : Type} [DecidableEq α] (f : α → β) (a : α) (v : β) : α → β := fun x => if x = a then v else f x
section
variable {α β : Type} [DecidableEq α] {f : α → β} {a b : α} {v : β}
theorem updT_same : updT f a v a = v := by simp [updT]
theorem updT_ne (h : b ≠ a) : updT f a v b = f b := by simp [updT, h]
end

/-- b stands at or under n -/
inductive Und (up : Nat → Option Nat) (n : Nat) : Nat → Prop
  | refl : Und up n n
  | step {b u : Nat} : up b = some u → Und up n u → Und up n b
theorem Und.trans {up : Nat → Option Nat} {n m b : Nat} (h : Und up n m) (k : Und up m b) : Und up n b := by
  induction k with
  | refl => exact h
  | step e _ ih => exact .step e ih

structure Shape (t : Tr) (L : Int → Prop) : Prop where
  root : (t.lv t.root).isSome ∧ t.up t.root = none
  one : ∀ b l, t.lv b = some l → t.up b = none → b = t.root
  up : ∀ b l u, t.lv b = some l → t.up b = some u → t.lv u = some (l + 1) ∧ ∃ e ∈ t.es u, e.kid = b
  kid : ∀ u l e, t.lv u = some (l + 1) → e ∈ t.es u → t.lv e.kid = some l ∧ t.up e.kid = some u
  kids : ∀ u l, t.lv u = some (l + 1) → ((t.es u).map En.kid).Nodup
  ent : ∀ b e, t.lv b = some 0 → e ∈ t.es b → t.leaf e.id = b ∧ ∃ it, getK e.id t.items = some it ∧ e.kv = it.kv ∧ e.kb = it.kb
  itm : ∀ id it, getK id t.items = some it → ¬ L id → t.lv (t.leaf id) = some 0 ∧ ∃ e ∈ t.es (t.leaf id), e.id = id
  ids : ∀ b, t.lv b = some 0 → ((t.es b).map En.id).Nodup
  lost : ∀ b e, t.lv b = some 0 → e ∈ t.es b → ¬ L e.id
  deep : ∃ D, ∀ b l, t.lv b = some l → l ≤ D
  rise : Rising t.items
def Fill (t : Tr) (X : Nat → Prop) : Prop := ∀ b l, t.lv b = some l → ¬ X b → (t.es b).length ≤ t.fan ∧ (b ≠ t.root → t.fan / 2 ≤ (t.es b).length) ∧ (b = t.root → 0 < l → 2 ≤ (t.es b).length)
def Keyed (U : List (List Nat) → List Nat) (t : Tr) (X : Nat → Prop) : Prop := ∀ b l u e, t.lv b = some l → t.up b = some u → ¬ X b → e ∈ t.es u → e.kid = b → e.kb = U ((t.es b).map En.kb)

section
variable {t : Tr} {L : Int → Prop}
theorem Shape.und_lv (h : Shape t L) {n b l : Nat} (hb : t.lv b = some l) (hu : Und t.up n b) : ∃ m, l ≤ m ∧ t.lv n = some m ∧ (m = l → b = n) := by
  induction hu generalizing l with
  | refl => exact ⟨l, Nat.le_refl _, hb, fun _ => rfl⟩
  | step e _ ih =>
    obtain ⟨m, h1, h2, h3⟩ := ih (h.up _ _ _ hb e).1
    exact ⟨m, by omega, h2, fun hm => by omega⟩
theorem Shape.under (h : Shape t L) : ∀ {b l : Nat}, t.lv b = some l → Und t.up t.root b := by
  obtain ⟨D, hD⟩ := h.deep
  suffices ∀ k b l, D - l ≤ k → t.lv b = some l → Und t.up t.root b from fun {b l} hb => this _ b l (Nat.le_refl _) hb
  intro k
  induction k with
  | zero =>
    intro b l hk hb
    cases hu : t.up b with
    | none => rw [h.one _ _ hb hu]; exact .refl
    | some u =>
      have h1 := hD _ _ (h.up _ _ _ hb hu).1
      have := hD _ _ hb
      omega
  | succ k ih =>
    intro b l hk hb
    cases hu : t.up b with
    | none => rw [h.one _ _ hb hu]; exact .refl
    | some u => exact .step hu (ih u (l + 1) (by omega) (h.up _ _ _ hb hu).1)
/-- the ids below a node of level l -/
def below (t : Tr) : Nat → Nat → List Int
  | 0, n => (t.es n).map En.id
  | l + 1, n => (t.es n).flatMap fun e => below t l e.kid
theorem Shape.mem_below (h : Shape t L) {id : Int} : ∀ {l n : Nat}, t.lv n = some l → (id ∈ below t l n ↔ ∃ b, t.lv b = some 0 ∧ Und t.up n b ∧ ∃ e ∈ t.es b, e.id = id) := by
  intro l
  induction l with
  | zero =>
    intro n hn
    simp only [below, List.mem_map]
    constructor
    · rintro ⟨e, he, rfl⟩
      exact ⟨n, hn, .refl, e, he, rfl⟩
    · rintro ⟨b, hb, hu, e, he, rfl⟩
      obtain ⟨m, h1, h2, h3⟩ := h.und_lv hb hu
      rw [hn] at h2
      cases h2
      obtain rfl := h3 rfl
      exact ⟨e, he, rfl⟩
  | succ l ih =>
    intro n hn
    simp only [below, List.mem_flatMap]
    constructor
    · rintro ⟨e, he, hid⟩
      obtain ⟨h1, h2⟩ := h.kid _ _ _ hn he
      obtain ⟨b, hb, hu, x⟩ := (ih h1).1 hid
      exact ⟨b, hb, (Und.step h2 .refl : Und t.up n e.kid).trans hu, x⟩
    · rintro ⟨b, hb, hu, x⟩
      -- the node under n on the way to b
      have key : ∀ b, Und t.up n b → ∀ m, t.lv b = some m → m < l + 1 → ∃ e ∈ t.es n, Und t.up e.kid b := by
        intro b hu
        induction hu with
        | refl => intro m hm hl; rw [hn] at hm; cases hm; omega
        | @step b u e hk ih2 =>
          intro m hm hl
          have h4 := h.up _ _ _ hm e
          rcases Nat.lt_or_ge (m + 1) (l + 1) with hlt | hge
          · obtain ⟨e1, he1, hu1⟩ := ih2 _ h4.1 hlt
            exact ⟨e1, he1, .step e hu1⟩
          · have hml : m + 1 = l + 1 := by omega
            obtain ⟨q, hq1, hq2, hq3⟩ := h.und_lv h4.1 hk
            rw [hn] at hq2
            cases hq2
            obtain rfl := hq3 hml.symm
            obtain ⟨e1, he1, rfl⟩ := h4.2
            exact ⟨e1, he1, .refl⟩
      obtain ⟨e, he, hu2⟩ := key b hu 0 hb (by omega)
      obtain ⟨h1, h2⟩ := h.kid _ _ _ hn he
      exact ⟨e, he, (ih h1).2 ⟨b, hb, hu2, x⟩⟩
theorem und_two {up : Nat → Option Nat} {n m b : Nat} (h : Und up n b) (k : Und up m b) : Und up n m ∨ Und up m n := by
  induction h with
  | refl => exact .inr k
  | step e h ih =>
    cases k with
    | refl => exact .inl (.step e h)
    | step e' k => rw [e] at e'; cases e'; exact ih k
theorem nodup_flatMap' {α β : Type} {f : α → List β} : ∀ {l : List α}, l.Nodup → (∀ a ∈ l, (f a).Nodup) → (∀ a ∈ l, ∀ b ∈ l, a ≠ b → ∀ x ∈ f a, x ∉ f b) → (l.flatMap f).Nodup
  | [], _, _, _ => List.nodup_nil
  | a :: r, hn, h1, h2 => by
    rw [List.flatMap_cons, List.nodup_append]
    rw [List.nodup_cons] at hn
    refine ⟨h1 a (by simp), nodup_flatMap' hn.2 (fun b hb => h1 b (by simp [hb])) (fun b hb c hc => h2 b (by simp [hb]) c (by simp [hc])), ?_⟩
    intro x hx y hy e
    subst e
    obtain ⟨b, hb, hxb⟩ := List.mem_flatMap.1 hy
    exact h2 a (by simp) b (by simp [hb]) (fun e => hn.1 (e ▸ hb)) x hx hxb
theorem nodup_of_map {α β : Type} {f : α → β} {l : List α} (h : (l.map f).Nodup) : l.Nodup := by
  unfold List.Nodup at h ⊢
  rw [List.pairwise_map] at h
  exact h.imp fun hab e => hab (by rw [e])
theorem inj_of_nodup {α β : Type} {f : α → β} : ∀ {l : List α}, (l.map f).Nodup → ∀ {a b : α}, a ∈ l → b ∈ l → f a = f b → a = b
  | [], _, _, _, ha, _, _ => by cases ha
  | c :: r, h, a, b, ha, hb, e => by
    rw [List.map_cons, List.nodup_cons] at h
    rcases List.mem_cons.1 ha with h1 | h1
    · rcases List.mem_cons.1 hb with h2 | h2
      · rw [h1, h2]
      · exact absurd (List.mem_map.2 ⟨b, h2, by rw [← e, h1]⟩) h.1
    · rcases List.mem_cons.1 hb with h2 | h2
      · exact absurd (List.mem_map.2 ⟨a, h1, by rw [e, h2]⟩) h.1
      · exact inj_of_nodup h.2 h1 h2 e
theorem Shape.below_nodup (h : Shape t L) : ∀ {l n : Nat}, t.lv n = some l → (below t l n).Nodup := by
  intro l
  induction l with
  | zero => intro n hn; exact h.ids n hn
  | succ l ih =>
    intro n hn
    have hk := h.kids _ _ hn
    refine nodup_flatMap' (nodup_of_map hk) (fun e he => ih (h.kid _ _ _ hn he).1) ?_
    intro e he e' he' hne x hx hx'
    obtain ⟨b, hb, hu, y, hy, hyx⟩ := (h.mem_below (h.kid _ _ _ hn he).1).1 hx
    obtain ⟨b', hb', hu', y', hy', hyx'⟩ := (h.mem_below (h.kid _ _ _ hn he').1).1 hx'
    have e1 := (h.ent _ _ hb hy).1
    have e2 := (h.ent _ _ hb' hy').1
    rw [hyx] at e1
    rw [hyx'] at e2
    have : b = b' := e1.symm.trans e2
    subst this
    have hh : e.kid = e'.kid := by
      rcases und_two hu hu' with q | q
      · obtain ⟨m, _, h2, h3⟩ := h.und_lv (h.kid _ _ _ hn he').1 q
        rw [(h.kid _ _ _ hn he).1] at h2
        cases h2
        exact (h3 rfl).symm
      · obtain ⟨m, _, h2, h3⟩ := h.und_lv (h.kid _ _ _ hn he).1 q
        rw [(h.kid _ _ _ hn he').1] at h2
        cases h2
        exact h3 rfl
    exact hne (inj_of_nodup hk he he' hh)
end
/-! ### what a tree's steps leave -/
/-- t' is t but for keys above the leaves -/
structure Alike (t t' : Tr) : Prop where
  fan : t'.fan = t.fan
  root : t'.root = t.root
  lv : t'.lv = t.lv
  up : t'.up = t.up
  leaf : t'.leaf = t.leaf
  items : t'.items = t.items
  es : ∀ b, (t'.es b).map (fun e => (e.id, e.kid)) = (t.es b).map fun e => (e.id, e.kid)
  low : ∀ b, t.lv b = some 0 → t'.es b = t.es b
theorem Alike.refl (t : Tr) : Alike t t := ⟨rfl, rfl, rfl, rfl, rfl, rfl, fun _ => rfl, fun _ _ => rfl⟩
theorem Alike.trans {t t' t'' : Tr} (h : Alike t t') (k : Alike t' t'') : Alike t t'' :=
  ⟨k.fan.trans h.fan, k.root.trans h.root, k.lv.trans h.lv, k.up.trans h.up, k.leaf.trans h.leaf, k.items.trans h.items, fun b => (k.es b).trans (h.es b), fun b hb => (k.low b (by rw [h.lv]; exact hb)).trans (h.low b hb)⟩
section
variable {t t' : Tr} {L : Int → Prop} {X : Nat → Prop} {U : List (List Nat) → List Nat}
theorem Alike.len (h : Alike t t') (b : Nat) : (t'.es b).length = (t.es b).length := by
  have := congrArg List.length (h.es b)
  simpa using this
theorem Alike.kids (h : Alike t t') (b : Nat) : (t'.es b).map En.kid = (t.es b).map En.kid := by
  have := congrArg (List.map Prod.snd) (h.es b)
  rw [List.map_map, List.map_map] at this
  exact this
theorem Alike.back (h : Alike t t') {b : Nat} {e : En} (he : e ∈ t'.es b) : ∃ e0 ∈ t.es b, e0.kid = e.kid ∧ e0.id = e.id := by
  have : (e.id, e.kid) ∈ (t.es b).map fun e => (e.id, e.kid) := by rw [← h.es]; exact List.mem_map.2 ⟨e, he, rfl⟩
  obtain ⟨e0, h0, h1⟩ := List.mem_map.1 this
  simp only [Prod.mk.injEq] at h1
  exact ⟨e0, h0, h1.2, h1.1⟩
theorem Alike.on (h : Alike t t') {b : Nat} {e : En} (he : e ∈ t.es b) : ∃ e0 ∈ t'.es b, e0.kid = e.kid ∧ e0.id = e.id := by
  have : (e.id, e.kid) ∈ (t'.es b).map fun e => (e.id, e.kid) := by rw [h.es]; exact List.mem_map.2 ⟨e, he, rfl⟩
  obtain ⟨e0, h0, h1⟩ := List.mem_map.1 this
  simp only [Prod.mk.injEq] at h1
  exact ⟨e0, h0, h1.2, h1.1⟩
/-- one entry more in a leaf -/
theorem Shape.addLeaf (h : Shape t L) {n : Nat} {id : Int} {it : It} {x : En} {v : Value} (hn : t.lv n = some 0) (hid : L id) (hit : getK id t.items = some it) (hx : x.id = id ∧ x.kv = it.kv ∧ x.kb = it.kb) (ht : t' = { t with es := updT t.es n (t.es n ++ [x]), sl := updT t.sl n v, leaf := fun i => if i ∈ (t.es n ++ [x]).map En.id then n else t.leaf i }) :
    Shape t' fun i => L i ∧ i ≠ id := by
  subst ht
  have hne : ∀ u l, t.lv u = some (l + 1) → u ≠ n := fun u l hu e => by rw [e, hn] at hu; cases hu
  have hes : ∀ b, b ≠ n → updT t.es n (t.es n ++ [x]) b = t.es b := fun b hb => updT_ne hb
  have hsame : updT t.es n (t.es n ++ [x]) n = t.es n ++ [x] := updT_same
  have hfresh : ∀ b e, t.lv b = some 0 → e ∈ t.es b → e.id ≠ id := fun b e hb he hh => h.lost b e hb he (hh ▸ hid)
  refine ⟨h.root, h.one, ?_, ?_, ?_, ?_, ?_, ?_, ?_, h.deep, h.rise⟩
  · intro b l u hb hu
    simp only at hb hu ⊢
    obtain ⟨h1, h2⟩ := h.up b l u hb hu
    rw [hes u (hne u l h1)]
    exact ⟨h1, h2⟩
  · intro u l e hu he
    simp only at hu he ⊢
    rw [hes u (hne u l hu)] at he
    exact h.kid u l e hu he
  · intro u l hu
    simp only at hu ⊢
    rw [hes u (hne u l hu)]
    exact h.kids u l hu
  · intro b e hb he
    simp only at hb he ⊢
    by_cases hbn : b = n
    · subst hbn
      rw [hsame] at he
      refine ⟨if_pos (List.mem_map.2 ⟨e, he, rfl⟩), ?_⟩
      rcases List.mem_append.1 he with h1 | h1
      · exact (h.ent _ _ hb h1).2
      · rw [List.mem_singleton.1 h1, hx.1]
        exact ⟨it, hit, hx.2⟩
    · rw [hes b hbn] at he
      obtain ⟨h1, h2⟩ := h.ent b e hb he
      refine ⟨?_, h2⟩
      rw [if_neg]
      · exact h1
      · intro hm
        obtain ⟨y, hy, hyi⟩ := List.mem_map.1 hm
        rcases List.mem_append.1 hy with q | q
        · have := (h.ent _ _ hn q).1
          rw [hyi, h1] at this
          exact hbn this
        · rw [List.mem_singleton.1 q, hx.1] at hyi
          exact hfresh b e hb he hyi.symm
  · intro i j hi hL
    simp only at hi ⊢
    by_cases hm : i ∈ (t.es n ++ [x]).map En.id
    · rw [if_pos hm, hsame]
      obtain ⟨y, hy, hyi⟩ := List.mem_map.1 hm
      exact ⟨hn, y, hy, hyi⟩
    · have hi' : i ≠ id := fun e => hm (by rw [List.map_append, List.mem_append]; exact .inr (by simp [hx.1, e]))
      obtain ⟨h1, e, he, hei⟩ := h.itm i j hi (fun hl => hL ⟨hl, hi'⟩)
      rw [if_neg hm]
      have : t.leaf i ≠ n := fun e1 => hm (by rw [List.map_append, List.mem_append]; exact .inl (List.mem_map.2 ⟨e, e1 ▸ he, hei⟩))
      rw [hes _ this]
      exact ⟨h1, e, he, hei⟩
  · intro b hb
    simp only at hb ⊢
    by_cases hbn : b = n
    · subst hbn
      rw [hsame, List.map_append, List.nodup_append]
      refine ⟨h.ids _ hb, by simp, ?_⟩
      intro y hy z hz e
      obtain ⟨q, hq, rfl⟩ := List.mem_map.1 hy
      simp at hz
      exact hfresh _ q hb hq (by rw [e, hz, hx.1])
    · rw [hes b hbn]
      exact h.ids b hb
  · rintro b e hb he ⟨hl, hne'⟩
    simp only at hb he
    by_cases hbn : b = n
    · subst hbn
      rw [hsame] at he
      rcases List.mem_append.1 he with q | q
      · exact h.lost _ _ hb q hl
      · rw [List.mem_singleton.1 q] at hne'
        exact hne' hx.1
    · rw [hes b hbn] at he
      exact h.lost b e hb he hl
end
section
variable {t t' : Tr} {L : Int → Prop} {X : Nat → Prop} {U : List (List Nat) → List Nat}
end
section
variable {t t' : Tr} {L : Int → Prop} {X : Nat → Prop} {U : List (List Nat) → List Nat}
open Classical in
/-- a node goes out of its parent, with all below it -/
theorem Shape.drop (h : Shape t L) {n u l : Nat} {v : Value} {es' : List En} (hn : t.lv n = some l) (hu : t.up n = some u) (hes : ∀ e, e ∈ es' ↔ e ∈ t.es u ∧ e.kid ≠ n) (hnd : (es'.map En.kid).Nodup)
    (ht : t' = { t with es := updT t.es u es', sl := updT t.sl u v, lv := fun b => if Und t.up n b then none else t.lv b }) : Shape t' fun i => L i ∨ i ∈ below t l n := by
  subst ht
  have hul : t.lv u = some (l + 1) := (h.up _ _ _ hn hu).1
  have hout : ∀ {b m}, (if Und t.up n b then none else t.lv b) = some m → ¬ Und t.up n b ∧ t.lv b = some m := by
    intro b m hb
    split at hb
    · cases hb
    · rename_i hq
      exact ⟨hq, hb⟩
  have hin : ∀ {b m}, ¬ Und t.up n b → t.lv b = some m → (if Und t.up n b then none else t.lv b) = some m := by
    intro b m hq hb
    rw [if_neg hq, hb]
  have hroot : ¬ Und t.up n t.root := by
    intro hq
    cases hq with
    | refl => have := h.root.2; rw [hu] at this; cases this
    | step e _ => rw [h.root.2] at e; cases e
  have hupn : ¬ Und t.up n u := by
    intro hq
    obtain ⟨m, h1, h2, _⟩ := h.und_lv hul hq
    rw [hn] at h2
    cases h2
    omega
  have hmem : ∀ b e, e ∈ updT t.es u es' b → e ∈ t.es b ∧ (b = u → e.kid ≠ n) := by
    intro b e he
    by_cases hbu : b = u
    · subst hbu
      rw [updT_same, hes] at he
      exact ⟨he.1, fun _ => he.2⟩
    · rw [updT_ne hbu] at he
      exact ⟨he, fun e => absurd e hbu⟩
  refine ⟨?_, ?_, ?_, ?_, ?_, ?_, ?_, ?_, ?_, ?_, h.rise⟩
  · obtain ⟨h1, h2⟩ := h.root
    simp only
    rw [if_neg hroot]
    exact ⟨h1, h2⟩
  · intro b m hb hup
    exact h.one b m (hout hb).2 hup
  · intro b m v hb hup
    simp only at hb hup ⊢
    obtain ⟨h1, h2⟩ := hout hb
    obtain ⟨h3, e, he, hek⟩ := h.up b m v h2 hup
    have hv : ¬ Und t.up n v := fun q => h1 (.step hup q)
    refine ⟨hin hv h3, e, ?_, hek⟩
    by_cases hvu : v = u
    · subst hvu
      rw [updT_same, hes]
      refine ⟨he, fun e1 => h1 ?_⟩
      rw [← hek, e1]
      exact .refl
    · rw [updT_ne hvu]
      exact he
  · intro v m e hv he
    simp only at hv he ⊢
    obtain ⟨h1, h2⟩ := hout hv
    obtain ⟨h3, h4⟩ := hmem v e he
    obtain ⟨h5, h6⟩ := h.kid v m e h2 h3
    refine ⟨hin (fun q => ?_) h5, h6⟩
    have : ∀ b, Und t.up n b → b = e.kid → False := by
      intro b hb hbe
      cases hb with
      | refl =>
        rw [← hbe, hu] at h6
        cases h6
        exact h4 rfl hbe.symm
      | step e1 q2 =>
        rw [hbe, h6] at e1
        cases e1
        exact h1 q2
    exact this _ q rfl
  · intro v m hv
    simp only at hv ⊢
    by_cases hvu : v = u
    · subst hvu; rw [updT_same]; exact hnd
    · rw [updT_ne hvu]; exact h.kids v m (hout hv).2
  · intro b e hb he
    simp only at hb he ⊢
    exact h.ent b e (hout hb).2 (hmem b e he).1
  · intro i it hi hL
    simp only at hi ⊢
    obtain ⟨h1, e, he, hei⟩ := h.itm i it hi fun q => hL (.inl q)
    have hq : ¬ Und t.up n (t.leaf i) := fun q => hL (.inr ((h.mem_below hn).2 ⟨_, h1, q, e, he, hei⟩))
    refine ⟨hin hq h1, e, ?_, hei⟩
    have : t.leaf i ≠ u := fun e => by rw [e, hul] at h1; cases h1
    rw [updT_ne this]
    exact he
  · intro b hb
    simp only at hb ⊢
    have hb := (hout hb).2
    have : b ≠ u := fun e => by rw [e, hul] at hb; cases hb
    rw [updT_ne this]
    exact h.ids b hb
  · intro b e hb he hL
    simp only at hb he
    obtain ⟨h1, h2⟩ := hout hb
    have he := (hmem b e he).1
    rcases hL with q | q
    · exact h.lost b e h2 he q
    · obtain ⟨b', hb', hub, e', he', hid⟩ := (h.mem_below hn).1 q
      have q1 := (h.ent b e h2 he).1
      have q2 := (h.ent b' e' hb' he').1
      rw [hid, q1] at q2
      subst q2
      exact h1 hub
  · obtain ⟨D, hD⟩ := h.deep
    exact ⟨D, fun b m hb => hD b m (hout hb).2⟩

/-- a tree of one empty leaf -/
theorem Shape.empty {r : Nat} (hlv : t.lv = fun b => if b = r then some 0 else none) (hroot : t.root = r) (hup : t.up r = none) (hes : t.es r = []) (hr : Rising t.items) (hL : ∀ i it, getK i t.items = some it → L i) : Shape t L := by
  have hin : ∀ {b m}, t.lv b = some m → b = r ∧ m = 0 := by
    intro b m hb
    rw [hlv] at hb
    simp only at hb
    split at hb
    · rename_i e
      cases hb
      exact ⟨e, rfl⟩
    · cases hb
  have hr0 : t.lv r = some 0 := by rw [hlv]; simp
  refine ⟨by rw [hroot, hr0]; exact ⟨rfl, hup⟩, fun b m hb _ => by rw [hroot]; exact (hin hb).1, ?_, ?_, ?_, ?_, ?_, ?_, ?_, ⟨0, fun b m hb => by rw [(hin hb).2]; exact Nat.le_refl 0⟩, hr⟩
  · intro b m v hb hv
    rw [(hin hb).1, hup] at hv
    cases hv
  · intro u m e hu _
    exact absurd (hin hu).2 (by omega)
  · intro u m hu
    exact absurd (hin hu).2 (by omega)
  · intro b e hb he
    rw [(hin hb).1, hes] at he
    cases he
  · intro i it hi hL'
    exact absurd (hL i it hi) hL'
  · intro b hb
    rw [(hin hb).1, hes]
    exact List.nodup_nil
  · intro b e hb he
    rw [(hin hb).1, hes] at he
    cases he
end
section
variable {t t' : Tr} {L : Int → Prop} {X : Nat → Prop} {U : List (List Nat) → List Nat}
theorem Fill.more {Y : Nat → Prop} (h : Fill t X) (hXY : ∀ b, X b → Y b) : Fill t Y := fun b l hb hY => h b l hb fun hx => hY (hXY b hx)
theorem Keyed.more {Y : Nat → Prop} (h : Keyed U t X) (hXY : ∀ b, X b → Y b) : Keyed U t Y := fun b l u e hb hu hY => h b l u e hb hu fun hx => hY (hXY b hx)
/-- only the entries of one node (and what is no node) have turned -/
theorem Fill.at {n : Nat} (h : Fill t X) (hfan : t'.fan = t.fan) (hroot : t'.root = t.root) (hlv : ∀ b l, t'.lv b = some l → t.lv b = some l) (hes : ∀ b, b ≠ n → t'.es b = t.es b) : Fill t' fun b => X b ∨ b = n := by
  intro b l hb hX
  rw [hes b fun e => hX (.inr e), hfan, hroot]
  exact h b l (hlv b l hb) fun hx => hX (.inl hx)
theorem Keyed.at {n : Nat} {es' : List En} (h : Keyed U t X) (hlv : ∀ b l, t'.lv b = some l → t.lv b = some l) (hup : t'.up = t.up) (hes : ∀ b, b ≠ n → t'.es b = t.es b) (hn : ∀ e, e ∈ t'.es n → (e ∈ t.es n ∧ ¬ X e.kid) ∨ ∀ l, t'.lv e.kid = some l → t.up e.kid ≠ some n) :
    Keyed U t' fun b => X b ∨ b = n := by
  intro b l u e hb hu hX he hek
  rw [hup] at hu
  rw [hes b fun e => hX (.inr e)]
  refine h b l u e (hlv b l hb) hu (fun hx => hX (.inl hx)) ?_ hek
  by_cases hun : u = n
  · subst hun
    rcases hn e he with q | q
    · exact q.1
    · exact absurd hu (hek ▸ q l (hek ▸ hb))
  · rw [hes u hun] at he
    exact he
/-- how many ids a node has below it at least -/
theorem Shape.many (h : Shape t L) (hf : Fill t fun _ => False) (h4 : 4 ≤ t.fan) : ∀ {l n : Nat}, t.lv n = some l → n ≠ t.root → 2 ^ (l + 1) ≤ (below t l n).length := by
  intro l
  induction l with
  | zero =>
    intro n hn hr
    have := (hf n 0 hn (fun q => q)).2.1 hr
    simp only [below, List.length_map]
    omega
  | succ l ih =>
    intro n hn hr
    have h2 := (hf n _ hn (fun q => q)).2.1 hr
    have hk : ∀ e ∈ t.es n, 2 ^ (l + 1) ≤ (below t l e.kid).length := fun e he => by
      have q := h.kid _ _ _ hn he
      refine ih q.1 fun e1 => ?_
      have := h.root.2
      rw [← e1, q.2] at this
      cases this
    match hes : t.es n, h2 with
    | [], h2 => simp only [hes, List.length_nil] at h2; omega
    | [_], h2 => simp only [hes, List.length_singleton] at h2; omega
    | a :: b :: r, _ =>
      have ha := hk a (by rw [hes]; simp)
      have hb := hk b (by rw [hes]; simp)
      simp only [below, hes, List.flatMap_cons, List.length_append]
      rw [Nat.pow_succ]
      omega
theorem Shape.manyRoot (h : Shape t L) (hf : Fill t fun _ => False) (h4 : 4 ≤ t.fan) {l : Nat} (hl : t.lv t.root = some (l + 1)) : 2 ^ (l + 2) ≤ (below t (l + 1) t.root).length := by
  have h2 := (hf t.root _ hl (fun q => q)).2.2 rfl (by omega)
  have hk : ∀ e ∈ t.es t.root, 2 ^ (l + 1) ≤ (below t l e.kid).length := fun e he => by
    have q := h.kid _ _ _ hl he
    refine h.many hf h4 q.1 fun e1 => ?_
    have := h.root.2
    rw [← e1, q.2] at this
    cases this
  match hes : t.es t.root, h2 with
  | [], h2 => simp only [hes, List.length_nil] at h2; omega
  | [_], h2 => simp only [hes, List.length_singleton] at h2; omega
  | a :: b :: r, _ =>
    have ha := hk a (by rw [hes]; simp)
    have hb := hk b (by rw [hes]; simp)
    simp only [below, hes, List.flatMap_cons, List.length_append]
    rw [show l + 2 = (l + 1) + 1 from rfl, Nat.pow_succ]
    omega
/-- no list without repetitions out of the ids is longer than the ids are -/
theorem nodup_len {α : Type} [DecidableEq α] : ∀ {l m : List α}, l.Nodup → (∀ x ∈ l, x ∈ m) → l.length ≤ m.length
  | [], m, _, _ => Nat.zero_le _
  | a :: r, m, hn, hs => by
    rw [List.nodup_cons] at hn
    have h1 := nodup_len (l := r) (m := m.erase a) hn.2 fun x hx => (List.mem_erase_of_ne fun e => hn.1 (by rw [← e]; exact hx)).2 (hs x (by simp [hx]))
    have h2 := List.length_erase_of_mem (hs a (by simp))
    have h3 : 0 < m.length := List.length_pos_of_mem (hs a (by simp))
    rw [List.length_cons]
    omega
theorem Shape.below_len (h : Shape t L) {l n : Nat} (hn : t.lv n = some l) : (below t l n).length ≤ t.items.length := by
  have := nodup_len (h.below_nodup hn) (m := t.items.map (·.1)) fun i hi => by
    obtain ⟨b, hb, _, e, he, rfl⟩ := (h.mem_below hn).1 hi
    obtain ⟨_, it, hit, _⟩ := h.ent b e hb he
    exact List.mem_map.2 ⟨_, getK_some hit, rfl⟩
  simpa using this
theorem Shape.level (h : Shape t L) (hf : Fill t fun _ => False) (h4 : 4 ≤ t.fan) {l : Nat} (hl : t.lv t.root = some l) : l = 0 ∨ 2 ^ (l + 1) ≤ t.items.length := by
  match l, hl with
  | 0, _ => exact .inl rfl
  | l + 1, hl => exact .inr (Nat.le_trans (h.manyRoot hf h4 hl) (h.below_len hl))

/-! ### what a lawful class makes of it -/
end
section
variable {t t' : Tr} {L : Int → Prop}
end
end Pg
namespace Pg
open Go Go.RowKit
/-- an object more in the map, in no leaf yet -/
theorem Shape.putItem {t : Tr} {L : Int → Prop} (h : Shape t L) {id : Int} (x : It) (hno : getK id t.items = none) : Shape { t with items := putK id x t.items } (fun i => L i ∨ i = id) := by
  have hget : ∀ i, getK i (putK id x t.items) = if i = id then some x else getK i t.items := fun i => get_put h.rise id x i
  have hne : ∀ b e, t.lv b = some 0 → e ∈ t.es b → e.id ≠ id := fun b e hb he q => by
    obtain ⟨_, it, hit, _⟩ := h.ent b e hb he
    rw [q, hno] at hit
    cases hit
  refine ⟨h.root, h.one, h.up, h.kid, h.kids, ?_, ?_, h.ids, ?_, h.deep, h.rise.put id x⟩
  · intro b e hb he
    obtain ⟨h1, it, h2, h3⟩ := h.ent b e hb he
    refine ⟨h1, it, ?_, h3⟩
    simp only [hget, if_neg (hne b e hb he)]
    exact h2
  · intro i it hi hL
    simp only [hget] at hi
    rw [if_neg (fun q => hL (.inr q))] at hi
    exact h.itm i it hi fun q => hL (.inl q)
  · intro b e hb he q
    rcases q with q | q
    · exact h.lost b e hb he q
    · exact hne b e hb he q
theorem Shape.less {t : Tr} {L L' : Int → Prop} (h : Shape t L) (hL : ∀ i, L i ↔ L' i) : Shape t L' := by
  have : L = L' := funext fun i => propext (hL i)
  rw [← this]; exact h
end Pg
set_option linter.unusedSimpArgs false
set_option linter.unusedVariables false
namespace Pg
/-! ### a heap in a list, plainly -/
section
variable {α : Type} (lt : α → α → Bool)
/-- i and j change places -/
def swapL (l : List α) (i j : Nat) : List α := match l[i]?, l[j]? with
  | some x, some y => (l.set i y).set j x
  | _, _ => l
theorem swapL_len (l : List α) (i j : Nat) : (swapL l i j).length = l.length := by
  unfold swapL
  split <;> simp
theorem swapL_get (l : List α) {i j : Nat} (hi : i < l.length) (hj : j < l.length) (k : Nat) : (swapL l i j)[k]? = if k = j then l[i]? else if k = i then l[j]? else l[k]? := by
  unfold swapL
  rw [List.getElem?_eq_getElem hi, List.getElem?_eq_getElem hj]
  simp only
  rw [List.getElem?_set, List.getElem?_set]
  by_cases h1 : k = j
  · subst h1; simp [hj]
  · by_cases h2 : k = i
    · subst h2; simp [hi, h1, Ne.symm h1]
    · simp [h1, h2, Ne.symm h1, Ne.symm h2]
theorem perm_of_swap (l : List α) {i j : Nat} (hij : i < j) (hj : j < l.length) : ((l.set i (l[j]'hj)).set j (l[i]'(by omega))).Perm l := by
  have e : l = l.take i ++ l[i]'(by omega) :: (l.drop (i + 1)) := by
    conv => lhs; rw [← List.take_append_drop i l]
    rw [List.drop_eq_getElem_cons]
  have hd : (l.drop (i + 1))[j - i - 1]? = some l[j] := by rw [List.getElem?_drop, show i + 1 + (j - i - 1) = j by omega, List.getElem?_eq_getElem hj]
  generalize hA : l.take i = A at e
  generalize hx : l[i]'(by omega) = x at e
  generalize hB : l.drop (i + 1) = D at e hd
  have hAl : A.length = i := by rw [← hA]; simp; omega
  have e2 : D = D.take (j - i - 1) ++ l[j] :: D.drop (j - i - 1 + 1) := by
    conv => lhs; rw [← List.take_append_drop (j - i - 1) D]
    have hlt : j - i - 1 < D.length := by rw [← hB]; simp; omega
    rw [List.drop_eq_getElem_cons hlt]
    rw [List.getElem?_eq_getElem hlt] at hd
    injection hd with hd
    rw [hd]
  generalize hy : l[j] = y at e2
  generalize hF : D.take (j - i - 1) = F at e2
  generalize hG : D.drop (j - i - 1 + 1) = G at e2
  have hFl : F.length = j - i - 1 := by rw [← hF, ← hB]; simp; omega
  have e3 : l = A ++ x :: (F ++ y :: G) := by rw [e, e2]
  have e4 : (l.set i y).set j x = A ++ y :: (F ++ x :: G) := by
    rw [e3, List.set_append_right _ _ (by omega), hAl, Nat.sub_self, List.set_cons_zero, List.set_append_right _ _ (by omega), hAl]
    obtain ⟨d, hd⟩ : ∃ d, j - i = d + 1 := ⟨j - i - 1, by omega⟩
    rw [hd, List.set_cons_succ, List.set_append_right _ _ (by omega)]
    rw [show d - F.length = 0 by omega, List.set_cons_zero]
  rw [e4, e3]
  refine List.Perm.append_left A ?_
  have h1 : (y :: (F ++ x :: G)).Perm (y :: x :: (F ++ G)) := List.Perm.cons y List.perm_middle
  have h2 : (x :: (F ++ y :: G)).Perm (x :: y :: (F ++ G)) := List.Perm.cons x List.perm_middle
  exact h1.trans ((List.Perm.swap x y _).trans h2.symm)
theorem swapL_perm (l : List α) {i j : Nat} (hij : i < j) : (swapL l i j).Perm l ∧ (swapL l j i).Perm l := by
  unfold swapL
  by_cases hj : j < l.length
  · rw [List.getElem?_eq_getElem hj, List.getElem?_eq_getElem (show i < l.length by omega)]
    refine ⟨perm_of_swap l hij hj, ?_⟩
    simp only
    rw [List.set_comm _ _ (by omega)]
    exact perm_of_swap l hij hj
  · rw [List.getElem?_eq_none (Nat.le_of_not_lt hj)]
    constructor
    · cases l[i]? <;> exact List.Perm.refl _
    · exact List.Perm.refl _
def upS : Nat → List α → Nat → List α
  | 0, l, _ => l
  | f + 1, l, i => if i = 0 then l else match l[i]?, l[(i - 1) / 2]? with
    | some x, some y => if lt x y then upS f (swapL l i ((i - 1) / 2)) ((i - 1) / 2) else l
    | _, _ => l
def pushS (l : List α) (x : α) : List α := upS lt (l.length + 1) (l ++ [x]) l.length
/-- the lesser of the two below i, if there are -/
def kidS (l : List α) (i : Nat) : Option Nat :=
  if 2 * i + 1 < l.length then
    some (match l[2 * i + 2]?, l[2 * i + 1]? with
      | some y, some x => if lt y x then 2 * i + 2 else 2 * i + 1
      | _, _ => 2 * i + 1)
  else none
def dnS : Nat → List α → Nat → List α
  | 0, l, _ => l
  | f + 1, l, i => match kidS lt l i with
    | none => l
    | some k => match l[k]?, l[i]? with
      | some x, some y => if lt x y then dnS f (swapL l i k) k else l
      | _, _ => l
def popS (l : List α) : List α := match l.getLast? with
  | none => []
  | some z => dnS lt l.length ((l.set 0 z).dropLast) 0
/-- no element is less than the one above it -/
def Heaped (l : List α) : Prop := ∀ i x y, 0 < i → l[i]? = some x → l[(i - 1) / 2]? = some y → lt x y = false
structure Strict : Prop where
  irr : ∀ x, lt x x = false
  tr : ∀ x y z, lt x y = true → lt y z = true → lt x z = true
  tot : ∀ x y z, lt x y = false → lt y z = false → lt x z = false
variable {lt}
theorem upS_perm : ∀ (f : Nat) (l : List α) (i : Nat), (upS lt f l i).Perm l
  | 0, l, _ => List.Perm.refl _
  | f + 1, l, i => by
    unfold upS
    split
    · exact List.Perm.refl _
    · rename_i h0
      split
      · split
        · exact (upS_perm f _ _).trans (swapL_perm l (i := (i - 1) / 2) (j := i) (by omega)).2
        · exact List.Perm.refl _
      · exact List.Perm.refl _
theorem dnS_perm : ∀ (f : Nat) (l : List α) (i : Nat), (dnS lt f l i).Perm l
  | 0, l, _ => List.Perm.refl _
  | f + 1, l, i => by
    unfold dnS
    split
    · exact List.Perm.refl _
    · rename_i k hk
      have hik : i < k := by
        unfold kidS at hk
        split at hk
        · injection hk with hk
          split at hk
          · split at hk <;> omega
          · omega
        · cases hk
      split
      · split
        · exact (dnS_perm f _ _).trans (swapL_perm l hik).1
        · exact List.Perm.refl _
      · exact List.Perm.refl _
theorem pushS_perm (l : List α) (x : α) : (pushS lt l x).Perm (x :: l) := (upS_perm _ _ _).trans (List.perm_append_comm (l₁ := l) (l₂ := [x]))
theorem popS_perm {l : List α} {x : α} {r : List α} (h : l = x :: r) : (popS lt l).Perm r := by
  subst h
  unfold popS
  cases hz : (x :: r).getLast? with
  | none => simp at hz
  | some z =>
    simp only
    refine (dnS_perm _ _ _).trans ?_
    cases r with
    | nil => simp
    | cons y r =>
      have : ((x :: y :: r).set 0 z).dropLast = z :: (y :: r).dropLast := by simp
      rw [this]
      rw [List.getLast?_cons_cons] at hz
      have e : (y :: r) = (y :: r).dropLast ++ [z] := by
        obtain ⟨ys, hys⟩ := List.getLast?_eq_some_iff.1 hz
        rw [hys]; simp
      conv => rhs; rw [e]
      exact (List.perm_append_comm (l₁ := [z]) (l₂ := (y :: r).dropLast))
/-- a heap but for what stands at i: what is below it may be less -/
def HeapDn (lt : α → α → Bool) (l : List α) (i : Nat) : Prop :=
  (∀ j x y, 0 < j → (j - 1) / 2 ≠ i → l[j]? = some x → l[(j - 1) / 2]? = some y → lt x y = false) ∧
  (∀ j x y, 0 < i → 0 < j → (j - 1) / 2 = i → l[j]? = some x → l[(i - 1) / 2]? = some y → lt x y = false)
theorem kidS_some {l : List α} {i k : Nat} (h : kidS lt l i = some k) : (k = 2 * i + 1 ∨ k = 2 * i + 2) ∧ k < l.length := by
  unfold kidS at h
  split at h
  · rename_i h1
    injection h with h
    split at h
    · rename_i y x hy hx
      split at h
      · subst h
        refine ⟨.inr rfl, ?_⟩
        rcases Nat.lt_or_ge (2 * i + 2) l.length with q | q
        · exact q
        · rw [List.getElem?_eq_none q] at hy; cases hy
      · subst h; exact ⟨.inl rfl, h1⟩
    · subst h; exact ⟨.inl rfl, h1⟩
  · cases h
/-- the one that kidS takes is not more than the other -/
theorem kidS_least (hs : Strict lt) {l : List α} {i k j : Nat} {a b : α} (h : kidS lt l i = some k) (hj : 0 < j) (hji : (j - 1) / 2 = i) (ha : l[j]? = some a) (hb : l[k]? = some b) : lt a b = false := by
  have hjj : j = 2 * i + 1 ∨ j = 2 * i + 2 := by omega
  unfold kidS at h
  split at h
  · rename_i h1
    injection h with h
    split at h
    · rename_i y x hy hx
      split at h
      · rename_i hlt
        subst h
        rw [hy] at hb
        cases hb
        rcases hjj with e | e
        · subst e
          rw [hx] at ha
          cases ha
          cases q : lt a b with
          | false => rfl
          | true => have := hs.tr _ _ _ hlt q; rw [hs.irr] at this; cases this
        · subst e
          rw [hy] at ha
          cases ha
          exact hs.irr _
      · rename_i hlt
        subst h
        rw [hx] at hb
        cases hb
        rcases hjj with e | e
        · subst e
          rw [hx] at ha
          cases ha
          exact hs.irr _
        · subst e
          rw [hy] at ha
          cases ha
          simpa using hlt
    · rename_i hno
      subst h
      rcases hjj with e | e
      · subst e
        rw [ha] at hb
        cases hb
        exact hs.irr _
      · subst e
        exact absurd hb (hno a b ha)
  · cases h
theorem dnS_heap (hs : Strict lt) : ∀ (f : Nat) (l : List α) (i : Nat), l.length ≤ f + i → i < l.length → HeapDn lt l i → Heaped lt (dnS lt f l i) := by
  intro f
  induction f with
  | zero => intro l i hf hi; omega
  | succ f ih =>
    intro l i hf hi ⟨h1, h2⟩
    unfold dnS
    cases hk : kidS lt l i with
    | none =>
      simp only
      unfold kidS at hk
      split at hk
      · cases hk
      · rename_i hn
        intro j a b hj ha hb
        have hjl : j < l.length := by
          rcases Nat.lt_or_ge j l.length with q2 | q2
          · exact q2
          · rw [List.getElem?_eq_none q2] at ha; cases ha
        exact h1 j a b hj (by omega) ha hb
    | some k =>
      simp only
      obtain ⟨hk1, hkl⟩ := kidS_some hk
      rw [List.getElem?_eq_getElem hkl, List.getElem?_eq_getElem hi]
      simp only
      generalize hx : l[k] = x
      generalize hy : l[i] = y
      have hxk : l[k]? = some x := by rw [List.getElem?_eq_getElem hkl, hx]
      have hyi : l[i]? = some y := by rw [List.getElem?_eq_getElem hi, hy]
      have least : ∀ j a, 0 < j → (j - 1) / 2 = i → l[j]? = some a → lt a x = false := fun j a hj hji ha => kidS_least hs hk hj hji ha hxk
      cases hlt : lt x y with
      | false =>
        rw [if_neg (by simp)]
        intro j a b hj ha hb
        by_cases hji : (j - 1) / 2 = i
        · rw [hji, hyi] at hb
          cases hb
          exact hs.tot _ _ _ (least j a hj hji ha) hlt
        · exact h1 j a b hj hji ha hb
      | true =>
        rw [if_pos rfl]
        refine ih _ _ (by rw [swapL_len]; omega) (by rw [swapL_len]; exact hkl) ⟨?_, ?_⟩
        · intro j a b hj hjk ha hb
          rw [swapL_get l hi hkl] at ha hb
          rw [if_neg hjk] at hb
          by_cases hjk2 : j = k
          · subst hjk2
            rw [if_pos rfl, hyi] at ha
            cases ha
            rw [if_pos (by omega), hxk] at hb
            cases hb
            cases q : lt y x with
            | false => rfl
            | true => have := hs.tr _ _ _ hlt q; rw [hs.irr] at this; cases this
          · rw [if_neg hjk2] at ha
            by_cases hji : j = i
            · subst hji
              rw [if_pos rfl, hxk] at ha
              cases ha
              rw [if_neg (by omega)] at hb
              exact h2 k x b (by omega) (by omega) (by omega) hxk hb
            · rw [if_neg hji] at ha
              by_cases hpi : (j - 1) / 2 = i
              · rw [if_pos hpi, hxk] at hb
                cases hb
                exact least j a hj hpi ha
              · rw [if_neg hpi] at hb
                exact h1 j a b hj hpi ha hb
        · intro j a b hk0 hj hjk ha hb
          rw [swapL_get l hi hkl] at ha hb
          rw [if_neg (by omega), if_neg (by omega)] at ha
          rw [if_neg (by omega), if_pos (by omega), hxk] at hb
          cases hb
          exact h1 j a x hj (by omega) ha (by rw [hjk]; exact hxk)
theorem popS_heap (hs : Strict lt) {l : List α} (h : Heaped lt l) : Heaped lt (popS lt l) := by
  unfold popS
  cases hz : l.getLast? with
  | none => intro i x y _ hx; simp at hx
  | some z =>
    simp only
    match l, h, hz with
    | [], _, hz => simp at hz
    | [a], _, hz =>
      simp [dnS, kidS]
      intro i x y _ hx; simp at hx
    | a :: b :: r, h, hz =>
      refine dnS_heap hs _ _ _ (by simp) (by simp) ⟨?_, ?_⟩
      · intro j x y hj hj0 hx hy
        rw [List.getElem?_dropLast] at hx hy
        split at hx
        · split at hy
          · rw [List.getElem?_set_ne (by omega)] at hx
            rw [List.getElem?_set_ne (by omega)] at hy
            exact h j x y hj hx hy
          · cases hy
        · cases hx
      · intro j x y h0
        omega
/-- the first of a heap is the least -/
theorem heap_least (hs : Strict lt) {l : List α} {x : α} (h : Heaped lt l) (h0 : l[0]? = some x) : ∀ (i : Nat) (y : α), l[i]? = some y → lt y x = false := by
  intro i
  induction i using Nat.strongRecOn with
  | _ i ih =>
    intro y hy
    by_cases hi : i = 0
    · subst hi
      rw [h0] at hy
      cases hy
      exact hs.irr _
    · have hil : i < l.length := by
        rcases Nat.lt_or_ge i l.length with q2 | q2
        · exact q2
        · rw [List.getElem?_eq_none q2] at hy; cases hy
      have hp : (i - 1) / 2 < l.length := by omega
      have hz := List.getElem?_eq_getElem hp
      exact hs.tot _ _ _ (h i y _ (by omega) hy hz) (ih _ (by omega) _ hz)
end
end Pg
set_option linter.unusedSimpArgs false
set_option linter.unusedVariables false
namespace Pg
open Go Go.RowKit
/-! ### three-way comparing -/
structure Pre {α : Type} (c : α → α → Int) : Prop where
  sw : ∀ x y, c x y < 0 ↔ 0 < c y x
  le : ∀ x y z, c x y ≤ 0 → c y z ≤ 0 → c x z ≤ 0
def orI (a b : Int) : Int := if a = 0 then b else a
section
variable {α : Type} {c d : α → α → Int}
theorem Pre.strict (h : Pre c) : Strict fun x y => decide (c x y < 0) where
  irr := by
    intro x
    have := h.sw x x
    simp only [decide_eq_false_iff_not]
    omega
  tr := by
    intro x y z h1 h2
    simp only [decide_eq_true_eq] at *
    have q1 := (h.sw y z).1 h2
    rcases Int.lt_or_le (c x z) 0 with q | q
    · exact q
    · exfalso
      have h3 : c z x ≤ 0 := by
        rcases Int.lt_or_le 0 (c z x) with q3 | q3
        · have := (h.sw x z).2 q3; omega
        · exact q3
      have := h.le z x y h3 (by omega)
      omega
  tot := by
    intro x y z h1 h2
    simp only [decide_eq_false_iff_not] at *
    have f : ∀ a b, ¬ c a b < 0 → c b a ≤ 0 := fun a b hab => by
      rcases Int.lt_or_le 0 (c b a) with q3 | q3
      · exact absurd ((h.sw a b).2 q3) hab
      · exact q3
    have := h.le z y x (f _ _ h2) (f _ _ h1)
    intro q
    have := (h.sw x z).1 q
    omega
theorem Pre.zero (h : Pre c) {x y : α} (e : c x y = 0) : c y x = 0 := by
  have h1 := h.sw x y
  have h2 := h.sw y x
  omega
theorem Pre.or (h : Pre c) (k : Pre d) : Pre fun x y => orI (c x y) (d x y) where
  sw := by
    intro x y
    have h1 := h.sw x y
    have h2 := h.sw y x
    have h3 := k.sw x y
    have h4 := k.sw y x
    unfold orI
    split <;> split <;> omega
  le := by
    intro x y z
    have h1 := h.le x y z
    have h2 := k.le x y z
    have h3 := h.sw x y
    have h4 := h.sw y z
    have h5 := h.sw x z
    have h6 := h.le z x y
    have h7 := h.le y z x
    have h3' := h.sw y x
    have h4' := h.sw z y
    have h5' := h.sw z x
    unfold orI
    split <;> split <;> split <;> omega
theorem Pre.on {β : Type} (h : Pre c) (f : β → α) : Pre fun x y => c (f x) (f y) := ⟨fun _ _ => h.sw _ _, fun _ _ _ => h.le _ _ _⟩
end
def cmpI (a b : Int) : Int := sgn (a - b)
theorem pre_cmpI : Pre cmpI where
  sw := by intro x y; unfold cmpI sgn; split <;> split <;> (try split) <;> (try split) <;> omega
  le := by intro x y z; unfold cmpI sgn; repeat' split
           all_goals omega
theorem cmpF_sgn {a b : Fr} (ha : a.den ≠ 0) (hb : b.den ≠ 0) : cmpF a b = sgn (((a.num * b.den : Nat) : Int) - ((b.num * a.den : Nat) : Int)) := by
  unfold cmpF cmpP
  rw [if_neg ha, if_neg hb]
theorem sgN_le {n : Int} : sgn n ≤ 0 ↔ n ≤ 0 := by unfold sgn; split <;> (try split) <;> omega
theorem sgN_lt {n : Int} : sgn n < 0 ↔ n < 0 := by unfold sgn; split <;> (try split) <;> omega
theorem sgN_gt {n : Int} : 0 < sgn n ↔ 0 < n := by unfold sgn; split <;> (try split) <;> omega
theorem pre_cmpF : Pre cmpF where
  sw := by
    intro a b
    by_cases ha : a.den = 0
    · by_cases hb : b.den = 0
      · simp [cmpF, ha, hb]
      · simp [cmpF, ha, hb]
    · by_cases hb : b.den = 0
      · simp [cmpF, ha, hb]
      · rw [cmpF_sgn ha hb, cmpF_sgn hb ha, sgN_lt, sgN_gt]
        omega
  le := by
    intro a b c
    by_cases ha : a.den = 0
    · by_cases hb : b.den = 0
      · intro _ h2
        simpa [cmpF, ha, hb] using h2
      · intro h1
        simp [cmpF, ha, hb] at h1
    · by_cases hb : b.den = 0
      · intro _ h2
        by_cases hc : c.den = 0
        · simp [cmpF, ha, hc]
        · simp [cmpF, hb, hc] at h2
      · by_cases hc : c.den = 0
        · intros; simp [cmpF, ha, hc]
        · rw [cmpF_sgn ha hb, cmpF_sgn hb hc, cmpF_sgn ha hc, sgN_le, sgN_le, sgN_le]
          intro h1 h2
          have g1 : a.num * b.den ≤ b.num * a.den := by omega
          have g2 : b.num * c.den ≤ c.num * b.den := by omega
          have g3 : a.num * b.den * c.den ≤ b.num * a.den * c.den := Nat.mul_le_mul_right _ g1
          have g4 : b.num * c.den * a.den ≤ c.num * b.den * a.den := Nat.mul_le_mul_right _ g2
          have g5 : b.den * (a.num * c.den) ≤ b.den * (c.num * a.den) := by
            have e1 : a.num * b.den * c.den = b.den * (a.num * c.den) := by rw [Nat.mul_comm a.num, Nat.mul_assoc]
            have e2 : b.num * a.den * c.den = b.num * c.den * a.den := by rw [Nat.mul_assoc, Nat.mul_comm a.den, ← Nat.mul_assoc]
            have e3 : c.num * b.den * a.den = b.den * (c.num * a.den) := by rw [Nat.mul_comm c.num, Nat.mul_assoc]
            rw [← e1, ← e3]
            omega
          have := Nat.le_of_mul_le_mul_left g5 (Nat.pos_of_ne_zero hb)
          omega

/-! ### the heap's entries -/
structure HE where
  id : Int
  d : Fr
  item : Bool
  node : Nat
abbrev Pu := HE × Nat
def rankH (e : HE) : Int := if e.item then 1 else 0
def numH (e : HE) : Int := if e.item then e.id else e.node
def cmpH (a b : HE) : Int := orI (cmpF a.d b.d) (orI (cmpI (rankH a) (rankH b)) (cmpI (numH a) (numH b)))
def cmpPu (a b : Pu) : Int := orI (cmpH a.1 b.1) (cmpI a.2 b.2)
def ltPu (a b : Pu) : Bool := decide (cmpPu a b < 0)
theorem pre_cmpH : Pre cmpH := (pre_cmpF.on HE.d).or ((pre_cmpI.on rankH).or (pre_cmpI.on numH))
theorem strict_ltPu : Strict ltPu := ((pre_cmpH.on (fun p : Pu => p.1)).or (pre_cmpI.on (fun p : Pu => (p.2 : Int)))).strict
/-- nearer, or as near with a lesser id -/
def cmpN (a b : Int × Fr) : Int := orI (cmpF a.2 b.2) (cmpI a.1 b.1)
theorem pre_cmpN : Pre cmpN := (pre_cmpF.on (fun p : Int × Fr => p.2)).or (pre_cmpI.on (fun p : Int × Fr => p.1))
theorem cmpI_zero {a b : Int} : cmpI a b = 0 ↔ a = b := by unfold cmpI sgn; split <;> (try split) <;> omega
/-- what an entry of the heap stands for -/
def stands (t : Tr) (nodes : List Nat) (e : HE) : List Int := if e.item then [e.id] else match nodes[e.node]? with | some b => below t ((t.lv b).getD 0) b | none => []
/-- a search for what is near, on its way: what was told, what is in the heap, which ids are still to be pushed -/
structure Ni (t : Tr) (dist : Int → Fr) (all : List Int) (h : List Pu) (nodes : List Nat) (out : List (Int × Fr)) (cur : List Int) : Prop where
  heap : Heaped ltPu h
  good : ∀ x ∈ h, (x.1.item = true → x.1.d = dist x.1.id) ∧ (x.1.item = false → x.1.node < nodes.length ∧ ∀ id ∈ stands t nodes x.1, cmpF x.1.d (dist id) ≤ 0)
  perm : (out.map (·.1) ++ (h.flatMap (fun x => stands t nodes x.1) ++ cur)).Perm all
  told : ∀ a ∈ out, a.2 = dist a.1
  srt : out.Pairwise fun a b => cmpN a b < 0
  rest : ∀ a ∈ out, ∀ id ∈ h.flatMap (fun x => stands t nodes x.1) ++ cur, cmpN a (id, dist id) < 0
section
variable {t : Tr} {dist : Int → Fr} {all : List Int} {h : List Pu} {nodes : List Nat} {out : List (Int × Fr)} {cur : List Int}
theorem Ni.start (t : Tr) (dist : Int → Fr) (all : List Int) (nodes : List Nat) : Ni t dist all [] nodes [] all :=
  ⟨fun i x y _ hx => by simp at hx, by simp, by simp, by simp, by simp, by simp⟩
theorem ltPu_item {e y : Pu} (hl : ltPu y e = false) (hne : e.1.item = true) (h2 : y.1.item = false ∨ y.1.id ≠ e.1.id) : cmpF e.1.d y.1.d < 0 ∨ cmpF e.1.d y.1.d = 0 ∧ y.1.item = true ∧ e.1.id < y.1.id := by
  have h3 : ¬ cmpPu y e < 0 := by simpa [ltPu] using hl
  unfold cmpPu cmpH orI at h3
  have s1 := pre_cmpF.sw y.1.d e.1.d
  have s2 := pre_cmpF.sw e.1.d y.1.d
  by_cases hz : cmpF y.1.d e.1.d = 0
  · rw [if_pos hz] at h3
    cases hi : y.1.item with
    | false =>
      exfalso
      apply h3
      simp [rankH, hi, hne, cmpI, sgn]
    | true =>
      refine .inr ⟨pre_cmpF.zero hz, rfl, ?_⟩
      have hne2 : y.1.id ≠ e.1.id := by
        rcases h2 with q | q
        · rw [hi] at q; cases q
        · exact q
      rw [show cmpI (rankH y.1) (rankH e.1) = 0 by simp [rankH, hi, hne, cmpI, sgn], if_pos rfl] at h3
      simp only [numH, hi, hne, if_true] at h3
      have hnz : cmpI y.1.id e.1.id ≠ 0 := fun q => hne2 (cmpI_zero.1 q)
      rw [if_neg hnz] at h3
      unfold cmpI sgn at h3 hnz
      split at h3 <;> (try split at h3) <;> omega
  · rw [if_neg hz, if_neg hz] at h3
    exact .inl (by omega)
theorem heap_head {h : List Pu} (hh : Heaped ltPu h) {e : Pu} {r : List Pu} (he : h = e :: r) : ∀ y ∈ h, ltPu y e = false := by
  intro y hy
  obtain ⟨i, hi⟩ := List.mem_iff_getElem?.1 hy
  exact heap_least strict_ltPu hh (by rw [he]; rfl) i y hi
/-- an item comes out -/
theorem Ni.item {e : Pu} {r : List Pu} (n : Ni t dist all h nodes out []) (hall : all.Nodup) (he : h = e :: r) (hi : e.1.item = true) : Ni t dist all (popS ltPu h) nodes (out ++ [(e.1.id, e.1.d)]) [] := by
  have hp := popS_perm (lt := ltPu) he
  have hst : stands t nodes e.1 = [e.1.id] := by simp [stands, hi]
  have hd := (n.good e (by rw [he]; simp)).1 hi
  have hflat : h.flatMap (fun x => stands t nodes x.1) = e.1.id :: r.flatMap fun x => stands t nodes x.1 := by rw [he, List.flatMap_cons, hst]; rfl
  have hmem : ∀ id, id ∈ (popS ltPu h).flatMap (fun x => stands t nodes x.1) ++ [] ↔ id ∈ r.flatMap fun x => stands t nodes x.1 := fun id => by rw [List.append_nil]; exact (hp.flatMap_right _).mem_iff
  have hnd : (out.map (·.1) ++ (e.1.id :: r.flatMap fun x => stands t nodes x.1)).Nodup := by
    have := (n.perm.nodup_iff).2 hall
    rw [List.append_nil, hflat] at this
    exact this
  have hlt : ∀ id ∈ r.flatMap (fun x => stands t nodes x.1), cmpN (e.1.id, e.1.d) (id, dist id) < 0 := by
    intro id hid
    have hne : id ≠ e.1.id := by
      rw [List.nodup_append] at hnd
      have := (List.nodup_cons.1 hnd.2.1).1
      intro q
      exact this (q ▸ hid)
    obtain ⟨y, hy, hyi⟩ := List.mem_flatMap.1 hid
    have hyh : y ∈ h := by rw [he]; simp [hy]
    have hl := heap_head n.heap he y hyh
    have hg := n.good y hyh
    unfold cmpN orI
    simp only
    cases hyt : y.1.item with
    | true =>
      have hyid : id = y.1.id := by simpa [stands, hyt] using hyi
      subst hyid
      rcases ltPu_item hl hi (.inr hne) with q | ⟨q1, _, q2⟩
      · rw [← hg.1 hyt, if_neg (by omega)]; exact q
      · rw [← hg.1 hyt, if_pos q1]
        unfold cmpI
        exact sgN_lt.2 (by omega)
    | false =>
      have h3 := (hg.2 hyt).2 id hyi
      rcases ltPu_item hl hi (.inl hyt) with q | ⟨_, q, _⟩
      · have q2 : cmpF e.1.d (dist id) < 0 := by
          rcases Int.lt_or_le (cmpF e.1.d (dist id)) 0 with q3 | q3
          · exact q3
          · exfalso
            have q4 : cmpF (dist id) e.1.d ≤ 0 := by have := pre_cmpF.sw e.1.d (dist id); omega
            have q5 := pre_cmpF.le _ _ _ h3 q4
            have := pre_cmpF.sw e.1.d y.1.d
            omega
        rw [if_neg (by omega)]
        exact q2
      · rw [hyt] at q; cases q
  refine ⟨popS_heap strict_ltPu n.heap, ?_, ?_, ?_, ?_, ?_⟩
  · intro x hx
    exact n.good x (by rw [he]; simp [hp.mem_iff.1 hx])
  · refine List.Perm.trans ?_ n.perm
    rw [List.append_nil, List.append_nil, hflat, List.map_append, List.append_assoc]
    refine List.Perm.append_left _ ?_
    exact List.Perm.cons _ (hp.flatMap_right _)
  · intro a ha
    rcases List.mem_append.1 ha with q | q
    · exact n.told a q
    · rw [List.mem_singleton.1 q]; exact hd
  · rw [List.pairwise_append]
    refine ⟨n.srt, by simp, ?_⟩
    intro a ha b hb
    rw [List.mem_singleton.1 hb]
    have := n.rest a ha e.1.id (by rw [hflat]; simp)
    rw [hd]
    exact this
  · intro a ha id hid
    rw [hmem] at hid
    rcases List.mem_append.1 ha with q | q
    · exact n.rest a q id (by rw [hflat]; simp [hid])
    · rw [List.mem_singleton.1 q]
      exact hlt id hid
/-- a node comes out: what is below it is to be pushed -/
theorem Ni.node {e : Pu} {r : List Pu} (n : Ni t dist all h nodes out []) (he : h = e :: r) (hi : e.1.item = false) : Ni t dist all (popS ltPu h) nodes out (stands t nodes e.1) := by
  have hp := popS_perm (lt := ltPu) he
  have e1 : ((popS ltPu h).flatMap (fun x => stands t nodes x.1) ++ stands t nodes e.1).Perm (h.flatMap (fun x => stands t nodes x.1) ++ []) := by
    rw [List.append_nil, he, List.flatMap_cons, ← he]
    exact ((hp.flatMap_right _).append_right _).trans List.perm_append_comm
  exact ⟨popS_heap strict_ltPu n.heap, fun x hx => n.good x (by rw [he]; simp [hp.mem_iff.1 hx]), (e1.append_left _).trans n.perm, n.told, n.srt, fun a ha id hid => n.rest a ha id (e1.mem_iff.1 hid)⟩
/-- what was told, when enough was or nothing is left, is the first part of all, sorted -/
theorem Ni.done {S : List (Int × Fr)} (n : Ni t dist all h nodes out cur) (hS : S.Pairwise fun a b => cmpN a b < 0) (hSp : (S.map (·.1)).Perm all) (hSd : ∀ a ∈ S, a.2 = dist a.1) {k : Nat} (hk : out.length ≤ k) (hd : out.length = k ∨ (h = [] ∧ cur = [])) : out = S.take k := by
  have hmem : ∀ a, a ∈ S ↔ a.1 ∈ all ∧ a.2 = dist a.1 := by
    intro a
    rw [← hSp.mem_iff, List.mem_map]
    constructor
    · intro ha; exact ⟨⟨a, ha, rfl⟩, hSd a ha⟩
    · rintro ⟨⟨b, hb, e⟩, e2⟩
      have : b = a := by
        have := hSd b hb
        exact Prod.ext e (by rw [this, e2, e])
      rw [← this]; exact hb
  -- all the rest, sorted behind
  have hin : ∀ a ∈ out, a ∈ S := fun a ha => (hmem a).2 ⟨n.perm.mem_iff.1 (List.mem_append.2 (.inl (List.mem_map.2 ⟨a, ha, rfl⟩))), n.told a ha⟩
  have irr : ∀ x, ¬ cmpN x x < 0 := fun x q => by have := (pre_cmpN.sw x x).1 q; omega
  have hspl : ∀ a ∈ S, a ∉ out → ∀ b ∈ out, cmpN b a < 0 := by
    intro a ha hno b hb
    obtain ⟨h1, h2⟩ := (hmem a).1 ha
    have := n.perm.mem_iff.2 h1
    rcases List.mem_append.1 this with q | q
    · obtain ⟨c, hc, e⟩ := List.mem_map.1 q
      have : c = a := Prod.ext e (by rw [n.told c hc, h2, e])
      exact absurd (this ▸ hc) hno
    · have := n.rest b hb a.1 q
      rw [← h2] at this
      exact this
  have hout : out = S.take out.length := by
    have key : ∀ (o s : List (Int × Fr)), o.Pairwise (fun a b => cmpN a b < 0) → s.Pairwise (fun a b => cmpN a b < 0) → (∀ a ∈ o, a ∈ s) → (∀ a ∈ s, a ∉ o → ∀ b ∈ o, cmpN b a < 0) → o = s.take o.length := by
      intro o
      induction o with
      | nil => intro s _ _ _ _; simp
      | cons a o ih =>
        intro s ho hs h1 h2
        match s with
        | [] => have := h1 a (by simp); cases this
        | b :: s =>
          rw [List.pairwise_cons] at ho hs
          have hab : a = b := by
            rcases List.mem_cons.1 (h1 a (by simp)) with q | q
            · exact q
            · have q2 := hs.1 a q
              by_cases hbo : b ∈ a :: o
              · rcases List.mem_cons.1 hbo with q3 | q3
                · exact q3.symm
                · have := ho.1 b q3
                  have := (pre_cmpN.sw a b).1 this
                  omega
              · have := h2 b (by simp) hbo a (by simp)
                have := (pre_cmpN.sw a b).1 this
                omega
          subst hab
          rw [List.length_cons, List.take_succ_cons]
          congr 1
          refine ih s ho.2 hs.2 ?_ ?_
          · intro x hx
            rcases List.mem_cons.1 (h1 x (by simp [hx])) with q | q
            · subst q; exact absurd (ho.1 _ hx) (irr _)
            · exact q
          · intro x hx hno y hy
            refine h2 x (by simp [hx]) ?_ y (by simp [hy])
            intro q
            rcases List.mem_cons.1 q with q | q
            · subst q; exact irr _ (hs.1 _ hx)
            · exact hno q
    exact key out S n.srt hS hin hspl
  rcases hd with e | ⟨e1, e2⟩
  · rw [← e]; exact hout
  · have hlen : S.length = out.length := by
      have h1 := hSp.length_eq
      have h2 := n.perm.length_eq
      subst e1 e2
      simp at h1 h2
      omega
    rw [List.take_of_length_le (by omega)]
    rw [hout, List.take_of_length_le (by omega)]
end
end Pg
