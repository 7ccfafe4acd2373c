/-
  A region that draws its order: if there is an order (a plan) in which each operation either yields its value in every world of a class S and may be taken first, or is the one that may come up, then walking that order serves every order.
  The law for a drawn region with a base of one's own: for regions that store into the call's own blocks.
  The law for a drawn region that stores into one block of the call's own and reads others, older and newer: nothing but that block turns.
  The law for a drawn region where the blocks below a base, and some newer ones that are named, stay as they are: for an append to the call's own row beside loads of newer blocks.
  The law for a drawn region whose last operation (a store) waits for all the others: the others are walked by a plan, with the class of worlds that the store would break, and the store behind them, alone.
  A law for a drawn region whose last operations ask of memory that the region itself has made: behind the last loud operation the world is known.
  The law for a drawn region in which several loud steps may come up at once: a tree of orders.
-/
import Derived.OrdersHeld
import Derived.Deep.RegionHeld
import Derived.Below
import Derived.Test.YtahiaekoaokgnaaGreatWords
namespace Pg
open Go

/-- kinds of operations that the plan takes first -/
def quietKind : Op → Bool
  | .load .. | .move _ | .pick .. | .fieldAddr .. | .field .. | .build .. | .unOp .. | .extract .. | .assign _ | .binOp .. | .makeInterface .. | .indexAddr .. | .index .. | .convert .. | .nilCheck _ | .slice .. | .makeFunc .. => true
  | .call { callee := .builtin .len, .. } => true
  | .call { callee := .builtin .min, .. } => true
  | .call { callee := .builtin .max, .. } => true
  | _ => false
def quietAt (ops : Array Oper) (i : Nat) : Bool := match ops[i]? with | some o => quietKind o.op | none => false
def planOk (ops : Array Oper) : List Nat → Array Bool → Bool
  | [], listed => Region.ready .any ops listed == []
  | i :: r, listed => (if quietAt ops i then Region.free .any ops listed i && (Region.ready .any ops listed).contains i else Region.ready .any ops listed == [i]) && planOk ops r (listed.setIfInBounds i true)
def planGo (ops : Array Oper) : Nat → Array Bool → List Nat → Option (List Nat)
  | 0, _, acc => some acc.reverse
  | n + 1, listed, acc =>
    match Region.ready .any ops listed with
    | [] => some acc.reverse
    | rs => match rs.find? (fun i => quietAt ops i && Region.free .any ops listed i) with
      | some i => planGo ops n (listed.setIfInBounds i true) (i :: acc)
      | none => match rs with
        | [i] => planGo ops n (listed.setIfInBounds i true) (i :: acc)
        | _ => none

section
variable {P : Program} {ops : Array Oper} {Q : Exit → Act → World → Prop} {S : World → Prop}

def lexH (P : Program) (ops : Array Oper) (Q : Exit → Act → World → Prop) (S : World → Prop) : List Nat → Act → World → Prop
  | [], a, w => Q .normal a w
  | i :: r, a, w => if quietAt ops i then (∃ o v, ops[i]? = some o ∧ YieldsIf P ops S o v a ∧ lexH P ops Q S r (a.put o.dst v) w)
      else wpOp P ops Q i (fun a' w' => S w' ∧ lexH P ops Q S r a' w') a w

theorem lexH_sound (hs : Region.noSelect ops = true) (hQ : ∀ c a d v w, Q (.panic c) (a.put d v) w → Q (.panic c) a w) : ∀ (l : List Nat) (fuel : Nat) (listed : Array Bool) (a : Act) (w : World),
    l.length ≤ fuel → planOk ops l listed = true → S w → lexH P ops Q S l a w → wpAnyH P .any ops Q S fuel listed a w := by
  intro l
  induction l with
  | nil =>
    intro fuel listed a w _ hp _ h
    exact wpAnyH_done (by simpa [planOk] using hp) h fuel
  | cons i r ih =>
    intro fuel listed a w hf hp hS h
    obtain ⟨n, rfl⟩ : ∃ n, fuel = n + 1 := ⟨fuel - 1, by simp at hf; omega⟩
    have hn : r.length ≤ n := by simpa using hf
    simp only [planOk, Bool.and_eq_true] at hp
    obtain ⟨hp1, hp2⟩ := hp
    unfold lexH at h
    by_cases hq : quietAt ops i = true
    · rw [if_pos hq] at h
      rw [if_pos hq, Bool.and_eq_true] at hp1
      obtain ⟨o, v, ho, hy, h⟩ := h
      exact wpAnyH_take ho hs hp1.1 hp1.2 (fun c a w hh => hQ c a _ _ w hh) hy hS (ih n _ _ w hn hp2 hS h)
    · rw [if_neg hq] at h
      rw [if_neg hq] at hp1
      have hr : Region.ready .any ops listed = [i] := by simpa using hp1
      refine wpAnyH_all hr (by simp) (fun j hj => ?_)
      have hj : j = i := by simpa using hj
      subst hj
      exact wpOp_mono (fun a' w' hh => ⟨hh.1, ih n _ a' w' hn hp2 hh.1 hh.2⟩) h

/-- The beginning. -/
theorem wp_region_lex (l : List Nat) {id : Nat} {a : Act} {w : World} (S : World → Prop) (hm : P.follows .mixedOrders = true) (hs : Region.noSelect ops = true)
    (hl : l.length ≤ ops.size) (hp : planOk ops l (Array.replicate ops.size false) = true) (hQ : ∀ c a d v w, Q (.panic c) (a.put d v) w → Q (.panic c) a w)
    (hS : S w.drew) (h : lexH P ops Q S l a w.drew) : (Code.region id ops true).wp P Q a w :=
  wp_region_held hm (lexH_sound hs hQ l _ _ a _ hl hp hS h)


/-- an operation without its place, its edges and its guard: what it does is the same -/
def bare (o : Oper) : Oper := ⟨o.dst, o.op, o.type, "", #[], none⟩
theorem execOp_bare (ρ : Operand → Value) (o : Oper) : execOp ρ (bare o) = execOp ρ o := by cases o; rfl
/-- the guard of an operation: which slot, and what it must hold -/
def gslot (l : List Oper) (o : Oper) : Option (Option Tmp × Bool) := match o.guard with
  | none => none
  | some (j, want) => some ((l[j]?).bind (·.dst), want)
def wantB (g : Option (Option Tmp × Bool)) (tmps : Array Value) : Bool := match g with
  | none => true
  | some (d, want) => (match d.bind (tmps[·]?) with | some (.bool b) => some b | _ => none) == some want
theorem wanted_gslot (l : List Oper) (o : Oper) (tmps : Array Value) : Region.wanted o (yielded l.toArray tmps) = wantB (gslot l o) tmps := by
  unfold Region.wanted gslot wantB yielded
  cases o.guard with
  | none => rfl
  | some x => simp <;> rfl

/-- the same, over the bare operations and their guards -/
def lexL (P : Program) (Q : Exit → Act → World → Prop) (S : World → Prop) : List (Oper × Option (Option Tmp × Bool)) → Act → World → Prop
  | [], a, w => Q .normal a w
  | (o, g) :: r, a, w => (∃ v, quietKind o.op = true ∧ wantB g a.tmps = true ∧ (∀ w, S w → (execOp a.eval o).run P w = .ok (.value v) w) ∧ lexL P Q S r (a.put o.dst v) w) ∨ (wantB g a.tmps = false ∧ S w ∧ lexL P Q S r (a.put o.dst undef) w) ∨
      (quietKind o.op = false ∧ wantB g a.tmps = true ∧ o.wp P a w (fun a' w' => S w' ∧ lexL P Q S r a' w') Q)
theorem lexH_of_lexL {l : List Oper} : ∀ (p : List Nat) (a : Act) (w : World), (∀ i ∈ p, i < l.length) → lexL P Q S (p.map fun i => (bare (l.getD i default), gslot l (l.getD i default))) a w → lexH P l.toArray Q S p a w := by
  intro p
  induction p with
  | nil => intro a w _ h; exact h
  | cons i r ih =>
    intro a w hl h
    have hi : l.toArray[i]? = some (l.getD i default) := by
      have := hl i (by simp)
      simp [List.getD_eq_getElem?_getD, this]
    have hr : ∀ j ∈ r, j < l.length := fun j hj => hl j (by simp [hj])
    unfold lexH
    rw [List.map_cons] at h
    unfold lexL at h
    rw [← wanted_gslot] at h
    generalize l.getD i default = o at *
    rcases h with ⟨v, hk, hw, hy, h⟩ | ⟨hw, hS, h⟩ | ⟨hk, hw, h⟩
    · rw [if_pos (by unfold quietAt; rw [hi]; exact hk)]
      exact ⟨o, v, hi, .inl ⟨hw, fun w hw => by rw [← execOp_bare]; exact hy w hw⟩, ih _ _ hr h⟩
    · split
      · exact ⟨o, undef, hi, .inr ⟨hw, rfl⟩, ih _ _ hr h⟩
      · unfold wpOp
        simp only [hi, hw]
        exact ⟨hS, ih _ _ hr h⟩
    · rw [if_neg (by unfold quietAt; rw [hi]; simp only [show quietKind o.op = false from hk]; decide)]
      unfold wpOp
      simp only [hi, hw, if_true]
      refine .inl (Oper.wp_mono (K := fun a' w' => S w' ∧ lexL P Q S (r.map fun i => (bare (l.getD i default), gslot l (l.getD i default))) a' w') (fun a' w' hh => ⟨hh.1, ih _ _ hr hh.2⟩) ?_)
      unfold Oper.wp at h ⊢
      rw [execOp_bare] at h
      exact h

/-- The beginning, with 'nothing that was there has turned' for the class. -/
theorem wp_region_below (p : List Nat) {l : List Oper} {id : Nat} {a : Act} {w : World} (hm : P.follows .mixedOrders = true)
    (hs : (Region.noSelect l.toArray && (decide (p.length ≤ l.length) && (planOk l.toArray p (Array.replicate l.length false) && p.all fun i => decide (i < l.length)))) = true) (hQ : ∀ c a d v w, Q (.panic c) (a.put d v) w → Q (.panic c) a w)
    (h : lexL P Q (fun w' => RowKit.Below w.heap.size w w') (p.map fun i => (bare (l.getD i default), gslot l (l.getD i default))) a w.drew) : (Code.region id l.toArray true).wp P Q a w := by
  simp only [Bool.and_eq_true, decide_eq_true_eq, List.all_eq_true] at hs
  exact wp_region_lex p _ hm hs.1 (by simpa using hs.2.1) (by simpa using hs.2.2.1) hQ ((RowKit.Below.refl _ _).drew) (lexH_of_lexL p a _ hs.2.2.2 h)

theorem lexL_quiet {r : List (Oper × Option (Option Tmp × Bool))} {o : Oper} {g : Option (Option Tmp × Bool)} {v : Value} {a : Act} {w : World} (hw : wantB g a.tmps = true) (hk : quietKind o.op = true)
    (hy : ∀ w, S w → (execOp a.eval o).run P w = .ok (.value v) w) (h : lexL P Q S r (a.put o.dst v) w) : lexL P Q S ((o, g) :: r) a w :=
  .inl ⟨v, hk, hw, hy, h⟩
theorem lexL_skip {r : List (Oper × Option (Option Tmp × Bool))} {o : Oper} {g : Option (Option Tmp × Bool)} {a : Act} {w : World} (hw : wantB g a.tmps = false) (hS : S w) (h : lexL P Q S r (a.put o.dst undef) w) :
    lexL P Q S ((o, g) :: r) a w := .inr (.inl ⟨hw, hS, h⟩)
theorem lexL_loud {r : List (Oper × Option (Option Tmp × Bool))} {o : Oper} {g : Option (Option Tmp × Bool)} {a : Act} {w : World} (hw : wantB g a.tmps = true) (hk : quietKind o.op = false)
    (h : ∀ K : Act → World → Prop, Shut (∀ a w, S w → lexL P Q S r a w → K a w) → Oper.wp P o a w K Q) : lexL P Q S ((o, g) :: r) a w :=
  .inr (.inr ⟨hk, hw, h _ (fun _ _ hS hl => ⟨hS, hl⟩)⟩)
theorem lexL_on {r : List (Oper × Option (Option Tmp × Bool))} {o : Oper} {d : Nat} {want : Bool} {a : Act} {w : World} (hv : a.tmps[d]? = some (.bool want)) (h : lexL P Q S ((o, none) :: r) a w) :
    lexL P Q S ((o, some (some d, want)) :: r) a w := by
  have hw : wantB (some (some d, want)) a.tmps = true := by simp [wantB, hv]
  unfold lexL at h ⊢
  rcases h with ⟨v, hk, _, hy, h⟩ | ⟨h, _⟩ | ⟨hk, _, h⟩
  · exact .inl ⟨v, hk, hw, hy, h⟩
  · cases h
  · exact .inr (.inr ⟨hk, hw, h⟩)
theorem lexL_off {r : List (Oper × Option (Option Tmp × Bool))} {o : Oper} {d : Nat} {want : Bool} {a : Act} {w : World} (hv : a.tmps[d]? = some (.bool (!want))) (hS : S w) (h : lexL P Q S r (a.put o.dst undef) w) :
    lexL P Q S ((o, some (some d, want)) :: r) a w :=
  lexL_skip (by simp [wantB, hv]) hS h
theorem lexL_split {X : Bool} {r : List (Oper × Option (Option Tmp × Bool))} {o : Oper} {d : Nat} {want : Bool} {a : Act} {w : World} (hv : a.tmps[d]? = some (.bool X))
    (h1 : X = want → lexL P Q S ((o, none) :: r) (a.put (some d) (.bool want)) w) (h2 : X = (!want) → S w ∧ lexL P Q S r ((a.put (some d) (.bool !want)).put o.dst undef) w) : lexL P Q S ((o, some (some d, want)) :: r) a w := by
  have hset : ∀ b, X = b → a.put (some d) (.bool b) = a := fun b hb => by
    subst hb
    obtain ⟨tmps, defers⟩ := a
    simp only [Act.put] at *
    congr 1
    apply Array.ext_getElem?
    intro i
    rw [Array.getElem?_setIfInBounds]
    split
    · rename_i h; subst h
      split
      · exact hv.symm
      · rename_i hlt
        rw [Array.getElem?_eq_none (by omega)] at hv
        cases hv
    · rfl
  by_cases hX : X = want
  · rw [hset _ hX] at h1
    exact lexL_on (by rw [hv, hX]) (h1 hX)
  · have hX : X = (!want) := by cases X <;> cases want <;> simp_all
    rw [hset _ hX] at h2
    exact lexL_off (by rw [hv, hX]) (h2 hX).1 (h2 hX).2
theorem lexL_splitS {X : Bool} {r : List (Oper × Option (Option Tmp × Bool))} {o : Oper} {d : Nat} {want : Bool} {a : Act} {w : World} (hv : a.tmps[d]? = some (.bool X)) (hS : S w)
    (h1 : X = want → lexL P Q S ((o, none) :: r) (a.put (some d) (.bool want)) w) (h2 : X = (!want) → lexL P Q S r ((a.put (some d) (.bool !want)).put o.dst undef) w) : lexL P Q S ((o, some (some d, want)) :: r) a w :=
  lexL_split hv h1 fun h => ⟨hS, h2 h⟩
theorem wantB_none {tmps : Array Value} : wantB none tmps = true := rfl
theorem wantB_some {tmps : Array Value} {d : Nat} {want : Bool} (h : tmps[d]? = some (.bool want)) : wantB (some (some d, want)) tmps = true := by
  simp [wantB, h]
theorem wantB_not {tmps : Array Value} {d : Nat} {want : Bool} (h : tmps[d]? = some (.bool (!want))) : wantB (some (some d, want)) tmps = false := by
  simp [wantB, h]
theorem lexL_nil {a : Act} {w : World} (h : Q .normal a w) : lexL P Q S [] a w := h
end
attribute [irreducible] lexL
end Pg
namespace Pg
open Go Go.RowKit

theorem wp_region_belowB {P : Program} {Q : Exit → Act → World → Prop} (B : Nat) (p : List Nat) {l : List Oper} {id : Nat} {a : Act} {w : World} (hm : P.follows .mixedOrders = true)
    (hs : (Region.noSelect l.toArray && (decide (p.length ≤ l.length) && (planOk l.toArray p (Array.replicate l.length false) && p.all fun i => decide (i < l.length)))) = true) (hQ : ∀ c a d v w, Q (.panic c) (a.put d v) w → Q (.panic c) a w)
    (h : lexL P Q (fun w' => RowKit.Below B w w') (p.map fun i => (bare (l.getD i default), gslot l (l.getD i default))) a w.drew) : (Code.region id l.toArray true).wp P Q a w := by
  simp only [Bool.and_eq_true, decide_eq_true_eq, List.all_eq_true] at hs
  exact wp_region_lex p _ hm hs.1 (by simpa using hs.2.1) (by simpa using hs.2.2.1) hQ ((RowKit.Below.refl _ _).drew) (lexH_of_lexL p a _ hs.2.2.2 h)
/-- The beginning where the text's own order serves. -/
theorem wp_region_belowI {P : Program} {Q : Exit → Act → World → Prop} {l : List Oper} {id : Nat} {a : Act} {w : World} (hm : P.follows .mixedOrders = true)
    (hs : (Region.noSelect l.toArray && (decide ((List.range l.length).length ≤ l.length) && (planOk l.toArray (List.range l.length) (Array.replicate l.length false) && (List.range l.length).all fun i => decide (i < l.length)))) = true) (hQ : ∀ c a d v w, Q (.panic c) (a.put d v) w → Q (.panic c) a w)
    (h : lexL P Q (fun w' => RowKit.Below w.heap.size w w') (l.map fun o => (bare o, gslot l o)) a w.drew) : (Code.region id l.toArray true).wp P Q a w := by
  refine wp_region_below (List.range l.length) hm hs hQ ?_
  have e : ((List.range l.length).map fun i => (bare (l.getD i default), gslot l (l.getD i default))) = l.map fun o => (bare o, gslot l o) := by
    apply List.ext_getElem
    · simp
    · intro i h1 h2
      simp at h1
      simp [List.getD_eq_getElem?_getD, h1]
  rw [e]
  exact h
theorem swapB {B : Nat} {W : World} {o1 o2 : Obj} (hB : B ≤ W.heap.size) : Below B (W.alloc o1) (W.alloc o2) :=
  ⟨rfl, rfl, rfl, by simp, fun k hk => (Below.heap_alloc _ _ _ (by omega)).trans (Below.heap_alloc _ _ _ (by omega)).symm⟩
theorem swapB1 {w : World} {o o1 o2 : Obj} : Below (w.heap.size + 1) ((w.alloc o).alloc o1) ((w.alloc o).alloc o2) := swapB (by simp)
theorem bcellB {B : Nat} {W w1 : World} (hb : Below B W w1) : (∀ b o, b < B → w1.cell? ⟨b, o, none⟩ = W.cell? ⟨b, o, none⟩) ∧ (∀ b o, b < B → w1.frozen? ⟨b, o, none⟩ = W.frozen? ⟨b, o, none⟩) :=
  ⟨fun b o h => hb.cell (p := ⟨b, o, none⟩) h, fun b o h => hb.frozen (p := ⟨b, o, none⟩) h⟩
end Pg
namespace Pg
open Go Go.RowKit

/-- all blocks but B are as they were -/
structure Away (B : Nat) (a w : World) : Prop where
  size : a.heap.size ≤ w.heap.size
  block : ∀ k, k < a.heap.size → k ≠ B → w.heap[k]? = a.heap[k]?
namespace Away
variable {B : Nat} {a b w : World}
theorem refl (B : Nat) (w : World) : Away B w w := ⟨Nat.le_refl _, fun _ _ _ => rfl⟩
theorem drew (h : Away B a w) : Away B a w.drew := ⟨h.size, h.block⟩
theorem put (h : Away B a w) (i : Nat) (u : Value) : Away B a (w.setCell ⟨B, i, none⟩ u) :=
  ⟨by simp [World.setCell]; exact h.size, fun k hk hB => (Below.heap_setCell _ _ _ _ hB).trans (h.block k hk hB)⟩
theorem alloc (h : Away B a w) (o : Obj) : Away B a (w.alloc o) :=
  ⟨by simp; exact Nat.le_succ_of_le h.size, fun k hk hB => (Below.heap_alloc _ _ _ (Nat.lt_of_lt_of_le hk h.size)).trans (h.block k hk hB)⟩
theorem below (h : Away B a w) (k : Below w.heap.size w b) : Away B a b :=
  ⟨Nat.le_trans h.size k.size, fun j hj hB => (k.block j (Nat.lt_of_lt_of_le hj h.size)).trans (h.block j hj hB)⟩
end Away
theorem acell {B : Nat} {W w1 : World} (h : Away B W w1) : (∀ b o, b ≠ B → b < W.heap.size → w1.cell? ⟨b, o, none⟩ = W.cell? ⟨b, o, none⟩) ∧ (∀ b o, b ≠ B → b < W.heap.size → w1.frozen? ⟨b, o, none⟩ = W.frozen? ⟨b, o, none⟩) :=
  ⟨fun b o h1 h2 => World.cell?_of_block (a := ⟨b, o, none⟩) (h.block b h2 h1), fun b o h1 h2 => World.frozen?_of_block (a := ⟨b, o, none⟩) (h.block b h2 h1)⟩
theorem wp_region_away {P : Program} {Q : Exit → Act → World → Prop} (B : Nat) (p : List Nat) {l : List Oper} {id : Nat} {a : Act} {w : World} (hm : P.follows .mixedOrders = true)
    (hs : (Region.noSelect l.toArray && (decide (p.length ≤ l.length) && (planOk l.toArray p (Array.replicate l.length false) && p.all fun i => decide (i < l.length)))) = true) (hQ : ∀ c a d v w, Q (.panic c) (a.put d v) w → Q (.panic c) a w)
    (h : lexL P Q (fun w' => Away B w w') (p.map fun i => (bare (l.getD i default), gslot l (l.getD i default))) a w.drew) : (Code.region id l.toArray true).wp P Q a w := by
  simp only [Bool.and_eq_true, decide_eq_true_eq, List.all_eq_true] at hs
  exact wp_region_lex p _ hm hs.1 (by simpa using hs.2.1) (by simpa using hs.2.2.1) hQ ((Away.refl _ _).drew) (lexH_of_lexL p a _ hs.2.2.2 h)
end Pg
namespace Pg
open Go Go.RowKit

/-- the blocks below B, and those of L, are as they were -/
structure Keep (B : Nat) (L : List Nat) (a w : World) : Prop where
  size : a.heap.size ≤ w.heap.size
  block : ∀ k, k < a.heap.size → (k < B ∨ k ∈ L) → w.heap[k]? = a.heap[k]?
namespace Keep
variable {B : Nat} {L : List Nat} {a b w : World}
theorem refl (B : Nat) (L : List Nat) (w : World) : Keep B L w w := ⟨Nat.le_refl _, fun _ _ _ => rfl⟩
theorem drew (h : Keep B L a w) : Keep B L a w.drew := ⟨h.size, h.block⟩
theorem alloc (h : Keep B L a w) (o : Obj) : Keep B L a (w.alloc o) :=
  ⟨by simp; exact Nat.le_succ_of_le h.size, fun k hk hB => (Below.heap_alloc _ _ _ (Nat.lt_of_lt_of_le hk h.size)).trans (h.block k hk hB)⟩
theorem below (h : Keep B L a w) (k : Below w.heap.size w b) : Keep B L a b :=
  ⟨Nat.le_trans h.size k.size, fun j hj hB => (k.block j (Nat.lt_of_lt_of_le hj h.size)).trans (h.block j hj hB)⟩
theorem grown (h : Keep B L a w) {row : Option Nat} (hg : w.grownBy b row) (hr : ∀ k, row = some k → B ≤ k ∧ k ∉ L) : Keep B L a b :=
  ⟨Nat.le_trans h.size hg.size, fun j hj hB => (hg.block j (Nat.lt_of_lt_of_le hj h.size) (fun e => by have := hr j e.symm; rcases hB with hB | hB; omega; exact this.2 hB)).trans (h.block j hj hB)⟩
end Keep
theorem kcell {B : Nat} {L : List Nat} {W w1 : World} (h : Keep B L W w1) : (∀ b o, (b < B ∨ b ∈ L) → b < W.heap.size → w1.cell? ⟨b, o, none⟩ = W.cell? ⟨b, o, none⟩) ∧ (∀ b o, (b < B ∨ b ∈ L) → b < W.heap.size → w1.frozen? ⟨b, o, none⟩ = W.frozen? ⟨b, o, none⟩) :=
  ⟨fun b o h1 h2 => World.cell?_of_block (a := ⟨b, o, none⟩) (h.block b h2 h1), fun b o h1 h2 => World.frozen?_of_block (a := ⟨b, o, none⟩) (h.block b h2 h1)⟩
theorem wp_region_keep {P : Program} {Q : Exit → Act → World → Prop} (B : Nat) (L : List Nat) (p : List Nat) {l : List Oper} {id : Nat} {a : Act} {w : World} (hm : P.follows .mixedOrders = true)
    (hs : (Region.noSelect l.toArray && (decide (p.length ≤ l.length) && (planOk l.toArray p (Array.replicate l.length false) && p.all fun i => decide (i < l.length)))) = true) (hQ : ∀ c a d v w, Q (.panic c) (a.put d v) w → Q (.panic c) a w)
    (h : lexL P Q (fun w' => Keep B L w w') (p.map fun i => (bare (l.getD i default), gslot l (l.getD i default))) a w.drew) : (Code.region id l.toArray true).wp P Q a w := by
  simp only [Bool.and_eq_true, decide_eq_true_eq, List.all_eq_true] at hs
  exact wp_region_lex p _ hm hs.1 (by simpa using hs.2.1) (by simpa using hs.2.2.1) hQ ((Keep.refl _ _ _).drew) (lexH_of_lexL p a _ hs.2.2.2 h)
theorem owns_drew {w : World} {base : Nat} {e : TypeId} {s n : Nat} {v : Value} {cs : List Value} (h : w.ownsRow base e s v n cs) : w.drew.ownsRow base e s v n cs := h
end Pg
namespace Pg
open Go Go.RowKit

theorem mem_ready {md : Region.Mode} {ops : Array Oper} {L : Array Bool} {i : Nat} :
    i ∈ Region.ready md ops L ↔ L.getD i true = false ∧ ∃ o, ops[i]? = some o ∧ ∀ e ∈ o.after, Region.binds md e = true → L.getD e.on false = true := by
  unfold Region.ready
  rw [List.mem_filter, List.mem_range]
  constructor
  · rintro ⟨h1, h2⟩
    rw [Bool.and_eq_true] at h2
    obtain ⟨h2, h3⟩ := h2
    refine ⟨by simpa using h2, ops[i], by simp [h1], ?_⟩
    rw [Array.getElem?_eq_getElem h1] at h3
    simp only [Option.map_some, Option.getD_some, Array.all_eq_true_iff_forall_mem, Bool.or_eq_true, Bool.not_eq_true'] at h3
    intro e he hb
    rcases h3 e he with h | h
    · rw [hb] at h; cases h
    · exact h
  · rintro ⟨h1, o, ho, h3⟩
    have hi : i < ops.size := by
      rcases Nat.lt_or_ge i ops.size with h | h
      · exact h
      · rw [Array.getElem?_eq_none h] at ho; cases ho
    refine ⟨hi, ?_⟩
    rw [Bool.and_eq_true]
    refine ⟨by simp [h1], ?_⟩
    rw [ho]
    simp only [Option.map_some, Option.getD_some, Array.all_eq_true_iff_forall_mem, Bool.or_eq_true, Bool.not_eq_true']
    intro e he
    by_cases hb : Region.binds md e = true
    · exact .inr (h3 e he hb)
    · exact .inl (by simpa using hb)

theorem getD_set {L : Array Bool} {i j : Nat} {d : Bool} : (L.setIfInBounds i true).getD j d = if i = j ∧ i < L.size then true else L.getD j d := by
  rw [Array.getD_eq_getD_getElem?, Array.getD_eq_getD_getElem?, Array.getElem?_setIfInBounds]
  by_cases h : i = j
  · subst h
    by_cases h2 : i < L.size
    · simp [h2]
    · simp [h2]
  · simp [h]

theorem opwp_mono2 {P : Program} {o : Oper} {a : Act} {w : World} {K K' : Act → World → Prop} {Q1 Q2 : Exit → Act → World → Prop} (h : ∀ a w, K a w → K' a w)
    (h1 : ∀ c a w, Q1 (.panic c) a w → Q2 (.panic c) a w) (h2 : LetsOut Q1 → LetsOut Q2) (hh : o.wp P a w K Q1) : o.wp P a w K' Q2 := by
  unfold Oper.wp at *
  generalize (execOp a.eval o).run P w = r at *
  cases r with
  | ok n w' =>
    cases n <;> simp only [Oper.upon] at hh ⊢ <;>
      first
        | exact h _ _ hh
        | exact Calls.mono hh (fun e w'' he => by cases e <;> first | exact h _ _ he | exact h1 _ _ _ he | exact h2 he)
        | exact Rows.mono hh (fun _ _ he => h _ _ he)
  | halt x w' => cases x <;> simp only [Oper.upon] at hh ⊢ <;> first | exact h1 _ _ _ hh | exact hh

/-- what is to be shown where all but the last operation have come up -/
def pop (P : Program) (st : Oper) (Q : Exit → Act → World → Prop) : Exit → Act → World → Prop
  | .normal, a, w => st.wp P a w (fun a' w' => Q .normal a' w') Q
  | x, a, w => Q x a w

theorem not_stuck {pre : Array Oper} {L : Array Bool} (hL : pre.size ≤ L.size) : ∀ (p : List Nat) (L0 : Array Bool), planOk pre p L0 = true → (∀ j, L0.getD j false = true → L.getD j false = true) →
    (∃ j, j ∈ p ∧ L.getD j true = false) → Region.ready .any pre L ≠ [] := by
  intro p
  induction p with
  | nil => rintro L0 _ _ ⟨j, hj, _⟩; cases hj
  | cons i r ih =>
    rintro L0 hp hsub ⟨j, hj, hun⟩
    simp only [planOk, Bool.and_eq_true] at hp
    obtain ⟨hp1, hp2⟩ := hp
    have hi : i ∈ Region.ready .any pre L0 := by
      split at hp1
      · rw [Bool.and_eq_true] at hp1
        simpa using hp1.2
      · have : Region.ready .any pre L0 = [i] := by simpa using hp1
        rw [this]; simp
    obtain ⟨_, o, ho, he⟩ := mem_ready.1 hi
    have hin : i < pre.size := by
      rcases Nat.lt_or_ge i pre.size with h | h
      · exact h
      · rw [Array.getElem?_eq_none h] at ho; cases ho
    cases hc : L.getD i true with
    | false =>
      intro e
      have : i ∈ Region.ready .any pre L := mem_ready.2 ⟨hc, o, ho, fun x hx hb => hsub _ (he x hx hb)⟩
      rw [e] at this
      cases this
    | true =>
      have hc2 : L.getD i false = true := by
        have hlt : i < L.size := by omega
        rw [Array.getD_eq_getD_getElem?, Array.getElem?_eq_getElem hlt] at hc ⊢
        exact hc
      have hji : j ≠ i := fun e => by subst e; rw [hc] at hun; cases hun
      refine ih _ hp2 (fun k hk => ?_) ⟨j, by rcases List.mem_cons.1 hj with h | h; exact absurd h hji; exact h, hun⟩
      rw [getD_set] at hk
      split at hk
      · rename_i h; rw [← h.1]; exact hc2
      · exact hsub k hk

theorem wpAny_push {P : Program} {Q : Exit → Act → World → Prop} {pre : Array Oper} {st : Oper} {p : List Nat} (hpl : planOk pre p (Array.replicate (pre.size + 1) false) = true) (hcov : ∀ j, j < pre.size → j ∈ p)
    (hin : ∀ e ∈ st.after, e.on < pre.size) (hwait : ∀ j, j < pre.size → ∃ e ∈ st.after, Region.binds .any e = true ∧ e.on = j)
    (hg : st.guard = none) (hd : st.dst = none) : ∀ (fuel : Nat) (L : Array Bool) (a : Act) (w : World), L.size = pre.size + 1 → L.getD pre.size true = false →
      wpAny P .any pre (pop P st Q) fuel L a w → wpAny P .any (pre.push st) Q (fuel + 1) L a w := by
  have hpre : ∀ i, i < pre.size → (pre.push st)[i]? = pre[i]? := fun i hi => by rw [Array.getElem?_push]; split <;> first | omega | rfl
  have hlast : (pre.push st)[pre.size]? = some st := by simp
  have lt_of : ∀ (i : Nat) (o : Oper), pre[i]? = some o → i < pre.size := fun i o ho => by
    rcases Nat.lt_or_ge i pre.size with h | h
    · exact h
    · rw [Array.getElem?_eq_none h] at ho; cases ho
  have hready : ∀ L i, i < pre.size → (i ∈ Region.ready .any (pre.push st) L ↔ i ∈ Region.ready .any pre L) := fun L i hi => by
    rw [mem_ready, mem_ready, hpre i hi]
  have hle : ∀ L i, i ∈ Region.ready .any (pre.push st) L → i ≤ pre.size := fun L i h => by
    obtain ⟨_, o, ho, _⟩ := mem_ready.1 h
    rcases Nat.lt_or_ge pre.size i with h2 | h2
    · rw [Array.getElem?_eq_none (by simp; omega)] at ho; cases ho
    · exact h2
  have hall : ∀ L : Array Bool, L.size = pre.size + 1 → Region.ready .any pre L = [] → ∀ j, j < pre.size → L.getD j true = true := fun L hL hr j hj => by
    cases hc : L.getD j true with
    | true => rfl
    | false => exact absurd hr (not_stuck (by omega) p _ hpl (fun k hk => by rw [Array.getD_eq_getD_getElem?, Array.getElem?_replicate] at hk; split at hk <;> cases hk) ⟨j, hcov j hj, hc⟩)
  have flip : ∀ (L : Array Bool) j, j < L.size → L.getD j true = true → L.getD j false = true := fun L j hj h => by
    rw [Array.getD_eq_getD_getElem?, Array.getElem?_eq_getElem hj] at h ⊢
    exact h
  have hstep : ∀ (fuel : Nat) (L : Array Bool) (a : Act) (w : World), L.size = pre.size + 1 → L.getD pre.size true = false → Region.ready .any pre L = [] → pop P st Q .normal a w → wpAny P .any (pre.push st) Q (fuel + 1) L a w := by
    intro fuel L a w hL hn hr h
    have hA := hall L hL hr
    have hmem : pre.size ∈ Region.ready .any (pre.push st) L := mem_ready.2 ⟨hn, st, hlast, fun e he _ => flip L _ (by have := hin e he; omega) (hA _ (hin e he))⟩
    refine ⟨fun e => (by rw [e] at hmem; cases hmem), fun i hi => ?_⟩
    have hin' : i = pre.size := by
      rcases Nat.lt_or_ge i pre.size with h2 | h2
      · have := (mem_ready.1 hi).1
        rw [hA i h2] at this
        cases this
      · have := hle L i hi
        omega
    subst hin'
    unfold wpOp
    rw [hlast]
    have hw : Region.wanted st (yielded (pre.push st) a.tmps) = true := by unfold Region.wanted; rw [hg]
    simp only [hw, if_true]
    refine .inl (Oper.wp_mono (fun a' w' hq => ?_) h)
    have hr2 : Region.ready .any (pre.push st) (L.setIfInBounds pre.size true) = [] := by
      rcases hh : Region.ready .any (pre.push st) (L.setIfInBounds pre.size true) with _ | ⟨x, r⟩
      · rfl
      · have hx : x ∈ Region.ready .any (pre.push st) (L.setIfInBounds pre.size true) := by rw [hh]; simp
        have h1 := hle _ _ hx
        have h2 := (mem_ready.1 hx).1
        rw [getD_set] at h2
        split at h2
        · cases h2
        · rename_i hc
          rw [hA x (by omega)] at h2
          cases h2
    cases fuel with
    | zero => exact ⟨hr2, hq⟩
    | succ f => exact ⟨fun _ => hq, by rw [hr2]; simp⟩
  intro fuel
  induction fuel with
  | zero => intro L a w hL hn h; exact hstep 0 L a w hL hn h.1 h.2
  | succ fuel ih =>
    intro L a w hL hn h
    by_cases hr : Region.ready .any pre L = []
    · exact hstep _ L a w hL hn hr (h.1 hr)
    refine ⟨fun e => ?_, fun i hi => ?_⟩
    · obtain ⟨x, hx⟩ := List.exists_mem_of_ne_nil _ hr
      obtain ⟨_, o, ho, _⟩ := mem_ready.1 hx
      have := (hready L x (lt_of x o ho)).2 hx
      rw [e] at this
      cases this
    · have hlt : i < pre.size := by
        rcases Nat.lt_or_ge i pre.size with h2 | h2
        · exact h2
        · exfalso
          obtain rfl : i = pre.size := by have := hle L i hi; omega
          obtain ⟨_, o, ho, he⟩ := mem_ready.1 hi
          rw [hlast] at ho
          cases ho
          obtain ⟨x, hx⟩ := List.exists_mem_of_ne_nil _ hr
          obtain ⟨hx1, ox, hox, _⟩ := mem_ready.1 hx
          obtain ⟨e, hee, hb, rfl⟩ := hwait x (lt_of x ox hox)
          have h3 := he e hee hb
          have hlt := lt_of _ ox hox
          rw [Array.getD_eq_getD_getElem?, Array.getElem?_eq_getElem (by omega)] at h3 hx1
          simp only [Option.getD_some] at h3 hx1
          rw [h3] at hx1
          cases hx1
      have hw := h.2 i ((hready L i hlt).1 hi)
      obtain ⟨_, o, ho, _⟩ := mem_ready.1 hi
      rw [hpre i hlt] at ho
      unfold wpOp at hw ⊢
      rw [hpre i hlt]
      rw [ho] at hw ⊢
      simp only at hw ⊢
      have hy : Region.wanted o (yielded (pre.push st) a.tmps) = Region.wanted o (yielded pre a.tmps) := by
        unfold Region.wanted
        cases o.guard with
        | none => rfl
        | some x =>
          have : yielded (pre.push st) a.tmps x.1 = yielded pre a.tmps x.1 := by
            unfold yielded
            rcases Nat.lt_trichotomy x.1 pre.size with h2 | h2 | h2
            · rw [hpre _ h2]
            · rw [h2, hlast, Array.getElem?_eq_none (Nat.le_refl _)]
              simp [hd]
            · rw [Array.getElem?_eq_none (by simp; omega), Array.getElem?_eq_none (by omega)]
          simp only [this]
      rw [hy]
      have hih : ∀ a' w', wpAny P .any pre (pop P st Q) fuel (L.setIfInBounds i true) a' w' → wpAny P .any (pre.push st) Q (fuel + 1) (L.setIfInBounds i true) a' w' := fun a' w' hh =>
        ih _ a' w' (by simpa using hL) (by rw [getD_set, if_neg (by omega)]; exact hn) hh
      split
      · rename_i hwt
        rw [if_pos hwt] at hw
        rcases hw with hw | ⟨h1, h2⟩
        · exact .inl (opwp_mono2 hih (fun _ _ _ h => h) (fun ⟨a, w, h⟩ => ⟨a, w, h⟩) hw)
        · exact .inr ⟨h1, (fun ⟨a, w, h⟩ => ⟨a, w, h⟩) h2⟩
      · rename_i hwt
        rw [if_neg hwt] at hw
        exact hih _ _ hw

/-- the last operation waits for every other, and the plan names every other -/
def lastOk (l : List Oper) (p : List Nat) : Bool :=
  match l.getLast? with
  | none => false
  | some st => (List.range l.dropLast.length).all (fun j => p.contains j && st.after.any (fun e => Region.binds .any e && e.on == j)) && st.after.all (fun e => decide (e.on < l.dropLast.length)) && st.guard.isNone && st.dst.isNone

theorem wp_region_keepS {P : Program} {Q : Exit → Act → World → Prop} (B : Nat) (L : List Nat) (p : List Nat) {l : List Oper} {id : Nat} {a : Act} {w : World} (hm : P.follows .mixedOrders = true)
    (hs : (Region.noSelect l.dropLast.toArray && (decide (p.length ≤ l.dropLast.length) && (planOk l.dropLast.toArray p (Array.replicate (l.dropLast.length + 1) false) && p.all fun i => decide (i < l.dropLast.length)))) = true)
    (hw : lastOk l p = true) (hQ : ∀ c a d v w, Q (.panic c) (a.put d v) w → Q (.panic c) a w)
    (h : lexL P (pop P (l.getLast?.getD default) Q) (fun w' => Keep B L w w') (p.map fun i => (bare (l.dropLast.getD i default), gslot l.dropLast (l.dropLast.getD i default))) a w.drew) : (Code.region id l.toArray true).wp P Q a w := by
  unfold lastOk at hw
  cases hl : l.getLast? with
  | none => rw [hl] at hw; cases hw
  | some st =>
    rw [hl] at hw h
    simp only [Bool.and_eq_true, List.all_eq_true, List.mem_range, Option.isNone_iff_eq_none] at hw
    obtain ⟨⟨⟨h1, h2⟩, h3⟩, h4⟩ := hw
    have hlp : l = l.dropLast ++ [st] := by
      have hne : l ≠ [] := fun e => by rw [e] at hl; cases hl
      have := List.dropLast_concat_getLast hne
      rw [List.getLast?_eq_some_getLast hne] at hl
      rw [← Option.some.inj hl, this]
    have harr : l.toArray = l.dropLast.toArray.push st := by
      conv => lhs; rw [hlp]
      simp
    simp only [Bool.and_eq_true, decide_eq_true_eq] at hs
    obtain ⟨s1, s2, s3, s4⟩ := hs
    rw [harr]
    refine wp_region_any hm ?_
    have hsz : (l.dropLast.toArray.push st).size = l.dropLast.toArray.size + 1 := by simp
    rw [hsz]
    refine wpAny_push (p := p) (by simpa using s3) (fun j hj => ?_) (fun e he => ?_) (fun j hj => ?_) h3 h4 _ _ a _ (by simp) (by simp) ?_
    · have := (h1 j (by simpa using hj)).1
      simpa using this
    · have h5 := h2
      rw [Array.all_eq_true_iff_forall_mem] at h5
      simpa using h5 e he
    · have := (h1 j (by simpa using hj)).2
      obtain ⟨i, hi, hb⟩ := Array.any_eq_true.1 this
      rw [Bool.and_eq_true] at hb
      exact ⟨st.after[i], Array.getElem_mem hi, hb.1, by simpa using hb.2⟩
    · refine wpAny_of_held _ _ _ _ (lexH_sound (Q := pop P st Q) (S := fun w' => Keep B L w w') s1 (fun c a d v w hh => hQ c a d v w hh) p l.dropLast.toArray.size (Array.replicate (l.dropLast.toArray.size + 1) false) a w.drew (by simpa using s2) (by simpa using s3) ((Keep.refl _ _ _).drew) (lexH_of_lexL p a _ (fun i hi => by have := List.all_eq_true.1 s4 i hi; simpa using this) h))
end Pg
namespace Pg
open Go Go.RowKit

/-- what is to be shown where the first part of the plan has come up: the second, in this very world -/
def two (P : Program) (Q : Exit → Act → World → Prop) (l2 : List (Oper × Option (Option Tmp × Bool))) : Exit → Act → World → Prop
  | .normal, a, w => lexL P Q (fun w' => w' = w) l2 a w
  | x, a, w => Q x a w

theorem wpAnyH_weaken {P : Program} {ops : Array Oper} {Q : Exit → Act → World → Prop} {md : Region.Mode} {S S' : World → Prop} (hS : ∀ w, S' w → S w) : ∀ (fuel : Nat) (listed : Array Bool) (a : Act) (w : World), wpAnyH P md ops Q S' fuel listed a w → wpAnyH P md ops Q S fuel listed a w
  | 0, _, _, _, h => h
  | fuel + 1, _, _, _, h => ⟨h.1, fun i hi => wpOp_mono (fun a' w' h' => ⟨hS _ h'.1, wpAnyH_weaken hS fuel _ a' w' h'.2⟩) (h.2 i hi)⟩

theorem wpOp_two {P : Program} {ops : Array Oper} {Q1 Q2 : Exit → Act → World → Prop} {i : Nat} {K : Act → World → Prop} {a : Act} {w : World} (h1 : ∀ c a w, Q1 (.panic c) a w → Q2 (.panic c) a w) (h2 : LetsOut Q1 → LetsOut Q2)
    (h : wpOp P ops Q1 i K a w) : wpOp P ops Q2 i K a w := by
  unfold wpOp at *
  cases ho : ops[i]? with
  | none => rw [ho] at h; exact h
  | some o =>
    rw [ho] at h
    simp only at h ⊢
    by_cases hw : Region.wanted o (yielded ops a.tmps) = true
    · rw [if_pos hw] at h ⊢
      rcases h with h | ⟨h3, h4⟩
      · exact .inl (opwp_mono2 (fun _ _ h => h) h1 h2 h)
      · exact .inr ⟨h3, h2 h4⟩
    · rw [if_neg hw] at h ⊢
      exact h

section
variable {P : Program} {ops : Array Oper} {Q : Exit → Act → World → Prop} {S : World → Prop} {l2 : List (Oper × Option (Option Tmp × Bool))}
theorem lexH_two (hs : Region.noSelect ops = true) (hQ : ∀ c a d v w, Q (.panic c) (a.put d v) w → Q (.panic c) a w) (p2 : List Nat)
    (h2 : ∀ a w, lexL P Q (fun w' => w' = w) l2 a w → lexH P ops Q (fun w' => w' = w) p2 a w) : ∀ (p1 : List Nat) (fuel : Nat) (listed : Array Bool) (a : Act) (w : World),
    (p1 ++ p2).length ≤ fuel → planOk ops (p1 ++ p2) listed = true → S w → lexH P ops (two P Q l2) S p1 a w → wpAnyH P .any ops Q S fuel listed a w := by
  intro p1
  induction p1 with
  | nil =>
    intro fuel listed a w hf hp hS h
    have h : lexL P Q (fun w' => w' = w) l2 a w := h
    exact wpAnyH_weaken (S' := fun w' => w' = w) (fun w' e => by subst e; exact hS) _ _ _ _ (lexH_sound (S := fun w' => w' = w) hs hQ p2 fuel listed a w (by simpa using hf) (by simpa using hp) rfl (h2 a w h))
  | cons i r ih =>
    intro fuel listed a w hf hp hS h
    obtain ⟨n, rfl⟩ : ∃ n, fuel = n + 1 := ⟨fuel - 1, by simp at hf; omega⟩
    have hn : (r ++ p2).length ≤ n := by simp at hf ⊢; omega
    simp only [List.cons_append, planOk, Bool.and_eq_true] at hp
    obtain ⟨hp1, hp2⟩ := hp
    unfold lexH at h
    by_cases hq : quietAt ops i = true
    · rw [if_pos hq] at h
      rw [if_pos hq, Bool.and_eq_true] at hp1
      obtain ⟨o, v, ho, hy, h⟩ := h
      exact wpAnyH_take ho hs hp1.1 hp1.2 (fun c a w hh => hQ c a _ _ w hh) hy hS (ih n _ _ w hn hp2 hS h)
    · rw [if_neg hq] at h
      rw [if_neg hq] at hp1
      have hr : Region.ready .any ops listed = [i] := by simpa using hp1
      refine wpAnyH_all hr (by simp) (fun j hj => ?_)
      have hj : j = i := by simpa using hj
      subst hj
      exact wpOp_two (Q1 := two P Q l2) (fun _ _ _ h => h) (fun ⟨a, w, h⟩ => ⟨a, w, h⟩) (wpOp_mono (fun a' w' hh => ⟨hh.1, ih n _ a' w' hn hp2 hh.1 hh.2⟩) h)
end

theorem wp_region_two {P : Program} {Q : Exit → Act → World → Prop} (S : World → Prop) (p1 p2 : List Nat) {l : List Oper} {id : Nat} {a : Act} {w : World} (hm : P.follows .mixedOrders = true)
    (hs : (Region.noSelect l.toArray && (decide ((p1 ++ p2).length ≤ l.length) && (planOk l.toArray (p1 ++ p2) (Array.replicate l.length false) && (p1 ++ p2).all fun i => decide (i < l.length)))) = true) (hQ : ∀ c a d v w, Q (.panic c) (a.put d v) w → Q (.panic c) a w)
    (hS : S w.drew) (h : lexL P (two P Q (p2.map fun i => (bare (l.getD i default), gslot l (l.getD i default)))) S (p1.map fun i => (bare (l.getD i default), gslot l (l.getD i default))) a w.drew) : (Code.region id l.toArray true).wp P Q a w := by
  simp only [Bool.and_eq_true, decide_eq_true_eq, List.all_eq_true] at hs
  obtain ⟨s1, s2, s3, s4⟩ := hs
  refine wp_region_held hm (lexH_two s1 hQ p2 (fun a w h => lexH_of_lexL p2 a w (fun i hi => s4 i (by simp [hi])) h) p1 _ _ a _ (by simpa using s2) (by simpa using s3) hS (lexH_of_lexL p1 a _ (fun i hi => s4 i (by simp [hi])) h))
theorem wp_region_belowT {P : Program} {Q : Exit → Act → World → Prop} (p1 p2 : List Nat) {l : List Oper} {id : Nat} {a : Act} {w : World} (hm : P.follows .mixedOrders = true)
    (hs : (Region.noSelect l.toArray && (decide ((p1 ++ p2).length ≤ l.length) && (planOk l.toArray (p1 ++ p2) (Array.replicate l.length false) && (p1 ++ p2).all fun i => decide (i < l.length)))) = true) (hQ : ∀ c a d v w, Q (.panic c) (a.put d v) w → Q (.panic c) a w)
    (h : lexL P (two P Q (p2.map fun i => (bare (l.getD i default), gslot l (l.getD i default)))) (fun w' => RowKit.Below w.heap.size w w') (p1.map fun i => (bare (l.getD i default), gslot l (l.getD i default))) a w.drew) : (Code.region id l.toArray true).wp P Q a w :=
  wp_region_two _ p1 p2 hm hs hQ ((RowKit.Below.refl _ _).drew) h
theorem wp_region_belowBT {P : Program} {Q : Exit → Act → World → Prop} (B : Nat) (p1 p2 : List Nat) {l : List Oper} {id : Nat} {a : Act} {w : World} (hm : P.follows .mixedOrders = true)
    (hs : (Region.noSelect l.toArray && (decide ((p1 ++ p2).length ≤ l.length) && (planOk l.toArray (p1 ++ p2) (Array.replicate l.length false) && (p1 ++ p2).all fun i => decide (i < l.length)))) = true) (hQ : ∀ c a d v w, Q (.panic c) (a.put d v) w → Q (.panic c) a w)
    (h : lexL P (two P Q (p2.map fun i => (bare (l.getD i default), gslot l (l.getD i default)))) (fun w' => RowKit.Below B w w') (p1.map fun i => (bare (l.getD i default), gslot l (l.getD i default))) a w.drew) : (Code.region id l.toArray true).wp P Q a w :=
  wp_region_two _ p1 p2 hm hs hQ ((RowKit.Below.refl _ _).drew) h
end Pg
set_option linter.unusedSimpArgs false
set_option linter.unusedVariables false
namespace Pg
open Go Go.RowKit
/-- orders, step by step: a quiet step first; else each loud step that may come up, one branch each (at most three) -/
inductive PTree where
  | done : PTree
  | one (i : Nat) (r : PTree) : PTree
  | two (i j : Nat) (r s : PTree) : PTree
  | three (i j k : Nat) (r s t : PTree) : PTree
def PTree.depth : PTree → Nat
  | .done => 0
  | .one _ r => r.depth + 1
  | .two _ _ r s => max r.depth s.depth + 1
  | .three _ _ _ r s t => max (max r.depth s.depth) t.depth + 1
def treeOk (ops : Array Oper) : PTree → Array Bool → Bool
  | .done, listed => Region.ready .any ops listed == []
  | .one i r, listed => (if quietAt ops i then Region.free .any ops listed i && (Region.ready .any ops listed).contains i else Region.ready .any ops listed == [i]) && treeOk ops r (listed.setIfInBounds i true)
  | .two i j r s, listed => Region.ready .any ops listed == [i, j] && (treeOk ops r (listed.setIfInBounds i true) && treeOk ops s (listed.setIfInBounds j true))
  | .three i j k r s t, listed => Region.ready .any ops listed == [i, j, k] && (treeOk ops r (listed.setIfInBounds i true) && (treeOk ops s (listed.setIfInBounds j true) && treeOk ops t (listed.setIfInBounds k true)))
section
variable {P : Program} {ops : Array Oper} {Q : Exit → Act → World → Prop} {S : World → Prop}
def treeH (P : Program) (ops : Array Oper) (Q : Exit → Act → World → Prop) (S : World → Prop) : PTree → Act → World → Prop
  | .done, a, w => Q .normal a w
  | .one i r, a, w => if quietAt ops i then (∃ o v, ops[i]? = some o ∧ YieldsIf P ops S o v a ∧ treeH P ops Q S r (a.put o.dst v) w)
      else wpOp P ops Q i (fun a' w' => S w' ∧ treeH P ops Q S r a' w') a w
  | .two i j r s, a, w => wpOp P ops Q i (fun a' w' => S w' ∧ treeH P ops Q S r a' w') a w ∧ wpOp P ops Q j (fun a' w' => S w' ∧ treeH P ops Q S s a' w') a w
  | .three i j k r s t, a, w => wpOp P ops Q i (fun a' w' => S w' ∧ treeH P ops Q S r a' w') a w ∧ wpOp P ops Q j (fun a' w' => S w' ∧ treeH P ops Q S s a' w') a w ∧ wpOp P ops Q k (fun a' w' => S w' ∧ treeH P ops Q S t a' w') a w
theorem treeH_sound (hs : Region.noSelect ops = true) (hQ : ∀ c a d v w, Q (.panic c) (a.put d v) w → Q (.panic c) a w) : ∀ (l : PTree) (fuel : Nat) (listed : Array Bool) (a : Act) (w : World),
    l.depth ≤ fuel → treeOk ops l listed = true → S w → treeH P ops Q S l a w → wpAnyH P .any ops Q S fuel listed a w := by
  intro l
  induction l with
  | done =>
    intro fuel listed a w _ hp _ h
    exact wpAnyH_done (by simpa [treeOk] using hp) h fuel
  | one i r ih =>
    intro fuel listed a w hf hp hS h
    obtain ⟨n, rfl⟩ : ∃ n, fuel = n + 1 := ⟨fuel - 1, by simp [PTree.depth] at hf; omega⟩
    have hn : r.depth ≤ n := by simpa [PTree.depth] using hf
    simp only [treeOk, Bool.and_eq_true] at hp
    obtain ⟨hp1, hp2⟩ := hp
    unfold treeH at h
    by_cases hq : quietAt ops i = true
    · rw [if_pos hq] at h
      rw [if_pos hq, Bool.and_eq_true] at hp1
      obtain ⟨o, v, ho, hy, h⟩ := h
      exact wpAnyH_take ho hs hp1.1 hp1.2 (fun c a w hh => hQ c a _ _ w hh) hy hS (ih n _ _ w hn hp2 hS h)
    · rw [if_neg hq] at h
      rw [if_neg hq] at hp1
      have hr : Region.ready .any ops listed = [i] := by simpa using hp1
      refine wpAnyH_all hr (by simp) (fun j hj => ?_)
      have hj : j = i := by simpa using hj
      subst hj
      exact wpOp_mono (fun a' w' hh => ⟨hh.1, ih n _ a' w' hn hp2 hh.1 hh.2⟩) h
  | two i j r s ihr ihs =>
    intro fuel listed a w hf hp hS h
    obtain ⟨n, rfl⟩ : ∃ n, fuel = n + 1 := ⟨fuel - 1, by simp [PTree.depth] at hf; omega⟩
    simp only [PTree.depth] at hf
    simp only [treeOk, Bool.and_eq_true] at hp
    obtain ⟨hp1, hp2, hp3⟩ := hp
    unfold treeH at h
    have hr : Region.ready .any ops listed = [i, j] := by simpa using hp1
    refine wpAnyH_all hr (by simp) (fun x hx => ?_)
    simp only [List.mem_cons, List.not_mem_nil, or_false] at hx
    rcases hx with rfl | rfl
    · exact wpOp_mono (fun a' w' hh => ⟨hh.1, ihr n _ a' w' (by omega) hp2 hh.1 hh.2⟩) h.1
    · exact wpOp_mono (fun a' w' hh => ⟨hh.1, ihs n _ a' w' (by omega) hp3 hh.1 hh.2⟩) h.2
  | three i j k r s t ihr ihs iht =>
    intro fuel listed a w hf hp hS h
    obtain ⟨n, rfl⟩ : ∃ n, fuel = n + 1 := ⟨fuel - 1, by simp [PTree.depth] at hf; omega⟩
    simp only [PTree.depth] at hf
    simp only [treeOk, Bool.and_eq_true] at hp
    obtain ⟨hp1, hp2, hp3, hp4⟩ := hp
    unfold treeH at h
    have hr : Region.ready .any ops listed = [i, j, k] := by simpa using hp1
    refine wpAnyH_all hr (by simp) (fun x hx => ?_)
    simp only [List.mem_cons, List.not_mem_nil, or_false] at hx
    rcases hx with rfl | rfl | rfl
    · exact wpOp_mono (fun a' w' hh => ⟨hh.1, ihr n _ a' w' (by omega) hp2 hh.1 hh.2⟩) h.1
    · exact wpOp_mono (fun a' w' hh => ⟨hh.1, ihs n _ a' w' (by omega) hp3 hh.1 hh.2⟩) h.2.1
    · exact wpOp_mono (fun a' w' hh => ⟨hh.1, iht n _ a' w' (by omega) hp4 hh.1 hh.2⟩) h.2.2
/-- The beginning. -/
theorem wp_region_tree (l : PTree) {id : Nat} {a : Act} {w : World} (S : World → Prop) (hm : P.follows .mixedOrders = true) (hs : Region.noSelect ops = true)
    (hl : l.depth ≤ ops.size) (hp : treeOk ops l (Array.replicate ops.size false) = true) (hQ : ∀ c a d v w, Q (.panic c) (a.put d v) w → Q (.panic c) a w)
    (hS : S w.drew) (h : treeH P ops Q S l a w.drew) : (Code.region id ops true).wp P Q a w :=
  wp_region_held hm (treeH_sound hs hQ l _ _ a _ hl hp hS h)
end
/-- several slots set -/
def puts (a : Act) (l : List (Nat × Value)) : Act := l.foldl (fun a p => a.put (some p.1) p.2) a
/-- an operation of the list, bare; it has no guard -/
structure OpAt (L : List Oper) (i : Nat) (o : Oper) : Prop where
  eq : bare (L.getD i default) = o
  on : (L.getD i default).guard = none
  lt : i < L.length
theorem treeAt {L l : List Oper} (h : L = l) (i : Nat) (hg : (l.getD i default).guard.isNone && decide (i < l.length) = true) : OpAt L i (bare (l.getD i default)) := by
  subst h
  simp only [Bool.and_eq_true, decide_eq_true_eq, Option.isNone_iff_eq_none] at hg
  exact ⟨rfl, hg.1, hg.2⟩
section
variable {P : Program} {Q : Exit → Act → World → Prop} {S : World → Prop} {L : List Oper}
def treeL (P : Program) (Q : Exit → Act → World → Prop) (S : World → Prop) (L : List Oper) : PTree → Act → World → Prop
  | .done, a, w => Q .normal a w
  | .one i r, a, w => (∃ o v, OpAt L i o ∧ quietKind o.op = true ∧ (∀ w, S w → (execOp a.eval o).run P w = .ok (.value v) w) ∧ treeL P Q S L r (a.put o.dst v) w) ∨ (∃ o, OpAt L i o ∧ quietKind o.op = false ∧ o.wp P a w (fun a' w' => S w' ∧ treeL P Q S L r a' w') Q)
  | .two i j r s, a, w => (∃ o, OpAt L i o ∧ quietKind o.op = false ∧ o.wp P a w (fun a' w' => S w' ∧ treeL P Q S L r a' w') Q) ∧ (∃ o, OpAt L j o ∧ quietKind o.op = false ∧ o.wp P a w (fun a' w' => S w' ∧ treeL P Q S L s a' w') Q)
  | .three i j k r s t, a, w => (∃ o, OpAt L i o ∧ quietKind o.op = false ∧ o.wp P a w (fun a' w' => S w' ∧ treeL P Q S L r a' w') Q) ∧ (∃ o, OpAt L j o ∧ quietKind o.op = false ∧ o.wp P a w (fun a' w' => S w' ∧ treeL P Q S L s a' w') Q) ∧ (∃ o, OpAt L k o ∧ quietKind o.op = false ∧ o.wp P a w (fun a' w' => S w' ∧ treeL P Q S L t a' w') Q)
/-- one loud operation, and the orders behind it -/
def treeI (P : Program) (Q : Exit → Act → World → Prop) (S : World → Prop) (L : List Oper) (i : Nat) (r : PTree) (a : Act) (w : World) : Prop :=
  ∃ o, OpAt L i o ∧ quietKind o.op = false ∧ o.wp P a w (fun a' w' => S w' ∧ treeL P Q S L r a' w') Q
theorem bare_op {L : List Oper} {i : Nat} {o : Oper} (h : OpAt L i o) : (L.getD i default).op = o.op ∧ (L.getD i default).dst = o.dst := by
  have := h.eq
  subst this
  exact ⟨rfl, rfl⟩
theorem wpOp_of {i : Nat} {o : Oper} {a : Act} {w : World} {K K' : Act → World → Prop} (h : OpAt L i o) (hK : ∀ a w, K a w → K' a w) (hw : o.wp P a w K Q) : wpOp P L.toArray Q i K' a w := by
  have hi : L.toArray[i]? = some (L.getD i default) := by
    have := h.lt
    simp [List.getD_eq_getElem?_getD, this]
  have hwt : Region.wanted (L.getD i default) (yielded L.toArray a.tmps) = true := by
    unfold Region.wanted
    rw [h.on]
  have he := h.eq
  unfold wpOp
  simp only [hi, hwt, if_true]
  refine .inl (Oper.wp_mono (K := K) hK ?_)
  subst he
  unfold Oper.wp at hw ⊢
  rw [execOp_bare] at hw
  exact hw
theorem treeH_of_treeL : ∀ (t : PTree) (a : Act) (w : World), treeL P Q S L t a w → treeH P L.toArray Q S t a w := by
  intro t
  induction t with
  | done => intro a w h; exact h
  | one i r ih =>
    intro a w h
    unfold treeH
    rcases h with ⟨o, v, ho, hq, hy, h⟩ | ⟨o, ho, hq, h⟩
    · have hi : L.toArray[i]? = some (L.getD i default) := by
        have := ho.lt
        simp [List.getD_eq_getElem?_getD, this]
      rw [if_pos (by unfold quietAt; rw [hi]; simp only [(bare_op ho).1]; exact hq)]
      refine ⟨_, v, hi, .inl ⟨?_, fun w hw => ?_⟩, ?_⟩
      · unfold Region.wanted; rw [ho.on]
      · rw [← execOp_bare, ho.eq]; exact hy w hw
      · rw [(bare_op ho).2]; exact ih _ _ h
    · have hi : L.toArray[i]? = some (L.getD i default) := by
        have := ho.lt
        simp [List.getD_eq_getElem?_getD, this]
      rw [if_neg (by unfold quietAt; rw [hi]; simp only [(bare_op ho).1, hq]; decide)]
      exact wpOp_of ho (fun a w hh => ⟨hh.1, ih _ _ hh.2⟩) h
  | two i j r s ihr ihs =>
    intro a w h
    obtain ⟨⟨o, ho, _, h1⟩, ⟨o2, ho2, _, h2⟩⟩ := h
    exact ⟨wpOp_of ho (fun a w hh => ⟨hh.1, ihr _ _ hh.2⟩) h1, wpOp_of ho2 (fun a w hh => ⟨hh.1, ihs _ _ hh.2⟩) h2⟩
  | three i j k r s t ihr ihs iht =>
    intro a w h
    obtain ⟨⟨o, ho, _, h1⟩, ⟨o2, ho2, _, h2⟩, ⟨o3, ho3, _, h3⟩⟩ := h
    exact ⟨wpOp_of ho (fun a w hh => ⟨hh.1, ihr _ _ hh.2⟩) h1, wpOp_of ho2 (fun a w hh => ⟨hh.1, ihs _ _ hh.2⟩) h2, wpOp_of ho3 (fun a w hh => ⟨hh.1, iht _ _ hh.2⟩) h3⟩
theorem tree_done {a : Act} {w : World} {R : Act → World → Prop} (hR : Shut (∀ a w, R a w → Q .normal a w)) (h : R a w) : treeL P Q S L .done a w := hR.out a w h
theorem tree_quiet {i : Nat} {r : PTree} {o : Oper} {v : Value} {a : Act} {w : World} (ho : OpAt L i o) (hk : quietKind o.op = true) (hy : ∀ w, S w → (execOp a.eval o).run P w = .ok (.value v) w) (h : treeL P Q S L r (a.put o.dst v) w) :
    treeL P Q S L (.one i r) a w := .inl ⟨o, v, ho, hk, hy, h⟩
theorem tree_one {i : Nat} {r : PTree} {a : Act} {w : World} (h : treeI P Q S L i r a w) : treeL P Q S L (.one i r) a w := .inr h
theorem tree_two {i j : Nat} {r s : PTree} {a : Act} {w : World} (h : treeI P Q S L i r a w) (h2 : treeI P Q S L j s a w) : treeL P Q S L (.two i j r s) a w := ⟨h, h2⟩
theorem tree_three {i j k : Nat} {r s t : PTree} {a : Act} {w : World} (h : treeI P Q S L i r a w) (h2 : treeI P Q S L j s a w) (h3 : treeI P Q S L k t a w) : treeL P Q S L (.three i j k r s t) a w := ⟨h, h2, h3⟩
theorem tree_loud {i : Nat} {r : PTree} {o : Oper} {a : Act} {w : World} (ho : OpAt L i o) (hk : quietKind o.op = false) (h : ∀ K : Act → World → Prop, Shut (∀ a w, S w → treeL P Q S L r a w → K a w) → o.wp P a w K Q) :
    treeI P Q S L i r a w := ⟨o, ho, hk, h _ (fun _ _ hS hl => ⟨hS, hl⟩)⟩
end
/-- The beginning: every order is walked up to R; behind R the walk goes on. -/
theorem wp_region_treeR {P : Program} {Q : Exit → Act → World → Prop} (t : PTree) (R : Act → Act → World → Prop) {l : List Oper} {id : Nat} {a : Act} {w : World} (hm : P.follows .mixedOrders = true)
    (hs : (Region.noSelect l.toArray && (decide (t.depth ≤ l.length) && treeOk l.toArray t (Array.replicate l.length false))) = true) (hQ : ∀ c a d v w, Q (.panic c) (a.put d v) w → Q (.panic c) a w)
    (h : ∀ L, L = l → ∀ Q' : Exit → Act → World → Prop, Shut (∀ a' w', R a a' w' → Q' .normal a' w') → treeL P Q' (fun w' => Below w.heap.size w w') L t a w.drew) (hR : ∀ a' w', R a a' w' → Q .normal a' w') : (Code.region id l.toArray true).wp P Q a w := by
  simp only [Bool.and_eq_true, decide_eq_true_eq] at hs
  exact wp_region_tree t _ hm hs.1 (by simpa using hs.2.1) (by simpa using hs.2.2) hQ ((Below.refl _ _).drew) (treeH_of_treeL t a _ (h l rfl Q hR))
attribute [irreducible] treeL treeI
end Pg
