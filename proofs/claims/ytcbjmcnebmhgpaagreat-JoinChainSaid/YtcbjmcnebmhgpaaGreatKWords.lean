/-
  Words for memory: what a call that only makes new memory leaves ('Ret'), a slice that reads as points, boxes.
  More words for memory.
-/
import Derived.Test.YtcbjmcnebmhgpaaGreatKPlainSplit
import Derived.Lib.Hide
import Derived.Laws.OwnMore
import Derived.Deep.Draws
set_option linter.unusedVariables false
set_option linter.unusedSimpArgs false
namespace Pg
open Go Go.RowKit
abbrev ptV (x y : Int) : Value := .agg #[.int .i64 x,.int .i64 y]
abbrev bxV (a b c d : Int) : Value := .agg #[.int .i64 a,.int .i64 b,.int .i64 c,.int .i64 d]
abbrev Ret (w : World) (v : Value) : Ending → World → Prop := fun e w' => e = .returned v ∧ Below w.heap.size w w'
theorem bcell {W w1 : World} (hb : Below W.heap.size W w1) : (∀ b o,b < W.heap.size → w1.cell? ⟨b,o,none⟩ = W.cell? ⟨b,o,none⟩) ∧ (∀ b o,b < W.heap.size → w1.frozen? ⟨b,o,none⟩ = W.frozen? ⟨b,o,none⟩) :=
 ⟨fun b o h => hb.cell (p := ⟨b,o,none⟩) h,fun b o h => hb.frozen (p := ⟨b,o,none⟩) h⟩
def PtsAt (w : World) (B : Nat) (A : Option Addr) (n : Nat) (l : List Pt) : Prop :=
 l.length = n ∧ (0 < n → ∃ b off,A = some ⟨b,off,none⟩ ∧ b < B ∧ ∀ k (p : Pt),l[k]? = some p → w.cell? ⟨b,off + k * 2,none⟩ = some (.int .i64 p.x) ∧ w.cell? ⟨b,off + k * 2 + 1,none⟩ = some (.int .i64 p.y))
theorem PtsAt.keep {w w' : World} {B n : Nat} {A : Option Addr} {l : List Pt} (h : PtsAt w B A n l) (hk : ∀ p : Addr,p.block < B → w'.cell? p = w.cell? p) : PtsAt w' B A n l :=
 ⟨h.1,fun hn => by
  obtain ⟨b,off,e,hb,hc⟩ := h.2 hn
  exact ⟨b,off,e,hb,fun k p hp => ⟨(hk _ hb).trans (hc k p hp).1,(hk _ hb).trans (hc k p hp).2⟩⟩⟩
theorem PtsAt.below {w w' : World} {B n : Nat} {A : Option Addr} {l : List Pt} (h : PtsAt w B A n l) (hb : Below B w w') : PtsAt w' B A n l := h.keep fun _ hp => hb.cell hp
theorem PtsAt.more {w : World} {B B' n : Nat} {A : Option Addr} {l : List Pt} (h : PtsAt w B A n l) (hB : B ≤ B') : PtsAt w B' A n l :=
 ⟨h.1,fun hn => by
  obtain ⟨b,off,e,hb,hc⟩ := h.2 hn
  exact ⟨b,off,e,by omega,hc⟩⟩
theorem PtsAt.at_ {w : World} {B n : Nat} {A : Option Addr} {l : List Pt} (h : PtsAt w B A n l) {k : Nat} (hk : k < n) :
 ∃ b off,A = some ⟨b,off,none⟩ ∧ b < B ∧ w.cell? ⟨b,off + k * 2,none⟩ = some (.int .i64 (pt l k).x) ∧ w.cell? ⟨b,off + k * 2 + 1,none⟩ = some (.int .i64 (pt l k).y) := by
 obtain ⟨b,off,e,hb,hc⟩ := h.2 (by omega)
 have hl : k < l.length := by rw [h.1];exact hk
 have := hc k (pt l k) (by rw [pt,List.getD_eq_getElem?_getD,List.getElem?_eq_getElem hl];rfl)
 exact ⟨b,off,e,hb,this⟩
theorem ptsAt_block {w : World} {g : Nat} {t : TypeId} {fr : Nat × Nat} {cs : Array Value} {B : Nat} (l : List Pt) {n : Nat} (hg : w.heap[g]? = some (.cells cs t fr)) (hB : g < B) (hn : l.length = n)
 (hc : ∀ k,k < n → cs[k * 2]? = some (.int .i64 (pt l k).x) ∧ cs[k * 2 + 1]? = some (.int .i64 (pt l k).y)) : PtsAt w B (some ⟨g,0,none⟩) n l := by
 refine ⟨hn,fun _ => ⟨g,0,rfl,hB,fun k p hp => ?_⟩⟩
 have hk : k < n := by
  rw [← hn]
  rcases Nat.lt_or_ge k l.length with h | h
  · exact h
  · rw [List.getElem?_eq_none h] at hp;cases hp
 have e : pt l k = p := by rw [pt,List.getD_eq_getElem?_getD,hp];rfl
 have h2 := hc k hk;rw [e] at h2;exact ⟨by rw [cell_of_row w g _ cs t fr hg];simpa using h2.1,by rw [cell_of_row w g _ cs t fr hg];simpa using h2.2⟩
theorem all_take_succ {α : Type} (f : α → Bool) (l : List α) (k : Nat) (x : α) (h : l[k]? = some x) : (l.take (k + 1)).all f = ((l.take k).all f && f x) := by
 rw [List.take_add_one,h]
 simp
theorem all_false_of {α : Type} (f : α → Bool) (l : List α) (k : Nat) (x : α) (h : l[k]? = some x) (hf : f x = false) : l.all f = false := by
 rw [List.all_eq_false]
 exact ⟨x,List.mem_of_getElem? h,by simp [hf]⟩
theorem any_range_true (n : Nat) (f : Nat → Bool) (k : Nat) (hk : k < n) (h : f k = true) : (List.range n).any f = true := by
 rw [List.any_eq_true]
 exact ⟨k,List.mem_range.2 hk,h⟩
theorem any_range_false (n : Nat) (f : Nat → Bool) (h : ∀ k,k < n → f k = false) : (List.range n).any f = false := by
 rw [List.any_eq_false]
 intro k hk
 simp [h k (List.mem_range.1 hk)]
theorem pt_of {l : List Pt} {k : Nat} (h : k < l.length) : l[k]? = some (pt l k) := by
 rw [pt,List.getD_eq_getElem?_getD,List.getElem?_eq_getElem h];rfl
theorem al {a w : World} (h : Below a.heap.size a w) (o : Obj) : Below a.heap.size a (w.alloc o) := h.alloc h.size o
theorem tr {a b c : World} (h : Below a.heap.size a b) (k : Below b.heap.size b c) : Below a.heap.size a c := h.trans (k.mono h.size)
theorem block_last {W : World} {o : Obj} {g : Nat} (h : g = W.heap.size) : (W.alloc o).heap[g]? = some o := by subst h;exact heap_alloc_new _ _
def Blk (w : World) (g : Nat) (t : TypeId) (cs : Array Value) : Prop := w.heap[g]? = some (.cells cs t (0,0))
section
variable {w w' : World} {g : Nat} {t : TypeId} {cs : Array Value}
theorem Blk.lt (h : Blk w g t cs) : g < w.heap.size := by
 rcases Nat.lt_or_ge g w.heap.size with hlt | hge
 · exact hlt
 · unfold Blk at h;rw [Array.getElem?_eq_none hge] at h;cases h
theorem Blk.cell (h : Blk w g t cs) (i : Nat) : w.cell? ⟨g,i,none⟩ = cs[i]? := cell_of_row w g i cs t (0,0) h
theorem Blk.frozen (h : Blk w g t cs) (i : Nat) : w.frozen? ⟨g,i,none⟩ = false := by
 unfold Blk at h
 simp [World.frozen?,h]
theorem Blk.new {o : Obj} {W : World} (hg : g = W.heap.size) (ho : o = .cells cs t (0,0)) : Blk (W.alloc o) g t cs := by subst hg ho;exact heap_alloc_new W _
theorem Blk.drew (h : Blk w g t cs) : Blk w.drew g t cs := h
theorem Blk.alloc (h : Blk w g t cs) (o : Obj) : Blk (w.alloc o) g t cs := (Below.heap_alloc w o g h.lt).trans h
theorem Blk.set_ (h : Blk w g t cs) (i : Nat) (u : Value) : Blk (w.setCell ⟨g,i,none⟩ u) g t (cs.setIfInBounds i u) := by
 unfold Blk at h ⊢
 simp [World.setCell,Array.getElem?_modify,h]
theorem Blk.far (h : Blk w g t cs) {p : Addr} (hp : g ≠ p.block) (u : Value) : Blk (w.setCell p u) g t cs := (Below.heap_setCell w p u g hp).trans h
theorem Blk.below (h : Blk w g t cs) {B : Nat} (hb : Below B w w') (hg : g < B) : Blk w' g t cs := (hb.block g hg).trans h
theorem Blk.eq_ {cs' : Array Value} (h : Blk w g t cs) (e : cs = cs') : Blk w g t cs' := e ▸ h
end
theorem retB {P : Program} {f : FuncId} {args : Array Value} {w : World} {X : Bool} (h : Calls P f args w (Ret w (.bool X))) :
 Calls P f args w (fun e w' => ∃ b : Bool,Hid (X = b) ∧ e = .returned (.bool b) ∧ Below w.heap.size w w') := h.mono fun _ _ ⟨he,hb⟩ => ⟨X,rfl,he,hb⟩
theorem ret_bool {a b : Bool} (h : a = b) : Ending.returned (.bool a) = .returned (.bool b) := by rw [h]
theorem ret_int {k : IntKind} {a b : Int} (h : a = b) : Ending.returned (.int k a) = .returned (.int k b) := by rw [h]
theorem Blk.tr {W w1 : World} {g : Nat} {t : TypeId} {cs : Array Value} (h : Blk W g t cs) (hb : Below W.heap.size W w1) : Blk w1 g t cs := h.below hb h.lt
theorem PtsAt.tr {W w1 : World} {B n : Nat} {A : Option Addr} {l : List Pt} (h : PtsAt W B A n l) (hb : Below W.heap.size W w1) (hB : B ≤ W.heap.size) : PtsAt w1 B A n l := h.below (hb.mono hB)
theorem bel {B : Nat} {a w : World} (h : Below B a w := by repeat (first | with_reducible exact Below.refl _ _ | with_reducible assumption | with_reducible refine al ?_ _ | with_reducible refine Below.drew ?_ | with_reducible refine Below.setCell ?_ (by first | (simp;done) | (simp;omega)) _ | with_reducible refine tr ?_ (by with_reducible assumption))) : Below B a w := h
theorem blkA {w : World} {g : Nat} {t : TypeId} {cs : Array Value} (h : Blk w g t cs := by repeat (first | with_reducible assumption | with_reducible exact Blk.new (by simp) rfl | with_reducible refine Blk.alloc ?_ _ | with_reducible refine Blk.drew ?_ | with_reducible refine Blk.far ?_ (by first | (simp;done) | (simp;omega)) _ | with_reducible refine Blk.tr ?_ (by with_reducible assumption))) : Blk w g t cs := h
end Pg
