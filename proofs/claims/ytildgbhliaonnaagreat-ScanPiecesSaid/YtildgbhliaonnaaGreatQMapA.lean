/-
  A map from numbers to whatever values,in memory: looked up,stored into,struck from;what turns while one map is written.
-/
import Derived.Test.YtildgbhliaonnaaGreatQWords
import Derived.Test.YtildgbhliaonnaaGreatQNearP
import Derived.Maps.OwnSet
set_option linter.unusedVariables false
set_option linter.unusedSimpArgs false
namespace Pg
open Go Go.RowKit Go.Maps
structure Turn (X : List Nat) (a w : World) : Prop where
 os : w.os = a.os
 tape : w.tape = a.tape
 output : w.output = a.output
 size : a.heap.size ≤ w.heap.size
 block : ∀ k,k < a.heap.size → k ∉ X → w.heap[k]? = a.heap[k]?
namespace Turn
variable {X Y : List Nat} {a b c w : World} {B : Nat}
theorem of_below (h : Below a.heap.size a w) : Turn X a w := ⟨h.os,h.tape,h.output,h.size,fun k hk _ => h.block k hk⟩
theorem below (h : Turn X a w) (hB : B ≤ a.heap.size) (hX : ∀ x ∈ X,B ≤ x) : Below B a w :=
 ⟨h.os,h.tape,h.output,h.size,fun k hk => h.block k (by omega) fun hx => by have := hX k hx;omega⟩
theorem trans (h : Turn X a b) (k : Turn X b c) : Turn X a c :=
 ⟨k.os.trans h.os,k.tape.trans h.tape,k.output.trans h.output,Nat.le_trans h.size k.size,fun i hi hx => (k.block i (Nat.lt_of_lt_of_le hi h.size) hx).trans (h.block i hi hx)⟩
theorem alloc (h : Turn X a w) (o : Obj) : Turn X a (w.alloc o) := ⟨h.os,h.tape,h.output,by simp;have := h.size;omega,fun k hk hx => (Below.heap_alloc w o k (by have := h.size;omega)).trans (h.block k hk hx)⟩
theorem setCell (h : Turn X a w) {p : Addr} (hp : p.block ∈ X ∨ a.heap.size ≤ p.block) (u : Value) : Turn X a (w.setCell p u) :=
 ⟨h.os,h.tape,h.output,by simp [World.setCell];exact h.size,fun k hk hx => (Below.heap_setCell w p u k (fun e => by
  subst e
  rcases hp with h1 | h1
  · exact hx h1
  · omega)).trans (h.block k hk hx)⟩
theorem step (h : Turn X a w) (k : Below w.heap.size w b) : Turn X a b := h.trans (of_below k)
theorem cell (h : Turn X a w) {p : Addr} (hp : p.block < a.heap.size) (hx : p.block ∉ X) : w.cell? p = a.cell? p := World.cell?_of_block (w := a) (h.block p.block hp hx)
theorem blk (h : Turn X a w) {g : Nat} {t : TypeId} {cs : Array Value} (hB : Blk a g t cs) (hx : g ∉ X) : Blk w g t cs := (h.block g hB.lt hx).trans hB
end Turn
def MapAt (w : World) (P : Program) (k : TypeId) (b : Nat) (V : List (Int × Value)) : Prop := w.ownsMap P k RV b V.length (toD V)
def MapO (w : World) (P : Program) (k : TypeId) (ob : Option Nat) (V : List (Int × Value)) : Prop := match ob with | none => V = [] | some b => MapAt w P k b V
section
variable {w w' : World} {P : Program} {k t e : TypeId} {b : Nat} {V : List (Int × Value)} {ob : Option Nat} {id : Int} {z v : Value}
theorem MapAt.of {n : Nat} (h : w.ownsMap P k RV b n (toD V)) : MapAt w P k b V := by
 obtain ⟨es,clock,hb,F,hs,hD⟩ := h;refine ⟨es,clock,hb,F,?_,hD⟩;have h1 := congrArg Maps.size hD;rw [toD_size,Maps.size_eq,length_sorted,List.length_map] at h1
 rw [h1]
 simp
theorem MapAt.lt (h : MapAt w P k b V) : b < w.heap.size := World.ownsMap.lt h
theorem MapAt.made (w : World) (P : Program) (k : TypeId) : MapAt (w.alloc (.map #[] 0)) P k w.heap.size [] := World.ownsMap_made w P k RV
theorem MapAt.turn {X : List Nat} (h : MapAt w P k b V) (ht : Turn X w w') (hx : b ∉ X) : MapAt w' P k b V := by
 have hlt := h.lt;obtain ⟨es,clock,hb,r⟩ := h;exact ⟨es,clock,(ht.block b hlt hx).trans hb,r⟩
theorem MapAt.tr (h : MapAt w P k b V) (hb : Below w.heap.size w w') : MapAt w' P k b V := h.turn (Turn.of_below hb (X := [])) (by simp)
theorem MapAt.alloc (h : MapAt w P k b V) (o : Obj) : MapAt (w.alloc o) P k b V := World.ownsMap.alloc h o
theorem key64 (hk : P.underlying k = some (.int .i64)) (h0 : -9223372036854775808 ≤ id) (h1 : id ≤ 9223372036854775807) : keyOf P k (.int .i64 id) = some (.int .i64 id) :=
 keyOf_int_mk hk (by simp [Lit.wf,IntKind.min,IntKind.max,IntKind.signed,IntKind.bits];omega)
theorem RV_inj {u : Value} {d : DataW Value} {ps : List MemPlace} (h : RV u = some (d,ps)) : d = .held u := by
 unfold RV at h;simp only [Option.some.injEq,Prod.mk.injEq] at h;exact h.1.symm
theorem MapO.look (h : MapO w P k ob V) (hk : P.underlying k = some (.int .i64)) (ht : P.underlying t = some (.map k e)) (hz : (zeroValue e).run P w = .ok z w) (h0 : -9223372036854775808 ≤ id) (h1 : id ≤ 9223372036854775807) :
 (Instr.lookup t (.map ob) (.int .i64 id) false).run P w = .ok ((getK id V).getD z) w := by
 cases ob with
 | none =>
   obtain rfl : V = [] := h
   rw [Maps.look_nil false (int_keyed hk) ht hz (key64 hk h0 h1)]
   rfl
 | some b =>
   obtain ⟨v,ps,hr,hv⟩ := World.ownsMap.lookup h (int_keyed hk) ht hz (zd := .held z) (zp := []) rfl (key64 hk h0 h1);rw [toD_at] at hv;have hv := RV_inj hv;injection hv with hv
   rw [hr, ← hv]
theorem MapAt.store (h : MapAt w P k b V) (hk : P.underlying k = some (.int .i64)) (ht : P.underlying t = some (.map k e)) (hn : V.length < maxLen) (v : Value) (h0 : -9223372036854775808 ≤ id) (h1 : id ≤ 9223372036854775807) :
 ∃ w',(Instr.mapUpdate t (.map (some b)) (.int .i64 id) v).run P w = .ok () w' ∧ MapAt w' P k b (putK id v V) ∧ w.grownBy w' (some b) := by
 obtain ⟨w',hr,h2,h3⟩ := World.ownsMap.update h (int_keyed hk) ht hn (key64 hk h0 h1) (val := v) (d := .held v) (ps := []) rfl;rw [toD_put] at h2;exact ⟨w',hr,MapAt.of h2,h3⟩
end
section
variable {P : Program} (w : World) {ops : Array Oper} {rest : List Oper} {o : Oper} {a : Act} {Q : Exit → Act → World → Prop} {k t e : TypeId} {ob : Option Nat} {b : Nat} {V : List (Int × Value)} {id : Int} {z : Value}
theorem wpList_lookV1 (hg : o.guard = none) (m x : Operand) (t : TypeId) (hop : o.op = Op.lookup t m x false) (hm : a.eval m = .map ob) (hx : a.eval x = .int .i64 id) (h : MapO w P k ob V) (hk : P.underlying k = some (.int .i64)) (ht : P.underlying t = some (.map k e)) (hz : (zeroValue e).run P w = .ok z w)
 (h0 : -9223372036854775808 ≤ id) (h1 : id ≤ 9223372036854775807) (hK : wpList P ops Q rest (a.put o.dst ((getK id V).getD z)) w) : wpList P ops Q (o :: rest) a w := by
 refine wpList_plain hg fun K' hK' => ?_
 unfold Oper.wp
 simp [execOp,hop,hm,hx,h.look hk ht hz h0 h1,Result.andThen]
 exact hK' _ _ hK
theorem wp_lookV1 {K : Act → World → Prop} (m x : Operand) (t : TypeId) (hop : o.op = Op.lookup t m x false) (hm : a.eval m = .map ob) (hx : a.eval x = .int .i64 id) (h : MapO w P k ob V) (hk : P.underlying k = some (.int .i64)) (ht : P.underlying t = some (.map k e)) (hz : (zeroValue e).run P w = .ok z w)
 (h0 : -9223372036854775808 ≤ id) (h1 : id ≤ 9223372036854775807) (hK : K (a.put o.dst ((getK id V).getD z)) w) : o.wp P a w K Q := by
 unfold Oper.wp
 simp [execOp,hop,hm,hx,h.look hk ht hz h0 h1,Result.andThen]
 exact hK
theorem wp_storeV {K : Act → World → Prop} (m x y : Operand) (t : TypeId) (hop : o.op = Op.mapUpdate t m x y) (hm : a.eval m = .map (some b)) (hx : a.eval x = .int .i64 id) (v : Value) (hy : a.eval y = v) (h : MapAt w P k b V) (hk : P.underlying k = some (.int .i64)) (ht : P.underlying t = some (.map k e)) (hn : V.length < maxLen)
 (h0 : -9223372036854775808 ≤ id) (h1 : id ≤ 9223372036854775807) (hK : ∀ w',MapAt w' P k b (putK id v V) → w.grownBy w' (some b) → K (a.put o.dst undef) w') : o.wp P a w K Q := by
 obtain ⟨w',hr,r1,r2⟩ := h.store hk ht hn v h0 h1;unfold Oper.wp
 simp [execOp,hop,hm,hx,hy,hr,Result.andThen]
 exact hK w' r1 r2
end
end Pg
