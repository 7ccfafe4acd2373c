/-
  gist: a tree's small functions: gone, least, own, place.
-/
import Derived.Test.YtkfbkfcmdfpfjaaGreatDoorQGisA
import Derived.Test.YtkfbkfcmdfpfjaaGreatDoorQLexR
import Derived.Test.YtkfbkfcmdfpfjaaGreatDoorQCloP
import Derived.LaidEqlPtr
set_option linter.unusedSimpArgs false
set_option linter.unusedVariables false
namespace Go.Proofs.YtkfbkfcmdfpfjaaGreatDoor
open Go Go.RowKit Pg

theorem wp_genG {P : Program} {c : Code} {Q : Exit → Act → World → Prop} {a : Act} {w : World} (R : World → Prop) (h : R w) (k : ∀ w2, R w2 → c.wp P Q a w2) : c.wp P Q a w := k w h
theorem post_genG {P : Program} {f : Func} {Q : Ending → World → Prop} {x : Exit} {a : Act} {w : World} (R : World → Prop) (h : R w) (k : ∀ w2, R w2 → bodyPost P f Q x a w2) : bodyPost P f Q x a w := k w h
theorem two_putG {W : World} {g : Nat} {t : TypeId} {x y a b : Value} (h : Blk W g t #[x, y]) : Blk ((W.setCell ⟨g, 0, none⟩ a).setCell ⟨g, 1, none⟩ b) g t #[a, b] := ((h.set_ 0 a).set_ 1 b).eq_ (by simp)
section
variable {w : World} {own imm : Nat → Prop} {tb mb : Nat} {ct : TypeId} {cv : Value} {t : Tr} {H : Nat → Prop} {L : Int → Prop}
theorem Lay.c0 {cl : Value} (h : Lay w own imm tb mb cl t H L) : w.cell? ⟨tb, 0, none⟩ = some cl ∧ w.cell? ⟨tb, 1, none⟩ = some (.int .i64 t.fan) ∧ w.cell? ⟨tb, 2, none⟩ = some (gP t.root) ∧ w.cell? ⟨tb, 3, none⟩ = some (.map (some mb)) ∧ tb < w.heap.size := by
  refine ⟨?_, ?_, ?_, ?_, h.hd.lt⟩ <;> rw [h.hd.cell] <;> rfl
theorem Lay.n0 {cl : Value} {b l : Nat} (h : Lay w own imm tb mb cl t H L) (hb : t.lv b = some l) : w.cell? ⟨b, 0, none⟩ = some (gO (t.up b)) ∧ w.cell? ⟨b, 1, none⟩ = some (.bool (decide (l = 0))) ∧ w.cell? ⟨b, 2, none⟩ = some (t.sl b) ∧ b < w.heap.size := by
  refine ⟨?_, ?_, ?_, (h.nd b l hb).lt⟩ <;> rw [(h.nd b l hb).cell] <;> rfl
theorem gone_any (h : Lay w own imm tb mb (.iface ct cv) t H L) : Calls Tryz.prog 32 #[gP tb] w (Ret w (.bool false)) := by
  obtain ⟨c0, c1, c2, c3, lt⟩ := h.c0
  clear h
  try simp only [gP] at *
  go_enter Tryz.func32, Tryz.ntmps32
  go_wp2
  go_ret
  exact ⟨rfl, bel⟩
theorem gone_nil (w : World) : Calls Tryz.prog 32 #[.pointer none] w (Ret w (.bool true)) := by
  try simp only [gP] at *
  go_enter Tryz.func32, Tryz.ntmps32
  go_wp2
  go_ret
  exact ⟨rfl, bel⟩
end
set_option maxHeartbeats 1000000 in
theorem own_any (B n c : Nat) (k : Int) (A : Option Addr) (l : List Pt) (w : World) (hl : PtsAt w B A n l) (hB : B ≤ w.heap.size) (hn : 0 < n) (hn2 : n ≤ 1000000) :
    Calls Tryz.prog 33 #[.agg #[.int .i64 k, .slice A n c]] w fun e w' => ∃ g c', e = .returned (.agg #[.int .i64 k, .slice (some ⟨g, 0, none⟩) n c']) ∧ w'.ownsRow w.heap.size 38 2 (.slice (some ⟨g, 0, none⟩) n c') n (ptcells l) ∧ Below w.heap.size w w' := by
  have HL := Lib.hid hl
  clear hl
  have HC := Lib.hid (fun W (hW : Below w.heap.size w W) => cloneP_any B n c A l W (HL.out.below (hW.mono hB)) (Nat.le_trans hB hW.size) hn hn2)
  try simp only [gP] at *
  go_enter Tryz.func33, Tryz.ntmps33
  go_wp2_with (go_at_call 47; (with_reducible refine (HC.out _ bel).mono ?_); rintro e w1 ⟨g, c', rfl, ho, hb1⟩; obtain ⟨hc1, hf1⟩ := bcell hb1; have hz1 := hb1.size; (try simp at hz1); have hx1 : w.heap.size < w1.heap.size := (by omega); have hx2 : w.heap.size + 1 < w1.heap.size := (by omega); have HO := Lib.hid ho; clear ho; have hBx : Blk w1 w.heap.size 49 #[.int .i64 k, .slice A n c] := blkA; have cx0 := hBx.cell 0; have cx1 := hBx.cell 1; simp only [List.getElem?_toArray, List.getElem?_cons_zero, List.getElem?_cons_succ] at cx0 cx1)
  have h1 : w1.ownsRow w.heap.size 38 2 (.slice (some ⟨g, 0, none⟩) n c') n (ptcells l) := own_lower HO.out (by simp; omega)
  have hg0 := (HO.out.lt g rfl).1
  simp at hg0
  refine post_genG (fun w2 => Blk w2 (w.heap.size + 1) 49 #[.int .i64 k, .slice (some ⟨g, 0, none⟩) n c'] ∧ w2.ownsRow w.heap.size 38 2 (.slice (some ⟨g, 0, none⟩) n c') n (ptcells l) ∧ Below w.heap.size w w2) ⟨?_, ?_, bel⟩ ?_
  · exact two_putG (x := .int .i64 0) (y := .slice none 0 0) blkA
  · repeat (first | with_reducible assumption | (refine own_kept ?_ (grown_set _ _ _) ?_; rotate_left; focus (intro k hk hq; simp [Value.ownBlock] at hk hq; omega)))
  rintro w2 ⟨HR, hO2, hb2⟩
  have r0 := HR.cell 0
  have r1 := HR.cell 1
  simp only [List.getElem?_toArray, List.getElem?_cons_zero, List.getElem?_cons_succ] at r0 r1
  exact bodyPost_ret (v := .agg #[.int .i64 k, .slice (some ⟨g, 0, none⟩) n c']) (by simp [results, Tryz.results33, go_sem, r0, r1]) rfl ⟨_, _, rfl, hO2, hb2⟩

section
variable {w : World} {own imm : Nat → Prop} {tb mb : Nat} {cl : Value} {t : Tr} {H : Nat → Prop} {L L' : Int → Prop}
end
theorem Tryz.infoEnG : (Tryz.prog.info? 102).map (fun i => (i.zero, i.size, i.bytes)) = some (some (.agg #[.slice none 0 0, .int .i64 0, .pointer none]), 3, 40) := by kernel_rfl
end Go.Proofs.YtkfbkfcmdfpfjaaGreatDoor
