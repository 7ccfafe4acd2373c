/-
  Region 12 of the statement HullClose, walked in each order that Go leaves open (printed by a program of mine, wip/genT.py).
-/
import Derived.Test.YtmliljdbpkikpaaGreatDoorHulI
import Derived.Test.YtmliljdbpkikpaaGreatDoorHulH
import Derived.Test.YtmliljdbpkikpaaGreatDoorAppP
set_option linter.unusedSimpArgs false
set_option linter.unusedVariables false
namespace Go.Proofs.YtmliljdbpkikpaaGreatDoor
open Go.RowKit Pg
theorem pts_atC {w : World} {B n b off m : Nat} {l : List Pt} (hl : PtsAt w B (some ⟨b, off, none⟩) n l) (hm : m < n) :
    w.cell? ⟨b, off + m * 2, none⟩ = some (.int .i64 (pt l m).x) ∧ w.cell? ⟨b, off + m * 2 + 1, none⟩ = some (.int .i64 (pt l m).y) := by
  obtain ⟨b', o', e, _, c0, c1⟩ := hl.at_ hm
  injection e with e
  injection e with e1 e2
  subst e1 e2
  exact ⟨c0, c1⟩

set_option maxHeartbeats 4000000 in
set_option maxRecDepth 20000 in
theorem hc_tailA {s0 s2 s7 s8 s9 : Value} {w : World} {g : Nat} {W : World} {Q : Exit → Act → World → Prop} {L : List Oper} {b off n c r : Nat} {l : List Pt} {I J : Nat} {x2 x3 x4 x5 x6 x7 x8 x9 x10 x11 x12 x13 x14 x15 x16 x17 x19 x20 x21 x22 x23 x24 x25 x26 x27 x28 x29 x30 x31 x32 x33 x34 x35 x36 x37 x38 x39 x40 x41 x42 x43 x44 x45 x46 x47 x48 x49 x50 x51 x52 x53 x54 x55 x56 x57 x58 x59 x60 x61 x62 x63 x64 x65 x66 x67 x68 x69 x70 x71 x72 x73 x74 x75 x76 x77 x78 x79 x80 x81 x82 x83 x84 x85 x86 x87 x88 x89 x90 x91 x92 x93 x94 x95 x106 x107 x108 x109 x110 x111 x112 x113 x114 x115 x116 x117 x118 x119 x120 x121 x122 x123 x124 : Value} (hQQ : Shut (∀ a' w', (∃ (s0 s2 s7 s8 s9 : Value) (g : Nat), a' = ⟨#[.slice (some ⟨b, off, none⟩) n c, .int .i64 r, x2, x3, x4, x5, x6, x7, x8, x9, x10, x11, x12, x13, x14, x15, .int .i64 I, .int .i64 J, .pointer (some ⟨g, 0, none⟩), .nilIface, x20, x21, x22, x23, x24, x25, x26, x27, x28, x29, x30, x31, x32, x33, x34, x35, x36, x37, x38, x39, x40, x41, x42, x43, x44, x45, x46, x47, x48, x49, x50, x51, x52, x53, x54, x55, x56, x57, x58, x59, x60, x61, x62, x63, x64, x65, x66, x67, x68, x69, x70, x71, x72, x73, x74, x75, x76, x77, x78, x79, x80, x81, x82, x83, x84, x85, x86, x87, x88, x89, x90, x91, x92, x93, x94, .tuple #[.int .i64 I, .int .i64 J, .agg #[.int .u64 0, .int .u64 0, .int .u64 1], .nilIface], s0, .slice (some ⟨b, off, none⟩) n c, s2, .slice (some ⟨b, off, none⟩) n c, .int .i64 r, s9, .agg #[.int .i64 (pt l r).x, .int .i64 (pt l r).y], s7, s8, .tuple #[.int .i64 I, .int .i64 J, .agg #[.int .u64 0, .int .u64 0, .int .u64 1], .nilIface], .int .i64 I, .int .i64 J, .agg #[.int .u64 0, .int .u64 0, .int .u64 1], .nilIface, x110, x111, x112, x113, x114, x115, x116, x117, x118, x119, x120, x121, x122, x123, x124], []⟩ ∧ Blk w' g 27 #[.int .u64 0, .int .u64 0, .int .u64 1] ∧ Below W.heap.size W w') → Q .normal a' w')) (oo10 : OpAt L 10 ⟨some 95, .move (.tmp 105), 30, "", #[], none⟩) (oo11 : OpAt L 11 ⟨some 106, .extract (.tmp 95) 0, 3, "", #[], none⟩) (oo12 : OpAt L 12 ⟨some 107, .extract (.tmp 95) 1, 3, "", #[], none⟩) (oo13 : OpAt L 13 ⟨some 108, .extract (.tmp 95) 2, 27, "", #[], none⟩) (oo14 : OpAt L 14 ⟨some 109, .extract (.tmp 95) 3, 29, "", #[], none⟩) (oo16 : OpAt L 16 ⟨some 16, .assign (.tmp 106), 3, "", #[], none⟩) (oo17 : OpAt L 17 ⟨some 17, .assign (.tmp 107), 3, "", #[], none⟩) (oo18 : OpAt L 18 ⟨none, .store 27 (.tmp 18) (.tmp 108), 0, "", #[], none⟩) (oo19 : OpAt L 19 ⟨some 19, .assign (.tmp 109), 29, "", #[], none⟩) (hgW : W.heap.size ≤ g) (hg : Blk w g 27 #[.int .u64 0, .int .u64 0, .int .u64 0]) (hb : Below W.heap.size W w) :
    treeL Tryz.prog Q (fun w' => Below W.heap.size W w') L (.one 10 (.one 11 (.one 12 (.one 13 (.one 14 (.one 16 (.one 17 (.one 18 (.one 19 .done))))))))) ⟨#[.slice (some ⟨b, off, none⟩) n c, .int .i64 r, x2, x3, x4, x5, x6, x7, x8, x9, x10, x11, x12, x13, x14, x15, x16, x17, .pointer (some ⟨g, 0, none⟩), x19, x20, x21, x22, x23, x24, x25, x26, x27, x28, x29, x30, x31, x32, x33, x34, x35, x36, x37, x38, x39, x40, x41, x42, x43, x44, x45, x46, x47, x48, x49, x50, x51, x52, x53, x54, x55, x56, x57, x58, x59, x60, x61, x62, x63, x64, x65, x66, x67, x68, x69, x70, x71, x72, x73, x74, x75, x76, x77, x78, x79, x80, x81, x82, x83, x84, x85, x86, x87, x88, x89, x90, x91, x92, x93, x94, x95, s0, .slice (some ⟨b, off, none⟩) n c, s2, .slice (some ⟨b, off, none⟩) n c, .int .i64 r, s9, .agg #[.int .i64 (pt l r).x, .int .i64 (pt l r).y], s7, s8, .tuple #[.int .i64 I, .int .i64 J, .agg #[.int .u64 0, .int .u64 0, .int .u64 1], .nilIface], x106, x107, x108, x109, x110, x111, x112, x113, x114, x115, x116, x117, x118, x119, x120, x121, x122, x123, x124], []⟩ w := by
  have hbz := hb.size
  have cg := hg.cell
  have fg := hg.frozen
  have lg := hg.lt
  refine tree_quiet (v := ?_) oo10 rfl ?_ ?_; rotate_left; focus (intro wq hq; obtain ⟨hcq, hfq⟩ := bcell hq; go_simp; try with_reducible rfl)
  (try simp only [Act.put, List.setIfInBounds_toArray, List.set_cons_zero, List.set_cons_succ])
  refine tree_quiet (v := ?_) oo11 rfl ?_ ?_; rotate_left; focus (intro wq hq; obtain ⟨hcq, hfq⟩ := bcell hq; go_simp; try with_reducible rfl)
  (try simp only [Act.put, List.setIfInBounds_toArray, List.set_cons_zero, List.set_cons_succ])
  refine tree_quiet (v := ?_) oo12 rfl ?_ ?_; rotate_left; focus (intro wq hq; obtain ⟨hcq, hfq⟩ := bcell hq; go_simp; try with_reducible rfl)
  (try simp only [Act.put, List.setIfInBounds_toArray, List.set_cons_zero, List.set_cons_succ])
  refine tree_quiet (v := ?_) oo13 rfl ?_ ?_; rotate_left; focus (intro wq hq; obtain ⟨hcq, hfq⟩ := bcell hq; go_simp; try with_reducible rfl)
  (try simp only [Act.put, List.setIfInBounds_toArray, List.set_cons_zero, List.set_cons_succ])
  refine tree_quiet (v := ?_) oo14 rfl ?_ ?_; rotate_left; focus (intro wq hq; obtain ⟨hcq, hfq⟩ := bcell hq; go_simp; try with_reducible rfl)
  (try simp only [Act.put, List.setIfInBounds_toArray, List.set_cons_zero, List.set_cons_succ])
  refine tree_quiet (v := ?_) oo16 rfl ?_ ?_; rotate_left; focus (intro wq hq; obtain ⟨hcq, hfq⟩ := bcell hq; go_simp; try with_reducible rfl)
  (try simp only [Act.put, List.setIfInBounds_toArray, List.set_cons_zero, List.set_cons_succ])
  refine tree_quiet (v := ?_) oo17 rfl ?_ ?_; rotate_left; focus (intro wq hq; obtain ⟨hcq, hfq⟩ := bcell hq; go_simp; try with_reducible rfl)
  (try simp only [Act.put, List.setIfInBounds_toArray, List.set_cons_zero, List.set_cons_succ])
  refine tree_one ?_
  refine tree_loud oo18 rfl (fun K hK => ?_)
  go_simp
  refine hK.out _ _ (by repeat (first | with_reducible exact Below.refl _ _ | with_reducible assumption | with_reducible refine al ?_ _ | with_reducible refine Below.drew ?_ | with_reducible refine Below.setCell ?_ (by first | (simp; done) | (simp; omega)) _ | with_reducible refine tr ?_ (by with_reducible assumption))) ?_
  clear hK K
  (try simp only [Act.put, List.setIfInBounds_toArray, List.set_cons_zero, List.set_cons_succ])
  refine tree_quiet (v := ?_) oo19 rfl ?_ ?_; rotate_left; focus (intro wq hq; obtain ⟨hcq, hfq⟩ := bcell hq; go_simp; try with_reducible rfl)
  (try simp only [Act.put, List.setIfInBounds_toArray, List.set_cons_zero, List.set_cons_succ])
  refine tree_done hQQ ⟨?_, ?_, ?_, ?_, ?_, ?_, ?_, ?_, ?_⟩
  rotate_left 6
  · rfl
  · exact (by repeat (first | with_reducible exact three_put (x := .int .u64 0) (y := .int .u64 0) (z := .int .u64 0) (by repeat (first | with_reducible assumption | with_reducible exact Blk.new (by simp) rfl | with_reducible refine Blk.alloc ?_ _ | with_reducible refine Blk.drew ?_ | with_reducible refine Blk.far ?_ (by first | (simp; done) | (simp; omega)) _ | with_reducible refine Blk.tr ?_ (by with_reducible assumption))) | (with_reducible refine Blk.new ?_ rfl; focus (simp; done)) | with_reducible refine Blk.alloc ?_ _ | with_reducible refine Blk.drew ?_))
  · exact (by repeat (first | with_reducible exact Below.refl _ _ | with_reducible assumption | with_reducible refine al ?_ _ | with_reducible refine Below.drew ?_ | with_reducible refine Below.setCell ?_ (by first | (simp; done) | (simp; omega)) _ | with_reducible refine tr ?_ (by with_reducible assumption)))

set_option maxHeartbeats 4000000 in
set_option maxRecDepth 20000 in
theorem hc_tailB {s0 s2 s7 s8 s9 : Value} {w : World}  {W : World} {Q : Exit → Act → World → Prop} {L : List Oper} {b off n c r : Nat} {l : List Pt} {I J : Nat} {x2 x3 x4 x5 x6 x7 x8 x9 x10 x11 x12 x13 x14 x15 x16 x17 x18 x19 x20 x21 x22 x23 x24 x25 x26 x27 x28 x29 x30 x31 x32 x33 x34 x35 x36 x37 x38 x39 x40 x41 x42 x43 x44 x45 x46 x47 x48 x49 x50 x51 x52 x53 x54 x55 x56 x57 x58 x59 x60 x61 x62 x63 x64 x65 x66 x67 x68 x69 x70 x71 x72 x73 x74 x75 x76 x77 x78 x79 x80 x81 x82 x83 x84 x85 x86 x87 x88 x89 x90 x91 x92 x93 x94 x95 x106 x107 x108 x109 x110 x111 x112 x113 x114 x115 x116 x117 x118 x119 x120 x121 x122 x123 x124 : Value} (hQQ : Shut (∀ a' w', (∃ (s0 s2 s7 s8 s9 : Value) (g : Nat), a' = ⟨#[.slice (some ⟨b, off, none⟩) n c, .int .i64 r, x2, x3, x4, x5, x6, x7, x8, x9, x10, x11, x12, x13, x14, x15, .int .i64 I, .int .i64 J, .pointer (some ⟨g, 0, none⟩), .nilIface, x20, x21, x22, x23, x24, x25, x26, x27, x28, x29, x30, x31, x32, x33, x34, x35, x36, x37, x38, x39, x40, x41, x42, x43, x44, x45, x46, x47, x48, x49, x50, x51, x52, x53, x54, x55, x56, x57, x58, x59, x60, x61, x62, x63, x64, x65, x66, x67, x68, x69, x70, x71, x72, x73, x74, x75, x76, x77, x78, x79, x80, x81, x82, x83, x84, x85, x86, x87, x88, x89, x90, x91, x92, x93, x94, .tuple #[.int .i64 I, .int .i64 J, .agg #[.int .u64 0, .int .u64 0, .int .u64 1], .nilIface], s0, .slice (some ⟨b, off, none⟩) n c, s2, .slice (some ⟨b, off, none⟩) n c, .int .i64 r, s9, .agg #[.int .i64 (pt l r).x, .int .i64 (pt l r).y], s7, s8, .tuple #[.int .i64 I, .int .i64 J, .agg #[.int .u64 0, .int .u64 0, .int .u64 1], .nilIface], .int .i64 I, .int .i64 J, .agg #[.int .u64 0, .int .u64 0, .int .u64 1], .nilIface, x110, x111, x112, x113, x114, x115, x116, x117, x118, x119, x120, x121, x122, x123, x124], []⟩ ∧ Blk w' g 27 #[.int .u64 0, .int .u64 0, .int .u64 1] ∧ Below W.heap.size W w') → Q .normal a' w')) (oo10 : OpAt L 10 ⟨some 95, .move (.tmp 105), 30, "", #[], none⟩) (oo11 : OpAt L 11 ⟨some 106, .extract (.tmp 95) 0, 3, "", #[], none⟩) (oo12 : OpAt L 12 ⟨some 107, .extract (.tmp 95) 1, 3, "", #[], none⟩) (oo13 : OpAt L 13 ⟨some 108, .extract (.tmp 95) 2, 27, "", #[], none⟩) (oo14 : OpAt L 14 ⟨some 109, .extract (.tmp 95) 3, 29, "", #[], none⟩) (oo15 : OpAt L 15 ⟨some 18, .alloc 27, 0, "", #[], none⟩) (oo16 : OpAt L 16 ⟨some 16, .assign (.tmp 106), 3, "", #[], none⟩) (oo17 : OpAt L 17 ⟨some 17, .assign (.tmp 107), 3, "", #[], none⟩) (oo18 : OpAt L 18 ⟨none, .store 27 (.tmp 18) (.tmp 108), 0, "", #[], none⟩) (oo19 : OpAt L 19 ⟨some 19, .assign (.tmp 109), 29, "", #[], none⟩)  (hb : Below W.heap.size W w) :
    treeL Tryz.prog Q (fun w' => Below W.heap.size W w') L (.one 10 (.one 11 (.one 12 (.one 13 (.one 14 (.one 15 (.one 16 (.one 17 (.one 18 (.one 19 .done)))))))))) ⟨#[.slice (some ⟨b, off, none⟩) n c, .int .i64 r, x2, x3, x4, x5, x6, x7, x8, x9, x10, x11, x12, x13, x14, x15, x16, x17, x18, x19, x20, x21, x22, x23, x24, x25, x26, x27, x28, x29, x30, x31, x32, x33, x34, x35, x36, x37, x38, x39, x40, x41, x42, x43, x44, x45, x46, x47, x48, x49, x50, x51, x52, x53, x54, x55, x56, x57, x58, x59, x60, x61, x62, x63, x64, x65, x66, x67, x68, x69, x70, x71, x72, x73, x74, x75, x76, x77, x78, x79, x80, x81, x82, x83, x84, x85, x86, x87, x88, x89, x90, x91, x92, x93, x94, x95, s0, .slice (some ⟨b, off, none⟩) n c, s2, .slice (some ⟨b, off, none⟩) n c, .int .i64 r, s9, .agg #[.int .i64 (pt l r).x, .int .i64 (pt l r).y], s7, s8, .tuple #[.int .i64 I, .int .i64 J, .agg #[.int .u64 0, .int .u64 0, .int .u64 1], .nilIface], x106, x107, x108, x109, x110, x111, x112, x113, x114, x115, x116, x117, x118, x119, x120, x121, x122, x123, x124], []⟩ w := by
  have hbz := hb.size
  refine tree_quiet (v := ?_) oo10 rfl ?_ ?_; rotate_left; focus (intro wq hq; obtain ⟨hcq, hfq⟩ := bcell hq; go_simp; try with_reducible rfl)
  (try simp only [Act.put, List.setIfInBounds_toArray, List.set_cons_zero, List.set_cons_succ])
  refine tree_quiet (v := ?_) oo11 rfl ?_ ?_; rotate_left; focus (intro wq hq; obtain ⟨hcq, hfq⟩ := bcell hq; go_simp; try with_reducible rfl)
  (try simp only [Act.put, List.setIfInBounds_toArray, List.set_cons_zero, List.set_cons_succ])
  refine tree_quiet (v := ?_) oo12 rfl ?_ ?_; rotate_left; focus (intro wq hq; obtain ⟨hcq, hfq⟩ := bcell hq; go_simp; try with_reducible rfl)
  (try simp only [Act.put, List.setIfInBounds_toArray, List.set_cons_zero, List.set_cons_succ])
  refine tree_quiet (v := ?_) oo13 rfl ?_ ?_; rotate_left; focus (intro wq hq; obtain ⟨hcq, hfq⟩ := bcell hq; go_simp; try with_reducible rfl)
  (try simp only [Act.put, List.setIfInBounds_toArray, List.set_cons_zero, List.set_cons_succ])
  refine tree_quiet (v := ?_) oo14 rfl ?_ ?_; rotate_left; focus (intro wq hq; obtain ⟨hcq, hfq⟩ := bcell hq; go_simp; try with_reducible rfl)
  (try simp only [Act.put, List.setIfInBounds_toArray, List.set_cons_zero, List.set_cons_succ])
  refine tree_one ?_
  refine tree_loud oo15 rfl (fun K hK => ?_)
  go_simp
  refine hK.out _ _ (by repeat (first | with_reducible exact Below.refl _ _ | with_reducible assumption | with_reducible refine al ?_ _ | with_reducible refine Below.drew ?_ | with_reducible refine Below.setCell ?_ (by first | (simp; done) | (simp; omega)) _ | with_reducible refine tr ?_ (by with_reducible assumption))) ?_
  clear hK K
  (try simp only [Act.put, List.setIfInBounds_toArray, List.set_cons_zero, List.set_cons_succ])
  refine tree_quiet (v := ?_) oo16 rfl ?_ ?_; rotate_left; focus (intro wq hq; obtain ⟨hcq, hfq⟩ := bcell hq; go_simp; try with_reducible rfl)
  (try simp only [Act.put, List.setIfInBounds_toArray, List.set_cons_zero, List.set_cons_succ])
  refine tree_quiet (v := ?_) oo17 rfl ?_ ?_; rotate_left; focus (intro wq hq; obtain ⟨hcq, hfq⟩ := bcell hq; go_simp; try with_reducible rfl)
  (try simp only [Act.put, List.setIfInBounds_toArray, List.set_cons_zero, List.set_cons_succ])
  refine tree_one ?_
  refine tree_loud oo18 rfl (fun K hK => ?_)
  go_simp
  refine hK.out _ _ (by repeat (first | with_reducible exact Below.refl _ _ | with_reducible assumption | with_reducible refine al ?_ _ | with_reducible refine Below.drew ?_ | with_reducible refine Below.setCell ?_ (by first | (simp; done) | (simp; omega)) _ | with_reducible refine tr ?_ (by with_reducible assumption))) ?_
  clear hK K
  (try simp only [Act.put, List.setIfInBounds_toArray, List.set_cons_zero, List.set_cons_succ])
  refine tree_quiet (v := ?_) oo19 rfl ?_ ?_; rotate_left; focus (intro wq hq; obtain ⟨hcq, hfq⟩ := bcell hq; go_simp; try with_reducible rfl)
  (try simp only [Act.put, List.setIfInBounds_toArray, List.set_cons_zero, List.set_cons_succ])
  refine tree_done hQQ ⟨?_, ?_, ?_, ?_, ?_, ?_, ?_, ?_, ?_⟩
  rotate_left 6
  · rfl
  · exact (by repeat (first | with_reducible exact three_put (x := .int .u64 0) (y := .int .u64 0) (z := .int .u64 0) (by repeat (first | with_reducible assumption | with_reducible exact Blk.new (by simp) rfl | with_reducible refine Blk.alloc ?_ _ | with_reducible refine Blk.drew ?_ | with_reducible refine Blk.far ?_ (by first | (simp; done) | (simp; omega)) _ | with_reducible refine Blk.tr ?_ (by with_reducible assumption))) | (with_reducible refine Blk.new ?_ rfl; focus (simp; done)) | with_reducible refine Blk.alloc ?_ _ | with_reducible refine Blk.drew ?_))
  · exact (by repeat (first | with_reducible exact Below.refl _ _ | with_reducible assumption | with_reducible refine al ?_ _ | with_reducible refine Below.drew ?_ | with_reducible refine Below.setCell ?_ (by first | (simp; done) | (simp; omega)) _ | with_reducible refine tr ?_ (by with_reducible assumption)))

set_option maxHeartbeats 8000000 in
set_option maxRecDepth 20000 in
theorem hc_tree {W : World} {Q : Exit → Act → World → Prop} {L : List Oper} {b off n c r : Nat} {l : List Pt} {I J : Nat} {x2 x3 x4 x5 x6 x7 x8 x9 x10 x11 x12 x13 x14 x15 x16 x17 x18 x19 x20 x21 x22 x23 x24 x25 x26 x27 x28 x29 x30 x31 x32 x33 x34 x35 x36 x37 x38 x39 x40 x41 x42 x43 x44 x45 x46 x47 x48 x49 x50 x51 x52 x53 x54 x55 x56 x57 x58 x59 x60 x61 x62 x63 x64 x65 x66 x67 x68 x69 x70 x71 x72 x73 x74 x75 x76 x77 x78 x79 x80 x81 x82 x83 x84 x85 x86 x87 x88 x89 x90 x91 x92 x93 x94 x95 x96 x97 x98 x99 x100 x101 x102 x103 x104 x105 x106 x107 x108 x109 x110 x111 x112 x113 x114 x115 x116 x117 x118 x119 x120 x121 x122 x123 x124 : Value} (hQQ : Shut (∀ a' w', (∃ (s0 s2 s7 s8 s9 : Value) (g : Nat), a' = ⟨#[.slice (some ⟨b, off, none⟩) n c, .int .i64 r, x2, x3, x4, x5, x6, x7, x8, x9, x10, x11, x12, x13, x14, x15, .int .i64 I, .int .i64 J, .pointer (some ⟨g, 0, none⟩), .nilIface, x20, x21, x22, x23, x24, x25, x26, x27, x28, x29, x30, x31, x32, x33, x34, x35, x36, x37, x38, x39, x40, x41, x42, x43, x44, x45, x46, x47, x48, x49, x50, x51, x52, x53, x54, x55, x56, x57, x58, x59, x60, x61, x62, x63, x64, x65, x66, x67, x68, x69, x70, x71, x72, x73, x74, x75, x76, x77, x78, x79, x80, x81, x82, x83, x84, x85, x86, x87, x88, x89, x90, x91, x92, x93, x94, .tuple #[.int .i64 I, .int .i64 J, .agg #[.int .u64 0, .int .u64 0, .int .u64 1], .nilIface], s0, .slice (some ⟨b, off, none⟩) n c, s2, .slice (some ⟨b, off, none⟩) n c, .int .i64 r, s9, .agg #[.int .i64 (pt l r).x, .int .i64 (pt l r).y], s7, s8, .tuple #[.int .i64 I, .int .i64 J, .agg #[.int .u64 0, .int .u64 0, .int .u64 1], .nilIface], .int .i64 I, .int .i64 J, .agg #[.int .u64 0, .int .u64 0, .int .u64 1], .nilIface, x110, x111, x112, x113, x114, x115, x116, x117, x118, x119, x120, x121, x122, x123, x124], []⟩ ∧ Blk w' g 27 #[.int .u64 0, .int .u64 0, .int .u64 1] ∧ Below W.heap.size W w') → Q .normal a' w')) (oo0 : OpAt L 0 ⟨some 96, .buildSlice 22 0 #[], 22, "", #[], none⟩) (oo1 : OpAt L 1 ⟨some 97, .move (.tmp 0), 22, "", #[], none⟩) (oo2 : OpAt L 2 ⟨some 98, .call { callee := .builtin .append, args := #[.tmp 96, .tmp 97], argTypes := #[22, 22] }, 22, "", #[], none⟩) (oo3 : OpAt L 3 ⟨some 99, .move (.tmp 0), 22, "", #[], none⟩) (oo4 : OpAt L 4 ⟨some 100, .move (.tmp 1), 3, "", #[], none⟩) (oo5 : OpAt L 5 ⟨some 101, .indexAddr 22 (.tmp 99) (.tmp 100), 0, "", #[], none⟩) (oo6 : OpAt L 6 ⟨some 102, .load 35 (.tmp 101), 35, "", #[], none⟩) (oo7 : OpAt L 7 ⟨some 103, .buildSlice 22 1 #[(0, .tmp 102)], 22, "", #[], none⟩) (oo8 : OpAt L 8 ⟨some 104, .call { callee := .builtin .append, args := #[.tmp 98, .tmp 103], argTypes := #[22, 22] }, 22, "", #[], none⟩) (oo9 : OpAt L 9 ⟨some 105, .call { callee := .value (.func 7), args := #[.tmp 104], argTypes := #[22] }, 30, "", #[], none⟩) (oo10 : OpAt L 10 ⟨some 95, .move (.tmp 105), 30, "", #[], none⟩) (oo11 : OpAt L 11 ⟨some 106, .extract (.tmp 95) 0, 3, "", #[], none⟩) (oo12 : OpAt L 12 ⟨some 107, .extract (.tmp 95) 1, 3, "", #[], none⟩) (oo13 : OpAt L 13 ⟨some 108, .extract (.tmp 95) 2, 27, "", #[], none⟩) (oo14 : OpAt L 14 ⟨some 109, .extract (.tmp 95) 3, 29, "", #[], none⟩) (oo15 : OpAt L 15 ⟨some 18, .alloc 27, 0, "", #[], none⟩) (oo16 : OpAt L 16 ⟨some 16, .assign (.tmp 106), 3, "", #[], none⟩) (oo17 : OpAt L 17 ⟨some 17, .assign (.tmp 107), 3, "", #[], none⟩) (oo18 : OpAt L 18 ⟨none, .store 27 (.tmp 18) (.tmp 108), 0, "", #[], none⟩) (oo19 : OpAt L 19 ⟨some 19, .assign (.tmp 109), 29, "", #[], none⟩) {m : List Pt} (hmm : l ++ [pt l r] = m) (hr : r < n) (hn : n ≤ 1000) (HL : PtsAt W W.heap.size (some ⟨b, off, none⟩) n l)
    (HC : Hid (∀ (B0 g c0 : Nat) (W : World), W.ownsRow B0 35 2 (.slice (some ⟨g, 0, none⟩) (n + 1) c0) (n + 1) (ptcells m) → Calls Tryz.prog 7 #[.slice (some ⟨g, 0, none⟩) (n + 1) c0] W fun e w' => e = .returned (.tuple #[.int .i64 I, .int .i64 J, .agg #[.int .u64 0, .int .u64 0, .int .u64 1], .nilIface]) ∧ Below W.heap.size W w')) :
    treeL Tryz.prog Q (fun w' => Below W.heap.size W w') L (.one 1 (.one 3 (.one 4 (.one 5 (.one 6 (.three 0 7 15 (.three 2 7 15 (.two 7 15 (.two 8 15 (.two 9 15 (.one 10 (.one 11 (.one 12 (.one 13 (.one 14 (.one 15 (.one 16 (.one 17 (.one 18 (.one 19 .done)))))))))) (.one 9 (.one 10 (.one 11 (.one 12 (.one 13 (.one 14 (.one 16 (.one 17 (.one 18 (.one 19 .done))))))))))) (.one 8 (.one 9 (.one 10 (.one 11 (.one 12 (.one 13 (.one 14 (.one 16 (.one 17 (.one 18 (.one 19 .done)))))))))))) (.one 7 (.one 8 (.one 9 (.one 10 (.one 11 (.one 12 (.one 13 (.one 14 (.one 16 (.one 17 (.one 18 (.one 19 .done))))))))))))) (.two 2 15 (.two 8 15 (.two 9 15 (.one 10 (.one 11 (.one 12 (.one 13 (.one 14 (.one 15 (.one 16 (.one 17 (.one 18 (.one 19 .done)))))))))) (.one 9 (.one 10 (.one 11 (.one 12 (.one 13 (.one 14 (.one 16 (.one 17 (.one 18 (.one 19 .done))))))))))) (.one 8 (.one 9 (.one 10 (.one 11 (.one 12 (.one 13 (.one 14 (.one 16 (.one 17 (.one 18 (.one 19 .done)))))))))))) (.one 2 (.one 8 (.one 9 (.one 10 (.one 11 (.one 12 (.one 13 (.one 14 (.one 16 (.one 17 (.one 18 (.one 19 .done))))))))))))) (.two 2 7 (.one 7 (.one 8 (.one 9 (.one 10 (.one 11 (.one 12 (.one 13 (.one 14 (.one 16 (.one 17 (.one 18 (.one 19 .done)))))))))))) (.one 2 (.one 8 (.one 9 (.one 10 (.one 11 (.one 12 (.one 13 (.one 14 (.one 16 (.one 17 (.one 18 (.one 19 .done)))))))))))))) (.two 0 15 (.two 2 15 (.two 8 15 (.two 9 15 (.one 10 (.one 11 (.one 12 (.one 13 (.one 14 (.one 15 (.one 16 (.one 17 (.one 18 (.one 19 .done)))))))))) (.one 9 (.one 10 (.one 11 (.one 12 (.one 13 (.one 14 (.one 16 (.one 17 (.one 18 (.one 19 .done))))))))))) (.one 8 (.one 9 (.one 10 (.one 11 (.one 12 (.one 13 (.one 14 (.one 16 (.one 17 (.one 18 (.one 19 .done)))))))))))) (.one 2 (.one 8 (.one 9 (.one 10 (.one 11 (.one 12 (.one 13 (.one 14 (.one 16 (.one 17 (.one 18 (.one 19 .done))))))))))))) (.one 0 (.one 2 (.one 8 (.one 9 (.one 10 (.one 11 (.one 12 (.one 13 (.one 14 (.one 16 (.one 17 (.one 18 (.one 19 .done)))))))))))))) (.two 0 7 (.two 2 7 (.one 7 (.one 8 (.one 9 (.one 10 (.one 11 (.one 12 (.one 13 (.one 14 (.one 16 (.one 17 (.one 18 (.one 19 .done)))))))))))) (.one 2 (.one 8 (.one 9 (.one 10 (.one 11 (.one 12 (.one 13 (.one 14 (.one 16 (.one 17 (.one 18 (.one 19 .done))))))))))))) (.one 0 (.one 2 (.one 8 (.one 9 (.one 10 (.one 11 (.one 12 (.one 13 (.one 14 (.one 16 (.one 17 (.one 18 (.one 19 .done)))))))))))))))))))) ⟨#[.slice (some ⟨b, off, none⟩) n c, .int .i64 r, x2, x3, x4, x5, x6, x7, x8, x9, x10, x11, x12, x13, x14, x15, x16, x17, x18, x19, x20, x21, x22, x23, x24, x25, x26, x27, x28, x29, x30, x31, x32, x33, x34, x35, x36, x37, x38, x39, x40, x41, x42, x43, x44, x45, x46, x47, x48, x49, x50, x51, x52, x53, x54, x55, x56, x57, x58, x59, x60, x61, x62, x63, x64, x65, x66, x67, x68, x69, x70, x71, x72, x73, x74, x75, x76, x77, x78, x79, x80, x81, x82, x83, x84, x85, x86, x87, x88, x89, x90, x91, x92, x93, x94, x95, x96, x97, x98, x99, x100, x101, x102, x103, x104, x105, x106, x107, x108, x109, x110, x111, x112, x113, x114, x115, x116, x117, x118, x119, x120, x121, x122, x123, x124], []⟩ W.drew := by
  obtain ⟨e0, e1⟩ := pts_atC HL hr
  have hbw : b < W.heap.size := by obtain ⟨b2, o2, e, hh, _⟩ := HL.at_ hr; cases e; exact hh
  have hr1 : (r : Int) < (n : Int) := by omega
  refine tree_quiet (v := ?_) oo1 rfl ?_ ?_; rotate_left; focus (intro wq hq; obtain ⟨hcq, hfq⟩ := bcell hq; go_simp; try with_reducible rfl)
  (try simp only [Act.put, List.setIfInBounds_toArray, List.set_cons_zero, List.set_cons_succ])
  refine tree_quiet (v := ?_) oo3 rfl ?_ ?_; rotate_left; focus (intro wq hq; obtain ⟨hcq, hfq⟩ := bcell hq; go_simp; try with_reducible rfl)
  (try simp only [Act.put, List.setIfInBounds_toArray, List.set_cons_zero, List.set_cons_succ])
  refine tree_quiet (v := ?_) oo4 rfl ?_ ?_; rotate_left; focus (intro wq hq; obtain ⟨hcq, hfq⟩ := bcell hq; go_simp; try with_reducible rfl)
  (try simp only [Act.put, List.setIfInBounds_toArray, List.set_cons_zero, List.set_cons_succ])
  refine tree_quiet (v := ?_) oo5 rfl ?_ ?_; rotate_left; focus (intro wq hq; obtain ⟨hcq, hfq⟩ := bcell hq; go_simp; try with_reducible rfl)
  (try simp only [Act.put, List.setIfInBounds_toArray, List.set_cons_zero, List.set_cons_succ])
  refine tree_quiet (v := ?_) oo6 rfl ?_ ?_; rotate_left; focus (intro wq hq; obtain ⟨hcq, hfq⟩ := bcell hq; go_simp; try with_reducible rfl)
  (try simp only [Act.put, List.setIfInBounds_toArray, List.set_cons_zero, List.set_cons_succ])
  refine tree_three ?_ ?_ ?_
  · refine tree_loud oo0 rfl (fun K hK => ?_)
    go_simp
    refine hK.out _ _ (by repeat (first | with_reducible exact Below.refl _ _ | with_reducible assumption | with_reducible refine al ?_ _ | with_reducible refine Below.drew ?_ | with_reducible refine Below.setCell ?_ (by first | (simp; done) | (simp; omega)) _ | with_reducible refine tr ?_ (by with_reducible assumption))) ?_
    clear hK K
    (try simp only [Act.put, List.setIfInBounds_toArray, List.set_cons_zero, List.set_cons_succ])
    refine tree_three ?_ ?_ ?_
    · refine tree_loud oo2 rfl (fun K hK => ?_)
      refine app_lit _ _ W.heap.size _ b off n c l rfl rfl (by repeat (first | with_reducible assumption | with_reducible exact Blk.new (by simp) rfl | with_reducible refine Blk.alloc ?_ _ | with_reducible refine Blk.drew ?_ | with_reducible refine Blk.far ?_ (by first | (simp; done) | (simp; omega)) _ | with_reducible refine KeepT.blk (by with_reducible assumption) (by decide) ?_ | with_reducible refine Blk.grown ?_ (by with_reducible assumption) (by first | (simp; done) | (simp; omega)) | with_reducible refine Blk.tr ?_ (by with_reducible assumption))) ?_ rfl (HL.below (by repeat (first | with_reducible exact Below.refl _ _ | with_reducible assumption | with_reducible refine al ?_ _ | with_reducible refine Below.drew ?_ | with_reducible refine Below.setCell ?_ (by first | (simp; done) | (simp; omega)) _ | with_reducible refine tr ?_ (by with_reducible assumption)))) (by omega) (by omega) ?_
      · first | (simp; done) | (simp; omega) | omega
      intro v3 w3 hown3 hgr3 hkt3 hbx3
      have hb3 : Below W.heap.size W w3 := Below.trans (by repeat (first | with_reducible exact Below.refl _ _ | with_reducible assumption | with_reducible refine al ?_ _ | with_reducible refine Below.drew ?_ | with_reducible refine Below.setCell ?_ (by first | (simp; done) | (simp; omega)) _ | with_reducible refine tr ?_ (by with_reducible assumption))) hbx3
      have hz3 := hb3.size
      refine hK.out _ _ (by repeat (first | with_reducible exact Below.refl _ _ | with_reducible assumption | with_reducible refine al ?_ _ | with_reducible refine Below.drew ?_ | with_reducible refine Below.setCell ?_ (by first | (simp; done) | (simp; omega)) _ | with_reducible refine tr ?_ (by with_reducible assumption))) ?_
      clear hK K
      (try simp only [Act.put, List.setIfInBounds_toArray, List.set_cons_zero, List.set_cons_succ])
      refine tree_two ?_ ?_
      · refine tree_loud oo7 rfl (fun K hK => ?_)
        go_simp
        refine hK.out _ _ (by repeat (first | with_reducible exact Below.refl _ _ | with_reducible assumption | with_reducible refine al ?_ _ | with_reducible refine Below.drew ?_ | with_reducible refine Below.setCell ?_ (by first | (simp; done) | (simp; omega)) _ | with_reducible refine tr ?_ (by with_reducible assumption))) ?_
        clear hK K
        (try simp only [Act.put, List.setIfInBounds_toArray, List.set_cons_zero, List.set_cons_succ])
        refine tree_two ?_ ?_
        · refine tree_loud oo8 rfl (fun K hK => ?_)
          refine app_one _ _ W.heap.size _ n l v3 (pt l r) rfl rfl (by repeat (first | with_reducible assumption | with_reducible refine World.ownsRow.alloc ?_ _ | with_reducible refine owns_drew ?_)) rfl (by repeat (first | with_reducible assumption | with_reducible exact Blk.new (by simp) rfl | with_reducible refine Blk.alloc ?_ _ | with_reducible refine Blk.drew ?_ | with_reducible refine Blk.far ?_ (by first | (simp; done) | (simp; omega)) _ | with_reducible refine KeepT.blk (by with_reducible assumption) (by decide) ?_ | with_reducible refine Blk.grown ?_ (by with_reducible assumption) (by first | (simp; done) | (simp; omega)) | with_reducible refine Blk.tr ?_ (by with_reducible assumption))) ?_ (by omega) ?_
          · first | (simp; done) | (simp; omega) | omega
          intro v8 w8 hown8 hkt8 hbx8
          rw [hmm] at hown8
          obtain ⟨g8, c8, rfl⟩ := own_pos2 hown8 (by omega)
          have hb8 : Below W.heap.size W w8 := Below.trans (by repeat (first | with_reducible exact Below.refl _ _ | with_reducible assumption | with_reducible refine al ?_ _ | with_reducible refine Below.drew ?_ | with_reducible refine Below.setCell ?_ (by first | (simp; done) | (simp; omega)) _ | with_reducible refine tr ?_ (by with_reducible assumption))) hbx8
          have hz8 := hb8.size
          refine hK.out _ _ (by repeat (first | with_reducible exact Below.refl _ _ | with_reducible assumption | with_reducible refine al ?_ _ | with_reducible refine Below.drew ?_ | with_reducible refine Below.setCell ?_ (by first | (simp; done) | (simp; omega)) _ | with_reducible refine tr ?_ (by with_reducible assumption))) ?_
          clear hK K
          (try simp only [Act.put, List.setIfInBounds_toArray, List.set_cons_zero, List.set_cons_succ])
          refine tree_two ?_ ?_
          · refine tree_loud oo9 rfl (fun K hK => ?_)
            go_simp
            go_at_call 7
            with_reducible refine (HC.out W.heap.size _ _ _ (by repeat (first | with_reducible assumption | with_reducible refine World.ownsRow.alloc ?_ _ | with_reducible refine owns_drew ?_))).mono ?_
            rintro e w9 ⟨rfl, hb9⟩
            refine hK.out _ _ (by repeat (first | with_reducible exact Below.refl _ _ | with_reducible assumption | with_reducible refine al ?_ _ | with_reducible refine Below.drew ?_ | with_reducible refine Below.setCell ?_ (by first | (simp; done) | (simp; omega)) _ | with_reducible refine tr ?_ (by with_reducible assumption))) ?_
            clear hK K
            (try simp only [Act.put, List.setIfInBounds_toArray, List.set_cons_zero, List.set_cons_succ])
            exact hc_tailB hQQ oo10 oo11 oo12 oo13 oo14 oo15 oo16 oo17 oo18 oo19 (by repeat (first | with_reducible exact Below.refl _ _ | with_reducible assumption | with_reducible refine al ?_ _ | with_reducible refine Below.drew ?_ | with_reducible refine Below.setCell ?_ (by first | (simp; done) | (simp; omega)) _ | with_reducible refine tr ?_ (by with_reducible assumption)))
          · refine tree_loud oo15 rfl (fun K hK => ?_)
            go_simp
            refine hK.out _ _ (by repeat (first | with_reducible exact Below.refl _ _ | with_reducible assumption | with_reducible refine al ?_ _ | with_reducible refine Below.drew ?_ | with_reducible refine Below.setCell ?_ (by first | (simp; done) | (simp; omega)) _ | with_reducible refine tr ?_ (by with_reducible assumption))) ?_
            clear hK K
            (try simp only [Act.put, List.setIfInBounds_toArray, List.set_cons_zero, List.set_cons_succ])
            refine tree_one ?_
            refine tree_loud oo9 rfl (fun K hK => ?_)
            go_simp
            go_at_call 7
            with_reducible refine (HC.out W.heap.size _ _ _ (by repeat (first | with_reducible assumption | with_reducible refine World.ownsRow.alloc ?_ _ | with_reducible refine owns_drew ?_))).mono ?_
            rintro e w9 ⟨rfl, hb9⟩
            refine hK.out _ _ (by repeat (first | with_reducible exact Below.refl _ _ | with_reducible assumption | with_reducible refine al ?_ _ | with_reducible refine Below.drew ?_ | with_reducible refine Below.setCell ?_ (by first | (simp; done) | (simp; omega)) _ | with_reducible refine tr ?_ (by with_reducible assumption))) ?_
            clear hK K
            (try simp only [Act.put, List.setIfInBounds_toArray, List.set_cons_zero, List.set_cons_succ])
            exact hc_tailA hQQ oo10 oo11 oo12 oo13 oo14 oo16 oo17 oo18 oo19 (by first | (simp; done) | (simp; omega) | omega) (by repeat (first | with_reducible assumption | with_reducible exact Blk.new (by simp) rfl | with_reducible refine Blk.alloc ?_ _ | with_reducible refine Blk.drew ?_ | with_reducible refine Blk.far ?_ (by first | (simp; done) | (simp; omega)) _ | with_reducible refine KeepT.blk (by with_reducible assumption) (by decide) ?_ | with_reducible refine Blk.grown ?_ (by with_reducible assumption) (by first | (simp; done) | (simp; omega)) | with_reducible refine Blk.tr ?_ (by with_reducible assumption))) (by repeat (first | with_reducible exact Below.refl _ _ | with_reducible assumption | with_reducible refine al ?_ _ | with_reducible refine Below.drew ?_ | with_reducible refine Below.setCell ?_ (by first | (simp; done) | (simp; omega)) _ | with_reducible refine tr ?_ (by with_reducible assumption)))
        · refine tree_loud oo15 rfl (fun K hK => ?_)
          go_simp
          refine hK.out _ _ (by repeat (first | with_reducible exact Below.refl _ _ | with_reducible assumption | with_reducible refine al ?_ _ | with_reducible refine Below.drew ?_ | with_reducible refine Below.setCell ?_ (by first | (simp; done) | (simp; omega)) _ | with_reducible refine tr ?_ (by with_reducible assumption))) ?_
          clear hK K
          (try simp only [Act.put, List.setIfInBounds_toArray, List.set_cons_zero, List.set_cons_succ])
          refine tree_one ?_
          refine tree_loud oo8 rfl (fun K hK => ?_)
          refine app_one _ _ W.heap.size _ n l v3 (pt l r) rfl rfl (by repeat (first | with_reducible assumption | with_reducible refine World.ownsRow.alloc ?_ _ | with_reducible refine owns_drew ?_)) rfl (by repeat (first | with_reducible assumption | with_reducible exact Blk.new (by simp) rfl | with_reducible refine Blk.alloc ?_ _ | with_reducible refine Blk.drew ?_ | with_reducible refine Blk.far ?_ (by first | (simp; done) | (simp; omega)) _ | with_reducible refine KeepT.blk (by with_reducible assumption) (by decide) ?_ | with_reducible refine Blk.grown ?_ (by with_reducible assumption) (by first | (simp; done) | (simp; omega)) | with_reducible refine Blk.tr ?_ (by with_reducible assumption))) ?_ (by omega) ?_
          · first | (simp; done) | (simp; omega) | omega
          intro v8 w8 hown8 hkt8 hbx8
          rw [hmm] at hown8
          obtain ⟨g8, c8, rfl⟩ := own_pos2 hown8 (by omega)
          have hb8 : Below W.heap.size W w8 := Below.trans (by repeat (first | with_reducible exact Below.refl _ _ | with_reducible assumption | with_reducible refine al ?_ _ | with_reducible refine Below.drew ?_ | with_reducible refine Below.setCell ?_ (by first | (simp; done) | (simp; omega)) _ | with_reducible refine tr ?_ (by with_reducible assumption))) hbx8
          have hz8 := hb8.size
          refine hK.out _ _ (by repeat (first | with_reducible exact Below.refl _ _ | with_reducible assumption | with_reducible refine al ?_ _ | with_reducible refine Below.drew ?_ | with_reducible refine Below.setCell ?_ (by first | (simp; done) | (simp; omega)) _ | with_reducible refine tr ?_ (by with_reducible assumption))) ?_
          clear hK K
          (try simp only [Act.put, List.setIfInBounds_toArray, List.set_cons_zero, List.set_cons_succ])
          refine tree_one ?_
          refine tree_loud oo9 rfl (fun K hK => ?_)
          go_simp
          go_at_call 7
          with_reducible refine (HC.out W.heap.size _ _ _ (by repeat (first | with_reducible assumption | with_reducible refine World.ownsRow.alloc ?_ _ | with_reducible refine owns_drew ?_))).mono ?_
          rintro e w9 ⟨rfl, hb9⟩
          refine hK.out _ _ (by repeat (first | with_reducible exact Below.refl _ _ | with_reducible assumption | with_reducible refine al ?_ _ | with_reducible refine Below.drew ?_ | with_reducible refine Below.setCell ?_ (by first | (simp; done) | (simp; omega)) _ | with_reducible refine tr ?_ (by with_reducible assumption))) ?_
          clear hK K
          (try simp only [Act.put, List.setIfInBounds_toArray, List.set_cons_zero, List.set_cons_succ])
          exact hc_tailA hQQ oo10 oo11 oo12 oo13 oo14 oo16 oo17 oo18 oo19 (by first | (simp; done) | (simp; omega) | omega) (by repeat (first | with_reducible assumption | with_reducible exact Blk.new (by simp) rfl | with_reducible refine Blk.alloc ?_ _ | with_reducible refine Blk.drew ?_ | with_reducible refine Blk.far ?_ (by first | (simp; done) | (simp; omega)) _ | with_reducible refine KeepT.blk (by with_reducible assumption) (by decide) ?_ | with_reducible refine Blk.grown ?_ (by with_reducible assumption) (by first | (simp; done) | (simp; omega)) | with_reducible refine Blk.tr ?_ (by with_reducible assumption))) (by repeat (first | with_reducible exact Below.refl _ _ | with_reducible assumption | with_reducible refine al ?_ _ | with_reducible refine Below.drew ?_ | with_reducible refine Below.setCell ?_ (by first | (simp; done) | (simp; omega)) _ | with_reducible refine tr ?_ (by with_reducible assumption)))
      · refine tree_loud oo15 rfl (fun K hK => ?_)
        go_simp
        refine hK.out _ _ (by repeat (first | with_reducible exact Below.refl _ _ | with_reducible assumption | with_reducible refine al ?_ _ | with_reducible refine Below.drew ?_ | with_reducible refine Below.setCell ?_ (by first | (simp; done) | (simp; omega)) _ | with_reducible refine tr ?_ (by with_reducible assumption))) ?_
        clear hK K
        (try simp only [Act.put, List.setIfInBounds_toArray, List.set_cons_zero, List.set_cons_succ])
        refine tree_one ?_
        refine tree_loud oo7 rfl (fun K hK => ?_)
        go_simp
        refine hK.out _ _ (by repeat (first | with_reducible exact Below.refl _ _ | with_reducible assumption | with_reducible refine al ?_ _ | with_reducible refine Below.drew ?_ | with_reducible refine Below.setCell ?_ (by first | (simp; done) | (simp; omega)) _ | with_reducible refine tr ?_ (by with_reducible assumption))) ?_
        clear hK K
        (try simp only [Act.put, List.setIfInBounds_toArray, List.set_cons_zero, List.set_cons_succ])
        refine tree_one ?_
        refine tree_loud oo8 rfl (fun K hK => ?_)
        refine app_one _ _ W.heap.size _ n l v3 (pt l r) rfl rfl (by repeat (first | with_reducible assumption | with_reducible refine World.ownsRow.alloc ?_ _ | with_reducible refine owns_drew ?_)) rfl (by repeat (first | with_reducible assumption | with_reducible exact Blk.new (by simp) rfl | with_reducible refine Blk.alloc ?_ _ | with_reducible refine Blk.drew ?_ | with_reducible refine Blk.far ?_ (by first | (simp; done) | (simp; omega)) _ | with_reducible refine KeepT.blk (by with_reducible assumption) (by decide) ?_ | with_reducible refine Blk.grown ?_ (by with_reducible assumption) (by first | (simp; done) | (simp; omega)) | with_reducible refine Blk.tr ?_ (by with_reducible assumption))) ?_ (by omega) ?_
        · first | (simp; done) | (simp; omega) | omega
        intro v8 w8 hown8 hkt8 hbx8
        rw [hmm] at hown8
        obtain ⟨g8, c8, rfl⟩ := own_pos2 hown8 (by omega)
        have hb8 : Below W.heap.size W w8 := Below.trans (by repeat (first | with_reducible exact Below.refl _ _ | with_reducible assumption | with_reducible refine al ?_ _ | with_reducible refine Below.drew ?_ | with_reducible refine Below.setCell ?_ (by first | (simp; done) | (simp; omega)) _ | with_reducible refine tr ?_ (by with_reducible assumption))) hbx8
        have hz8 := hb8.size
        refine hK.out _ _ (by repeat (first | with_reducible exact Below.refl _ _ | with_reducible assumption | with_reducible refine al ?_ _ | with_reducible refine Below.drew ?_ | with_reducible refine Below.setCell ?_ (by first | (simp; done) | (simp; omega)) _ | with_reducible refine tr ?_ (by with_reducible assumption))) ?_
        clear hK K
        (try simp only [Act.put, List.setIfInBounds_toArray, List.set_cons_zero, List.set_cons_succ])
        refine tree_one ?_
        refine tree_loud oo9 rfl (fun K hK => ?_)
        go_simp
        go_at_call 7
        with_reducible refine (HC.out W.heap.size _ _ _ (by repeat (first | with_reducible assumption | with_reducible refine World.ownsRow.alloc ?_ _ | with_reducible refine owns_drew ?_))).mono ?_
        rintro e w9 ⟨rfl, hb9⟩
        refine hK.out _ _ (by repeat (first | with_reducible exact Below.refl _ _ | with_reducible assumption | with_reducible refine al ?_ _ | with_reducible refine Below.drew ?_ | with_reducible refine Below.setCell ?_ (by first | (simp; done) | (simp; omega)) _ | with_reducible refine tr ?_ (by with_reducible assumption))) ?_
        clear hK K
        (try simp only [Act.put, List.setIfInBounds_toArray, List.set_cons_zero, List.set_cons_succ])
        exact hc_tailA hQQ oo10 oo11 oo12 oo13 oo14 oo16 oo17 oo18 oo19 (by first | (simp; done) | (simp; omega) | omega) (by repeat (first | with_reducible assumption | with_reducible exact Blk.new (by simp) rfl | with_reducible refine Blk.alloc ?_ _ | with_reducible refine Blk.drew ?_ | with_reducible refine Blk.far ?_ (by first | (simp; done) | (simp; omega)) _ | with_reducible refine KeepT.blk (by with_reducible assumption) (by decide) ?_ | with_reducible refine Blk.grown ?_ (by with_reducible assumption) (by first | (simp; done) | (simp; omega)) | with_reducible refine Blk.tr ?_ (by with_reducible assumption))) (by repeat (first | with_reducible exact Below.refl _ _ | with_reducible assumption | with_reducible refine al ?_ _ | with_reducible refine Below.drew ?_ | with_reducible refine Below.setCell ?_ (by first | (simp; done) | (simp; omega)) _ | with_reducible refine tr ?_ (by with_reducible assumption)))
    · refine tree_loud oo7 rfl (fun K hK => ?_)
      go_simp
      refine hK.out _ _ (by repeat (first | with_reducible exact Below.refl _ _ | with_reducible assumption | with_reducible refine al ?_ _ | with_reducible refine Below.drew ?_ | with_reducible refine Below.setCell ?_ (by first | (simp; done) | (simp; omega)) _ | with_reducible refine tr ?_ (by with_reducible assumption))) ?_
      clear hK K
      (try simp only [Act.put, List.setIfInBounds_toArray, List.set_cons_zero, List.set_cons_succ])
      refine tree_two ?_ ?_
      · refine tree_loud oo2 rfl (fun K hK => ?_)
        refine app_lit _ _ W.heap.size _ b off n c l rfl rfl (by repeat (first | with_reducible assumption | with_reducible exact Blk.new (by simp) rfl | with_reducible refine Blk.alloc ?_ _ | with_reducible refine Blk.drew ?_ | with_reducible refine Blk.far ?_ (by first | (simp; done) | (simp; omega)) _ | with_reducible refine KeepT.blk (by with_reducible assumption) (by decide) ?_ | with_reducible refine Blk.grown ?_ (by with_reducible assumption) (by first | (simp; done) | (simp; omega)) | with_reducible refine Blk.tr ?_ (by with_reducible assumption))) ?_ rfl (HL.below (by repeat (first | with_reducible exact Below.refl _ _ | with_reducible assumption | with_reducible refine al ?_ _ | with_reducible refine Below.drew ?_ | with_reducible refine Below.setCell ?_ (by first | (simp; done) | (simp; omega)) _ | with_reducible refine tr ?_ (by with_reducible assumption)))) (by omega) (by omega) ?_
        · first | (simp; done) | (simp; omega) | omega
        intro v3 w3 hown3 hgr3 hkt3 hbx3
        have hb3 : Below W.heap.size W w3 := Below.trans (by repeat (first | with_reducible exact Below.refl _ _ | with_reducible assumption | with_reducible refine al ?_ _ | with_reducible refine Below.drew ?_ | with_reducible refine Below.setCell ?_ (by first | (simp; done) | (simp; omega)) _ | with_reducible refine tr ?_ (by with_reducible assumption))) hbx3
        have hz3 := hb3.size
        refine hK.out _ _ (by repeat (first | with_reducible exact Below.refl _ _ | with_reducible assumption | with_reducible refine al ?_ _ | with_reducible refine Below.drew ?_ | with_reducible refine Below.setCell ?_ (by first | (simp; done) | (simp; omega)) _ | with_reducible refine tr ?_ (by with_reducible assumption))) ?_
        clear hK K
        (try simp only [Act.put, List.setIfInBounds_toArray, List.set_cons_zero, List.set_cons_succ])
        refine tree_two ?_ ?_
        · refine tree_loud oo8 rfl (fun K hK => ?_)
          refine app_one _ _ W.heap.size _ n l v3 (pt l r) rfl rfl (by repeat (first | with_reducible assumption | with_reducible refine World.ownsRow.alloc ?_ _ | with_reducible refine owns_drew ?_)) rfl (by repeat (first | with_reducible assumption | with_reducible exact Blk.new (by simp) rfl | with_reducible refine Blk.alloc ?_ _ | with_reducible refine Blk.drew ?_ | with_reducible refine Blk.far ?_ (by first | (simp; done) | (simp; omega)) _ | with_reducible refine KeepT.blk (by with_reducible assumption) (by decide) ?_ | with_reducible refine Blk.grown ?_ (by with_reducible assumption) (by first | (simp; done) | (simp; omega)) | with_reducible refine Blk.tr ?_ (by with_reducible assumption))) ?_ (by omega) ?_
          · first | (simp; done) | (simp; omega) | omega
          intro v8 w8 hown8 hkt8 hbx8
          rw [hmm] at hown8
          obtain ⟨g8, c8, rfl⟩ := own_pos2 hown8 (by omega)
          have hb8 : Below W.heap.size W w8 := Below.trans (by repeat (first | with_reducible exact Below.refl _ _ | with_reducible assumption | with_reducible refine al ?_ _ | with_reducible refine Below.drew ?_ | with_reducible refine Below.setCell ?_ (by first | (simp; done) | (simp; omega)) _ | with_reducible refine tr ?_ (by with_reducible assumption))) hbx8
          have hz8 := hb8.size
          refine hK.out _ _ (by repeat (first | with_reducible exact Below.refl _ _ | with_reducible assumption | with_reducible refine al ?_ _ | with_reducible refine Below.drew ?_ | with_reducible refine Below.setCell ?_ (by first | (simp; done) | (simp; omega)) _ | with_reducible refine tr ?_ (by with_reducible assumption))) ?_
          clear hK K
          (try simp only [Act.put, List.setIfInBounds_toArray, List.set_cons_zero, List.set_cons_succ])
          refine tree_two ?_ ?_
          · refine tree_loud oo9 rfl (fun K hK => ?_)
            go_simp
            go_at_call 7
            with_reducible refine (HC.out W.heap.size _ _ _ (by repeat (first | with_reducible assumption | with_reducible refine World.ownsRow.alloc ?_ _ | with_reducible refine owns_drew ?_))).mono ?_
            rintro e w9 ⟨rfl, hb9⟩
            refine hK.out _ _ (by repeat (first | with_reducible exact Below.refl _ _ | with_reducible assumption | with_reducible refine al ?_ _ | with_reducible refine Below.drew ?_ | with_reducible refine Below.setCell ?_ (by first | (simp; done) | (simp; omega)) _ | with_reducible refine tr ?_ (by with_reducible assumption))) ?_
            clear hK K
            (try simp only [Act.put, List.setIfInBounds_toArray, List.set_cons_zero, List.set_cons_succ])
            exact hc_tailB hQQ oo10 oo11 oo12 oo13 oo14 oo15 oo16 oo17 oo18 oo19 (by repeat (first | with_reducible exact Below.refl _ _ | with_reducible assumption | with_reducible refine al ?_ _ | with_reducible refine Below.drew ?_ | with_reducible refine Below.setCell ?_ (by first | (simp; done) | (simp; omega)) _ | with_reducible refine tr ?_ (by with_reducible assumption)))
          · refine tree_loud oo15 rfl (fun K hK => ?_)
            go_simp
            refine hK.out _ _ (by repeat (first | with_reducible exact Below.refl _ _ | with_reducible assumption | with_reducible refine al ?_ _ | with_reducible refine Below.drew ?_ | with_reducible refine Below.setCell ?_ (by first | (simp; done) | (simp; omega)) _ | with_reducible refine tr ?_ (by with_reducible assumption))) ?_
            clear hK K
            (try simp only [Act.put, List.setIfInBounds_toArray, List.set_cons_zero, List.set_cons_succ])
            refine tree_one ?_
            refine tree_loud oo9 rfl (fun K hK => ?_)
            go_simp
            go_at_call 7
            with_reducible refine (HC.out W.heap.size _ _ _ (by repeat (first | with_reducible assumption | with_reducible refine World.ownsRow.alloc ?_ _ | with_reducible refine owns_drew ?_))).mono ?_
            rintro e w9 ⟨rfl, hb9⟩
            refine hK.out _ _ (by repeat (first | with_reducible exact Below.refl _ _ | with_reducible assumption | with_reducible refine al ?_ _ | with_reducible refine Below.drew ?_ | with_reducible refine Below.setCell ?_ (by first | (simp; done) | (simp; omega)) _ | with_reducible refine tr ?_ (by with_reducible assumption))) ?_
            clear hK K
            (try simp only [Act.put, List.setIfInBounds_toArray, List.set_cons_zero, List.set_cons_succ])
            exact hc_tailA hQQ oo10 oo11 oo12 oo13 oo14 oo16 oo17 oo18 oo19 (by first | (simp; done) | (simp; omega) | omega) (by repeat (first | with_reducible assumption | with_reducible exact Blk.new (by simp) rfl | with_reducible refine Blk.alloc ?_ _ | with_reducible refine Blk.drew ?_ | with_reducible refine Blk.far ?_ (by first | (simp; done) | (simp; omega)) _ | with_reducible refine KeepT.blk (by with_reducible assumption) (by decide) ?_ | with_reducible refine Blk.grown ?_ (by with_reducible assumption) (by first | (simp; done) | (simp; omega)) | with_reducible refine Blk.tr ?_ (by with_reducible assumption))) (by repeat (first | with_reducible exact Below.refl _ _ | with_reducible assumption | with_reducible refine al ?_ _ | with_reducible refine Below.drew ?_ | with_reducible refine Below.setCell ?_ (by first | (simp; done) | (simp; omega)) _ | with_reducible refine tr ?_ (by with_reducible assumption)))
        · refine tree_loud oo15 rfl (fun K hK => ?_)
          go_simp
          refine hK.out _ _ (by repeat (first | with_reducible exact Below.refl _ _ | with_reducible assumption | with_reducible refine al ?_ _ | with_reducible refine Below.drew ?_ | with_reducible refine Below.setCell ?_ (by first | (simp; done) | (simp; omega)) _ | with_reducible refine tr ?_ (by with_reducible assumption))) ?_
          clear hK K
          (try simp only [Act.put, List.setIfInBounds_toArray, List.set_cons_zero, List.set_cons_succ])
          refine tree_one ?_
          refine tree_loud oo8 rfl (fun K hK => ?_)
          refine app_one _ _ W.heap.size _ n l v3 (pt l r) rfl rfl (by repeat (first | with_reducible assumption | with_reducible refine World.ownsRow.alloc ?_ _ | with_reducible refine owns_drew ?_)) rfl (by repeat (first | with_reducible assumption | with_reducible exact Blk.new (by simp) rfl | with_reducible refine Blk.alloc ?_ _ | with_reducible refine Blk.drew ?_ | with_reducible refine Blk.far ?_ (by first | (simp; done) | (simp; omega)) _ | with_reducible refine KeepT.blk (by with_reducible assumption) (by decide) ?_ | with_reducible refine Blk.grown ?_ (by with_reducible assumption) (by first | (simp; done) | (simp; omega)) | with_reducible refine Blk.tr ?_ (by with_reducible assumption))) ?_ (by omega) ?_
          · first | (simp; done) | (simp; omega) | omega
          intro v8 w8 hown8 hkt8 hbx8
          rw [hmm] at hown8
          obtain ⟨g8, c8, rfl⟩ := own_pos2 hown8 (by omega)
          have hb8 : Below W.heap.size W w8 := Below.trans (by repeat (first | with_reducible exact Below.refl _ _ | with_reducible assumption | with_reducible refine al ?_ _ | with_reducible refine Below.drew ?_ | with_reducible refine Below.setCell ?_ (by first | (simp; done) | (simp; omega)) _ | with_reducible refine tr ?_ (by with_reducible assumption))) hbx8
          have hz8 := hb8.size
          refine hK.out _ _ (by repeat (first | with_reducible exact Below.refl _ _ | with_reducible assumption | with_reducible refine al ?_ _ | with_reducible refine Below.drew ?_ | with_reducible refine Below.setCell ?_ (by first | (simp; done) | (simp; omega)) _ | with_reducible refine tr ?_ (by with_reducible assumption))) ?_
          clear hK K
          (try simp only [Act.put, List.setIfInBounds_toArray, List.set_cons_zero, List.set_cons_succ])
          refine tree_one ?_
          refine tree_loud oo9 rfl (fun K hK => ?_)
          go_simp
          go_at_call 7
          with_reducible refine (HC.out W.heap.size _ _ _ (by repeat (first | with_reducible assumption | with_reducible refine World.ownsRow.alloc ?_ _ | with_reducible refine owns_drew ?_))).mono ?_
          rintro e w9 ⟨rfl, hb9⟩
          refine hK.out _ _ (by repeat (first | with_reducible exact Below.refl _ _ | with_reducible assumption | with_reducible refine al ?_ _ | with_reducible refine Below.drew ?_ | with_reducible refine Below.setCell ?_ (by first | (simp; done) | (simp; omega)) _ | with_reducible refine tr ?_ (by with_reducible assumption))) ?_
          clear hK K
          (try simp only [Act.put, List.setIfInBounds_toArray, List.set_cons_zero, List.set_cons_succ])
          exact hc_tailA hQQ oo10 oo11 oo12 oo13 oo14 oo16 oo17 oo18 oo19 (by first | (simp; done) | (simp; omega) | omega) (by repeat (first | with_reducible assumption | with_reducible exact Blk.new (by simp) rfl | with_reducible refine Blk.alloc ?_ _ | with_reducible refine Blk.drew ?_ | with_reducible refine Blk.far ?_ (by first | (simp; done) | (simp; omega)) _ | with_reducible refine KeepT.blk (by with_reducible assumption) (by decide) ?_ | with_reducible refine Blk.grown ?_ (by with_reducible assumption) (by first | (simp; done) | (simp; omega)) | with_reducible refine Blk.tr ?_ (by with_reducible assumption))) (by repeat (first | with_reducible exact Below.refl _ _ | with_reducible assumption | with_reducible refine al ?_ _ | with_reducible refine Below.drew ?_ | with_reducible refine Below.setCell ?_ (by first | (simp; done) | (simp; omega)) _ | with_reducible refine tr ?_ (by with_reducible assumption)))
      · refine tree_loud oo15 rfl (fun K hK => ?_)
        go_simp
        refine hK.out _ _ (by repeat (first | with_reducible exact Below.refl _ _ | with_reducible assumption | with_reducible refine al ?_ _ | with_reducible refine Below.drew ?_ | with_reducible refine Below.setCell ?_ (by first | (simp; done) | (simp; omega)) _ | with_reducible refine tr ?_ (by with_reducible assumption))) ?_
        clear hK K
        (try simp only [Act.put, List.setIfInBounds_toArray, List.set_cons_zero, List.set_cons_succ])
        refine tree_one ?_
        refine tree_loud oo2 rfl (fun K hK => ?_)
        refine app_lit _ _ W.heap.size _ b off n c l rfl rfl (by repeat (first | with_reducible assumption | with_reducible exact Blk.new (by simp) rfl | with_reducible refine Blk.alloc ?_ _ | with_reducible refine Blk.drew ?_ | with_reducible refine Blk.far ?_ (by first | (simp; done) | (simp; omega)) _ | with_reducible refine KeepT.blk (by with_reducible assumption) (by decide) ?_ | with_reducible refine Blk.grown ?_ (by with_reducible assumption) (by first | (simp; done) | (simp; omega)) | with_reducible refine Blk.tr ?_ (by with_reducible assumption))) ?_ rfl (HL.below (by repeat (first | with_reducible exact Below.refl _ _ | with_reducible assumption | with_reducible refine al ?_ _ | with_reducible refine Below.drew ?_ | with_reducible refine Below.setCell ?_ (by first | (simp; done) | (simp; omega)) _ | with_reducible refine tr ?_ (by with_reducible assumption)))) (by omega) (by omega) ?_
        · first | (simp; done) | (simp; omega) | omega
        intro v3 w3 hown3 hgr3 hkt3 hbx3
        have hb3 : Below W.heap.size W w3 := Below.trans (by repeat (first | with_reducible exact Below.refl _ _ | with_reducible assumption | with_reducible refine al ?_ _ | with_reducible refine Below.drew ?_ | with_reducible refine Below.setCell ?_ (by first | (simp; done) | (simp; omega)) _ | with_reducible refine tr ?_ (by with_reducible assumption))) hbx3
        have hz3 := hb3.size
        refine hK.out _ _ (by repeat (first | with_reducible exact Below.refl _ _ | with_reducible assumption | with_reducible refine al ?_ _ | with_reducible refine Below.drew ?_ | with_reducible refine Below.setCell ?_ (by first | (simp; done) | (simp; omega)) _ | with_reducible refine tr ?_ (by with_reducible assumption))) ?_
        clear hK K
        (try simp only [Act.put, List.setIfInBounds_toArray, List.set_cons_zero, List.set_cons_succ])
        refine tree_one ?_
        refine tree_loud oo8 rfl (fun K hK => ?_)
        refine app_one _ _ W.heap.size _ n l v3 (pt l r) rfl rfl (by repeat (first | with_reducible assumption | with_reducible refine World.ownsRow.alloc ?_ _ | with_reducible refine owns_drew ?_)) rfl (by repeat (first | with_reducible assumption | with_reducible exact Blk.new (by simp) rfl | with_reducible refine Blk.alloc ?_ _ | with_reducible refine Blk.drew ?_ | with_reducible refine Blk.far ?_ (by first | (simp; done) | (simp; omega)) _ | with_reducible refine KeepT.blk (by with_reducible assumption) (by decide) ?_ | with_reducible refine Blk.grown ?_ (by with_reducible assumption) (by first | (simp; done) | (simp; omega)) | with_reducible refine Blk.tr ?_ (by with_reducible assumption))) ?_ (by omega) ?_
        · first | (simp; done) | (simp; omega) | omega
        intro v8 w8 hown8 hkt8 hbx8
        rw [hmm] at hown8
        obtain ⟨g8, c8, rfl⟩ := own_pos2 hown8 (by omega)
        have hb8 : Below W.heap.size W w8 := Below.trans (by repeat (first | with_reducible exact Below.refl _ _ | with_reducible assumption | with_reducible refine al ?_ _ | with_reducible refine Below.drew ?_ | with_reducible refine Below.setCell ?_ (by first | (simp; done) | (simp; omega)) _ | with_reducible refine tr ?_ (by with_reducible assumption))) hbx8
        have hz8 := hb8.size
        refine hK.out _ _ (by repeat (first | with_reducible exact Below.refl _ _ | with_reducible assumption | with_reducible refine al ?_ _ | with_reducible refine Below.drew ?_ | with_reducible refine Below.setCell ?_ (by first | (simp; done) | (simp; omega)) _ | with_reducible refine tr ?_ (by with_reducible assumption))) ?_
        clear hK K
        (try simp only [Act.put, List.setIfInBounds_toArray, List.set_cons_zero, List.set_cons_succ])
        refine tree_one ?_
        refine tree_loud oo9 rfl (fun K hK => ?_)
        go_simp
        go_at_call 7
        with_reducible refine (HC.out W.heap.size _ _ _ (by repeat (first | with_reducible assumption | with_reducible refine World.ownsRow.alloc ?_ _ | with_reducible refine owns_drew ?_))).mono ?_
        rintro e w9 ⟨rfl, hb9⟩
        refine hK.out _ _ (by repeat (first | with_reducible exact Below.refl _ _ | with_reducible assumption | with_reducible refine al ?_ _ | with_reducible refine Below.drew ?_ | with_reducible refine Below.setCell ?_ (by first | (simp; done) | (simp; omega)) _ | with_reducible refine tr ?_ (by with_reducible assumption))) ?_
        clear hK K
        (try simp only [Act.put, List.setIfInBounds_toArray, List.set_cons_zero, List.set_cons_succ])
        exact hc_tailA hQQ oo10 oo11 oo12 oo13 oo14 oo16 oo17 oo18 oo19 (by first | (simp; done) | (simp; omega) | omega) (by repeat (first | with_reducible assumption | with_reducible exact Blk.new (by simp) rfl | with_reducible refine Blk.alloc ?_ _ | with_reducible refine Blk.drew ?_ | with_reducible refine Blk.far ?_ (by first | (simp; done) | (simp; omega)) _ | with_reducible refine KeepT.blk (by with_reducible assumption) (by decide) ?_ | with_reducible refine Blk.grown ?_ (by with_reducible assumption) (by first | (simp; done) | (simp; omega)) | with_reducible refine Blk.tr ?_ (by with_reducible assumption))) (by repeat (first | with_reducible exact Below.refl _ _ | with_reducible assumption | with_reducible refine al ?_ _ | with_reducible refine Below.drew ?_ | with_reducible refine Below.setCell ?_ (by first | (simp; done) | (simp; omega)) _ | with_reducible refine tr ?_ (by with_reducible assumption)))
    · refine tree_loud oo15 rfl (fun K hK => ?_)
      go_simp
      refine hK.out _ _ (by repeat (first | with_reducible exact Below.refl _ _ | with_reducible assumption | with_reducible refine al ?_ _ | with_reducible refine Below.drew ?_ | with_reducible refine Below.setCell ?_ (by first | (simp; done) | (simp; omega)) _ | with_reducible refine tr ?_ (by with_reducible assumption))) ?_
      clear hK K
      (try simp only [Act.put, List.setIfInBounds_toArray, List.set_cons_zero, List.set_cons_succ])
      refine tree_two ?_ ?_
      · refine tree_loud oo2 rfl (fun K hK => ?_)
        refine app_lit _ _ W.heap.size _ b off n c l rfl rfl (by repeat (first | with_reducible assumption | with_reducible exact Blk.new (by simp) rfl | with_reducible refine Blk.alloc ?_ _ | with_reducible refine Blk.drew ?_ | with_reducible refine Blk.far ?_ (by first | (simp; done) | (simp; omega)) _ | with_reducible refine KeepT.blk (by with_reducible assumption) (by decide) ?_ | with_reducible refine Blk.grown ?_ (by with_reducible assumption) (by first | (simp; done) | (simp; omega)) | with_reducible refine Blk.tr ?_ (by with_reducible assumption))) ?_ rfl (HL.below (by repeat (first | with_reducible exact Below.refl _ _ | with_reducible assumption | with_reducible refine al ?_ _ | with_reducible refine Below.drew ?_ | with_reducible refine Below.setCell ?_ (by first | (simp; done) | (simp; omega)) _ | with_reducible refine tr ?_ (by with_reducible assumption)))) (by omega) (by omega) ?_
        · first | (simp; done) | (simp; omega) | omega
        intro v3 w3 hown3 hgr3 hkt3 hbx3
        have hb3 : Below W.heap.size W w3 := Below.trans (by repeat (first | with_reducible exact Below.refl _ _ | with_reducible assumption | with_reducible refine al ?_ _ | with_reducible refine Below.drew ?_ | with_reducible refine Below.setCell ?_ (by first | (simp; done) | (simp; omega)) _ | with_reducible refine tr ?_ (by with_reducible assumption))) hbx3
        have hz3 := hb3.size
        refine hK.out _ _ (by repeat (first | with_reducible exact Below.refl _ _ | with_reducible assumption | with_reducible refine al ?_ _ | with_reducible refine Below.drew ?_ | with_reducible refine Below.setCell ?_ (by first | (simp; done) | (simp; omega)) _ | with_reducible refine tr ?_ (by with_reducible assumption))) ?_
        clear hK K
        (try simp only [Act.put, List.setIfInBounds_toArray, List.set_cons_zero, List.set_cons_succ])
        refine tree_one ?_
        refine tree_loud oo7 rfl (fun K hK => ?_)
        go_simp
        refine hK.out _ _ (by repeat (first | with_reducible exact Below.refl _ _ | with_reducible assumption | with_reducible refine al ?_ _ | with_reducible refine Below.drew ?_ | with_reducible refine Below.setCell ?_ (by first | (simp; done) | (simp; omega)) _ | with_reducible refine tr ?_ (by with_reducible assumption))) ?_
        clear hK K
        (try simp only [Act.put, List.setIfInBounds_toArray, List.set_cons_zero, List.set_cons_succ])
        refine tree_one ?_
        refine tree_loud oo8 rfl (fun K hK => ?_)
        refine app_one _ _ W.heap.size _ n l v3 (pt l r) rfl rfl (by repeat (first | with_reducible assumption | with_reducible refine World.ownsRow.alloc ?_ _ | with_reducible refine owns_drew ?_)) rfl (by repeat (first | with_reducible assumption | with_reducible exact Blk.new (by simp) rfl | with_reducible refine Blk.alloc ?_ _ | with_reducible refine Blk.drew ?_ | with_reducible refine Blk.far ?_ (by first | (simp; done) | (simp; omega)) _ | with_reducible refine KeepT.blk (by with_reducible assumption) (by decide) ?_ | with_reducible refine Blk.grown ?_ (by with_reducible assumption) (by first | (simp; done) | (simp; omega)) | with_reducible refine Blk.tr ?_ (by with_reducible assumption))) ?_ (by omega) ?_
        · first | (simp; done) | (simp; omega) | omega
        intro v8 w8 hown8 hkt8 hbx8
        rw [hmm] at hown8
        obtain ⟨g8, c8, rfl⟩ := own_pos2 hown8 (by omega)
        have hb8 : Below W.heap.size W w8 := Below.trans (by repeat (first | with_reducible exact Below.refl _ _ | with_reducible assumption | with_reducible refine al ?_ _ | with_reducible refine Below.drew ?_ | with_reducible refine Below.setCell ?_ (by first | (simp; done) | (simp; omega)) _ | with_reducible refine tr ?_ (by with_reducible assumption))) hbx8
        have hz8 := hb8.size
        refine hK.out _ _ (by repeat (first | with_reducible exact Below.refl _ _ | with_reducible assumption | with_reducible refine al ?_ _ | with_reducible refine Below.drew ?_ | with_reducible refine Below.setCell ?_ (by first | (simp; done) | (simp; omega)) _ | with_reducible refine tr ?_ (by with_reducible assumption))) ?_
        clear hK K
        (try simp only [Act.put, List.setIfInBounds_toArray, List.set_cons_zero, List.set_cons_succ])
        refine tree_one ?_
        refine tree_loud oo9 rfl (fun K hK => ?_)
        go_simp
        go_at_call 7
        with_reducible refine (HC.out W.heap.size _ _ _ (by repeat (first | with_reducible assumption | with_reducible refine World.ownsRow.alloc ?_ _ | with_reducible refine owns_drew ?_))).mono ?_
        rintro e w9 ⟨rfl, hb9⟩
        refine hK.out _ _ (by repeat (first | with_reducible exact Below.refl _ _ | with_reducible assumption | with_reducible refine al ?_ _ | with_reducible refine Below.drew ?_ | with_reducible refine Below.setCell ?_ (by first | (simp; done) | (simp; omega)) _ | with_reducible refine tr ?_ (by with_reducible assumption))) ?_
        clear hK K
        (try simp only [Act.put, List.setIfInBounds_toArray, List.set_cons_zero, List.set_cons_succ])
        exact hc_tailA hQQ oo10 oo11 oo12 oo13 oo14 oo16 oo17 oo18 oo19 (by first | (simp; done) | (simp; omega) | omega) (by repeat (first | with_reducible assumption | with_reducible exact Blk.new (by simp) rfl | with_reducible refine Blk.alloc ?_ _ | with_reducible refine Blk.drew ?_ | with_reducible refine Blk.far ?_ (by first | (simp; done) | (simp; omega)) _ | with_reducible refine KeepT.blk (by with_reducible assumption) (by decide) ?_ | with_reducible refine Blk.grown ?_ (by with_reducible assumption) (by first | (simp; done) | (simp; omega)) | with_reducible refine Blk.tr ?_ (by with_reducible assumption))) (by repeat (first | with_reducible exact Below.refl _ _ | with_reducible assumption | with_reducible refine al ?_ _ | with_reducible refine Below.drew ?_ | with_reducible refine Below.setCell ?_ (by first | (simp; done) | (simp; omega)) _ | with_reducible refine tr ?_ (by with_reducible assumption)))
      · refine tree_loud oo7 rfl (fun K hK => ?_)
        go_simp
        refine hK.out _ _ (by repeat (first | with_reducible exact Below.refl _ _ | with_reducible assumption | with_reducible refine al ?_ _ | with_reducible refine Below.drew ?_ | with_reducible refine Below.setCell ?_ (by first | (simp; done) | (simp; omega)) _ | with_reducible refine tr ?_ (by with_reducible assumption))) ?_
        clear hK K
        (try simp only [Act.put, List.setIfInBounds_toArray, List.set_cons_zero, List.set_cons_succ])
        refine tree_one ?_
        refine tree_loud oo2 rfl (fun K hK => ?_)
        refine app_lit _ _ W.heap.size _ b off n c l rfl rfl (by repeat (first | with_reducible assumption | with_reducible exact Blk.new (by simp) rfl | with_reducible refine Blk.alloc ?_ _ | with_reducible refine Blk.drew ?_ | with_reducible refine Blk.far ?_ (by first | (simp; done) | (simp; omega)) _ | with_reducible refine KeepT.blk (by with_reducible assumption) (by decide) ?_ | with_reducible refine Blk.grown ?_ (by with_reducible assumption) (by first | (simp; done) | (simp; omega)) | with_reducible refine Blk.tr ?_ (by with_reducible assumption))) ?_ rfl (HL.below (by repeat (first | with_reducible exact Below.refl _ _ | with_reducible assumption | with_reducible refine al ?_ _ | with_reducible refine Below.drew ?_ | with_reducible refine Below.setCell ?_ (by first | (simp; done) | (simp; omega)) _ | with_reducible refine tr ?_ (by with_reducible assumption)))) (by omega) (by omega) ?_
        · first | (simp; done) | (simp; omega) | omega
        intro v3 w3 hown3 hgr3 hkt3 hbx3
        have hb3 : Below W.heap.size W w3 := Below.trans (by repeat (first | with_reducible exact Below.refl _ _ | with_reducible assumption | with_reducible refine al ?_ _ | with_reducible refine Below.drew ?_ | with_reducible refine Below.setCell ?_ (by first | (simp; done) | (simp; omega)) _ | with_reducible refine tr ?_ (by with_reducible assumption))) hbx3
        have hz3 := hb3.size
        refine hK.out _ _ (by repeat (first | with_reducible exact Below.refl _ _ | with_reducible assumption | with_reducible refine al ?_ _ | with_reducible refine Below.drew ?_ | with_reducible refine Below.setCell ?_ (by first | (simp; done) | (simp; omega)) _ | with_reducible refine tr ?_ (by with_reducible assumption))) ?_
        clear hK K
        (try simp only [Act.put, List.setIfInBounds_toArray, List.set_cons_zero, List.set_cons_succ])
        refine tree_one ?_
        refine tree_loud oo8 rfl (fun K hK => ?_)
        refine app_one _ _ W.heap.size _ n l v3 (pt l r) rfl rfl (by repeat (first | with_reducible assumption | with_reducible refine World.ownsRow.alloc ?_ _ | with_reducible refine owns_drew ?_)) rfl (by repeat (first | with_reducible assumption | with_reducible exact Blk.new (by simp) rfl | with_reducible refine Blk.alloc ?_ _ | with_reducible refine Blk.drew ?_ | with_reducible refine Blk.far ?_ (by first | (simp; done) | (simp; omega)) _ | with_reducible refine KeepT.blk (by with_reducible assumption) (by decide) ?_ | with_reducible refine Blk.grown ?_ (by with_reducible assumption) (by first | (simp; done) | (simp; omega)) | with_reducible refine Blk.tr ?_ (by with_reducible assumption))) ?_ (by omega) ?_
        · first | (simp; done) | (simp; omega) | omega
        intro v8 w8 hown8 hkt8 hbx8
        rw [hmm] at hown8
        obtain ⟨g8, c8, rfl⟩ := own_pos2 hown8 (by omega)
        have hb8 : Below W.heap.size W w8 := Below.trans (by repeat (first | with_reducible exact Below.refl _ _ | with_reducible assumption | with_reducible refine al ?_ _ | with_reducible refine Below.drew ?_ | with_reducible refine Below.setCell ?_ (by first | (simp; done) | (simp; omega)) _ | with_reducible refine tr ?_ (by with_reducible assumption))) hbx8
        have hz8 := hb8.size
        refine hK.out _ _ (by repeat (first | with_reducible exact Below.refl _ _ | with_reducible assumption | with_reducible refine al ?_ _ | with_reducible refine Below.drew ?_ | with_reducible refine Below.setCell ?_ (by first | (simp; done) | (simp; omega)) _ | with_reducible refine tr ?_ (by with_reducible assumption))) ?_
        clear hK K
        (try simp only [Act.put, List.setIfInBounds_toArray, List.set_cons_zero, List.set_cons_succ])
        refine tree_one ?_
        refine tree_loud oo9 rfl (fun K hK => ?_)
        go_simp
        go_at_call 7
        with_reducible refine (HC.out W.heap.size _ _ _ (by repeat (first | with_reducible assumption | with_reducible refine World.ownsRow.alloc ?_ _ | with_reducible refine owns_drew ?_))).mono ?_
        rintro e w9 ⟨rfl, hb9⟩
        refine hK.out _ _ (by repeat (first | with_reducible exact Below.refl _ _ | with_reducible assumption | with_reducible refine al ?_ _ | with_reducible refine Below.drew ?_ | with_reducible refine Below.setCell ?_ (by first | (simp; done) | (simp; omega)) _ | with_reducible refine tr ?_ (by with_reducible assumption))) ?_
        clear hK K
        (try simp only [Act.put, List.setIfInBounds_toArray, List.set_cons_zero, List.set_cons_succ])
        exact hc_tailA hQQ oo10 oo11 oo12 oo13 oo14 oo16 oo17 oo18 oo19 (by first | (simp; done) | (simp; omega) | omega) (by repeat (first | with_reducible assumption | with_reducible exact Blk.new (by simp) rfl | with_reducible refine Blk.alloc ?_ _ | with_reducible refine Blk.drew ?_ | with_reducible refine Blk.far ?_ (by first | (simp; done) | (simp; omega)) _ | with_reducible refine KeepT.blk (by with_reducible assumption) (by decide) ?_ | with_reducible refine Blk.grown ?_ (by with_reducible assumption) (by first | (simp; done) | (simp; omega)) | with_reducible refine Blk.tr ?_ (by with_reducible assumption))) (by repeat (first | with_reducible exact Below.refl _ _ | with_reducible assumption | with_reducible refine al ?_ _ | with_reducible refine Below.drew ?_ | with_reducible refine Below.setCell ?_ (by first | (simp; done) | (simp; omega)) _ | with_reducible refine tr ?_ (by with_reducible assumption)))
  · refine tree_loud oo7 rfl (fun K hK => ?_)
    go_simp
    refine hK.out _ _ (by repeat (first | with_reducible exact Below.refl _ _ | with_reducible assumption | with_reducible refine al ?_ _ | with_reducible refine Below.drew ?_ | with_reducible refine Below.setCell ?_ (by first | (simp; done) | (simp; omega)) _ | with_reducible refine tr ?_ (by with_reducible assumption))) ?_
    clear hK K
    (try simp only [Act.put, List.setIfInBounds_toArray, List.set_cons_zero, List.set_cons_succ])
    refine tree_two ?_ ?_
    · refine tree_loud oo0 rfl (fun K hK => ?_)
      go_simp
      refine hK.out _ _ (by repeat (first | with_reducible exact Below.refl _ _ | with_reducible assumption | with_reducible refine al ?_ _ | with_reducible refine Below.drew ?_ | with_reducible refine Below.setCell ?_ (by first | (simp; done) | (simp; omega)) _ | with_reducible refine tr ?_ (by with_reducible assumption))) ?_
      clear hK K
      (try simp only [Act.put, List.setIfInBounds_toArray, List.set_cons_zero, List.set_cons_succ])
      refine tree_two ?_ ?_
      · refine tree_loud oo2 rfl (fun K hK => ?_)
        refine app_lit _ _ W.heap.size _ b off n c l rfl rfl (by repeat (first | with_reducible assumption | with_reducible exact Blk.new (by simp) rfl | with_reducible refine Blk.alloc ?_ _ | with_reducible refine Blk.drew ?_ | with_reducible refine Blk.far ?_ (by first | (simp; done) | (simp; omega)) _ | with_reducible refine KeepT.blk (by with_reducible assumption) (by decide) ?_ | with_reducible refine Blk.grown ?_ (by with_reducible assumption) (by first | (simp; done) | (simp; omega)) | with_reducible refine Blk.tr ?_ (by with_reducible assumption))) ?_ rfl (HL.below (by repeat (first | with_reducible exact Below.refl _ _ | with_reducible assumption | with_reducible refine al ?_ _ | with_reducible refine Below.drew ?_ | with_reducible refine Below.setCell ?_ (by first | (simp; done) | (simp; omega)) _ | with_reducible refine tr ?_ (by with_reducible assumption)))) (by omega) (by omega) ?_
        · first | (simp; done) | (simp; omega) | omega
        intro v3 w3 hown3 hgr3 hkt3 hbx3
        have hb3 : Below W.heap.size W w3 := Below.trans (by repeat (first | with_reducible exact Below.refl _ _ | with_reducible assumption | with_reducible refine al ?_ _ | with_reducible refine Below.drew ?_ | with_reducible refine Below.setCell ?_ (by first | (simp; done) | (simp; omega)) _ | with_reducible refine tr ?_ (by with_reducible assumption))) hbx3
        have hz3 := hb3.size
        refine hK.out _ _ (by repeat (first | with_reducible exact Below.refl _ _ | with_reducible assumption | with_reducible refine al ?_ _ | with_reducible refine Below.drew ?_ | with_reducible refine Below.setCell ?_ (by first | (simp; done) | (simp; omega)) _ | with_reducible refine tr ?_ (by with_reducible assumption))) ?_
        clear hK K
        (try simp only [Act.put, List.setIfInBounds_toArray, List.set_cons_zero, List.set_cons_succ])
        refine tree_two ?_ ?_
        · refine tree_loud oo8 rfl (fun K hK => ?_)
          refine app_one _ _ W.heap.size _ n l v3 (pt l r) rfl rfl (by repeat (first | with_reducible assumption | with_reducible refine World.ownsRow.alloc ?_ _ | with_reducible refine owns_drew ?_)) rfl (by repeat (first | with_reducible assumption | with_reducible exact Blk.new (by simp) rfl | with_reducible refine Blk.alloc ?_ _ | with_reducible refine Blk.drew ?_ | with_reducible refine Blk.far ?_ (by first | (simp; done) | (simp; omega)) _ | with_reducible refine KeepT.blk (by with_reducible assumption) (by decide) ?_ | with_reducible refine Blk.grown ?_ (by with_reducible assumption) (by first | (simp; done) | (simp; omega)) | with_reducible refine Blk.tr ?_ (by with_reducible assumption))) ?_ (by omega) ?_
          · first | (simp; done) | (simp; omega) | omega
          intro v8 w8 hown8 hkt8 hbx8
          rw [hmm] at hown8
          obtain ⟨g8, c8, rfl⟩ := own_pos2 hown8 (by omega)
          have hb8 : Below W.heap.size W w8 := Below.trans (by repeat (first | with_reducible exact Below.refl _ _ | with_reducible assumption | with_reducible refine al ?_ _ | with_reducible refine Below.drew ?_ | with_reducible refine Below.setCell ?_ (by first | (simp; done) | (simp; omega)) _ | with_reducible refine tr ?_ (by with_reducible assumption))) hbx8
          have hz8 := hb8.size
          refine hK.out _ _ (by repeat (first | with_reducible exact Below.refl _ _ | with_reducible assumption | with_reducible refine al ?_ _ | with_reducible refine Below.drew ?_ | with_reducible refine Below.setCell ?_ (by first | (simp; done) | (simp; omega)) _ | with_reducible refine tr ?_ (by with_reducible assumption))) ?_
          clear hK K
          (try simp only [Act.put, List.setIfInBounds_toArray, List.set_cons_zero, List.set_cons_succ])
          refine tree_two ?_ ?_
          · refine tree_loud oo9 rfl (fun K hK => ?_)
            go_simp
            go_at_call 7
            with_reducible refine (HC.out W.heap.size _ _ _ (by repeat (first | with_reducible assumption | with_reducible refine World.ownsRow.alloc ?_ _ | with_reducible refine owns_drew ?_))).mono ?_
            rintro e w9 ⟨rfl, hb9⟩
            refine hK.out _ _ (by repeat (first | with_reducible exact Below.refl _ _ | with_reducible assumption | with_reducible refine al ?_ _ | with_reducible refine Below.drew ?_ | with_reducible refine Below.setCell ?_ (by first | (simp; done) | (simp; omega)) _ | with_reducible refine tr ?_ (by with_reducible assumption))) ?_
            clear hK K
            (try simp only [Act.put, List.setIfInBounds_toArray, List.set_cons_zero, List.set_cons_succ])
            exact hc_tailB hQQ oo10 oo11 oo12 oo13 oo14 oo15 oo16 oo17 oo18 oo19 (by repeat (first | with_reducible exact Below.refl _ _ | with_reducible assumption | with_reducible refine al ?_ _ | with_reducible refine Below.drew ?_ | with_reducible refine Below.setCell ?_ (by first | (simp; done) | (simp; omega)) _ | with_reducible refine tr ?_ (by with_reducible assumption)))
          · refine tree_loud oo15 rfl (fun K hK => ?_)
            go_simp
            refine hK.out _ _ (by repeat (first | with_reducible exact Below.refl _ _ | with_reducible assumption | with_reducible refine al ?_ _ | with_reducible refine Below.drew ?_ | with_reducible refine Below.setCell ?_ (by first | (simp; done) | (simp; omega)) _ | with_reducible refine tr ?_ (by with_reducible assumption))) ?_
            clear hK K
            (try simp only [Act.put, List.setIfInBounds_toArray, List.set_cons_zero, List.set_cons_succ])
            refine tree_one ?_
            refine tree_loud oo9 rfl (fun K hK => ?_)
            go_simp
            go_at_call 7
            with_reducible refine (HC.out W.heap.size _ _ _ (by repeat (first | with_reducible assumption | with_reducible refine World.ownsRow.alloc ?_ _ | with_reducible refine owns_drew ?_))).mono ?_
            rintro e w9 ⟨rfl, hb9⟩
            refine hK.out _ _ (by repeat (first | with_reducible exact Below.refl _ _ | with_reducible assumption | with_reducible refine al ?_ _ | with_reducible refine Below.drew ?_ | with_reducible refine Below.setCell ?_ (by first | (simp; done) | (simp; omega)) _ | with_reducible refine tr ?_ (by with_reducible assumption))) ?_
            clear hK K
            (try simp only [Act.put, List.setIfInBounds_toArray, List.set_cons_zero, List.set_cons_succ])
            exact hc_tailA hQQ oo10 oo11 oo12 oo13 oo14 oo16 oo17 oo18 oo19 (by first | (simp; done) | (simp; omega) | omega) (by repeat (first | with_reducible assumption | with_reducible exact Blk.new (by simp) rfl | with_reducible refine Blk.alloc ?_ _ | with_reducible refine Blk.drew ?_ | with_reducible refine Blk.far ?_ (by first | (simp; done) | (simp; omega)) _ | with_reducible refine KeepT.blk (by with_reducible assumption) (by decide) ?_ | with_reducible refine Blk.grown ?_ (by with_reducible assumption) (by first | (simp; done) | (simp; omega)) | with_reducible refine Blk.tr ?_ (by with_reducible assumption))) (by repeat (first | with_reducible exact Below.refl _ _ | with_reducible assumption | with_reducible refine al ?_ _ | with_reducible refine Below.drew ?_ | with_reducible refine Below.setCell ?_ (by first | (simp; done) | (simp; omega)) _ | with_reducible refine tr ?_ (by with_reducible assumption)))
        · refine tree_loud oo15 rfl (fun K hK => ?_)
          go_simp
          refine hK.out _ _ (by repeat (first | with_reducible exact Below.refl _ _ | with_reducible assumption | with_reducible refine al ?_ _ | with_reducible refine Below.drew ?_ | with_reducible refine Below.setCell ?_ (by first | (simp; done) | (simp; omega)) _ | with_reducible refine tr ?_ (by with_reducible assumption))) ?_
          clear hK K
          (try simp only [Act.put, List.setIfInBounds_toArray, List.set_cons_zero, List.set_cons_succ])
          refine tree_one ?_
          refine tree_loud oo8 rfl (fun K hK => ?_)
          refine app_one _ _ W.heap.size _ n l v3 (pt l r) rfl rfl (by repeat (first | with_reducible assumption | with_reducible refine World.ownsRow.alloc ?_ _ | with_reducible refine owns_drew ?_)) rfl (by repeat (first | with_reducible assumption | with_reducible exact Blk.new (by simp) rfl | with_reducible refine Blk.alloc ?_ _ | with_reducible refine Blk.drew ?_ | with_reducible refine Blk.far ?_ (by first | (simp; done) | (simp; omega)) _ | with_reducible refine KeepT.blk (by with_reducible assumption) (by decide) ?_ | with_reducible refine Blk.grown ?_ (by with_reducible assumption) (by first | (simp; done) | (simp; omega)) | with_reducible refine Blk.tr ?_ (by with_reducible assumption))) ?_ (by omega) ?_
          · first | (simp; done) | (simp; omega) | omega
          intro v8 w8 hown8 hkt8 hbx8
          rw [hmm] at hown8
          obtain ⟨g8, c8, rfl⟩ := own_pos2 hown8 (by omega)
          have hb8 : Below W.heap.size W w8 := Below.trans (by repeat (first | with_reducible exact Below.refl _ _ | with_reducible assumption | with_reducible refine al ?_ _ | with_reducible refine Below.drew ?_ | with_reducible refine Below.setCell ?_ (by first | (simp; done) | (simp; omega)) _ | with_reducible refine tr ?_ (by with_reducible assumption))) hbx8
          have hz8 := hb8.size
          refine hK.out _ _ (by repeat (first | with_reducible exact Below.refl _ _ | with_reducible assumption | with_reducible refine al ?_ _ | with_reducible refine Below.drew ?_ | with_reducible refine Below.setCell ?_ (by first | (simp; done) | (simp; omega)) _ | with_reducible refine tr ?_ (by with_reducible assumption))) ?_
          clear hK K
          (try simp only [Act.put, List.setIfInBounds_toArray, List.set_cons_zero, List.set_cons_succ])
          refine tree_one ?_
          refine tree_loud oo9 rfl (fun K hK => ?_)
          go_simp
          go_at_call 7
          with_reducible refine (HC.out W.heap.size _ _ _ (by repeat (first | with_reducible assumption | with_reducible refine World.ownsRow.alloc ?_ _ | with_reducible refine owns_drew ?_))).mono ?_
          rintro e w9 ⟨rfl, hb9⟩
          refine hK.out _ _ (by repeat (first | with_reducible exact Below.refl _ _ | with_reducible assumption | with_reducible refine al ?_ _ | with_reducible refine Below.drew ?_ | with_reducible refine Below.setCell ?_ (by first | (simp; done) | (simp; omega)) _ | with_reducible refine tr ?_ (by with_reducible assumption))) ?_
          clear hK K
          (try simp only [Act.put, List.setIfInBounds_toArray, List.set_cons_zero, List.set_cons_succ])
          exact hc_tailA hQQ oo10 oo11 oo12 oo13 oo14 oo16 oo17 oo18 oo19 (by first | (simp; done) | (simp; omega) | omega) (by repeat (first | with_reducible assumption | with_reducible exact Blk.new (by simp) rfl | with_reducible refine Blk.alloc ?_ _ | with_reducible refine Blk.drew ?_ | with_reducible refine Blk.far ?_ (by first | (simp; done) | (simp; omega)) _ | with_reducible refine KeepT.blk (by with_reducible assumption) (by decide) ?_ | with_reducible refine Blk.grown ?_ (by with_reducible assumption) (by first | (simp; done) | (simp; omega)) | with_reducible refine Blk.tr ?_ (by with_reducible assumption))) (by repeat (first | with_reducible exact Below.refl _ _ | with_reducible assumption | with_reducible refine al ?_ _ | with_reducible refine Below.drew ?_ | with_reducible refine Below.setCell ?_ (by first | (simp; done) | (simp; omega)) _ | with_reducible refine tr ?_ (by with_reducible assumption)))
      · refine tree_loud oo15 rfl (fun K hK => ?_)
        go_simp
        refine hK.out _ _ (by repeat (first | with_reducible exact Below.refl _ _ | with_reducible assumption | with_reducible refine al ?_ _ | with_reducible refine Below.drew ?_ | with_reducible refine Below.setCell ?_ (by first | (simp; done) | (simp; omega)) _ | with_reducible refine tr ?_ (by with_reducible assumption))) ?_
        clear hK K
        (try simp only [Act.put, List.setIfInBounds_toArray, List.set_cons_zero, List.set_cons_succ])
        refine tree_one ?_
        refine tree_loud oo2 rfl (fun K hK => ?_)
        refine app_lit _ _ W.heap.size _ b off n c l rfl rfl (by repeat (first | with_reducible assumption | with_reducible exact Blk.new (by simp) rfl | with_reducible refine Blk.alloc ?_ _ | with_reducible refine Blk.drew ?_ | with_reducible refine Blk.far ?_ (by first | (simp; done) | (simp; omega)) _ | with_reducible refine KeepT.blk (by with_reducible assumption) (by decide) ?_ | with_reducible refine Blk.grown ?_ (by with_reducible assumption) (by first | (simp; done) | (simp; omega)) | with_reducible refine Blk.tr ?_ (by with_reducible assumption))) ?_ rfl (HL.below (by repeat (first | with_reducible exact Below.refl _ _ | with_reducible assumption | with_reducible refine al ?_ _ | with_reducible refine Below.drew ?_ | with_reducible refine Below.setCell ?_ (by first | (simp; done) | (simp; omega)) _ | with_reducible refine tr ?_ (by with_reducible assumption)))) (by omega) (by omega) ?_
        · first | (simp; done) | (simp; omega) | omega
        intro v3 w3 hown3 hgr3 hkt3 hbx3
        have hb3 : Below W.heap.size W w3 := Below.trans (by repeat (first | with_reducible exact Below.refl _ _ | with_reducible assumption | with_reducible refine al ?_ _ | with_reducible refine Below.drew ?_ | with_reducible refine Below.setCell ?_ (by first | (simp; done) | (simp; omega)) _ | with_reducible refine tr ?_ (by with_reducible assumption))) hbx3
        have hz3 := hb3.size
        refine hK.out _ _ (by repeat (first | with_reducible exact Below.refl _ _ | with_reducible assumption | with_reducible refine al ?_ _ | with_reducible refine Below.drew ?_ | with_reducible refine Below.setCell ?_ (by first | (simp; done) | (simp; omega)) _ | with_reducible refine tr ?_ (by with_reducible assumption))) ?_
        clear hK K
        (try simp only [Act.put, List.setIfInBounds_toArray, List.set_cons_zero, List.set_cons_succ])
        refine tree_one ?_
        refine tree_loud oo8 rfl (fun K hK => ?_)
        refine app_one _ _ W.heap.size _ n l v3 (pt l r) rfl rfl (by repeat (first | with_reducible assumption | with_reducible refine World.ownsRow.alloc ?_ _ | with_reducible refine owns_drew ?_)) rfl (by repeat (first | with_reducible assumption | with_reducible exact Blk.new (by simp) rfl | with_reducible refine Blk.alloc ?_ _ | with_reducible refine Blk.drew ?_ | with_reducible refine Blk.far ?_ (by first | (simp; done) | (simp; omega)) _ | with_reducible refine KeepT.blk (by with_reducible assumption) (by decide) ?_ | with_reducible refine Blk.grown ?_ (by with_reducible assumption) (by first | (simp; done) | (simp; omega)) | with_reducible refine Blk.tr ?_ (by with_reducible assumption))) ?_ (by omega) ?_
        · first | (simp; done) | (simp; omega) | omega
        intro v8 w8 hown8 hkt8 hbx8
        rw [hmm] at hown8
        obtain ⟨g8, c8, rfl⟩ := own_pos2 hown8 (by omega)
        have hb8 : Below W.heap.size W w8 := Below.trans (by repeat (first | with_reducible exact Below.refl _ _ | with_reducible assumption | with_reducible refine al ?_ _ | with_reducible refine Below.drew ?_ | with_reducible refine Below.setCell ?_ (by first | (simp; done) | (simp; omega)) _ | with_reducible refine tr ?_ (by with_reducible assumption))) hbx8
        have hz8 := hb8.size
        refine hK.out _ _ (by repeat (first | with_reducible exact Below.refl _ _ | with_reducible assumption | with_reducible refine al ?_ _ | with_reducible refine Below.drew ?_ | with_reducible refine Below.setCell ?_ (by first | (simp; done) | (simp; omega)) _ | with_reducible refine tr ?_ (by with_reducible assumption))) ?_
        clear hK K
        (try simp only [Act.put, List.setIfInBounds_toArray, List.set_cons_zero, List.set_cons_succ])
        refine tree_one ?_
        refine tree_loud oo9 rfl (fun K hK => ?_)
        go_simp
        go_at_call 7
        with_reducible refine (HC.out W.heap.size _ _ _ (by repeat (first | with_reducible assumption | with_reducible refine World.ownsRow.alloc ?_ _ | with_reducible refine owns_drew ?_))).mono ?_
        rintro e w9 ⟨rfl, hb9⟩
        refine hK.out _ _ (by repeat (first | with_reducible exact Below.refl _ _ | with_reducible assumption | with_reducible refine al ?_ _ | with_reducible refine Below.drew ?_ | with_reducible refine Below.setCell ?_ (by first | (simp; done) | (simp; omega)) _ | with_reducible refine tr ?_ (by with_reducible assumption))) ?_
        clear hK K
        (try simp only [Act.put, List.setIfInBounds_toArray, List.set_cons_zero, List.set_cons_succ])
        exact hc_tailA hQQ oo10 oo11 oo12 oo13 oo14 oo16 oo17 oo18 oo19 (by first | (simp; done) | (simp; omega) | omega) (by repeat (first | with_reducible assumption | with_reducible exact Blk.new (by simp) rfl | with_reducible refine Blk.alloc ?_ _ | with_reducible refine Blk.drew ?_ | with_reducible refine Blk.far ?_ (by first | (simp; done) | (simp; omega)) _ | with_reducible refine KeepT.blk (by with_reducible assumption) (by decide) ?_ | with_reducible refine Blk.grown ?_ (by with_reducible assumption) (by first | (simp; done) | (simp; omega)) | with_reducible refine Blk.tr ?_ (by with_reducible assumption))) (by repeat (first | with_reducible exact Below.refl _ _ | with_reducible assumption | with_reducible refine al ?_ _ | with_reducible refine Below.drew ?_ | with_reducible refine Below.setCell ?_ (by first | (simp; done) | (simp; omega)) _ | with_reducible refine tr ?_ (by with_reducible assumption)))
    · refine tree_loud oo15 rfl (fun K hK => ?_)
      go_simp
      refine hK.out _ _ (by repeat (first | with_reducible exact Below.refl _ _ | with_reducible assumption | with_reducible refine al ?_ _ | with_reducible refine Below.drew ?_ | with_reducible refine Below.setCell ?_ (by first | (simp; done) | (simp; omega)) _ | with_reducible refine tr ?_ (by with_reducible assumption))) ?_
      clear hK K
      (try simp only [Act.put, List.setIfInBounds_toArray, List.set_cons_zero, List.set_cons_succ])
      refine tree_one ?_
      refine tree_loud oo0 rfl (fun K hK => ?_)
      go_simp
      refine hK.out _ _ (by repeat (first | with_reducible exact Below.refl _ _ | with_reducible assumption | with_reducible refine al ?_ _ | with_reducible refine Below.drew ?_ | with_reducible refine Below.setCell ?_ (by first | (simp; done) | (simp; omega)) _ | with_reducible refine tr ?_ (by with_reducible assumption))) ?_
      clear hK K
      (try simp only [Act.put, List.setIfInBounds_toArray, List.set_cons_zero, List.set_cons_succ])
      refine tree_one ?_
      refine tree_loud oo2 rfl (fun K hK => ?_)
      refine app_lit _ _ W.heap.size _ b off n c l rfl rfl (by repeat (first | with_reducible assumption | with_reducible exact Blk.new (by simp) rfl | with_reducible refine Blk.alloc ?_ _ | with_reducible refine Blk.drew ?_ | with_reducible refine Blk.far ?_ (by first | (simp; done) | (simp; omega)) _ | with_reducible refine KeepT.blk (by with_reducible assumption) (by decide) ?_ | with_reducible refine Blk.grown ?_ (by with_reducible assumption) (by first | (simp; done) | (simp; omega)) | with_reducible refine Blk.tr ?_ (by with_reducible assumption))) ?_ rfl (HL.below (by repeat (first | with_reducible exact Below.refl _ _ | with_reducible assumption | with_reducible refine al ?_ _ | with_reducible refine Below.drew ?_ | with_reducible refine Below.setCell ?_ (by first | (simp; done) | (simp; omega)) _ | with_reducible refine tr ?_ (by with_reducible assumption)))) (by omega) (by omega) ?_
      · first | (simp; done) | (simp; omega) | omega
      intro v3 w3 hown3 hgr3 hkt3 hbx3
      have hb3 : Below W.heap.size W w3 := Below.trans (by repeat (first | with_reducible exact Below.refl _ _ | with_reducible assumption | with_reducible refine al ?_ _ | with_reducible refine Below.drew ?_ | with_reducible refine Below.setCell ?_ (by first | (simp; done) | (simp; omega)) _ | with_reducible refine tr ?_ (by with_reducible assumption))) hbx3
      have hz3 := hb3.size
      refine hK.out _ _ (by repeat (first | with_reducible exact Below.refl _ _ | with_reducible assumption | with_reducible refine al ?_ _ | with_reducible refine Below.drew ?_ | with_reducible refine Below.setCell ?_ (by first | (simp; done) | (simp; omega)) _ | with_reducible refine tr ?_ (by with_reducible assumption))) ?_
      clear hK K
      (try simp only [Act.put, List.setIfInBounds_toArray, List.set_cons_zero, List.set_cons_succ])
      refine tree_one ?_
      refine tree_loud oo8 rfl (fun K hK => ?_)
      refine app_one _ _ W.heap.size _ n l v3 (pt l r) rfl rfl (by repeat (first | with_reducible assumption | with_reducible refine World.ownsRow.alloc ?_ _ | with_reducible refine owns_drew ?_)) rfl (by repeat (first | with_reducible assumption | with_reducible exact Blk.new (by simp) rfl | with_reducible refine Blk.alloc ?_ _ | with_reducible refine Blk.drew ?_ | with_reducible refine Blk.far ?_ (by first | (simp; done) | (simp; omega)) _ | with_reducible refine KeepT.blk (by with_reducible assumption) (by decide) ?_ | with_reducible refine Blk.grown ?_ (by with_reducible assumption) (by first | (simp; done) | (simp; omega)) | with_reducible refine Blk.tr ?_ (by with_reducible assumption))) ?_ (by omega) ?_
      · first | (simp; done) | (simp; omega) | omega
      intro v8 w8 hown8 hkt8 hbx8
      rw [hmm] at hown8
      obtain ⟨g8, c8, rfl⟩ := own_pos2 hown8 (by omega)
      have hb8 : Below W.heap.size W w8 := Below.trans (by repeat (first | with_reducible exact Below.refl _ _ | with_reducible assumption | with_reducible refine al ?_ _ | with_reducible refine Below.drew ?_ | with_reducible refine Below.setCell ?_ (by first | (simp; done) | (simp; omega)) _ | with_reducible refine tr ?_ (by with_reducible assumption))) hbx8
      have hz8 := hb8.size
      refine hK.out _ _ (by repeat (first | with_reducible exact Below.refl _ _ | with_reducible assumption | with_reducible refine al ?_ _ | with_reducible refine Below.drew ?_ | with_reducible refine Below.setCell ?_ (by first | (simp; done) | (simp; omega)) _ | with_reducible refine tr ?_ (by with_reducible assumption))) ?_
      clear hK K
      (try simp only [Act.put, List.setIfInBounds_toArray, List.set_cons_zero, List.set_cons_succ])
      refine tree_one ?_
      refine tree_loud oo9 rfl (fun K hK => ?_)
      go_simp
      go_at_call 7
      with_reducible refine (HC.out W.heap.size _ _ _ (by repeat (first | with_reducible assumption | with_reducible refine World.ownsRow.alloc ?_ _ | with_reducible refine owns_drew ?_))).mono ?_
      rintro e w9 ⟨rfl, hb9⟩
      refine hK.out _ _ (by repeat (first | with_reducible exact Below.refl _ _ | with_reducible assumption | with_reducible refine al ?_ _ | with_reducible refine Below.drew ?_ | with_reducible refine Below.setCell ?_ (by first | (simp; done) | (simp; omega)) _ | with_reducible refine tr ?_ (by with_reducible assumption))) ?_
      clear hK K
      (try simp only [Act.put, List.setIfInBounds_toArray, List.set_cons_zero, List.set_cons_succ])
      exact hc_tailA hQQ oo10 oo11 oo12 oo13 oo14 oo16 oo17 oo18 oo19 (by first | (simp; done) | (simp; omega) | omega) (by repeat (first | with_reducible assumption | with_reducible exact Blk.new (by simp) rfl | with_reducible refine Blk.alloc ?_ _ | with_reducible refine Blk.drew ?_ | with_reducible refine Blk.far ?_ (by first | (simp; done) | (simp; omega)) _ | with_reducible refine KeepT.blk (by with_reducible assumption) (by decide) ?_ | with_reducible refine Blk.grown ?_ (by with_reducible assumption) (by first | (simp; done) | (simp; omega)) | with_reducible refine Blk.tr ?_ (by with_reducible assumption))) (by repeat (first | with_reducible exact Below.refl _ _ | with_reducible assumption | with_reducible refine al ?_ _ | with_reducible refine Below.drew ?_ | with_reducible refine Below.setCell ?_ (by first | (simp; done) | (simp; omega)) _ | with_reducible refine tr ?_ (by with_reducible assumption)))
  · refine tree_loud oo15 rfl (fun K hK => ?_)
    go_simp
    refine hK.out _ _ (by repeat (first | with_reducible exact Below.refl _ _ | with_reducible assumption | with_reducible refine al ?_ _ | with_reducible refine Below.drew ?_ | with_reducible refine Below.setCell ?_ (by first | (simp; done) | (simp; omega)) _ | with_reducible refine tr ?_ (by with_reducible assumption))) ?_
    clear hK K
    (try simp only [Act.put, List.setIfInBounds_toArray, List.set_cons_zero, List.set_cons_succ])
    refine tree_two ?_ ?_
    · refine tree_loud oo0 rfl (fun K hK => ?_)
      go_simp
      refine hK.out _ _ (by repeat (first | with_reducible exact Below.refl _ _ | with_reducible assumption | with_reducible refine al ?_ _ | with_reducible refine Below.drew ?_ | with_reducible refine Below.setCell ?_ (by first | (simp; done) | (simp; omega)) _ | with_reducible refine tr ?_ (by with_reducible assumption))) ?_
      clear hK K
      (try simp only [Act.put, List.setIfInBounds_toArray, List.set_cons_zero, List.set_cons_succ])
      refine tree_two ?_ ?_
      · refine tree_loud oo2 rfl (fun K hK => ?_)
        refine app_lit _ _ W.heap.size _ b off n c l rfl rfl (by repeat (first | with_reducible assumption | with_reducible exact Blk.new (by simp) rfl | with_reducible refine Blk.alloc ?_ _ | with_reducible refine Blk.drew ?_ | with_reducible refine Blk.far ?_ (by first | (simp; done) | (simp; omega)) _ | with_reducible refine KeepT.blk (by with_reducible assumption) (by decide) ?_ | with_reducible refine Blk.grown ?_ (by with_reducible assumption) (by first | (simp; done) | (simp; omega)) | with_reducible refine Blk.tr ?_ (by with_reducible assumption))) ?_ rfl (HL.below (by repeat (first | with_reducible exact Below.refl _ _ | with_reducible assumption | with_reducible refine al ?_ _ | with_reducible refine Below.drew ?_ | with_reducible refine Below.setCell ?_ (by first | (simp; done) | (simp; omega)) _ | with_reducible refine tr ?_ (by with_reducible assumption)))) (by omega) (by omega) ?_
        · first | (simp; done) | (simp; omega) | omega
        intro v3 w3 hown3 hgr3 hkt3 hbx3
        have hb3 : Below W.heap.size W w3 := Below.trans (by repeat (first | with_reducible exact Below.refl _ _ | with_reducible assumption | with_reducible refine al ?_ _ | with_reducible refine Below.drew ?_ | with_reducible refine Below.setCell ?_ (by first | (simp; done) | (simp; omega)) _ | with_reducible refine tr ?_ (by with_reducible assumption))) hbx3
        have hz3 := hb3.size
        refine hK.out _ _ (by repeat (first | with_reducible exact Below.refl _ _ | with_reducible assumption | with_reducible refine al ?_ _ | with_reducible refine Below.drew ?_ | with_reducible refine Below.setCell ?_ (by first | (simp; done) | (simp; omega)) _ | with_reducible refine tr ?_ (by with_reducible assumption))) ?_
        clear hK K
        (try simp only [Act.put, List.setIfInBounds_toArray, List.set_cons_zero, List.set_cons_succ])
        refine tree_one ?_
        refine tree_loud oo7 rfl (fun K hK => ?_)
        go_simp
        refine hK.out _ _ (by repeat (first | with_reducible exact Below.refl _ _ | with_reducible assumption | with_reducible refine al ?_ _ | with_reducible refine Below.drew ?_ | with_reducible refine Below.setCell ?_ (by first | (simp; done) | (simp; omega)) _ | with_reducible refine tr ?_ (by with_reducible assumption))) ?_
        clear hK K
        (try simp only [Act.put, List.setIfInBounds_toArray, List.set_cons_zero, List.set_cons_succ])
        refine tree_one ?_
        refine tree_loud oo8 rfl (fun K hK => ?_)
        refine app_one _ _ W.heap.size _ n l v3 (pt l r) rfl rfl (by repeat (first | with_reducible assumption | with_reducible refine World.ownsRow.alloc ?_ _ | with_reducible refine owns_drew ?_)) rfl (by repeat (first | with_reducible assumption | with_reducible exact Blk.new (by simp) rfl | with_reducible refine Blk.alloc ?_ _ | with_reducible refine Blk.drew ?_ | with_reducible refine Blk.far ?_ (by first | (simp; done) | (simp; omega)) _ | with_reducible refine KeepT.blk (by with_reducible assumption) (by decide) ?_ | with_reducible refine Blk.grown ?_ (by with_reducible assumption) (by first | (simp; done) | (simp; omega)) | with_reducible refine Blk.tr ?_ (by with_reducible assumption))) ?_ (by omega) ?_
        · first | (simp; done) | (simp; omega) | omega
        intro v8 w8 hown8 hkt8 hbx8
        rw [hmm] at hown8
        obtain ⟨g8, c8, rfl⟩ := own_pos2 hown8 (by omega)
        have hb8 : Below W.heap.size W w8 := Below.trans (by repeat (first | with_reducible exact Below.refl _ _ | with_reducible assumption | with_reducible refine al ?_ _ | with_reducible refine Below.drew ?_ | with_reducible refine Below.setCell ?_ (by first | (simp; done) | (simp; omega)) _ | with_reducible refine tr ?_ (by with_reducible assumption))) hbx8
        have hz8 := hb8.size
        refine hK.out _ _ (by repeat (first | with_reducible exact Below.refl _ _ | with_reducible assumption | with_reducible refine al ?_ _ | with_reducible refine Below.drew ?_ | with_reducible refine Below.setCell ?_ (by first | (simp; done) | (simp; omega)) _ | with_reducible refine tr ?_ (by with_reducible assumption))) ?_
        clear hK K
        (try simp only [Act.put, List.setIfInBounds_toArray, List.set_cons_zero, List.set_cons_succ])
        refine tree_one ?_
        refine tree_loud oo9 rfl (fun K hK => ?_)
        go_simp
        go_at_call 7
        with_reducible refine (HC.out W.heap.size _ _ _ (by repeat (first | with_reducible assumption | with_reducible refine World.ownsRow.alloc ?_ _ | with_reducible refine owns_drew ?_))).mono ?_
        rintro e w9 ⟨rfl, hb9⟩
        refine hK.out _ _ (by repeat (first | with_reducible exact Below.refl _ _ | with_reducible assumption | with_reducible refine al ?_ _ | with_reducible refine Below.drew ?_ | with_reducible refine Below.setCell ?_ (by first | (simp; done) | (simp; omega)) _ | with_reducible refine tr ?_ (by with_reducible assumption))) ?_
        clear hK K
        (try simp only [Act.put, List.setIfInBounds_toArray, List.set_cons_zero, List.set_cons_succ])
        exact hc_tailA hQQ oo10 oo11 oo12 oo13 oo14 oo16 oo17 oo18 oo19 (by first | (simp; done) | (simp; omega) | omega) (by repeat (first | with_reducible assumption | with_reducible exact Blk.new (by simp) rfl | with_reducible refine Blk.alloc ?_ _ | with_reducible refine Blk.drew ?_ | with_reducible refine Blk.far ?_ (by first | (simp; done) | (simp; omega)) _ | with_reducible refine KeepT.blk (by with_reducible assumption) (by decide) ?_ | with_reducible refine Blk.grown ?_ (by with_reducible assumption) (by first | (simp; done) | (simp; omega)) | with_reducible refine Blk.tr ?_ (by with_reducible assumption))) (by repeat (first | with_reducible exact Below.refl _ _ | with_reducible assumption | with_reducible refine al ?_ _ | with_reducible refine Below.drew ?_ | with_reducible refine Below.setCell ?_ (by first | (simp; done) | (simp; omega)) _ | with_reducible refine tr ?_ (by with_reducible assumption)))
      · refine tree_loud oo7 rfl (fun K hK => ?_)
        go_simp
        refine hK.out _ _ (by repeat (first | with_reducible exact Below.refl _ _ | with_reducible assumption | with_reducible refine al ?_ _ | with_reducible refine Below.drew ?_ | with_reducible refine Below.setCell ?_ (by first | (simp; done) | (simp; omega)) _ | with_reducible refine tr ?_ (by with_reducible assumption))) ?_
        clear hK K
        (try simp only [Act.put, List.setIfInBounds_toArray, List.set_cons_zero, List.set_cons_succ])
        refine tree_one ?_
        refine tree_loud oo2 rfl (fun K hK => ?_)
        refine app_lit _ _ W.heap.size _ b off n c l rfl rfl (by repeat (first | with_reducible assumption | with_reducible exact Blk.new (by simp) rfl | with_reducible refine Blk.alloc ?_ _ | with_reducible refine Blk.drew ?_ | with_reducible refine Blk.far ?_ (by first | (simp; done) | (simp; omega)) _ | with_reducible refine KeepT.blk (by with_reducible assumption) (by decide) ?_ | with_reducible refine Blk.grown ?_ (by with_reducible assumption) (by first | (simp; done) | (simp; omega)) | with_reducible refine Blk.tr ?_ (by with_reducible assumption))) ?_ rfl (HL.below (by repeat (first | with_reducible exact Below.refl _ _ | with_reducible assumption | with_reducible refine al ?_ _ | with_reducible refine Below.drew ?_ | with_reducible refine Below.setCell ?_ (by first | (simp; done) | (simp; omega)) _ | with_reducible refine tr ?_ (by with_reducible assumption)))) (by omega) (by omega) ?_
        · first | (simp; done) | (simp; omega) | omega
        intro v3 w3 hown3 hgr3 hkt3 hbx3
        have hb3 : Below W.heap.size W w3 := Below.trans (by repeat (first | with_reducible exact Below.refl _ _ | with_reducible assumption | with_reducible refine al ?_ _ | with_reducible refine Below.drew ?_ | with_reducible refine Below.setCell ?_ (by first | (simp; done) | (simp; omega)) _ | with_reducible refine tr ?_ (by with_reducible assumption))) hbx3
        have hz3 := hb3.size
        refine hK.out _ _ (by repeat (first | with_reducible exact Below.refl _ _ | with_reducible assumption | with_reducible refine al ?_ _ | with_reducible refine Below.drew ?_ | with_reducible refine Below.setCell ?_ (by first | (simp; done) | (simp; omega)) _ | with_reducible refine tr ?_ (by with_reducible assumption))) ?_
        clear hK K
        (try simp only [Act.put, List.setIfInBounds_toArray, List.set_cons_zero, List.set_cons_succ])
        refine tree_one ?_
        refine tree_loud oo8 rfl (fun K hK => ?_)
        refine app_one _ _ W.heap.size _ n l v3 (pt l r) rfl rfl (by repeat (first | with_reducible assumption | with_reducible refine World.ownsRow.alloc ?_ _ | with_reducible refine owns_drew ?_)) rfl (by repeat (first | with_reducible assumption | with_reducible exact Blk.new (by simp) rfl | with_reducible refine Blk.alloc ?_ _ | with_reducible refine Blk.drew ?_ | with_reducible refine Blk.far ?_ (by first | (simp; done) | (simp; omega)) _ | with_reducible refine KeepT.blk (by with_reducible assumption) (by decide) ?_ | with_reducible refine Blk.grown ?_ (by with_reducible assumption) (by first | (simp; done) | (simp; omega)) | with_reducible refine Blk.tr ?_ (by with_reducible assumption))) ?_ (by omega) ?_
        · first | (simp; done) | (simp; omega) | omega
        intro v8 w8 hown8 hkt8 hbx8
        rw [hmm] at hown8
        obtain ⟨g8, c8, rfl⟩ := own_pos2 hown8 (by omega)
        have hb8 : Below W.heap.size W w8 := Below.trans (by repeat (first | with_reducible exact Below.refl _ _ | with_reducible assumption | with_reducible refine al ?_ _ | with_reducible refine Below.drew ?_ | with_reducible refine Below.setCell ?_ (by first | (simp; done) | (simp; omega)) _ | with_reducible refine tr ?_ (by with_reducible assumption))) hbx8
        have hz8 := hb8.size
        refine hK.out _ _ (by repeat (first | with_reducible exact Below.refl _ _ | with_reducible assumption | with_reducible refine al ?_ _ | with_reducible refine Below.drew ?_ | with_reducible refine Below.setCell ?_ (by first | (simp; done) | (simp; omega)) _ | with_reducible refine tr ?_ (by with_reducible assumption))) ?_
        clear hK K
        (try simp only [Act.put, List.setIfInBounds_toArray, List.set_cons_zero, List.set_cons_succ])
        refine tree_one ?_
        refine tree_loud oo9 rfl (fun K hK => ?_)
        go_simp
        go_at_call 7
        with_reducible refine (HC.out W.heap.size _ _ _ (by repeat (first | with_reducible assumption | with_reducible refine World.ownsRow.alloc ?_ _ | with_reducible refine owns_drew ?_))).mono ?_
        rintro e w9 ⟨rfl, hb9⟩
        refine hK.out _ _ (by repeat (first | with_reducible exact Below.refl _ _ | with_reducible assumption | with_reducible refine al ?_ _ | with_reducible refine Below.drew ?_ | with_reducible refine Below.setCell ?_ (by first | (simp; done) | (simp; omega)) _ | with_reducible refine tr ?_ (by with_reducible assumption))) ?_
        clear hK K
        (try simp only [Act.put, List.setIfInBounds_toArray, List.set_cons_zero, List.set_cons_succ])
        exact hc_tailA hQQ oo10 oo11 oo12 oo13 oo14 oo16 oo17 oo18 oo19 (by first | (simp; done) | (simp; omega) | omega) (by repeat (first | with_reducible assumption | with_reducible exact Blk.new (by simp) rfl | with_reducible refine Blk.alloc ?_ _ | with_reducible refine Blk.drew ?_ | with_reducible refine Blk.far ?_ (by first | (simp; done) | (simp; omega)) _ | with_reducible refine KeepT.blk (by with_reducible assumption) (by decide) ?_ | with_reducible refine Blk.grown ?_ (by with_reducible assumption) (by first | (simp; done) | (simp; omega)) | with_reducible refine Blk.tr ?_ (by with_reducible assumption))) (by repeat (first | with_reducible exact Below.refl _ _ | with_reducible assumption | with_reducible refine al ?_ _ | with_reducible refine Below.drew ?_ | with_reducible refine Below.setCell ?_ (by first | (simp; done) | (simp; omega)) _ | with_reducible refine tr ?_ (by with_reducible assumption)))
    · refine tree_loud oo7 rfl (fun K hK => ?_)
      go_simp
      refine hK.out _ _ (by repeat (first | with_reducible exact Below.refl _ _ | with_reducible assumption | with_reducible refine al ?_ _ | with_reducible refine Below.drew ?_ | with_reducible refine Below.setCell ?_ (by first | (simp; done) | (simp; omega)) _ | with_reducible refine tr ?_ (by with_reducible assumption))) ?_
      clear hK K
      (try simp only [Act.put, List.setIfInBounds_toArray, List.set_cons_zero, List.set_cons_succ])
      refine tree_one ?_
      refine tree_loud oo0 rfl (fun K hK => ?_)
      go_simp
      refine hK.out _ _ (by repeat (first | with_reducible exact Below.refl _ _ | with_reducible assumption | with_reducible refine al ?_ _ | with_reducible refine Below.drew ?_ | with_reducible refine Below.setCell ?_ (by first | (simp; done) | (simp; omega)) _ | with_reducible refine tr ?_ (by with_reducible assumption))) ?_
      clear hK K
      (try simp only [Act.put, List.setIfInBounds_toArray, List.set_cons_zero, List.set_cons_succ])
      refine tree_one ?_
      refine tree_loud oo2 rfl (fun K hK => ?_)
      refine app_lit _ _ W.heap.size _ b off n c l rfl rfl (by repeat (first | with_reducible assumption | with_reducible exact Blk.new (by simp) rfl | with_reducible refine Blk.alloc ?_ _ | with_reducible refine Blk.drew ?_ | with_reducible refine Blk.far ?_ (by first | (simp; done) | (simp; omega)) _ | with_reducible refine KeepT.blk (by with_reducible assumption) (by decide) ?_ | with_reducible refine Blk.grown ?_ (by with_reducible assumption) (by first | (simp; done) | (simp; omega)) | with_reducible refine Blk.tr ?_ (by with_reducible assumption))) ?_ rfl (HL.below (by repeat (first | with_reducible exact Below.refl _ _ | with_reducible assumption | with_reducible refine al ?_ _ | with_reducible refine Below.drew ?_ | with_reducible refine Below.setCell ?_ (by first | (simp; done) | (simp; omega)) _ | with_reducible refine tr ?_ (by with_reducible assumption)))) (by omega) (by omega) ?_
      · first | (simp; done) | (simp; omega) | omega
      intro v3 w3 hown3 hgr3 hkt3 hbx3
      have hb3 : Below W.heap.size W w3 := Below.trans (by repeat (first | with_reducible exact Below.refl _ _ | with_reducible assumption | with_reducible refine al ?_ _ | with_reducible refine Below.drew ?_ | with_reducible refine Below.setCell ?_ (by first | (simp; done) | (simp; omega)) _ | with_reducible refine tr ?_ (by with_reducible assumption))) hbx3
      have hz3 := hb3.size
      refine hK.out _ _ (by repeat (first | with_reducible exact Below.refl _ _ | with_reducible assumption | with_reducible refine al ?_ _ | with_reducible refine Below.drew ?_ | with_reducible refine Below.setCell ?_ (by first | (simp; done) | (simp; omega)) _ | with_reducible refine tr ?_ (by with_reducible assumption))) ?_
      clear hK K
      (try simp only [Act.put, List.setIfInBounds_toArray, List.set_cons_zero, List.set_cons_succ])
      refine tree_one ?_
      refine tree_loud oo8 rfl (fun K hK => ?_)
      refine app_one _ _ W.heap.size _ n l v3 (pt l r) rfl rfl (by repeat (first | with_reducible assumption | with_reducible refine World.ownsRow.alloc ?_ _ | with_reducible refine owns_drew ?_)) rfl (by repeat (first | with_reducible assumption | with_reducible exact Blk.new (by simp) rfl | with_reducible refine Blk.alloc ?_ _ | with_reducible refine Blk.drew ?_ | with_reducible refine Blk.far ?_ (by first | (simp; done) | (simp; omega)) _ | with_reducible refine KeepT.blk (by with_reducible assumption) (by decide) ?_ | with_reducible refine Blk.grown ?_ (by with_reducible assumption) (by first | (simp; done) | (simp; omega)) | with_reducible refine Blk.tr ?_ (by with_reducible assumption))) ?_ (by omega) ?_
      · first | (simp; done) | (simp; omega) | omega
      intro v8 w8 hown8 hkt8 hbx8
      rw [hmm] at hown8
      obtain ⟨g8, c8, rfl⟩ := own_pos2 hown8 (by omega)
      have hb8 : Below W.heap.size W w8 := Below.trans (by repeat (first | with_reducible exact Below.refl _ _ | with_reducible assumption | with_reducible refine al ?_ _ | with_reducible refine Below.drew ?_ | with_reducible refine Below.setCell ?_ (by first | (simp; done) | (simp; omega)) _ | with_reducible refine tr ?_ (by with_reducible assumption))) hbx8
      have hz8 := hb8.size
      refine hK.out _ _ (by repeat (first | with_reducible exact Below.refl _ _ | with_reducible assumption | with_reducible refine al ?_ _ | with_reducible refine Below.drew ?_ | with_reducible refine Below.setCell ?_ (by first | (simp; done) | (simp; omega)) _ | with_reducible refine tr ?_ (by with_reducible assumption))) ?_
      clear hK K
      (try simp only [Act.put, List.setIfInBounds_toArray, List.set_cons_zero, List.set_cons_succ])
      refine tree_one ?_
      refine tree_loud oo9 rfl (fun K hK => ?_)
      go_simp
      go_at_call 7
      with_reducible refine (HC.out W.heap.size _ _ _ (by repeat (first | with_reducible assumption | with_reducible refine World.ownsRow.alloc ?_ _ | with_reducible refine owns_drew ?_))).mono ?_
      rintro e w9 ⟨rfl, hb9⟩
      refine hK.out _ _ (by repeat (first | with_reducible exact Below.refl _ _ | with_reducible assumption | with_reducible refine al ?_ _ | with_reducible refine Below.drew ?_ | with_reducible refine Below.setCell ?_ (by first | (simp; done) | (simp; omega)) _ | with_reducible refine tr ?_ (by with_reducible assumption))) ?_
      clear hK K
      (try simp only [Act.put, List.setIfInBounds_toArray, List.set_cons_zero, List.set_cons_succ])
      exact hc_tailA hQQ oo10 oo11 oo12 oo13 oo14 oo16 oo17 oo18 oo19 (by first | (simp; done) | (simp; omega) | omega) (by repeat (first | with_reducible assumption | with_reducible exact Blk.new (by simp) rfl | with_reducible refine Blk.alloc ?_ _ | with_reducible refine Blk.drew ?_ | with_reducible refine Blk.far ?_ (by first | (simp; done) | (simp; omega)) _ | with_reducible refine KeepT.blk (by with_reducible assumption) (by decide) ?_ | with_reducible refine Blk.grown ?_ (by with_reducible assumption) (by first | (simp; done) | (simp; omega)) | with_reducible refine Blk.tr ?_ (by with_reducible assumption))) (by repeat (first | with_reducible exact Below.refl _ _ | with_reducible assumption | with_reducible refine al ?_ _ | with_reducible refine Below.drew ?_ | with_reducible refine Below.setCell ?_ (by first | (simp; done) | (simp; omega)) _ | with_reducible refine tr ?_ (by with_reducible assumption)))
end Go.Proofs.YtmliljdbpkikpaaGreatDoor
