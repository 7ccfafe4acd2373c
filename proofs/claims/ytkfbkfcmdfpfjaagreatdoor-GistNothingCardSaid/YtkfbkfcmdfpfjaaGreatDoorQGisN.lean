/-
  gist: no tree.
-/
import Derived.Test.YtkfbkfcmdfpfjaaGreatDoorQGisB
import Derived.Test.YtkfbkfcmdfpfjaaGreatDoorQErrX
set_option linter.unusedSimpArgs false
set_option linter.unusedVariables false
namespace Go.Proofs.YtkfbkfcmdfpfjaaGreatDoor
open Go Go.RowKit Pg
theorem newNil_any (fan : Int) (w : World) : Calls Tryz.prog 12 #[.nilIface, .int .i64 fan] w fun e w' => ∃ v, e = .returned (.tuple #[.pointer none, v]) ∧ ErrX w' v 1 ⟨#[110, 101, 119]⟩ fan ∧ Below w.heap.size w w' := by
  have HF := Lib.hid (fun W => fnewX_any ⟨#[110, 101, 119]⟩ fan (.iface 68 (.int .i64 ((1 : Nat) : Int))) 1 W (.inr ⟨by decide, 0, rfl⟩))
  go_enter Tryz.func12, Tryz.ntmps12
  go_wp2_with (go_at_call 29; (refine (HF.out _).mono ?_); rintro e w1 ⟨v, rfl, hx, hb1⟩; have HX := Lib.hid hx; clear hx; obtain ⟨hc1, hf1⟩ := bcell hb1)
  go_ret2
  exact ⟨_, rfl, HX.out, bel⟩
set_option maxRecDepth 20000 in
theorem getNil_any (id : Int) (w : World) : Calls Tryz.prog 13 #[.pointer none, .int .i64 id] w fun e w' => e = .returned (.tuple #[.agg #[.int .i64 0, .slice none 0 0], .bool false]) ∧ Below w.heap.size w w' := by
  have HG := Lib.hid gone_nil
  go_enter Tryz.func13, Tryz.ntmps13
  go_wp2_with (go_at_call 32; (refine (HG.out _).mono ?_); rintro e w1 ⟨rfl, hb1⟩; obtain ⟨hc1, hf1⟩ := bcell hb1; have hz1 := hb1.size; (try simp at hz1))
  refine post_genG (fun w2 => Blk w2 w.heap.size 49 #[.int .i64 0, .slice none 0 0] ∧ Below w.heap.size w w2) ⟨?_, bel⟩ ?_
  · exact two_putG (x := .int .i64 0) (y := .slice none 0 0) blkA
  rintro w2 ⟨HR, hb2⟩
  have r0 := HR.cell 0
  have r1 := HR.cell 1
  simp only [List.getElem?_toArray, List.getElem?_cons_zero, List.getElem?_cons_succ] at r0 r1
  exact bodyPost_ret (v := .tuple #[.agg #[.int .i64 0, .slice none 0 0], .bool false]) (by simp [results, Tryz.results13, go_sem, r0, r1]) rfl ⟨rfl, hb2⟩
theorem insertNil_any (id : Int) (o : Value) (n : Int) (A : Option Addr) (m c : Nat) (ho : o = obV n A m c) (w : World) : Calls Tryz.prog 15 #[.pointer none, .int .i64 id, o] w fun e w' => ∃ v, e = .returned v ∧ ErrX w' v 1 ⟨#[105, 110, 115, 101, 114, 116]⟩ id ∧ Below w.heap.size w w' := by
  subst ho
  have HI := Lib.hid (show ∀ W, Calls Tryz.prog 35 #[.pointer none, .int .i64 id, obV n A m c] W (Ret W (.iface 68 (.int .i64 ((1 : Nat) : Int)))) from fun W => by
    have HG := Lib.hid gone_nil
    go_enter Tryz.func35, Tryz.ntmps35
    go_wp2_with (go_at_call 32; (refine (HG.out _).mono ?_); rintro e w1 ⟨rfl, hb1⟩; obtain ⟨hc1, hf1⟩ := bcell hb1; have hz1 := hb1.size; (try simp at hz1))
    go_ret
    exact ⟨rfl, bel⟩)
  have HF := Lib.hid (fun W => fnewX_any ⟨#[105, 110, 115, 101, 114, 116]⟩ id (.iface 68 (.int .i64 ((1 : Nat) : Int))) 1 W (.inr ⟨by decide, 0, rfl⟩))
  go_enter Tryz.func15, Tryz.ntmps15
  go_wp2_with (first | (go_at_call 29; (refine (HF.out _).mono ?_); rintro e w1 ⟨v, rfl, hx, hb1⟩; have HX := Lib.hid hx; clear hx; obtain ⟨hc1, hf1⟩ := bcell hb1) | (go_at_call 35; (refine (HI.out _).mono ?_); rintro e wq ⟨rfl, hbq⟩; obtain ⟨hcq, hfq⟩ := bcell hbq; have hzq := hbq.size; (try simp at hzq)))
  go_ret
  exact ⟨_, rfl, HX.out, bel⟩
set_option maxRecDepth 20000 in
set_option maxHeartbeats 2000000 in
theorem deleteNil_any (id : Int) (w : World) : Calls Tryz.prog 17 #[.pointer none, .int .i64 id] w fun e w' => ∃ v, e = .returned v ∧ ErrX w' v 7 ⟨#[100, 101, 108, 101, 116, 101]⟩ id ∧ Below w.heap.size w w' := by
  have HG := Lib.hid gone_nil
  have HF := Lib.hid (fun W => fnewX_any ⟨#[100, 101, 108, 101, 116, 101]⟩ id (.iface 68 (.int .i64 ((7 : Nat) : Int))) 7 W (.inr ⟨by decide, 0, rfl⟩))
  go_enter Tryz.func17, Tryz.ntmps17
  go_wp2
  refine wp_region_belowI (by kernel_rfl) (by kernel_rfl) (fun _ _ d _ _ h => by cases d <;> exact h) ?_
  simp only [List.map_cons, List.map_nil, List.getD_cons_zero, List.getD_cons_succ, bare, gslot, List.getElem?_cons_zero, List.getElem?_cons_succ, Option.bind_some]
  repeat' ((try simp only [Act.put, List.setIfInBounds_toArray, List.set_cons_zero, List.set_cons_succ]); first | (refine lexL_quiet (v := ?_) wantB_none rfl ?_ ?_; rotate_left; focus (intro wq hq; obtain ⟨hcq, hfq⟩ := bcell hq; go_simp; try with_reducible rfl)) | (refine lexL_loud wantB_none rfl (fun K hK => ?_); go_simp; ((first | (go_at_call 32; (refine (HG.out _).mono ?_); rintro e wq ⟨rfl, hbq⟩; obtain ⟨hcq, hfq⟩ := bcell hbq; have hzq := hbq.size; (try simp at hzq)) | skip) <;> (refine hK.out _ _ bel ?_; clear hK K))) | (refine lexL_on ?_ ?_; focus (simp only [List.getElem?_toArray, List.getElem?_cons_succ, List.getElem?_cons_zero, Bool.not_true, Bool.not_false]; done)) | (refine lexL_off ?_ ?_ ?_; (focus (simp only [List.getElem?_toArray, List.getElem?_cons_succ, List.getElem?_cons_zero, Bool.not_true, Bool.not_false]; done)); (focus (exact bel))) | (refine lexL_splitS (X := ?_) ?_ ?_ (fun hg => ?_) (fun hg => ?_); rotate_left; (focus (simp only [List.getElem?_toArray, List.getElem?_cons_succ, List.getElem?_cons_zero]; with_reducible rfl)); (focus (exact bel)); all_goals (try simp only [Bool.not_true, Bool.not_false] at hg)))
  (all_goals try simp only [Act.put, List.setIfInBounds_toArray, List.set_cons_zero, List.set_cons_succ]); all_goals (refine lexL_nil ?_)
  go_wp2_with (first | (go_at_call 29; (refine (HF.out _).mono ?_); rintro e w1 ⟨v, rfl, hx, hb1⟩; have HX := Lib.hid hx; clear hx; obtain ⟨hc1, hf1⟩ := bcell hb1) | (go_at_call 32; (refine (HG.out _).mono ?_); rintro e wq ⟨rfl, hbq⟩; obtain ⟨hcq, hfq⟩ := bcell hbq; have hzq := hbq.size; (try simp at hzq)))
  go_ret
  exact ⟨_, rfl, HX.out, bel⟩
theorem buildNil_any (A : Option Addr) (n c : Nat) (w : World) : Calls Tryz.prog 18 #[.pointer none, .slice A n c] w fun e w' => ∃ v, e = .returned v ∧ ErrX w' v 1 ⟨#[98, 117, 105, 108, 100]⟩ 0 ∧ Below w.heap.size w w' := by
  have HG := Lib.hid gone_nil
  have HF := Lib.hid (fun W => fnewX_any ⟨#[98, 117, 105, 108, 100]⟩ 0 (.iface 68 (.int .i64 ((1 : Nat) : Int))) 1 W (.inr ⟨by decide, 0, rfl⟩))
  go_enter Tryz.func18, Tryz.ntmps18
  go_wp2_with (first | (go_at_call 29; (refine (HF.out _).mono ?_); rintro e w1 ⟨v, rfl, hx, hb1⟩; have HX := Lib.hid hx; clear hx; obtain ⟨hc1, hf1⟩ := bcell hb1) | (go_at_call 32; (refine (HG.out _).mono ?_); rintro e wq ⟨rfl, hbq⟩; obtain ⟨hcq, hfq⟩ := bcell hbq; have hzq := hbq.size; (try simp at hzq)))
  go_ret
  exact ⟨_, rfl, HX.out, bel⟩
theorem lenNil_any (w : World) : Calls Tryz.prog 19 #[.pointer none] w (Ret w (.int .i64 0)) := by
  have HG := Lib.hid gone_nil
  go_enter Tryz.func19, Tryz.ntmps19
  go_wp2_with (go_at_call 32; (refine (HG.out _).mono ?_); rintro e w1 ⟨rfl, hb1⟩; obtain ⟨hc1, hf1⟩ := bcell hb1; have hz1 := hb1.size; (try simp at hz1))
  go_ret
  exact ⟨rfl, bel⟩
theorem depthNil_any (w : World) : Calls Tryz.prog 20 #[.pointer none] w (Ret w (.int .i64 0)) := by
  have HG := Lib.hid lenNil_any
  go_enter Tryz.func20, Tryz.ntmps20
  go_wp2_with (go_at_call 19; (refine (HG.out _).mono ?_); rintro e w1 ⟨rfl, hb1⟩; obtain ⟨hc1, hf1⟩ := bcell hb1; have hz1 := hb1.size; (try simp at hz1))
  go_ret
  exact ⟨rfl, bel⟩
theorem soundNil_any (w : World) : Calls Tryz.prog 21 #[.pointer none] w (Ret w (.bool true)) := by
  have HG := Lib.hid gone_nil
  go_enter Tryz.func21, Tryz.ntmps21
  go_wp2_with (go_at_call 32; (refine (HG.out _).mono ?_); rintro e w1 ⟨rfl, hb1⟩; obtain ⟨hc1, hf1⟩ := bcell hb1; have hz1 := hb1.size; (try simp at hz1))
  go_ret
  exact ⟨rfl, bel⟩
theorem itemsNil_any (w : World) : Calls Tryz.prog 24 #[.pointer none] w (Ret w (.slice none 0 0)) := by
  have HG := Lib.hid gone_nil
  go_enter Tryz.func24, Tryz.ntmps24
  go_wp2_with (go_at_call 32; (refine (HG.out _).mono ?_); rintro e w1 ⟨rfl, hb1⟩; obtain ⟨hc1, hf1⟩ := bcell hb1; have hz1 := hb1.size; (try simp at hz1))
  go_ret
  exact ⟨rfl, bel⟩
set_option maxRecDepth 20000 in
theorem searchNil_any (a b c d e : Int) (A : Option Addr) (n m : Nat) (w : World) : Calls Tryz.prog 22 #[.pointer none, .agg #[.int .i64 a, .int .i64 b, .int .i64 c, .int .i64 d, .int .i64 e, .slice A n m]] w (Ret w (.slice none 0 0)) := by
  have HG := Lib.hid gone_nil
  go_enter Tryz.func22, Tryz.ntmps22
  go_wp2_with (go_at_call 32; (refine (HG.out _).mono ?_); rintro e w1 ⟨rfl, hb1⟩; obtain ⟨hc1, hf1⟩ := bcell hb1; have hz1 := hb1.size; (try simp at hz1))
  go_ret
  exact ⟨rfl, bel⟩
set_option maxRecDepth 20000 in
theorem nearestNil_any (x y k : Int) (w : World) : Calls Tryz.prog 23 #[.pointer none, ptV x y, .int .i64 k] w (Ret w (.slice none 0 0)) := by
  have HG := Lib.hid gone_nil
  go_enter Tryz.func23, Tryz.ntmps23
  go_wp2_with (go_at_call 32; (refine (HG.out _).mono ?_); rintro e w1 ⟨rfl, hb1⟩; obtain ⟨hc1, hf1⟩ := bcell hb1; have hz1 := hb1.size; (try simp at hz1))
  go_ret
  exact ⟨rfl, bel⟩
end Go.Proofs.YtkfbkfcmdfpfjaaGreatDoor
