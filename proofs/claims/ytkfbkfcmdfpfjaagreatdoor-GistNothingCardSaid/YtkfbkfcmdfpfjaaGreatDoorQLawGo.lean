/-
  pergolaalike.Shape: objects that may be.
  pergolalaw17.GistNothing: the walk.
-/
import Derived.Test.YtkfbkfcmdfpfjaaGreatDoorQUnA
import Derived.Test.YtkfbkfcmdfpfjaaGreatDoorQGisN
import Derived.Test.YtkfbkfcmdfpfjaaGreatDoorQLawGn
set_option linter.unusedSimpArgs false
set_option linter.unusedVariables false
namespace Go.Proofs.YtkfbkfcmdfpfjaaGreatDoor
open Go.RowKit Pg
theorem post_genG' {P : Program} {f : Func} {Q : Ending → World → Prop} {x : Exit} {a : Act} {w : World} (R : World → Prop) (h : R w) (k : ∀ w2, R w2 → bodyPost P f Q x a w2) : bodyPost P f Q x a w := k w h
theorem two_putG' {W : World} {g : Nat} {t : TypeId} {x y a b : Value} (h : Blk W g t #[x, y]) : Blk ((W.setCell ⟨g, 0, none⟩ a).setCell ⟨g, 1, none⟩ b) g t #[a, b] := ((h.set_ 0 a).set_ 1 b).eq_ (by simp)
set_option maxHeartbeats 1000000 in
set_option maxRecDepth 20000 in
/-- a point at (1, 1) -/
theorem shape0_any (w : World) : Calls Tryz.prog 16 #[.int .i64 0, .int .i64 1, .int .i64 1, .int .i64 1] w fun e w' => ∃ g, e = .returned (obV 1 (some ⟨g, 0, none⟩) 1 1) ∧ Blk w' g 38 #[.int .i64 1, .int .i64 1] ∧ w.heap.size < g ∧ Below w.heap.size w w' := by
  have R1 := Lib.hid (fun W => show Calls Tryz.prog 36 #[.int .i64 1, .int .i64 1000] W (Ret W (.int .i64 1)) from round_any 1 1000 (by decide) (by decide) W)
  have R2 := Lib.hid (fun W => show Calls Tryz.prog 36 #[.int .i64 1, .int .i64 50] W (Ret W (.int .i64 1)) from round_any 1 50 (by decide) (by decide) W)
  have R3 := Lib.hid (fun W => show Calls Tryz.prog 36 #[.int .i64 0, .int .i64 4] W (Ret W (.int .i64 0)) from round_any 0 4 (by decide) (by decide) W)
  go_enter Tryz.func16, Tryz.ntmps16
  go_wp2_with (first | (go_at_call 36; have _z := hya0; (with_reducible refine (R1.out _).mono ?_); rintro e wb ⟨rfl, hbb⟩; obtain ⟨hcb, hfb⟩ := bcell hbb; have hzb := hbb.size; (try simp at hzb); have hyb0 : w.heap.size < wb.heap.size := (by omega)) | (go_at_call 36; (with_reducible refine (R1.out _).mono ?_); rintro e wa ⟨rfl, hba⟩; obtain ⟨hca, hfa⟩ := bcell hba; have hza := hba.size; (try simp at hza); have hya0 : w.heap.size < wa.heap.size := (by omega)) | (go_at_call 36; (with_reducible refine (R2.out _).mono ?_); rintro e wc ⟨rfl, hbc⟩; obtain ⟨hcc, hfc⟩ := bcell hbc; have hzc := hbc.size; (try simp at hzc); have hyc0 : w.heap.size < wc.heap.size := (by omega)) | (go_at_call 36; (with_reducible refine (R3.out _).mono ?_); rintro e wd ⟨rfl, hbd⟩; obtain ⟨hcd, hfd⟩ := bcell hbd; have hzd := hbd.size; (try simp at hzd); have hyd0 : w.heap.size < wd.heap.size := (by omega)))
  have hB0 : Blk wd w.heap.size 49 #[.int .i64 0, .slice none 0 0] := blkA
  have hbW : Below w.heap.size w wd := bel
  clear hba hbb hbc hca hcb hcc hfa hfb hfc
  refine post_genG' (fun w2 => Blk w2 w.heap.size 49 #[.int .i64 1, .slice (some ⟨wd.heap.size, 0, none⟩) 1 1] ∧ Blk w2 wd.heap.size 38 #[.int .i64 1, .int .i64 1] ∧ Below w.heap.size w w2) ⟨?_, blkA, bel⟩ ?_
  · exact (two_putG' (x := .int .i64 0) (y := .slice none 0 0) hB0).alloc _
  rintro w2 ⟨HR, HP, hb2⟩
  have r0 := HR.cell 0
  have r1 := HR.cell 1
  simp only [List.getElem?_toArray, List.getElem?_cons_zero, List.getElem?_cons_succ] at r0 r1
  exact bodyPost_ret (v := .agg #[.int .i64 1, .slice (some ⟨wd.heap.size, 0, none⟩) 1 1]) (by simp [results, Tryz.results16, go_sem, r0, r1]) rfl ⟨_, rfl, HP, by omega, hb2⟩
end Go.Proofs.YtkfbkfcmdfpfjaaGreatDoor
set_option linter.unusedSimpArgs false
set_option linter.unusedVariables false
namespace Go.Proofs.YtkfbkfcmdfpfjaaGreatDoor
open Go Go.RowKit Pg
set_option maxHeartbeats 2000000 in
set_option maxRecDepth 20000 in
theorem gistNothing_walk (id x y : Int) (w : World) (hT : ErrT w) : Calls Tryz.prog 4 #[.int .i64 id, ptV x y] w (Ret w (.bool true)) := by
  have HN := Lib.hid (newNil_any 4)
  have HG := Lib.hid (getNil_any id)
  have HI := Lib.hid (insertNil_any id)
  have HD := Lib.hid (deleteNil_any id)
  have HB := Lib.hid (buildNil_any none 0 0)
  have HL := Lib.hid lenNil_any
  have HDe := Lib.hid depthNil_any
  have HS := Lib.hid soundNil_any
  have HSe := Lib.hid (searchNil_any 0 0 0 0 0 none 0 0)
  have HNe := Lib.hid (nearestNil_any x y 3)
  have HIt := Lib.hid itemsNil_any
  have HA := Lib.hid awake17_any
  have HSh := Lib.hid shape0_any
  have HT := Lib.hid hT
  have HC1 := Lib.hid (fun v s i W (h : ErrX W v 1 s i) => show Calls Tryz.prog 14 #[v] W fun e w' => e = .returned (.int .i64 1) ∧ W = w' from code_any v 1 W (h.y.is (by decide)))
  have HC7 := Lib.hid (fun v s i W (h : ErrX W v 7 s i) => show Calls Tryz.prog 14 #[v] W fun e w' => e = .returned (.int .i64 7) ∧ W = w' from code_any v 7 W (h.y.is (by decide)))
  have HIs := Lib.hid (fun v s W (hT : ErrT W) (h : ErrX W v 1 s 4) => show Calls Tryz.prog 8 #[v, .int .i64 1, .string s, .int .i64 4] W (Ret W (.bool true)) from isX_true v 1 s 4 W hT h (by decide))
  clear hT
  go_enter Tryz.func4, Tryz.ntmps4
  go_wp2_with (first
    | (go_at_call 12; (with_reducible refine (HN.out _).mono ?_); rintro e w1 ⟨v1, rfl, hx1, hb1⟩; have HX1 := Lib.hid hx1; clear hx1; obtain ⟨hc1, hf1⟩ := bcell hb1; have hz1 := hb1.size; (try simp at hz1); have hy1 : w.heap.size < w1.heap.size := (by omega))
    | (go_at_call 13; (with_reducible refine (HG.out _).mono ?_); rintro e w2 ⟨rfl, hb2⟩; obtain ⟨hc2, hf2⟩ := bcell hb2; have hz2 := hb2.size; (try simp at hz2); have hy2 : w.heap.size < w2.heap.size := (by omega))
    | (go_at_call 8; (refine (HIs.out _ _ _ (HT.out.tr bel) (HX1.out.tr bel)).mono ?_); rintro e w3 ⟨rfl, hb3⟩; obtain ⟨hc3, hf3⟩ := bcell hb3; have hz3 := hb3.size; (try simp at hz3); have hy3 : w.heap.size < w3.heap.size := (by omega))
    | (go_at_call 16; (with_reducible refine (HSh.out _).mono ?_); rintro e w4 ⟨g4, rfl, hB4, hg4, hb4⟩; obtain ⟨hc4, hf4⟩ := bcell hb4; have hz4 := hb4.size; (try simp at hz4); have hy4 : w.heap.size < w4.heap.size := (by omega))
    | (go_at_call 15; (refine (HI.out _ 1 _ 1 1 rfl _).mono ?_); rintro e w5 ⟨v5, rfl, hx5, hb5⟩; have HX5 := Lib.hid hx5; clear hx5; obtain ⟨hc5, hf5⟩ := bcell hb5; have hz5 := hb5.size; (try simp at hz5); have hy5 : w.heap.size < w5.heap.size := (by omega))
    | (go_at_call 14; (with_reducible refine (HC1.out _ _ _ _ HX5.out).mono ?_); rintro e w6 ⟨rfl, rfl⟩)
    | (go_at_call 17; (with_reducible refine (HD.out _).mono ?_); rintro e w7 ⟨v7, rfl, hx7, hb7⟩; have HX7 := Lib.hid hx7; clear hx7; obtain ⟨hc7, hf7⟩ := bcell hb7; have hz7 := hb7.size; (try simp at hz7); have hy7 : w.heap.size < w7.heap.size := (by omega))
    | (go_at_call 14; (with_reducible refine (HC7.out _ _ _ _ HX7.out).mono ?_); rintro e w8 ⟨rfl, rfl⟩)
    | (go_at_call 18; (with_reducible refine (HB.out _).mono ?_); rintro e w9 ⟨v9, rfl, hx9, hb9⟩; have HX9 := Lib.hid hx9; clear hx9; obtain ⟨hc9, hf9⟩ := bcell hb9; have hz9 := hb9.size; (try simp at hz9); have hy9 : w.heap.size < w9.heap.size := (by omega))
    | (go_at_call 14; (with_reducible refine (HC1.out _ _ _ _ HX9.out).mono ?_); rintro e w10 ⟨rfl, rfl⟩)
    | (go_at_call 19; (with_reducible refine (HL.out _).mono ?_); rintro e wa ⟨rfl, hba⟩; obtain ⟨hca, hfa⟩ := bcell hba; have hza := hba.size; (try simp at hza); have hya0 : w.heap.size < wa.heap.size := (by omega))
    | (go_at_call 20; (with_reducible refine (HDe.out _).mono ?_); rintro e wb ⟨rfl, hbb⟩; obtain ⟨hcb, hfb⟩ := bcell hbb; have hzb := hbb.size; (try simp at hzb); have hyb0 : w.heap.size < wb.heap.size := (by omega))
    | (go_at_call 21; (with_reducible refine (HS.out _).mono ?_); rintro e wc ⟨rfl, hbc⟩; obtain ⟨hcc, hfc⟩ := bcell hbc; have hzc := hbc.size; (try simp at hzc); have hyc0 : w.heap.size < wc.heap.size := (by omega))
    | (go_at_call 22; (with_reducible refine (HSe.out _).mono ?_); rintro e wd ⟨rfl, hbd⟩; obtain ⟨hcd, hfd⟩ := bcell hbd; have hzd := hbd.size; (try simp at hzd); have hyd0 : w.heap.size < wd.heap.size := (by omega))
    | (go_at_call 23; (with_reducible refine (HNe.out _).mono ?_); rintro e we ⟨rfl, hbe⟩; obtain ⟨hce, hfe⟩ := bcell hbe; have hze := hbe.size; (try simp at hze); have hye0 : w.heap.size < we.heap.size := (by omega))
    | (go_at_call 24; (with_reducible refine (HIt.out _).mono ?_); rintro e wf ⟨rfl, hbf⟩; obtain ⟨hcf, hff⟩ := bcell hbf; have hzf := hbf.size; (try simp at hzf); have hyf0 : w.heap.size < wf.heap.size := (by omega))
    | (go_at_call 25; (with_reducible refine (HA.out _).mono ?_); rintro e wg ⟨rfl, hbg⟩; obtain ⟨hcg, hfg⟩ := bcell hbg; have hzg := hbg.size; (try simp at hzg); have hyg0 : w.heap.size < wg.heap.size := (by omega)))
  go_ret
  exact ⟨rfl, bel⟩
end Go.Proofs.YtkfbkfcmdfpfjaaGreatDoor
