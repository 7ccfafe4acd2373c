/-
  Contracts of package segm: MeetsBox.
-/
import Derived.Test.YtahiaekoaokgnaaGreatOn
import Derived.Test.YtahiaekoaokgnaaGreatAlloc
import Derived.BigRegion
set_option linter.unusedSimpArgs false
set_option linter.unusedVariables false
namespace Go.Proofs.YtahiaekoaokgnaaGreat
open Go.RowKit Pg

set_option maxHeartbeats 2000000 in
theorem meetsBox_any (ax ay bx by_ lx ly hx hy : Int) (w : World) :
    Calls Tryz.prog 141 #[ptV ax ay, ptV bx by_, bxV lx ly hx hy] w (Ret w (.bool (mbox ⟨ax, ay⟩ ⟨bx, by_⟩ ⟨⟨lx, ly⟩, ⟨hx, hy⟩⟩))) := by
  cases h1 : (okPt ⟨ax, ay⟩ && okPt ⟨bx, by_⟩)
  · have H1 := Lib.hid h1
    go_enter Tryz.func141, Tryz.ntmps141
    go_wp2_with (first | (go_at_call 122; refine (smay2 ax ay bx by_ _ _ ?_).mono ?_; exact block_last (by simp); rw [h1]; rintro e w1 ⟨rfl, hb1⟩; obtain ⟨hc1, hf1⟩ := bcell hb1; have hz1 := hb1.size; (try simp at hz1); have hy0 : w.heap.size < w1.heap.size := (by omega); have hy1 : w.heap.size + 1 < w1.heap.size := (by omega); have hy2 : w.heap.size + 1 + 1 < w1.heap.size := (by omega)))
    go_ret
    exact ⟨ret_bool (by have h := H1.out; simp [mbox, h]), bel⟩
  · have H1 := Lib.hid h1
    by_cases hk : ckBox ⟨⟨lx, ly⟩, ⟨hx, hy⟩⟩ = 0
    · have HE := Lib.hid (errV_zero hk)
      have HK : Hid (okBx ⟨⟨lx, ly⟩, ⟨hx, hy⟩⟩ = true) := by simp [Hid, okBx, hk]
      clear hk
      go_enter Tryz.func141, Tryz.ntmps141
      go_wp2_with (first | (go_at_call 122; refine (smay2 ax ay bx by_ _ _ ?_).mono ?_; exact block_last (by simp); rw [h1]; rintro e w1 ⟨rfl, hb1⟩; obtain ⟨hc1, hf1⟩ := bcell hb1; have hz1 := hb1.size; (try simp at hz1); have hy0 : w.heap.size < w1.heap.size := (by omega); have hy1 : w.heap.size + 1 < w1.heap.size := (by omega); have hy2 : w.heap.size + 1 + 1 < w1.heap.size := (by omega)) | (go_at_call 72; refine (checkBox_any _ _ _ _ _).mono ?_; rw [HE.out]; rintro e w1 ⟨rfl, hb1⟩; obtain ⟨hc1, hf1⟩ := bcell hb1; have hz1 := hb1.size; (try simp at hz1); have hy0 : w.heap.size < w1.heap.size := (by omega); have hy1 : w.heap.size + 1 < w1.heap.size := (by omega); have hy2 : w.heap.size + 1 + 1 < w1.heap.size := (by omega)) | (go_at_call 109; refine (has_any _ _ _ _ _ _ _).mono ?_; rintro e w1 ⟨rfl, hb1⟩; obtain ⟨hc1, hf1⟩ := bcell hb1; have hz1 := hb1.size; (try simp at hz1); have hy0 : w.heap.size < w1.heap.size := (by omega); have hx01 : w.heap.size < w1.heap.size + 1 + 1 := (by omega); have hy1 : w.heap.size + 1 < w1.heap.size := (by omega); have hx11 : w.heap.size + 1 < w1.heap.size + 1 + 1 := (by omega); have hy2 : w.heap.size + 1 + 1 < w1.heap.size := (by omega); have hx21 : w.heap.size + 1 + 1 < w1.heap.size + 1 + 1 := (by omega)))
      · go_ret
        exact ⟨ret_bool (by have h := HK.out; have g := H1.out; simp only [mbox, h, g]; simp [*]), bel⟩
      · go_ret
        exact ⟨ret_bool (by have h := HK.out; have g := H1.out; simp only [mbox, h, g]; simp [*]), bel⟩
      · have hzq := hz1
        refine wp_region_alloc' [0, 1, 2, 3, 4, 5, 6, 7, 8, 9, 10, 11, 12, 13] [14, 15] [16, 17] (fun _ => #[.int .i64 0, .int .i64 0]) (by kernel_rfl) (by kernel_rfl) (fun _ _ d _ _ h => by cases d <;> exact h) (by intro i hi w; simp only [List.mem_cons, List.not_mem_nil, or_false] at hi; rcases hi with rfl | rfl <;> simp only [List.getD_cons_zero, List.getD_cons_succ, tyOf] <;> kernel_rfl) (fun KN hKN => ?_)
        simp only [List.map_cons, List.map_nil, List.getD_cons_zero, List.getD_cons_succ, bare, gslot, List.getElem?_cons_zero, List.getElem?_cons_succ, Option.bind_some]
        repeat ((try simp only [Act.put, List.setIfInBounds_toArray, List.set_cons_zero, List.set_cons_succ]); first | (refine lexN_quiet (v := ?_) rfl ?_ ?_; rotate_left; focus (intro wq hq; obtain ⟨hcq, hfq⟩ := bcell hq; go_simp; try with_reducible rfl)) | (refine lexN_loud (v := ?_) rfl ?_ ?_; rotate_left; focus (intro wq hq K hK; obtain ⟨hcq, hfq⟩ := bcell hq; go_simp; (first | fail); refine hK.out _ _ ?_ bel; simp only [Act.put, List.setIfInBounds_toArray, List.set_cons_zero, List.set_cons_succ]; try with_reducible rfl)))
        (try simp only [Act.put, List.setIfInBounds_toArray, List.set_cons_zero, List.set_cons_succ])
        refine lexN_nil (hKN.out _ ?_)
        clear hKN KN
        intro gs wf hwf hgs hds
        simp only [List.map_cons, List.map_nil, List.getD_cons_zero, List.getD_cons_succ, bare, gslot, List.getElem?_cons_zero, List.getElem?_cons_succ, Option.bind_some, List.foldl_cons, List.foldl_nil, ptrV]
        obtain ⟨hg14, HB14⟩ := hgs 14 (by decide)
        obtain ⟨hg15, HB15⟩ := hgs 15 (by decide)
        have hd14x15 := hds 14 (by decide) 15 (by decide) (by decide)
        simp only [List.getD_cons_zero, List.getD_cons_succ, tyOf] at HB14 HB15
        clear hgs hds
        generalize gs 14 = g14 at *
        generalize gs 15 = g15 at *
        have cg14 := HB14.cell
        have fg14 := HB14.frozen
        have cg15 := HB15.cell
        have fg15 := HB15.frozen
        have hd15x14 := Ne.symm hd14x15
        repeat ((try simp only [Act.put, List.setIfInBounds_toArray, List.set_cons_zero, List.set_cons_succ]); first | (refine lexL_loud wantB_none rfl (fun K hK => ?_); go_simp; refine hK.out _ _ bel ?_; clear hK K) | (refine lexL_quiet (v := ?_) wantB_none rfl ?_ ?_; rotate_left; focus (intro wq hq; go_simp; try with_reducible rfl)))
        refine lexL_nil ?_
        refine keep_world (R := fun w2 => Below w.heap.size w w2 ∧ Blk w2 g14 52 #[.int .i64 lx, .int .i64 hy] ∧ Blk w2 g15 52 #[.int .i64 hx, .int .i64 ly] ∧ Blk w2 w.heap.size 52 #[.int .i64 ax, .int .i64 ay] ∧ Blk w2 (w.heap.size + 1) 52 #[.int .i64 bx, .int .i64 by_] ∧ Blk w2 (w.heap.size + 1 + 1) 54 #[.int .i64 lx, .int .i64 ly, .int .i64 hx, .int .i64 hy]) ⟨bel, ((((HB14.set_ 0 _).set_ 1 _).far (p := ⟨g15, 0, none⟩) hd14x15 _).far (p := ⟨g15, 1, none⟩) hd14x15 _).eq_ (by simp), ((((HB15.far (p := ⟨g14, 0, none⟩) hd15x14 _).far (p := ⟨g14, 1, none⟩) hd15x14 _).set_ 0 _).set_ 1 _).eq_ (by simp), blkA, blkA, blkA⟩ ?_
        rintro w2 ⟨hb2, h14, h15, hE0, hE1, hE2⟩
        clear cg14 fg14 HB14 cg15 fg15 HB15
        have cg14 := h14.cell
        have fg14 := h14.frozen
        have lg14 := h14.lt
        have cg15 := h15.cell
        have fg15 := h15.frozen
        have lg15 := h15.lt
        obtain ⟨hc2, hf2⟩ := bcell hb2
        have cA := hE0.cell
        have cB := hE1.cell
        have cR := hE2.cell
        have lA := hE0.lt
        have lB := hE1.lt
        have lR := hE2.lt
        clear hE0 hE1 hE2 h14 h15 hwf hc2 hf2
        go_wp2_with (go_at_call 140; refine (meet_any _ _ _ _ _ _ _ _ _).mono ?_; rintro e w1 ⟨rfl, hb1⟩; obtain ⟨hc1, hf1⟩ := bcell hb1; have hz1 := hb1.size; (try simp at hz1); have lA1 : w.heap.size < w1.heap.size := (by omega); have lB1 : w.heap.size + 1 < w1.heap.size := (by omega); have lR1 : w.heap.size + 1 + 1 < w1.heap.size := (by omega); have l14 : g14 < w1.heap.size := (by omega); have l15 : g15 < w1.heap.size := (by omega))
        all_goals go_ret
        all_goals exact ⟨ret_bool (by have h := HK.out; have g := H1.out; simp only [mbox, h, g]; simp [*]), bel⟩
    · have HE := Lib.hid (errV_pos hk)
      have HK : Hid (okBx ⟨⟨lx, ly⟩, ⟨hx, hy⟩⟩ = false) := by simp [Hid, okBx, hk]
      clear hk
      go_enter Tryz.func141, Tryz.ntmps141
      go_wp2_with (first | (go_at_call 122; refine (smay2 ax ay bx by_ _ _ ?_).mono ?_; exact block_last (by simp); rw [h1]; rintro e w1 ⟨rfl, hb1⟩; obtain ⟨hc1, hf1⟩ := bcell hb1; have hz1 := hb1.size; (try simp at hz1); have hy0 : w.heap.size < w1.heap.size := (by omega); have hy1 : w.heap.size + 1 < w1.heap.size := (by omega); have hy2 : w.heap.size + 1 + 1 < w1.heap.size := (by omega)) | (go_at_call 72; refine (checkBox_any _ _ _ _ _).mono ?_; rw [HE.out]; rintro e w1 ⟨rfl, hb1⟩; obtain ⟨hc1, hf1⟩ := bcell hb1; have hz1 := hb1.size; (try simp at hz1); have hy0 : w.heap.size < w1.heap.size := (by omega); have hy1 : w.heap.size + 1 < w1.heap.size := (by omega); have hy2 : w.heap.size + 1 + 1 < w1.heap.size := (by omega)))
      all_goals go_ret
      all_goals exact ⟨ret_bool (by have h := HK.out; simp [mbox, h]), bel⟩
end Go.Proofs.YtahiaekoaokgnaaGreat
