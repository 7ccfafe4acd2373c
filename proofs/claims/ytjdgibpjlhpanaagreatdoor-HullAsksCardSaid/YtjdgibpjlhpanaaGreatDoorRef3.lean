/-
  Contracts of the references of chapter 5: clash.
-/
import Derived.Test.YtjdgibpjlhpanaaGreatDoorRef2
import Derived.Test.YtjdgibpjlhpanaaGreatDoorRel3
set_option linter.unusedSimpArgs false
set_option linter.unusedVariables false
namespace Go.Proofs.YtjdgibpjlhpanaaGreatDoor
open Go.RowKit Pg

theorem wrap_s {k : Nat} (hk : k ≤ 1000000) : IntKind.i64.wrap ((k : Int) + 1) = (k : Int) + 1 := IntWalk.i64_in _ (by omega)

set_option maxHeartbeats 2000000 in
set_option maxRecDepth 20000 in
theorem rclash_ok (B n c i k : Nat) (A : Option Addr) (l : List Pt) (w : World) (hl : PtsAt w B A n l) (hB : B ≤ w.heap.size) (hn : n ≤ 1000000) (hik : i < k) (hk : k < n) (hok : l.all okPt = true) :
    Calls Tryz.prog 93 #[.slice A n c, .int .i64 i, .int .i64 k] w (Ret w (.bool (clash l i k))) := by
    have hi : i < n := by omega
    have hi1 : i + 1 < n := by omega
    obtain ⟨b, off, rfl, hab, c0, c1⟩ := hl.at_ hi
    obtain ⟨_, _, ho, _, c2, c3⟩ := hl.at_ hi1
    injection ho with ho
    injection ho with ho1 ho2
    subst ho1 ho2
    have hbw : b < w.heap.size := by omega
    have hi0 : (i : Int) < (n : Int) := by omega
    have hi2 : (i : Int) + 1 < (n : Int) := by omega
    have hi3 : (0 : Int) ≤ (i : Int) + 1 := by omega
    have hw1 := wrap_s (k := i) (by omega)
    have O1 : Hid (okPt ⟨(pt l i).x, (pt l i).y⟩ = true) := okPt_pt hok (by rw [hl.1]; exact hi)
    have O2 : Hid (okPt ⟨(pt l (i + 1)).x, (pt l (i + 1)).y⟩ = true) := okPt_pt hok (by rw [hl.1]; exact hi1)
    have O3 : Hid (okPt ⟨(pt l k).x, (pt l k).y⟩ = true) := okPt_pt hok (by rw [hl.1]; exact hk)
    have O4 : Hid (okPt ⟨(nx l k).x, (nx l k).y⟩ = true) := okPt_nx hok (by rw [hl.1]; exact hk)
    have HS : Hid (clash l i k = if k = i + 1 then overR ⟨(pt l i).x, (pt l i).y⟩ ⟨(pt l (i + 1)).x, (pt l (i + 1)).y⟩ ⟨(nx l k).x, (nx l k).y⟩
        else if i = 0 ∧ k + 1 = n then overR ⟨(pt l (i + 1)).x, (pt l (i + 1)).y⟩ ⟨(pt l i).x, (pt l i).y⟩ ⟨(pt l k).x, (pt l k).y⟩
        else meetS ⟨(pt l i).x, (pt l i).y⟩ ⟨(pt l (i + 1)).x, (pt l (i + 1)).y⟩ ⟨(pt l k).x, (pt l k).y⟩ ⟨(nx l k).x, (nx l k).y⟩) := by unfold Hid clash; rw [hl.1]
    clear hok
    go_enter Tryz.func93, Tryz.ntmps93
    go_wp2_with fail
    refine wp_region_alloc' [0, 1, 2, 3, 4, 5, 6, 7, 8] [9, 10] [11, 12] (fun _ => #[.int .i64 0, .int .i64 0]) (by kernel_rfl) (by kernel_rfl) (fun _ _ d _ _ h => by cases d <;> exact h) (by intro i hi w; simp only [List.mem_cons, List.not_mem_nil, or_false] at hi; rcases hi with rfl | rfl <;> simp only [List.getD_cons_zero, List.getD_cons_succ, tyOf] <;> kernel_rfl) (fun KN hKN => ?_)
    simp only [List.map_cons, List.map_nil, List.getD_cons_zero, List.getD_cons_succ, bare, gslot, List.getElem?_cons_zero, List.getElem?_cons_succ, Option.bind_some]
    repeat ((try simp only [Act.put, List.setIfInBounds_toArray, List.set_cons_zero, List.set_cons_succ]); first | (refine lexN_quiet (v := ?_) rfl ?_ ?_; rotate_left; focus (intro wq hq; obtain ⟨hcq, hfq⟩ := bcell hq; go_simp; try with_reducible rfl)) | (refine lexN_loud (v := ?_) rfl ?_ ?_; rotate_left; focus (intro wq hq K hK; obtain ⟨hcq, hfq⟩ := bcell hq; go_simp; (first | fail); refine hK.out _ _ ?_ (by repeat (first | with_reducible exact Below.refl _ _ | with_reducible assumption | with_reducible refine al ?_ _ | with_reducible refine Below.drew ?_ | with_reducible refine Below.setCell ?_ (by first | (simp; done) | (simp; omega)) _ | with_reducible refine tr ?_ (by with_reducible assumption))); simp only [Act.put, List.setIfInBounds_toArray, List.set_cons_zero, List.set_cons_succ]; try with_reducible rfl)))
    (try simp only [Act.put, List.setIfInBounds_toArray, List.set_cons_zero, List.set_cons_succ])
    refine lexN_nil (hKN.out _ ?_)
    clear hKN KN
    intro gs wf hwf hgs hds
    simp only [List.map_cons, List.map_nil, List.getD_cons_zero, List.getD_cons_succ, bare, gslot, List.getElem?_cons_zero, List.getElem?_cons_succ, Option.bind_some, List.foldl_cons, List.foldl_nil, ptrV]
    obtain ⟨hg9, HB9⟩ := hgs 9 (by decide)
    obtain ⟨hg10, HB10⟩ := hgs 10 (by decide)
    have hd9x10 := hds 9 (by decide) 10 (by decide) (by decide)
    simp only [List.getD_cons_zero, List.getD_cons_succ, tyOf] at HB9 HB10
    clear hgs hds
    generalize gs 9 = g9 at *
    generalize gs 10 = g10 at *
    have cg9 := HB9.cell
    have fg9 := HB9.frozen
    have cg10 := HB10.cell
    have fg10 := HB10.frozen
    have hd10x9 := Ne.symm hd9x10
    repeat ((try simp only [Act.put, List.setIfInBounds_toArray, List.set_cons_zero, List.set_cons_succ]); first | (refine lexL_loud wantB_none rfl (fun K hK => ?_); go_simp; refine hK.out _ _ (by repeat (first | with_reducible exact Below.refl _ _ | with_reducible assumption | with_reducible refine al ?_ _ | with_reducible refine Below.drew ?_ | with_reducible refine Below.setCell ?_ (by first | (simp; done) | (simp; omega)) _ | with_reducible refine tr ?_ (by with_reducible assumption))) ?_; clear hK K) | (refine lexL_quiet (v := ?_) wantB_none rfl ?_ ?_; rotate_left; focus (intro wq hq; go_simp; try with_reducible rfl)))
    refine lexL_nil ?_
    refine keep_world (R := fun w2 => Below w.heap.size w w2 ∧ Blk w2 g9 26 #[.int .i64 (pt l i).x, .int .i64 (pt l i).y] ∧ Blk w2 g10 26 #[.int .i64 (pt l (i + 1)).x, .int .i64 (pt l (i + 1)).y]) ⟨(by repeat (first | with_reducible exact Below.refl _ _ | with_reducible assumption | with_reducible refine al ?_ _ | with_reducible refine Below.drew ?_ | with_reducible refine Below.setCell ?_ (by first | (simp; done) | (simp; omega)) _ | with_reducible refine tr ?_ (by with_reducible assumption))), ((((HB9.set_ 0 _).set_ 1 _).far (p := ⟨g10, 0, none⟩) hd9x10 _).far (p := ⟨g10, 1, none⟩) hd9x10 _).eq_ (by simp), ((((HB10.far (p := ⟨g9, 0, none⟩) hd10x9 _).far (p := ⟨g9, 1, none⟩) hd10x9 _).set_ 0 _).set_ 1 _).eq_ (by simp)⟩ ?_
    rintro w2 ⟨hb2, h9, h10⟩
    clear cg9 fg9 HB9 cg10 fg10 HB10
    have cg9 := h9.cell
    have fg9 := h9.frozen
    have lg9 := h9.lt
    have cg10 := h10.cell
    have fg10 := h10.frozen
    have lg10 := h10.lt
    obtain ⟨hc2, hf2⟩ := bcell hb2
    obtain ⟨_, _, ho, _, d0, d1⟩ := (hl.tr hb2 hB).at_ hk
    injection ho with ho
    injection ho with ho1 ho2
    subst ho1 ho2
    obtain ⟨d2, d3⟩ := nx_of (hl.tr hb2 hB) hk
    obtain ⟨m, hm, hwr, htm, hml⟩ := step_of hk hn
    rw [hm] at d2 d3
    clear hm c0 c1 c2 c3 hc2 hf2 hwf
    have hbs := hb2.size
    have hbw2 : b < w2.heap.size := by omega
    have hk0 : (k : Int) < (n : Int) := by omega
    have hk3 : (0 : Int) ≤ (k : Int) + 1 := by omega
    have hn0 : ¬ n = 0 := by omega
    have hml0 : (m : Int) < (n : Int) := by omega
    have wo9 := lg9
    have wo10 := lg10
    go_wp2_with fail
    refine wp_region_alloc' [0, 1, 2, 3, 4, 5, 6, 7, 8, 9, 10] [11, 12] [13, 14] (fun _ => #[.int .i64 0, .int .i64 0]) (by kernel_rfl) (by kernel_rfl) (fun _ _ d _ _ h => by cases d <;> exact h) (by intro i hi w; simp only [List.mem_cons, List.not_mem_nil, or_false] at hi; rcases hi with rfl | rfl <;> simp only [List.getD_cons_zero, List.getD_cons_succ, tyOf] <;> kernel_rfl) (fun KN hKN => ?_)
    simp only [List.map_cons, List.map_nil, List.getD_cons_zero, List.getD_cons_succ, bare, gslot, List.getElem?_cons_zero, List.getElem?_cons_succ, Option.bind_some]
    repeat ((try simp only [Act.put, List.setIfInBounds_toArray, List.set_cons_zero, List.set_cons_succ]); first | (refine lexN_quiet (v := ?_) rfl ?_ ?_; rotate_left; focus (intro wq hq; obtain ⟨hcq, hfq⟩ := bcell hq; go_simp; try with_reducible rfl)) | (refine lexN_loud (v := ?_) rfl ?_ ?_; rotate_left; focus (intro wq hq K hK; obtain ⟨hcq, hfq⟩ := bcell hq; go_simp; (first | fail); refine hK.out _ _ ?_ (by repeat (first | with_reducible exact Below.refl _ _ | with_reducible assumption | with_reducible refine al ?_ _ | with_reducible refine Below.drew ?_ | with_reducible refine Below.setCell ?_ (by first | (simp; done) | (simp; omega)) _ | with_reducible refine tr ?_ (by with_reducible assumption))); simp only [Act.put, List.setIfInBounds_toArray, List.set_cons_zero, List.set_cons_succ]; try with_reducible rfl)))
    (try simp only [Act.put, List.setIfInBounds_toArray, List.set_cons_zero, List.set_cons_succ])
    refine lexN_nil (hKN.out _ ?_)
    clear hKN KN
    intro gs wf hwf hgs hds
    simp only [List.map_cons, List.map_nil, List.getD_cons_zero, List.getD_cons_succ, bare, gslot, List.getElem?_cons_zero, List.getElem?_cons_succ, Option.bind_some, List.foldl_cons, List.foldl_nil, ptrV]
    obtain ⟨hg11, HB11⟩ := hgs 11 (by decide)
    obtain ⟨hg12, HB12⟩ := hgs 12 (by decide)
    have hd11x12 := hds 11 (by decide) 12 (by decide) (by decide)
    simp only [List.getD_cons_zero, List.getD_cons_succ, tyOf] at HB11 HB12
    clear hgs hds
    generalize gs 11 = g11 at *
    generalize gs 12 = g12 at *
    have cg11 := HB11.cell
    have fg11 := HB11.frozen
    have cg12 := HB12.cell
    have fg12 := HB12.frozen
    have hd12x11 := Ne.symm hd11x12
    repeat ((try simp only [Act.put, List.setIfInBounds_toArray, List.set_cons_zero, List.set_cons_succ]); first | (refine lexL_loud wantB_none rfl (fun K hK => ?_); go_simp; refine hK.out _ _ (by repeat (first | with_reducible exact Below.refl _ _ | with_reducible assumption | with_reducible refine al ?_ _ | with_reducible refine Below.drew ?_ | with_reducible refine Below.setCell ?_ (by first | (simp; done) | (simp; omega)) _ | with_reducible refine tr ?_ (by with_reducible assumption))) ?_; clear hK K) | (refine lexL_quiet (v := ?_) wantB_none rfl ?_ ?_; rotate_left; focus (intro wq hq; go_simp; try with_reducible rfl)))
    refine lexL_nil ?_
    refine keep_world (R := fun w2 => Below w.heap.size w w2 ∧ Blk w2 g11 26 #[.int .i64 (pt l k).x, .int .i64 (pt l k).y] ∧ Blk w2 g12 26 #[.int .i64 (nx l k).x, .int .i64 (nx l k).y] ∧ Blk w2 g9 26 #[.int .i64 (pt l i).x, .int .i64 (pt l i).y] ∧ Blk w2 g10 26 #[.int .i64 (pt l (i + 1)).x, .int .i64 (pt l (i + 1)).y]) ⟨(by repeat (first | with_reducible exact Below.refl _ _ | with_reducible assumption | with_reducible refine al ?_ _ | with_reducible refine Below.drew ?_ | with_reducible refine Below.setCell ?_ (by first | (simp; done) | (simp; omega)) _ | with_reducible refine tr ?_ (by with_reducible assumption))), ((((HB11.set_ 0 _).set_ 1 _).far (p := ⟨g12, 0, none⟩) hd11x12 _).far (p := ⟨g12, 1, none⟩) hd11x12 _).eq_ (by simp), ((((HB12.far (p := ⟨g11, 0, none⟩) hd12x11 _).far (p := ⟨g11, 1, none⟩) hd12x11 _).set_ 0 _).set_ 1 _).eq_ (by simp), (by repeat (first | with_reducible assumption | with_reducible exact Blk.new (by simp) rfl | with_reducible refine Blk.alloc ?_ _ | with_reducible refine Blk.drew ?_ | with_reducible refine Blk.far ?_ (by first | (simp; done) | (simp; omega)) _ | with_reducible refine Blk.tr ?_ (by with_reducible assumption))), (by repeat (first | with_reducible assumption | with_reducible exact Blk.new (by simp) rfl | with_reducible refine Blk.alloc ?_ _ | with_reducible refine Blk.drew ?_ | with_reducible refine Blk.far ?_ (by first | (simp; done) | (simp; omega)) _ | with_reducible refine Blk.tr ?_ (by with_reducible assumption)))⟩ ?_
    rintro w2 ⟨hb2, h11, h12, hE0, hE1⟩
    clear cg11 fg11 HB11 cg12 fg12 HB12
    have cg11 := h11.cell
    have fg11 := h11.frozen
    have lg11 := h11.lt
    have cg12 := h12.cell
    have fg12 := h12.frozen
    have lg12 := h12.lt
    obtain ⟨hc2, hf2⟩ := bcell hb2
    clear cg9 cg10 fg9 fg10 d0 d1 d2 d3 hc2 hf2 hwf h9 h10 hwr htm hw1
    have cg9 := hE0.cell
    have cg10 := hE1.cell
    have lg9 := hE0.lt
    have lg10 := hE1.lt
    by_cases h1 : k = i + 1
    · have hb1 : ((k : Int) == (i : Int) + 1) = true := by rw [beq_iff_eq]; omega
      have HM := Lib.hid h1
      clear h1
      go_wp2_with (go_at_call 139; refine (rover_ok _ _ _ _ _ _ _ O1.out O2.out O4.out).mono ?_; rintro e w1 ⟨rfl, hb1⟩; obtain ⟨hc1, hf1⟩ := bcell hb1; have hz1 := hb1.size; (try simp at hz1))
      go_ret
      exact ⟨ret_bool (by rw [HS.out, if_pos HM.out]), (by repeat (first | with_reducible exact Below.refl _ _ | with_reducible assumption | with_reducible refine al ?_ _ | with_reducible refine Below.drew ?_ | with_reducible refine Below.setCell ?_ (by first | (simp; done) | (simp; omega)) _ | with_reducible refine tr ?_ (by with_reducible assumption)))⟩
    · have hb1 : ((k : Int) == (i : Int) + 1) = false := by rw [beq_eq_false_iff_ne]; omega
      have HM := Lib.hid h1
      clear h1
      by_cases h2 : i = 0
      · have hb2 : ((i : Int) == 0) = true := by rw [beq_iff_eq]; omega
        by_cases h3 : k + 1 = n
        · have hb3 : ((k : Int) == (n : Int) - 1) = true := by rw [beq_iff_eq]; omega
          have HN : Hid (i = 0 ∧ k + 1 = n) := ⟨h2, h3⟩
          clear h2 h3
          go_wp2_with (go_at_call 139; refine (rover_ok _ _ _ _ _ _ _ O2.out O1.out O3.out).mono ?_; rintro e w1 ⟨rfl, hb1⟩; obtain ⟨hc1, hf1⟩ := bcell hb1; have hz1 := hb1.size; (try simp at hz1))
          go_ret
          exact ⟨ret_bool (by rw [HS.out, if_neg HM.out, if_pos HN.out]), (by repeat (first | with_reducible exact Below.refl _ _ | with_reducible assumption | with_reducible refine al ?_ _ | with_reducible refine Below.drew ?_ | with_reducible refine Below.setCell ?_ (by first | (simp; done) | (simp; omega)) _ | with_reducible refine tr ?_ (by with_reducible assumption)))⟩
        · have hb3 : ((k : Int) == (n : Int) - 1) = false := by rw [beq_eq_false_iff_ne]; omega
          have HN : Hid (¬ (i = 0 ∧ k + 1 = n)) := fun h => h3 h.2
          clear h2 h3
          go_wp2_with (go_at_call 140; refine (rmeet_any _ _ _ _ _ _ _ _ _).mono ?_; rintro e w1 ⟨rfl, hb1⟩; obtain ⟨hc1, hf1⟩ := bcell hb1; have hz1 := hb1.size; (try simp at hz1))
          go_ret
          exact ⟨ret_bool (by rw [HS.out, if_neg HM.out, if_neg HN.out]), (by repeat (first | with_reducible exact Below.refl _ _ | with_reducible assumption | with_reducible refine al ?_ _ | with_reducible refine Below.drew ?_ | with_reducible refine Below.setCell ?_ (by first | (simp; done) | (simp; omega)) _ | with_reducible refine tr ?_ (by with_reducible assumption)))⟩
      · have hb2 : ((i : Int) == 0) = false := by rw [beq_eq_false_iff_ne]; omega
        have HN : Hid (¬ (i = 0 ∧ k + 1 = n)) := fun h => h2 h.1
        clear h2
        go_wp2_with (go_at_call 140; refine (rmeet_any _ _ _ _ _ _ _ _ _).mono ?_; rintro e w1 ⟨rfl, hb1⟩; obtain ⟨hc1, hf1⟩ := bcell hb1; have hz1 := hb1.size; (try simp at hz1))
        go_ret
        exact ⟨ret_bool (by rw [HS.out, if_neg HM.out, if_neg HN.out]), (by repeat (first | with_reducible exact Below.refl _ _ | with_reducible assumption | with_reducible refine al ?_ _ | with_reducible refine Below.drew ?_ | with_reducible refine Below.setCell ?_ (by first | (simp; done) | (simp; omega)) _ | with_reducible refine tr ?_ (by with_reducible assumption)))⟩
end Go.Proofs.YtjdgibpjlhpanaaGreatDoor
