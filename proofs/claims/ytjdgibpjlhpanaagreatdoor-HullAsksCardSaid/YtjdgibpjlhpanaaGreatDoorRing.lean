/-
  Contracts of package ring: next.
-/
import Derived.Test.YtjdgibpjlhpanaaGreatDoorMBox
import Derived.Test.YtjdgibpjlhpanaaGreatDoorAlloc
set_option linter.unusedSimpArgs false
set_option linter.unusedVariables false
namespace Go.Proofs.YtjdgibpjlhpanaaGreatDoor
open Go.RowKit Pg

set_option maxHeartbeats 400000 in
theorem next_any (B n c i : Nat) (A : Option Addr) (l : List Pt) (w : World) (hl : PtsAt w B A n l) (hB : B ≤ w.heap.size) (hn : n ≤ 1000000) (hi : i < n) :
    Calls Tryz.prog 108 #[.slice A n c, .int .i64 i] w (Ret w (ptV (nx l i).x (nx l i).y)) := by
  have hm : (i + 1) % n < n := Nat.mod_lt _ (by omega)
  obtain ⟨b, off, rfl, hab, c0, c1⟩ := hl.at_ hm
  have hbw : b < w.heap.size := by omega
  have hn0 : ((n : Int) == 0) = false := by rw [beq_eq_false_iff_ne]; omega
  have hm0 : (0 : Int) ≤ ((i : Int) + 1) % (n : Int) := Int.emod_nonneg _ (by omega)
  have hm1 : ((i : Int) + 1) % (n : Int) < (n : Int) := Int.emod_lt_of_pos _ (by omega)
  have hx : nx l i = pt l ((i + 1) % n) := by rw [nx, hl.1]
  have HX := Lib.hid hx
  clear hx
  go_enter Tryz.func108, Tryz.ntmps108
  go_wp2
  exact bodyPost_ret (v := ptV (nx l i).x (nx l i).y) (by simp [results, Tryz.results108, go_sem, HX.out]) rfl ⟨rfl, (by repeat (first | with_reducible exact Below.refl _ _ | with_reducible assumption | with_reducible refine al ?_ _ | with_reducible refine Below.drew ?_ | with_reducible refine Below.setCell ?_ (by first | (simp; done) | (simp; omega)) _ | with_reducible refine tr ?_ (by with_reducible assumption)))⟩

theorem modC (i n : Nat) : ((i : Int) + 1) % (n : Int) = (((i + 1) % n : Nat) : Int) := by
  rw [Int.natCast_emod]; rfl
theorem mod_t {i k n : Nat} (h : (i + 1) % n = k) : (((i : Int) + 1) % (n : Int) == (k : Int)) = true := by
  rw [modC, h]; simp
theorem mod_f {i k n : Nat} (h : (i + 1) % n ≠ k) : (((i : Int) + 1) % (n : Int) == (k : Int)) = false := by
  rw [modC, beq_eq_false_iff_ne]; omega

set_option maxHeartbeats 2000000 in
set_option maxRecDepth 20000 in
theorem spoil_any (B n c i k : Nat) (A : Option Addr) (l : List Pt) (w : World) (hl : PtsAt w B A n l) (hB : B ≤ w.heap.size) (hn : n ≤ 1000000) (hi : i < n) (hk : k < n) :
    Calls Tryz.prog 132 #[.slice A n c, .int .i64 i, .int .i64 k] w (Ret w (.bool (spoil l i k))) := by
    obtain ⟨b, off, rfl, hab, c0, c1⟩ := hl.at_ hi
    obtain ⟨_, _, ho, _, d0, d1⟩ := hl.at_ hk
    injection ho with ho
    injection ho with ho1 ho2
    subst ho1 ho2
    have hbw : b < w.heap.size := by omega
    have hi0 : (i : Int) < (n : Int) := by omega
    have hk0 : (k : Int) < (n : Int) := by omega
    go_enter Tryz.func132, Tryz.ntmps132
    go_wp2_with fail
    refine wp_region_alloc' [0, 1, 2, 3, 4, 5, 6, 7, 8, 9, 10, 11, 12, 13] [14, 15, 16, 17] [18, 19, 20, 21] (fun _ => #[.int .i64 0, .int .i64 0]) (by kernel_rfl) (by kernel_rfl) (fun _ _ d _ _ h => by cases d <;> exact h) (by intro i hi w; simp only [List.mem_cons, List.not_mem_nil, or_false] at hi; rcases hi with rfl | rfl | rfl | rfl <;> simp only [List.getD_cons_zero, List.getD_cons_succ, tyOf] <;> kernel_rfl) (fun KN hKN => ?_)
    simp only [List.map_cons, List.map_nil, List.getD_cons_zero, List.getD_cons_succ, bare, gslot, List.getElem?_cons_zero, List.getElem?_cons_succ, Option.bind_some]
    repeat ((try simp only [Act.put, List.setIfInBounds_toArray, List.set_cons_zero, List.set_cons_succ]); first | (refine lexN_quiet (v := ?_) rfl ?_ ?_; rotate_left; focus (intro wq hq; obtain ⟨hcq, hfq⟩ := bcell hq; go_simp; try with_reducible rfl)) | (refine lexN_loud (v := ?_) rfl ?_ ?_; rotate_left; focus (intro wq hq K hK; obtain ⟨hcq, hfq⟩ := bcell hq; go_simp; (first | (go_at_call 108; refine (next_any B n c _ _ l _ (hl.below (hq.mono hB)) (by have := hq.size; omega) hn (by assumption)).mono ?_; rintro e w1 ⟨rfl, hb1⟩; obtain ⟨hc1, hf1⟩ := bcell hb1; have hz1 := hb1.size; (try simp at hz1))); refine hK.out _ _ ?_ (by repeat (first | with_reducible exact Below.refl _ _ | with_reducible assumption | with_reducible refine al ?_ _ | with_reducible refine Below.drew ?_ | with_reducible refine Below.setCell ?_ (by first | (simp; done) | (simp; omega)) _ | with_reducible refine tr ?_ (by with_reducible assumption))); simp only [Act.put, List.setIfInBounds_toArray, List.set_cons_zero, List.set_cons_succ]; try with_reducible rfl)))
    (try simp only [Act.put, List.setIfInBounds_toArray, List.set_cons_zero, List.set_cons_succ])
    refine lexN_nil (hKN.out _ ?_)
    clear hKN KN
    intro gs wf hwf hgs hds
    simp only [List.map_cons, List.map_nil, List.getD_cons_zero, List.getD_cons_succ, bare, gslot, List.getElem?_cons_zero, List.getElem?_cons_succ, Option.bind_some, List.foldl_cons, List.foldl_nil, ptrV]
    obtain ⟨hg14, HB14⟩ := hgs 14 (by decide)
    obtain ⟨hg15, HB15⟩ := hgs 15 (by decide)
    obtain ⟨hg16, HB16⟩ := hgs 16 (by decide)
    obtain ⟨hg17, HB17⟩ := hgs 17 (by decide)
    have hd14x15 := hds 14 (by decide) 15 (by decide) (by decide)
    have hd14x16 := hds 14 (by decide) 16 (by decide) (by decide)
    have hd14x17 := hds 14 (by decide) 17 (by decide) (by decide)
    have hd15x16 := hds 15 (by decide) 16 (by decide) (by decide)
    have hd15x17 := hds 15 (by decide) 17 (by decide) (by decide)
    have hd16x17 := hds 16 (by decide) 17 (by decide) (by decide)
    simp only [List.getD_cons_zero, List.getD_cons_succ, tyOf] at HB14 HB15 HB16 HB17
    clear hgs hds
    generalize gs 14 = g14 at *
    generalize gs 15 = g15 at *
    generalize gs 16 = g16 at *
    generalize gs 17 = g17 at *
    have cg14 := HB14.cell
    have fg14 := HB14.frozen
    have cg15 := HB15.cell
    have fg15 := HB15.frozen
    have cg16 := HB16.cell
    have fg16 := HB16.frozen
    have cg17 := HB17.cell
    have fg17 := HB17.frozen
    have hd15x14 := Ne.symm hd14x15
    have hd16x14 := Ne.symm hd14x16
    have hd17x14 := Ne.symm hd14x17
    have hd16x15 := Ne.symm hd15x16
    have hd17x15 := Ne.symm hd15x17
    have hd17x16 := Ne.symm hd16x17
    repeat ((try simp only [Act.put, List.setIfInBounds_toArray, List.set_cons_zero, List.set_cons_succ]); first | (refine lexL_loud wantB_none rfl (fun K hK => ?_); go_simp; refine hK.out _ _ (by repeat (first | with_reducible exact Below.refl _ _ | with_reducible assumption | with_reducible refine al ?_ _ | with_reducible refine Below.drew ?_ | with_reducible refine Below.setCell ?_ (by first | (simp; done) | (simp; omega)) _ | with_reducible refine tr ?_ (by with_reducible assumption))) ?_; clear hK K) | (refine lexL_quiet (v := ?_) wantB_none rfl ?_ ?_; rotate_left; focus (intro wq hq; go_simp; try with_reducible rfl)))
    refine lexL_nil ?_
    refine keep_world (R := fun w2 => Below w.heap.size w w2 ∧ Blk w2 g14 26 #[.int .i64 (pt l i).x, .int .i64 (pt l i).y] ∧ Blk w2 g15 26 #[.int .i64 (nx l i).x, .int .i64 (nx l i).y] ∧ Blk w2 g16 26 #[.int .i64 (pt l k).x, .int .i64 (pt l k).y] ∧ Blk w2 g17 26 #[.int .i64 (nx l k).x, .int .i64 (nx l k).y]) ⟨(by repeat (first | with_reducible exact Below.refl _ _ | with_reducible assumption | with_reducible refine al ?_ _ | with_reducible refine Below.drew ?_ | with_reducible refine Below.setCell ?_ (by first | (simp; done) | (simp; omega)) _ | with_reducible refine tr ?_ (by with_reducible assumption))), ((((((((HB14.set_ 0 _).set_ 1 _).far (p := ⟨g15, 0, none⟩) hd14x15 _).far (p := ⟨g15, 1, none⟩) hd14x15 _).far (p := ⟨g16, 0, none⟩) hd14x16 _).far (p := ⟨g16, 1, none⟩) hd14x16 _).far (p := ⟨g17, 0, none⟩) hd14x17 _).far (p := ⟨g17, 1, none⟩) hd14x17 _).eq_ (by simp), ((((((((HB15.far (p := ⟨g14, 0, none⟩) hd15x14 _).far (p := ⟨g14, 1, none⟩) hd15x14 _).set_ 0 _).set_ 1 _).far (p := ⟨g16, 0, none⟩) hd15x16 _).far (p := ⟨g16, 1, none⟩) hd15x16 _).far (p := ⟨g17, 0, none⟩) hd15x17 _).far (p := ⟨g17, 1, none⟩) hd15x17 _).eq_ (by simp), ((((((((HB16.far (p := ⟨g14, 0, none⟩) hd16x14 _).far (p := ⟨g14, 1, none⟩) hd16x14 _).far (p := ⟨g15, 0, none⟩) hd16x15 _).far (p := ⟨g15, 1, none⟩) hd16x15 _).set_ 0 _).set_ 1 _).far (p := ⟨g17, 0, none⟩) hd16x17 _).far (p := ⟨g17, 1, none⟩) hd16x17 _).eq_ (by simp), ((((((((HB17.far (p := ⟨g14, 0, none⟩) hd17x14 _).far (p := ⟨g14, 1, none⟩) hd17x14 _).far (p := ⟨g15, 0, none⟩) hd17x15 _).far (p := ⟨g15, 1, none⟩) hd17x15 _).far (p := ⟨g16, 0, none⟩) hd17x16 _).far (p := ⟨g16, 1, none⟩) hd17x16 _).set_ 0 _).set_ 1 _).eq_ (by simp)⟩ ?_
    rintro w2 ⟨hb2, h14, h15, h16, h17⟩
    clear cg14 fg14 HB14 cg15 fg15 HB15 cg16 fg16 HB16 cg17 fg17 HB17
    have cg14 := h14.cell
    have fg14 := h14.frozen
    have lg14 := h14.lt
    have cg15 := h15.cell
    have fg15 := h15.frozen
    have lg15 := h15.lt
    have cg16 := h16.cell
    have fg16 := h16.frozen
    have lg16 := h16.lt
    have cg17 := h17.cell
    have fg17 := h17.frozen
    have lg17 := h17.lt
    obtain ⟨hc2, hf2⟩ := bcell hb2
    have HS : Hid (spoil l i k = if pt l i = pt l k then true else if (i + 1) % n = k then onS ⟨(pt l i).x, (pt l i).y⟩ ⟨(nx l i).x, (nx l i).y⟩ ⟨(nx l k).x, (nx l k).y⟩ || onS ⟨(pt l k).x, (pt l k).y⟩ ⟨(nx l k).x, (nx l k).y⟩ ⟨(pt l i).x, (pt l i).y⟩
        else if (k + 1) % n = i then onS ⟨(pt l k).x, (pt l k).y⟩ ⟨(nx l k).x, (nx l k).y⟩ ⟨(nx l i).x, (nx l i).y⟩ || onS ⟨(pt l i).x, (pt l i).y⟩ ⟨(nx l i).x, (nx l i).y⟩ ⟨(pt l k).x, (pt l k).y⟩
        else meetS ⟨(pt l i).x, (pt l i).y⟩ ⟨(nx l i).x, (nx l i).y⟩ ⟨(pt l k).x, (pt l k).y⟩ ⟨(nx l k).x, (nx l k).y⟩) := by unfold Hid spoil; rw [hl.1]
    clear h14 h15 h16 h17 c0 c1 d0 d1 hwf hc2 hf2 hd14x15 hd14x16 hd14x17 hd15x16 hd15x17 hd16x17 hd15x14 hd16x14 hd17x14 hd16x15 hd17x15 hd17x16
    by_cases he : pt l i = pt l k
    · have ex : (pt l i).x = (pt l k).x := by rw [he]
      have ey : (pt l i).y = (pt l k).y := by rw [he]
      have HE := Lib.hid he
      clear he
      go_wp2_with fail
      go_ret
      exact ⟨ret_bool (by rw [HS.out, if_pos HE.out]), (by repeat (first | with_reducible exact Below.refl _ _ | with_reducible assumption | with_reducible refine al ?_ _ | with_reducible refine Below.drew ?_ | with_reducible refine Below.setCell ?_ (by first | (simp; done) | (simp; omega)) _ | with_reducible refine tr ?_ (by with_reducible assumption)))⟩
    · have hne : ¬ ((pt l i).x = (pt l k).x ∧ (pt l i).y = (pt l k).y) := fun h => he (Pt.ext' h.1 h.2)
      have HE := Lib.hid he
      clear he
      by_cases h1 : (i + 1) % n = k
      · have hb1 := mod_t h1
        have HM := Lib.hid h1
        clear h1
        go_wp2_with (go_at_call 145; refine (on_any _ _ _ _ _ _ _).mono ?_; rintro e w1 ⟨rfl, hb1⟩; obtain ⟨hc1, hf1⟩ := bcell hb1; have hz1 := hb1.size; (try simp at hz1); (have ly14 : g14 < w1.heap.size := (by omega)); (have ly16 : g16 < w1.heap.size := (by omega)); have ly17 : g17 < w1.heap.size := (by omega))
        all_goals go_ret
        all_goals exact ⟨ret_bool (by rw [HS.out, if_neg HE.out, if_pos HM.out]; simp [*]), (by repeat (first | with_reducible exact Below.refl _ _ | with_reducible assumption | with_reducible refine al ?_ _ | with_reducible refine Below.drew ?_ | with_reducible refine Below.setCell ?_ (by first | (simp; done) | (simp; omega)) _ | with_reducible refine tr ?_ (by with_reducible assumption)))⟩
      · have hb1 := mod_f h1
        have HM := Lib.hid h1
        clear h1
        by_cases h2 : (k + 1) % n = i
        · have hb2 := mod_t h2
          have HM2 := Lib.hid h2
          clear h2
          go_wp2_with (go_at_call 145; refine (on_any _ _ _ _ _ _ _).mono ?_; rintro e w1 ⟨rfl, hb1⟩; obtain ⟨hc1, hf1⟩ := bcell hb1; have hz1 := hb1.size; (try simp at hz1); (have ly14 : g14 < w1.heap.size := (by omega)); (have ly15 : g15 < w1.heap.size := (by omega)); (have ly16 : g16 < w1.heap.size := (by omega)); have ly17 : g17 < w1.heap.size := (by omega))
          all_goals go_ret
          all_goals exact ⟨ret_bool (by rw [HS.out, if_neg HE.out, if_neg HM.out, if_pos HM2.out]; simp [*]), (by repeat (first | with_reducible exact Below.refl _ _ | with_reducible assumption | with_reducible refine al ?_ _ | with_reducible refine Below.drew ?_ | with_reducible refine Below.setCell ?_ (by first | (simp; done) | (simp; omega)) _ | with_reducible refine tr ?_ (by with_reducible assumption)))⟩
        · have hb2 := mod_f h2
          have HM2 := Lib.hid h2
          clear h2
          go_wp2_with (go_at_call 142; refine (meet_any _ _ _ _ _ _ _ _ _).mono ?_; rintro e w1 ⟨rfl, hb1⟩; obtain ⟨hc1, hf1⟩ := bcell hb1; have hz1 := hb1.size; (try simp at hz1))
          all_goals go_ret
          all_goals exact ⟨ret_bool (by rw [HS.out, if_neg HE.out, if_neg HM.out, if_neg HM2.out]; try simp [*]), (by repeat (first | with_reducible exact Below.refl _ _ | with_reducible assumption | with_reducible refine al ?_ _ | with_reducible refine Below.drew ?_ | with_reducible refine Below.setCell ?_ (by first | (simp; done) | (simp; omega)) _ | with_reducible refine tr ?_ (by with_reducible assumption)))⟩
end Go.Proofs.YtjdgibpjlhpanaaGreatDoor
