/-
  The walk of the statement HullClose.
-/
import Derived.Test.YtmliljdbpkikpaaGreatDoorHulI
import Derived.Test.YtmliljdbpkikpaaGreatDoorHulH
import Derived.Test.YtmliljdbpkikpaaGreatDoorPlainHull
import Derived.Test.YtmliljdbpkikpaaGreatDoorRefSq
import Derived.Test.YtmliljdbpkikpaaGreatDoorTreeC
set_option linter.unusedSimpArgs false
set_option linter.unusedVariables false
namespace Go.Proofs.YtmliljdbpkikpaaGreatDoor
open Go.RowKit Pg
theorem psteq {i j : Nat} {d : Fr} {s : PSt} (h : (⟨i, j, d⟩ : PSt) = s) : i = s.i ∧ j = s.j ∧ d = s.d := by subst h; exact ⟨rfl, rfl, rfl⟩

set_option maxHeartbeats 4000000 in
set_option maxRecDepth 20000 in
theorem hullClose_walk (B n c : Nat) (k k2 : Int) (A : Option Addr) (l : List Pt) (w : World) (hl : PtsAt w B A n l) (hB : B ≤ w.heap.size) (hnc : n ≤ c) (hT : ErrT w) : Calls Tryz.prog 3 #[.slice A n c, .int .i64 k, .int .i64 k2] w (Ret w (.bool true)) := by
  have HT := Lib.hid hT
  clear hT
  have HAW := Lib.hid (fun W (hW : Below w.heap.size w W) => awake21_true W (HT.out.tr hW))
  have HSM := Lib.hid (fun W => small_any A n c W)
  by_cases h100 : n ≤ 100
  case neg =>
    rw [decide_eq_false h100] at HSM
    clear hl
    go_enter Tryz.func3, Tryz.ntmps3
    go_wp2_with (first | (go_at_call 5; refine (HSM.out _).mono ?_; rintro e w1 ⟨rfl, hb1⟩; obtain ⟨hc1, hf1⟩ := bcell hb1; have hz1 := hb1.size; (try simp at hz1)) | (go_at_call 6; (with_reducible refine (HAW.out _ (by repeat (first | with_reducible exact Below.refl _ _ | with_reducible assumption | with_reducible refine al ?_ _ | with_reducible refine Below.drew ?_ | with_reducible refine Below.setCell ?_ (by first | (simp; done) | (simp; omega)) _ | with_reducible refine tr ?_ (by with_reducible assumption)))).mono ?_); rintro e w2 ⟨rfl, hb2⟩))
    go_ret
    exact ⟨rfl, (by repeat (first | with_reducible exact Below.refl _ _ | with_reducible assumption | with_reducible refine al ?_ _ | with_reducible refine Below.drew ?_ | with_reducible refine Below.setCell ?_ (by first | (simp; done) | (simp; omega)) _ | with_reducible refine tr ?_ (by with_reducible assumption)))⟩
  rw [decide_eq_true h100] at HSM
  by_cases h2 : n < 2
  · have h2' : (n : Int) < 2 := by omega
    clear hl
    go_enter Tryz.func3, Tryz.ntmps3
    go_wp2_with (first | (go_at_call 5; refine (HSM.out _).mono ?_; rintro e w1 ⟨rfl, hb1⟩; obtain ⟨hc1, hf1⟩ := bcell hb1; have hz1 := hb1.size; (try simp at hz1)) | (go_at_call 6; (with_reducible refine (HAW.out _ (by repeat (first | with_reducible exact Below.refl _ _ | with_reducible assumption | with_reducible refine al ?_ _ | with_reducible refine Below.drew ?_ | with_reducible refine Below.setCell ?_ (by first | (simp; done) | (simp; omega)) _ | with_reducible refine tr ?_ (by with_reducible assumption)))).mono ?_); rintro e w2 ⟨rfl, hb2⟩))
    go_ret
    exact ⟨rfl, (by repeat (first | with_reducible exact Below.refl _ _ | with_reducible assumption | with_reducible refine al ?_ _ | with_reducible refine Below.drew ?_ | with_reducible refine Below.setCell ?_ (by first | (simp; done) | (simp; omega)) _ | with_reducible refine tr ?_ (by with_reducible assumption)))⟩
  have h2' : ¬ (n : Int) < 2 := by omega
  obtain ⟨b, off, rfl, hab, _, _⟩ := hl.at_ (show 0 < n by omega)
  have HRo := Lib.hid (fun W => round_any k n (by omega) (by omega) W)
  have HRo2 := Lib.hid (fun W => round_any k2 n (by omega) (by omega) W)
  have hr := roundS_lt (k := k) (show 0 < n by omega)
  have hr2 := roundS_lt (k := k2) (show 0 < n by omega)
  generalize roundS k n = r at *
  generalize roundS k2 n = r2 at *
  have hln := hl.1
  have HL := Lib.hid hl
  clear hl h2
  have HC := Lib.hid (fun W (hW : Below w.heap.size w W) => closest_any B n c (some ⟨b, off, none⟩) l W (HL.out.tr hW hB) (Nat.le_trans hB hW.size) (by omega))
  by_cases hck : (hullCk l 2).1 = 0
  case neg =>
    clear HRo HRo2
    go_enter Tryz.func3, Tryz.ntmps3
    go_wp2_with (first | (go_at_call 5; refine (HSM.out _).mono ?_; rintro e w1 ⟨rfl, hb1⟩; obtain ⟨hc1, hf1⟩ := bcell hb1; have hz1 := hb1.size; (try simp at hz1)) | (go_at_call 7; (with_reducible refine (HC.out _ (by repeat (first | with_reducible exact Below.refl _ _ | with_reducible assumption | with_reducible refine al ?_ _ | with_reducible refine Below.drew ?_ | with_reducible refine Below.setCell ?_ (by first | (simp; done) | (simp; omega)) _ | with_reducible refine tr ?_ (by with_reducible assumption)))).mono ?_); rintro e w5 ⟨i1, j1, d1, v1, rfl, hz, _, hE1, hb5⟩; obtain ⟨rfl, rfl, rfl⟩ := hz hck; obtain ⟨t1, u1, rfl⟩ := errW_some hE1 hck; simp only [show fV ⟨0, 0⟩ = .agg #[.int .u64 0, .int .u64 0, .int .u64 0] from rfl]) | (go_at_call 6; (with_reducible refine (HAW.out _ (by repeat (first | with_reducible exact Below.refl _ _ | with_reducible assumption | with_reducible refine al ?_ _ | with_reducible refine Below.drew ?_ | with_reducible refine Below.setCell ?_ (by first | (simp; done) | (simp; omega)) _ | with_reducible refine tr ?_ (by with_reducible assumption)))).mono ?_); rintro e w7 ⟨rfl, hb7⟩))
    go_ret
    exact ⟨rfl, (by repeat (first | with_reducible exact Below.refl _ _ | with_reducible assumption | with_reducible refine al ?_ _ | with_reducible refine Below.drew ?_ | with_reducible refine Below.setCell ?_ (by first | (simp; done) | (simp; omega)) _ | with_reducible refine tr ?_ (by with_reducible assumption)))⟩
  obtain ⟨_, _, hok⟩ := hck_all hck
  have HW := Lib.hid (fun W (hW : Below w.heap.size w W) => widest_any B n c (some ⟨b, off, none⟩) l W (HL.out.tr hW hB) (Nat.le_trans hB hW.size) (by omega))
  -- the numbers
  have hok1 := hok _ (ptIn (l := l) (i := r) (by omega))
  have hok2 := hok _ (ptIn (l := l) (i := r2) (by omega))
  have hcl : r ≠ r2 → (pairS l (-1)).d.num ≤ (sqP (pt l r) (pt l r2)).num := fun hne => close_le (by omega) (by omega) (by omega) hne
  have hwi : (sqP (pt l r) (pt l r2)).num ≤ (pairS l 1).d.num := wide_ge (by omega) (by omega) (by omega)
  have hdc := pair_den (l := l) (way := -1) (.inr rfl) (by omega)
  have hdw := pair_den (l := l) (way := 1) (.inl rfl) (by omega)
  have hfc : FrOk (pairS l (-1)).d := by
    obtain ⟨q1, q2, q3⟩ := pair_in (l := l) (way := -1) (.inr rfl) (by omega)
    rw [q3]; exact frok_sq (hok _ (ptIn (by omega))) (hok _ (ptIn (by omega)))
  have hfw : FrOk (pairS l 1).d := by
    obtain ⟨q1, q2, q3⟩ := pair_in (l := l) (way := 1) (.inl rfl) (by omega)
    rw [q3]; exact frok_sq (hok _ (ptIn (by omega))) (hok _ (ptIn (by omega)))
  have hfs : FrOk (sqP (pt l r) (pt l r2)) := frok_sq hok1 hok2
  have hC1 : r ≠ r2 → ¬ cmpF (sqP (pt l r) (pt l r2)) (pairS l (-1)).d < 0 := fun hne => by
    have h := hcl hne
    have e : (pairS l (-1)).d = ⟨(pairS l (-1)).d.num, 1⟩ := by rw [← hdc]
    rw [e, sqP_eta, cmp_lt]
    omega
  have hC2 : ¬ 0 < cmpF (sqP (pt l r) (pt l r2)) (pairS l 1).d := by
    have e : (pairS l 1).d = ⟨(pairS l 1).d.num, 1⟩ := by rw [← hdw]
    rw [e, sqP_eta, cmp_gt]
    omega
  have HSq : Hid (∀ W, Calls Tryz.prog 10 #[ptV (pt l r).x (pt l r).y, ptV (pt l r2).x (pt l r2).y] W (Ret W (fV (sqP (pt l r) (pt l r2))))) := fun W => rsquare_ok (pt l r) (pt l r2) hok1 hok2 W
  have HK1 := Lib.hid (fun W => rCmpD_any _ _ hfs hfc W)
  have HK2 := Lib.hid (fun W => rCmpD_any _ _ hfs hfw W)
  have hm := close_dup (l := l) (by omega) (i := r) (by omega)
  have hmi := pair_in (l := l ++ [pt l r]) (way := -1) (.inr rfl) (by simp; omega)
  have hmk : (hullCk (l ++ [pt l r]) 2).1 = 0 := by
    rw [hck_good (by simp; omega) (by simp; omega) (fun q hq => by
      rcases List.mem_append.1 hq with h | h
      · exact hok q h
      · rw [List.mem_singleton.1 h]; exact hok1)]
  obtain ⟨m, hmm⟩ : ∃ m, l ++ [pt l r] = m := ⟨_, rfl⟩
  have hml : m.length = n + 1 := by rw [← hmm]; simp [hln]
  obtain ⟨I, hI⟩ : ∃ I, (pairS m (-1)).i = I := ⟨_, rfl⟩
  obtain ⟨J, hJ⟩ : ∃ J, (pairS m (-1)).j = J := ⟨_, rfl⟩
  rw [hmm] at hm hmi hmk
  rw [hI, hJ] at hmi
  have hIJ : (I : Int) < (J : Int) := by have := hmi.1; omega
  have HC2 : Hid (∀ (B0 g c0 : Nat) (W : World), W.ownsRow B0 35 2 (.slice (some ⟨g, 0, none⟩) (n + 1) c0) (n + 1) (ptcells m) →
      Calls Tryz.prog 7 #[.slice (some ⟨g, 0, none⟩) (n + 1) c0] W fun e w' => e = .returned (.tuple #[.int .i64 I, .int .i64 J, .agg #[.int .u64 0, .int .u64 0, .int .u64 1], .nilIface]) ∧ Below W.heap.size W w') := fun B0 g c0 W hO => by
    refine (closest_any W.heap.size (n + 1) c0 (some ⟨g, 0, none⟩) m W (own_pts hO) (Nat.le_refl _) (by omega)).mono ?_
    rintro e w' ⟨i1, j1, d1, v1, rfl, _, hp, hE, hb⟩
    rw [hmk] at hE
    obtain rfl := errW_zero hE
    obtain ⟨e1, e2, e3⟩ := psteq (hp hmk)
    rw [hI] at e1
    rw [hJ] at e2
    rw [hm] at e3
    subst e1 e2 e3
    exact ⟨rfl, hb⟩
  clear hcl hwi hmi hml hI hJ hm hmk hdc hdw hfc hfw hfs
  obtain ⟨dS, hdS⟩ : ∃ d, sqP (pt l r) (pt l r2) = d := ⟨_, rfl⟩
  obtain ⟨dC, hdC⟩ : ∃ d, (pairS l (-1)).d = d := ⟨_, rfl⟩
  obtain ⟨dW, hdW⟩ : ∃ d, (pairS l 1).d = d := ⟨_, rfl⟩
  rw [hdS] at HSq
  rw [hdS, hdC] at HK1 hC1
  rw [hdS, hdW] at HK2 hC2
  obtain ⟨xS, yS, zS, hvS⟩ := fV_three dS
  obtain ⟨xC, yC, zC, hvC⟩ := fV_three dC
  obtain ⟨xW, yW, zW, hvW⟩ := fV_three dW
  simp only [hvS, hvC, hvW] at HSq HK1 HK2
  obtain ⟨C1, hC1e⟩ : ∃ C, cmpF dS dC = C := ⟨_, rfl⟩
  obtain ⟨C2, hC2e⟩ : ∃ C, cmpF dS dW = C := ⟨_, rfl⟩
  rw [hC1e] at HK1 hC1
  rw [hC2e] at HK2 hC2
  have hC2' : decide (0 < C2) = false := decide_eq_false hC2
  have HDC := Lib.hid hdC
  have HDW := Lib.hid hdW
  have HVC := Lib.hid hvC
  have HVW := Lib.hid hvW
  clear hC2 hC1e hC2e hdS hdC hdW hvS hvC hvW
  have HOK1 := Lib.hid hok1
  clear hok hok1 hok2
  go_enter Tryz.func3, Tryz.ntmps3
  go_wp2_with (first | (go_at_call 5; refine (HSM.out _).mono ?_; rintro e w1 ⟨rfl, hb1⟩; obtain ⟨hc1, hf1⟩ := bcell hb1; have hz1 := hb1.size; (try simp at hz1)) | (go_at_call 7; (with_reducible refine (HC.out _ (by repeat (first | with_reducible exact Below.refl _ _ | with_reducible assumption | with_reducible refine al ?_ _ | with_reducible refine Below.drew ?_ | with_reducible refine Below.setCell ?_ (by first | (simp; done) | (simp; omega)) _ | with_reducible refine tr ?_ (by with_reducible assumption)))).mono ?_); rintro e w5 ⟨i1, j1, d1, v1, rfl, _, hp1, hE1, hb5⟩; rw [hck] at hE1; obtain rfl := errW_zero hE1; have e3 := (psteq (hp1 hck)).2.2; rw [HDC.out] at e3; subst e3; simp only [HVC.out]; clear hp1 hE1) | (go_at_call 8; (with_reducible refine (HW.out _ (by repeat (first | with_reducible exact Below.refl _ _ | with_reducible assumption | with_reducible refine al ?_ _ | with_reducible refine Below.drew ?_ | with_reducible refine Below.setCell ?_ (by first | (simp; done) | (simp; omega)) _ | with_reducible refine tr ?_ (by with_reducible assumption)))).mono ?_); rintro e w6 ⟨i2, j2, d2, v2, rfl, _, hp2, hE2, hb6⟩; rw [hck] at hE2; obtain rfl := errW_zero hE2; have e3 := (psteq (hp2 hck)).2.2; rw [HDW.out] at e3; subst e3; simp only [HVW.out]; clear hp2 hE2) | (go_at_call 9; (with_reducible refine (HRo.out _).mono ?_); rintro e w7 ⟨rfl, hb7⟩) | (go_at_call 9; (with_reducible refine (HRo2.out _).mono ?_); rintro e w8 ⟨rfl, hb8⟩))
  refine PgG.keep_world (R := fun w9 => Blk w9 w5.heap.size 27 #[.int .u64 xC, .int .u64 yC, .int .u64 zC] ∧ Blk w9 w6.heap.size 27 #[.int .u64 xW, .int .u64 yW, .int .u64 zW] ∧ Below w.heap.size w w9) ⟨(by repeat (first | with_reducible assumption | with_reducible exact Blk.new (by simp) rfl | with_reducible refine Blk.alloc ?_ _ | with_reducible refine Blk.drew ?_ | with_reducible refine Blk.far ?_ (by first | (simp; done) | (simp; omega)) _ | with_reducible refine Blk.tr ?_ (by with_reducible assumption))), (by repeat (first | with_reducible assumption | with_reducible exact Blk.new (by simp) rfl | with_reducible refine Blk.alloc ?_ _ | with_reducible refine Blk.drew ?_ | with_reducible refine Blk.far ?_ (by first | (simp; done) | (simp; omega)) _ | with_reducible refine Blk.tr ?_ (by with_reducible assumption))), (by repeat (first | with_reducible exact Below.refl _ _ | with_reducible assumption | with_reducible refine al ?_ _ | with_reducible refine Below.drew ?_ | with_reducible refine Below.setCell ?_ (by first | (simp; done) | (simp; omega)) _ | with_reducible refine tr ?_ (by with_reducible assumption)))⟩ ?_
  rintro w9 ⟨hGC, hGW, hb9⟩
  obtain ⟨GC, eC⟩ : ∃ G, w5.heap.size = G := ⟨_, rfl⟩
  obtain ⟨GW, eW⟩ : ∃ G, w6.heap.size = G := ⟨_, rfl⟩
  rw [eC] at hGC ⊢
  rw [eW] at hGW ⊢
  have hz9 := hb9.size
  obtain ⟨e0, e1⟩ := pts_atC (HL.out.tr hb9 hB) hr
  obtain ⟨e2, e3⟩ := pts_atC (HL.out.tr hb9 hB) hr2
  have hbw : b < w9.heap.size := by omega
  have t1 : (r : Int) < (n : Int) := by omega
  have t2 : (r2 : Int) < (n : Int) := by omega
  have lC := hGC.lt
  have lW := hGW.lt
  clear eC eW hb5 hb6 hb7 hb8 hb1 hc1 hf1 hz1 HSM HC HW HRo HRo2 hck
  refine wp_region_alloc' [0, 1, 2, 3, 4, 5, 6, 7, 8] [9] [10] (fun _ => #[.int .u64 0, .int .u64 0, .int .u64 0]) (by kernel_rfl) (by kernel_rfl) (fun _ _ d _ _ h => by cases d <;> exact h) (by intro i hi w; simp only [List.mem_cons, List.not_mem_nil, or_false] at hi; rcases hi with rfl <;> simp only [List.getD_cons_zero, List.getD_cons_succ, tyOf] <;> kernel_rfl) (fun KN hKN => ?_)
  simp only [List.map_cons, List.map_nil, List.getD_cons_zero, List.getD_cons_succ, bare, gslot, List.getElem?_cons_zero, List.getElem?_cons_succ, Option.bind_some]
  repeat ((try simp only [Act.put, List.setIfInBounds_toArray, List.set_cons_zero, List.set_cons_succ]); first | (refine lexN_quiet (v := ?_) rfl ?_ ?_; rotate_left; focus (intro wq hq; obtain ⟨hcq, hfq⟩ := bcell hq; go_simp; try with_reducible rfl)) | (refine lexN_loud (v := ?_) rfl ?_ ?_; rotate_left; focus (intro wq hq K hK; obtain ⟨hcq, hfq⟩ := bcell hq; go_simp; (first | (go_at_call 10; (with_reducible refine (HSq.out _).mono ?_); rintro e w1 ⟨rfl, hb1⟩; obtain ⟨hc1, hf1⟩ := bcell hb1; have hz1 := hb1.size; (try simp at hz1))); refine hK.out _ _ ?_ (by repeat (first | with_reducible exact Below.refl _ _ | with_reducible assumption | with_reducible refine al ?_ _ | with_reducible refine Below.drew ?_ | with_reducible refine Below.setCell ?_ (by first | (simp; done) | (simp; omega)) _ | with_reducible refine tr ?_ (by with_reducible assumption))); simp only [Act.put, List.setIfInBounds_toArray, List.set_cons_zero, List.set_cons_succ]; try with_reducible rfl)))
  (try simp only [Act.put, List.setIfInBounds_toArray, List.set_cons_zero, List.set_cons_succ])
  refine lexN_nil (hKN.out _ ?_)
  clear hKN KN
  intro gs wf hwf hgs hds
  simp only [List.map_cons, List.map_nil, List.getD_cons_zero, List.getD_cons_succ, bare, gslot, List.getElem?_cons_zero, List.getElem?_cons_succ, Option.bind_some, List.foldl_cons, List.foldl_nil, ptrV]
  obtain ⟨hg9, HB9⟩ := hgs 9 (by decide)
  simp only [List.getD_cons_zero, List.getD_cons_succ, tyOf] at HB9
  clear hgs hds
  generalize gs 9 = g9 at *
  have cg9 := HB9.cell
  have fg9 := HB9.frozen
  repeat ((try simp only [Act.put, List.setIfInBounds_toArray, List.set_cons_zero, List.set_cons_succ]); first | (refine lexL_loud wantB_none rfl (fun K hK => ?_); go_simp; refine hK.out _ _ (by repeat (first | with_reducible exact Below.refl _ _ | with_reducible assumption | with_reducible refine al ?_ _ | with_reducible refine Below.drew ?_ | with_reducible refine Below.setCell ?_ (by first | (simp; done) | (simp; omega)) _ | with_reducible refine tr ?_ (by with_reducible assumption))) ?_; clear hK K) | (refine lexL_quiet (v := ?_) wantB_none rfl ?_ ?_; rotate_left; focus (intro wq hq; go_simp; try with_reducible rfl)))
  refine lexL_nil ?_
  refine keep_world (R := fun w2 => Below w.heap.size w w2 ∧ Blk w2 g9 27 #[.int .u64 xS, .int .u64 yS, .int .u64 zS] ∧ Blk w2 GC 27 #[.int .u64 xC, .int .u64 yC, .int .u64 zC] ∧ Blk w2 GW 27 #[.int .u64 xW, .int .u64 yW, .int .u64 zW] ∧ Below w9.heap.size w9 w2) ⟨(by repeat (first | with_reducible exact Below.refl _ _ | with_reducible assumption | with_reducible refine al ?_ _ | with_reducible refine Below.drew ?_ | with_reducible refine Below.setCell ?_ (by first | (simp; done) | (simp; omega)) _ | with_reducible refine tr ?_ (by with_reducible assumption))), (((HB9.set_ 0 _).set_ 1 _).set_ 2 _).eq_ (by simp), (by repeat (first | with_reducible assumption | with_reducible exact Blk.new (by simp) rfl | with_reducible refine Blk.alloc ?_ _ | with_reducible refine Blk.drew ?_ | with_reducible refine Blk.far ?_ (by first | (simp; done) | (simp; omega)) _ | with_reducible refine Blk.tr ?_ (by with_reducible assumption))), (by repeat (first | with_reducible assumption | with_reducible exact Blk.new (by simp) rfl | with_reducible refine Blk.alloc ?_ _ | with_reducible refine Blk.drew ?_ | with_reducible refine Blk.far ?_ (by first | (simp; done) | (simp; omega)) _ | with_reducible refine Blk.tr ?_ (by with_reducible assumption))), (by repeat (first | with_reducible exact Below.refl _ _ | with_reducible assumption | with_reducible refine al ?_ _ | with_reducible refine Below.drew ?_ | with_reducible refine Below.setCell ?_ (by first | (simp; done) | (simp; omega)) _ | with_reducible refine tr ?_ (by with_reducible assumption)))⟩ ?_
  rintro w2 ⟨hb2, h9, hE0, hE1, hE2⟩
  clear cg9 fg9 HB9
  have cg9 := h9.cell
  have fg9 := h9.frozen
  have lg9 := h9.lt
  obtain ⟨hc2, hf2⟩ := bcell hb2
  have cC := hE0.cell
  have fC := hE0.frozen
  have lC2 := hE0.lt
  have cW := hE1.cell
  have fW := hE1.frozen
  have lW2 := hE1.lt
  have hbw9 : Below w.heap.size w w2 := (by repeat (first | with_reducible exact Below.refl _ _ | with_reducible assumption | with_reducible refine al ?_ _ | with_reducible refine Below.drew ?_ | with_reducible refine Below.setCell ?_ (by first | (simp; done) | (simp; omega)) _ | with_reducible refine tr ?_ (by with_reducible assumption)))
  clear e0 e1 e2 e3
  by_cases hrr : r = r2
  · subst hrr
    go_wp2_with (go_at_call 11; (with_reducible refine (HK2.out _).mono ?_); rintro e w10 ⟨rfl, hb10⟩)
    refine PgG.keep_world (R := fun w5 => Below w.heap.size w w5) (by repeat (first | with_reducible exact Below.refl _ _ | with_reducible assumption | with_reducible refine al ?_ _ | with_reducible refine Below.drew ?_ | with_reducible refine Below.setCell ?_ (by first | (simp; done) | (simp; omega)) _ | with_reducible refine tr ?_ (by with_reducible assumption))) ?_
    intro w12 hb12
    have HL12 : PtsAt w12 w12.heap.size (some ⟨b, off, none⟩) n l := pts_up (HL.out.tr hb12 hB) (fun _ _ => rfl) (Nat.le_trans hB hb12.size)
    clear hE0 hE1 hE2 h9 cg9 fg9 lg9 cC fC lC2 cW fW lW2 hb2 hc2 hf2 hGC hGW hb9 lC lW hbw9 hz9 HSq HK1 HK2 hC1 hC2'
    refine wp_region_treeR (.one 1 (.one 3 (.one 4 (.one 5 (.one 6 (.three 0 7 15 (.three 2 7 15 (.two 7 15 (.two 8 15 (.two 9 15 (.one 10 (.one 11 (.one 12 (.one 13 (.one 14 (.one 15 (.one 16 (.one 17 (.one 18 (.one 19 .done)))))))))) (.one 9 (.one 10 (.one 11 (.one 12 (.one 13 (.one 14 (.one 16 (.one 17 (.one 18 (.one 19 .done))))))))))) (.one 8 (.one 9 (.one 10 (.one 11 (.one 12 (.one 13 (.one 14 (.one 16 (.one 17 (.one 18 (.one 19 .done)))))))))))) (.one 7 (.one 8 (.one 9 (.one 10 (.one 11 (.one 12 (.one 13 (.one 14 (.one 16 (.one 17 (.one 18 (.one 19 .done))))))))))))) (.two 2 15 (.two 8 15 (.two 9 15 (.one 10 (.one 11 (.one 12 (.one 13 (.one 14 (.one 15 (.one 16 (.one 17 (.one 18 (.one 19 .done)))))))))) (.one 9 (.one 10 (.one 11 (.one 12 (.one 13 (.one 14 (.one 16 (.one 17 (.one 18 (.one 19 .done))))))))))) (.one 8 (.one 9 (.one 10 (.one 11 (.one 12 (.one 13 (.one 14 (.one 16 (.one 17 (.one 18 (.one 19 .done)))))))))))) (.one 2 (.one 8 (.one 9 (.one 10 (.one 11 (.one 12 (.one 13 (.one 14 (.one 16 (.one 17 (.one 18 (.one 19 .done))))))))))))) (.two 2 7 (.one 7 (.one 8 (.one 9 (.one 10 (.one 11 (.one 12 (.one 13 (.one 14 (.one 16 (.one 17 (.one 18 (.one 19 .done)))))))))))) (.one 2 (.one 8 (.one 9 (.one 10 (.one 11 (.one 12 (.one 13 (.one 14 (.one 16 (.one 17 (.one 18 (.one 19 .done)))))))))))))) (.two 0 15 (.two 2 15 (.two 8 15 (.two 9 15 (.one 10 (.one 11 (.one 12 (.one 13 (.one 14 (.one 15 (.one 16 (.one 17 (.one 18 (.one 19 .done)))))))))) (.one 9 (.one 10 (.one 11 (.one 12 (.one 13 (.one 14 (.one 16 (.one 17 (.one 18 (.one 19 .done))))))))))) (.one 8 (.one 9 (.one 10 (.one 11 (.one 12 (.one 13 (.one 14 (.one 16 (.one 17 (.one 18 (.one 19 .done)))))))))))) (.one 2 (.one 8 (.one 9 (.one 10 (.one 11 (.one 12 (.one 13 (.one 14 (.one 16 (.one 17 (.one 18 (.one 19 .done))))))))))))) (.one 0 (.one 2 (.one 8 (.one 9 (.one 10 (.one 11 (.one 12 (.one 13 (.one 14 (.one 16 (.one 17 (.one 18 (.one 19 .done)))))))))))))) (.two 0 7 (.two 2 7 (.one 7 (.one 8 (.one 9 (.one 10 (.one 11 (.one 12 (.one 13 (.one 14 (.one 16 (.one 17 (.one 18 (.one 19 .done)))))))))))) (.one 2 (.one 8 (.one 9 (.one 10 (.one 11 (.one 12 (.one 13 (.one 14 (.one 16 (.one 17 (.one 18 (.one 19 .done))))))))))))) (.one 0 (.one 2 (.one 8 (.one 9 (.one 10 (.one 11 (.one 12 (.one 13 (.one 14 (.one 16 (.one 17 (.one 18 (.one 19 .done)))))))))))))))))))) (fun a8 a9 w9 => ∃ (s0 s2 s7 s8 s9 : Value) (g : Nat), a9 = puts a8 [(96, s0), (97, .slice (some ⟨b, off, none⟩) n c), (98, s2), (99, .slice (some ⟨b, off, none⟩) n c), (100, .int .i64 r), (101, s9), (102, .agg #[.int .i64 (pt l r).x, .int .i64 (pt l r).y]), (103, s7), (104, s8), (105, .tuple #[.int .i64 I, .int .i64 J, .agg #[.int .u64 0, .int .u64 0, .int .u64 1], .nilIface]), (95, .tuple #[.int .i64 I, .int .i64 J, .agg #[.int .u64 0, .int .u64 0, .int .u64 1], .nilIface]), (106, .int .i64 I), (107, .int .i64 J), (108, .agg #[.int .u64 0, .int .u64 0, .int .u64 1]), (109, .nilIface), (18, .pointer (some ⟨g, 0, none⟩)), (16, .int .i64 I), (17, .int .i64 J), (19, .nilIface)] ∧ Blk w9 g 27 #[.int .u64 0, .int .u64 0, .int .u64 1] ∧ Below w12.heap.size w12 w9) (by kernel_rfl) (by kernel_rfl) (fun _ _ d _ _ h => by cases d <;> exact h) ?_ ?_
    · intro LL hLL QQ hQQ
      have oo0 := treeAt hLL 0 (by kernel_rfl)
      have oo1 := treeAt hLL 1 (by kernel_rfl)
      have oo2 := treeAt hLL 2 (by kernel_rfl)
      have oo3 := treeAt hLL 3 (by kernel_rfl)
      have oo4 := treeAt hLL 4 (by kernel_rfl)
      have oo5 := treeAt hLL 5 (by kernel_rfl)
      have oo6 := treeAt hLL 6 (by kernel_rfl)
      have oo7 := treeAt hLL 7 (by kernel_rfl)
      have oo8 := treeAt hLL 8 (by kernel_rfl)
      have oo9 := treeAt hLL 9 (by kernel_rfl)
      have oo10 := treeAt hLL 10 (by kernel_rfl)
      have oo11 := treeAt hLL 11 (by kernel_rfl)
      have oo12 := treeAt hLL 12 (by kernel_rfl)
      have oo13 := treeAt hLL 13 (by kernel_rfl)
      have oo14 := treeAt hLL 14 (by kernel_rfl)
      have oo15 := treeAt hLL 15 (by kernel_rfl)
      have oo16 := treeAt hLL 16 (by kernel_rfl)
      have oo17 := treeAt hLL 17 (by kernel_rfl)
      have oo18 := treeAt hLL 18 (by kernel_rfl)
      have oo19 := treeAt hLL 19 (by kernel_rfl)
      simp only [List.getD_cons_zero, List.getD_cons_succ, bare] at oo0 oo1 oo2 oo3 oo4 oo5 oo6 oo7 oo8 oo9 oo10 oo11 oo12 oo13 oo14 oo15 oo16 oo17 oo18 oo19
      clear hLL
      simp only [puts, List.foldl_cons, List.foldl_nil, Act.put, List.setIfInBounds_toArray, List.set_cons_zero, List.set_cons_succ] at hQQ
      exact hc_tree hQQ oo0 oo1 oo2 oo3 oo4 oo5 oo6 oo7 oo8 oo9 oo10 oo11 oo12 oo13 oo14 oo15 oo16 oo17 oo18 oo19 hmm hr (by omega) HL12 HC2
    rintro a' w13 ⟨s0, s2, s7, s8, s9, g, rfl, hG13, hb13⟩
    simp only [puts, List.foldl_cons, List.foldl_nil, Act.put, List.setIfInBounds_toArray, List.set_cons_zero, List.set_cons_succ]
    have c13 := hG13.cell
    have l13 := hG13.lt
    clear HC2
    go_wp2_with (go_at_call 6; (with_reducible refine (HAW.out _ (by repeat (first | with_reducible exact Below.refl _ _ | with_reducible assumption | with_reducible refine al ?_ _ | with_reducible refine Below.drew ?_ | with_reducible refine Below.setCell ?_ (by first | (simp; done) | (simp; omega)) _ | with_reducible refine tr ?_ (by with_reducible assumption)))).mono ?_); rintro e w20 ⟨rfl, hb20⟩)
    go_ret
    exact ⟨rfl, (by repeat (first | with_reducible exact Below.refl _ _ | with_reducible assumption | with_reducible refine al ?_ _ | with_reducible refine Below.drew ?_ | with_reducible refine Below.setCell ?_ (by first | (simp; done) | (simp; omega)) _ | with_reducible refine tr ?_ (by with_reducible assumption)))⟩
  · have hrb : ((r : Int) == (r2 : Int)) = false := by rw [beq_eq_false_iff_ne]; omega
    have hC1' : decide (C1 < 0) = false := decide_eq_false (by have := hC1 hrr; omega)
    go_wp2_with (first | (go_at_call 11; (with_reducible refine (HK1.out _).mono ?_); rintro e w10 ⟨rfl, hb10⟩; have hGC1 : Blk w10 GC 27 #[.int .u64 xC, .int .u64 yC, .int .u64 zC] := hE0.tr hb10; have hGW1 : Blk w10 GW 27 #[.int .u64 xW, .int .u64 yW, .int .u64 zW] := hE1.tr hb10; have h91 : Blk w10 g9 27 #[.int .u64 xS, .int .u64 yS, .int .u64 zS] := h9.tr hb10; have cW1 := hGW1.cell; have c91 := h91.cell) | (go_at_call 11; (with_reducible refine (HK2.out _).mono ?_); rintro e w11 ⟨rfl, hb11⟩))
    refine PgG.keep_world (R := fun w5 => Below w.heap.size w w5) (by repeat (first | with_reducible exact Below.refl _ _ | with_reducible assumption | with_reducible refine al ?_ _ | with_reducible refine Below.drew ?_ | with_reducible refine Below.setCell ?_ (by first | (simp; done) | (simp; omega)) _ | with_reducible refine tr ?_ (by with_reducible assumption))) ?_
    intro w12 hb12
    have HL12 : PtsAt w12 w12.heap.size (some ⟨b, off, none⟩) n l := pts_up (HL.out.tr hb12 hB) (fun _ _ => rfl) (Nat.le_trans hB hb12.size)
    clear hE0 hE1 hE2 h9 cg9 fg9 lg9 cC fC lC2 cW fW lW2 hb2 hc2 hf2 hGC hGW hb9 lC lW hbw9 hz9 HSq HK1 HK2 hC1 hC2'
    refine wp_region_treeR (.one 1 (.one 3 (.one 4 (.one 5 (.one 6 (.three 0 7 15 (.three 2 7 15 (.two 7 15 (.two 8 15 (.two 9 15 (.one 10 (.one 11 (.one 12 (.one 13 (.one 14 (.one 15 (.one 16 (.one 17 (.one 18 (.one 19 .done)))))))))) (.one 9 (.one 10 (.one 11 (.one 12 (.one 13 (.one 14 (.one 16 (.one 17 (.one 18 (.one 19 .done))))))))))) (.one 8 (.one 9 (.one 10 (.one 11 (.one 12 (.one 13 (.one 14 (.one 16 (.one 17 (.one 18 (.one 19 .done)))))))))))) (.one 7 (.one 8 (.one 9 (.one 10 (.one 11 (.one 12 (.one 13 (.one 14 (.one 16 (.one 17 (.one 18 (.one 19 .done))))))))))))) (.two 2 15 (.two 8 15 (.two 9 15 (.one 10 (.one 11 (.one 12 (.one 13 (.one 14 (.one 15 (.one 16 (.one 17 (.one 18 (.one 19 .done)))))))))) (.one 9 (.one 10 (.one 11 (.one 12 (.one 13 (.one 14 (.one 16 (.one 17 (.one 18 (.one 19 .done))))))))))) (.one 8 (.one 9 (.one 10 (.one 11 (.one 12 (.one 13 (.one 14 (.one 16 (.one 17 (.one 18 (.one 19 .done)))))))))))) (.one 2 (.one 8 (.one 9 (.one 10 (.one 11 (.one 12 (.one 13 (.one 14 (.one 16 (.one 17 (.one 18 (.one 19 .done))))))))))))) (.two 2 7 (.one 7 (.one 8 (.one 9 (.one 10 (.one 11 (.one 12 (.one 13 (.one 14 (.one 16 (.one 17 (.one 18 (.one 19 .done)))))))))))) (.one 2 (.one 8 (.one 9 (.one 10 (.one 11 (.one 12 (.one 13 (.one 14 (.one 16 (.one 17 (.one 18 (.one 19 .done)))))))))))))) (.two 0 15 (.two 2 15 (.two 8 15 (.two 9 15 (.one 10 (.one 11 (.one 12 (.one 13 (.one 14 (.one 15 (.one 16 (.one 17 (.one 18 (.one 19 .done)))))))))) (.one 9 (.one 10 (.one 11 (.one 12 (.one 13 (.one 14 (.one 16 (.one 17 (.one 18 (.one 19 .done))))))))))) (.one 8 (.one 9 (.one 10 (.one 11 (.one 12 (.one 13 (.one 14 (.one 16 (.one 17 (.one 18 (.one 19 .done)))))))))))) (.one 2 (.one 8 (.one 9 (.one 10 (.one 11 (.one 12 (.one 13 (.one 14 (.one 16 (.one 17 (.one 18 (.one 19 .done))))))))))))) (.one 0 (.one 2 (.one 8 (.one 9 (.one 10 (.one 11 (.one 12 (.one 13 (.one 14 (.one 16 (.one 17 (.one 18 (.one 19 .done)))))))))))))) (.two 0 7 (.two 2 7 (.one 7 (.one 8 (.one 9 (.one 10 (.one 11 (.one 12 (.one 13 (.one 14 (.one 16 (.one 17 (.one 18 (.one 19 .done)))))))))))) (.one 2 (.one 8 (.one 9 (.one 10 (.one 11 (.one 12 (.one 13 (.one 14 (.one 16 (.one 17 (.one 18 (.one 19 .done))))))))))))) (.one 0 (.one 2 (.one 8 (.one 9 (.one 10 (.one 11 (.one 12 (.one 13 (.one 14 (.one 16 (.one 17 (.one 18 (.one 19 .done)))))))))))))))))))) (fun a8 a9 w9 => ∃ (s0 s2 s7 s8 s9 : Value) (g : Nat), a9 = puts a8 [(96, s0), (97, .slice (some ⟨b, off, none⟩) n c), (98, s2), (99, .slice (some ⟨b, off, none⟩) n c), (100, .int .i64 r), (101, s9), (102, .agg #[.int .i64 (pt l r).x, .int .i64 (pt l r).y]), (103, s7), (104, s8), (105, .tuple #[.int .i64 I, .int .i64 J, .agg #[.int .u64 0, .int .u64 0, .int .u64 1], .nilIface]), (95, .tuple #[.int .i64 I, .int .i64 J, .agg #[.int .u64 0, .int .u64 0, .int .u64 1], .nilIface]), (106, .int .i64 I), (107, .int .i64 J), (108, .agg #[.int .u64 0, .int .u64 0, .int .u64 1]), (109, .nilIface), (18, .pointer (some ⟨g, 0, none⟩)), (16, .int .i64 I), (17, .int .i64 J), (19, .nilIface)] ∧ Blk w9 g 27 #[.int .u64 0, .int .u64 0, .int .u64 1] ∧ Below w12.heap.size w12 w9) (by kernel_rfl) (by kernel_rfl) (fun _ _ d _ _ h => by cases d <;> exact h) ?_ ?_
    · intro LL hLL QQ hQQ
      have oo0 := treeAt hLL 0 (by kernel_rfl)
      have oo1 := treeAt hLL 1 (by kernel_rfl)
      have oo2 := treeAt hLL 2 (by kernel_rfl)
      have oo3 := treeAt hLL 3 (by kernel_rfl)
      have oo4 := treeAt hLL 4 (by kernel_rfl)
      have oo5 := treeAt hLL 5 (by kernel_rfl)
      have oo6 := treeAt hLL 6 (by kernel_rfl)
      have oo7 := treeAt hLL 7 (by kernel_rfl)
      have oo8 := treeAt hLL 8 (by kernel_rfl)
      have oo9 := treeAt hLL 9 (by kernel_rfl)
      have oo10 := treeAt hLL 10 (by kernel_rfl)
      have oo11 := treeAt hLL 11 (by kernel_rfl)
      have oo12 := treeAt hLL 12 (by kernel_rfl)
      have oo13 := treeAt hLL 13 (by kernel_rfl)
      have oo14 := treeAt hLL 14 (by kernel_rfl)
      have oo15 := treeAt hLL 15 (by kernel_rfl)
      have oo16 := treeAt hLL 16 (by kernel_rfl)
      have oo17 := treeAt hLL 17 (by kernel_rfl)
      have oo18 := treeAt hLL 18 (by kernel_rfl)
      have oo19 := treeAt hLL 19 (by kernel_rfl)
      simp only [List.getD_cons_zero, List.getD_cons_succ, bare] at oo0 oo1 oo2 oo3 oo4 oo5 oo6 oo7 oo8 oo9 oo10 oo11 oo12 oo13 oo14 oo15 oo16 oo17 oo18 oo19
      clear hLL
      simp only [puts, List.foldl_cons, List.foldl_nil, Act.put, List.setIfInBounds_toArray, List.set_cons_zero, List.set_cons_succ] at hQQ
      exact hc_tree hQQ oo0 oo1 oo2 oo3 oo4 oo5 oo6 oo7 oo8 oo9 oo10 oo11 oo12 oo13 oo14 oo15 oo16 oo17 oo18 oo19 hmm hr (by omega) HL12 HC2
    rintro a' w13 ⟨s0, s2, s7, s8, s9, g, rfl, hG13, hb13⟩
    simp only [puts, List.foldl_cons, List.foldl_nil, Act.put, List.setIfInBounds_toArray, List.set_cons_zero, List.set_cons_succ]
    have c13 := hG13.cell
    have l13 := hG13.lt
    clear HC2
    go_wp2_with (go_at_call 6; (with_reducible refine (HAW.out _ (by repeat (first | with_reducible exact Below.refl _ _ | with_reducible assumption | with_reducible refine al ?_ _ | with_reducible refine Below.drew ?_ | with_reducible refine Below.setCell ?_ (by first | (simp; done) | (simp; omega)) _ | with_reducible refine tr ?_ (by with_reducible assumption)))).mono ?_); rintro e w20 ⟨rfl, hb20⟩)
    go_ret
    exact ⟨rfl, (by repeat (first | with_reducible exact Below.refl _ _ | with_reducible assumption | with_reducible refine al ?_ _ | with_reducible refine Below.drew ?_ | with_reducible refine Below.setCell ?_ (by first | (simp; done) | (simp; omega)) _ | with_reducible refine tr ?_ (by with_reducible assumption)))⟩
end Go.Proofs.YtmliljdbpkikpaaGreatDoor
