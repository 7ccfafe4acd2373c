/-
  The walk of the statement HullTurns.
-/
import Derived.Test.YtjdgibpjlhpanaaGreatDoorHulI
import Derived.Test.YtjdgibpjlhpanaaGreatDoorHulH
import Derived.Test.YtjdgibpjlhpanaaGreatDoorPlainHull
import Derived.Test.YtjdgibpjlhpanaaGreatDoorHulK
import Derived.Test.YtjdgibpjlhpanaaGreatDoorRefSq
set_option linter.unusedSimpArgs false
set_option linter.unusedVariables false
namespace Go.Proofs.YtjdgibpjlhpanaaGreatDoor
open Go.RowKit Pg
theorem ptsAt_drop {w : World} {B n b off k : Nat} {l : List Pt} (h : PtsAt w B (some ⟨b, off, none⟩) n l) (hk : k < n) : PtsAt w B (some ⟨b, off + k * 2, none⟩) (n - k) (l.drop k) := by
  obtain ⟨b', off', e, hb, hc⟩ := h.2 (by omega)
  injection e with e
  injection e with e1 e2
  subst e1 e2
  refine ⟨by rw [List.length_drop, h.1], fun _ => ⟨b, off + k * 2, rfl, hb, fun j p hp => ?_⟩⟩
  rw [List.getElem?_drop] at hp
  have := hc (k + j) p hp
  rw [show off + k * 2 + j * 2 = off + (k + j) * 2 by omega]
  exact this

set_option maxHeartbeats 4000000 in
set_option maxRecDepth 20000 in
theorem hullTurns_walk (B n c : Nat) (k : Int) (A : Option Addr) (l : List Pt) (w : World) (hl : PtsAt w B A n l) (hB : B ≤ w.heap.size) (hnc : n ≤ c) (hT : ErrT w) : Calls Tryz.prog 4 #[.slice A n c, .int .i64 k] w (Ret w (.bool true)) := by
  have HT := Lib.hid hT
  clear hT
  have HAW := Lib.hid (fun W (hW : Below w.heap.size w W) => awake21_true W (HT.out.tr hW))
  have HSM := Lib.hid (fun W => small_any A n c W)
  by_cases h100 : n ≤ 100
  case neg =>
    rw [decide_eq_false h100] at HSM
    clear hl
    go_enter Tryz.func4, Tryz.ntmps4
    go_wp2_with (first | (go_at_call 16; refine (HSM.out _).mono ?_; rintro e w1 ⟨rfl, hb1⟩; obtain ⟨hc1, hf1⟩ := bcell hb1; have hz1 := hb1.size; (try simp at hz1)) | (go_at_call 17; (with_reducible refine (HAW.out _ (by repeat (first | with_reducible exact Below.refl _ _ | with_reducible assumption | with_reducible refine al ?_ _ | with_reducible refine Below.drew ?_ | with_reducible refine Below.setCell ?_ (by first | (simp; done) | (simp; omega)) _ | with_reducible refine tr ?_ (by with_reducible assumption)))).mono ?_); rintro e w2 ⟨rfl, hb2⟩))
    go_ret
    exact ⟨rfl, (by repeat (first | with_reducible exact Below.refl _ _ | with_reducible assumption | with_reducible refine al ?_ _ | with_reducible refine Below.drew ?_ | with_reducible refine Below.setCell ?_ (by first | (simp; done) | (simp; omega)) _ | with_reducible refine tr ?_ (by with_reducible assumption)))⟩
  rw [decide_eq_true h100] at HSM
  by_cases h2 : n < 2
  · have h2' : (n : Int) < 2 := by omega
    clear hl
    go_enter Tryz.func4, Tryz.ntmps4
    go_wp2_with (first | (go_at_call 16; refine (HSM.out _).mono ?_; rintro e w1 ⟨rfl, hb1⟩; obtain ⟨hc1, hf1⟩ := bcell hb1; have hz1 := hb1.size; (try simp at hz1)) | (go_at_call 17; (with_reducible refine (HAW.out _ (by repeat (first | with_reducible exact Below.refl _ _ | with_reducible assumption | with_reducible refine al ?_ _ | with_reducible refine Below.drew ?_ | with_reducible refine Below.setCell ?_ (by first | (simp; done) | (simp; omega)) _ | with_reducible refine tr ?_ (by with_reducible assumption)))).mono ?_); rintro e w2 ⟨rfl, hb2⟩))
    go_ret
    exact ⟨rfl, (by repeat (first | with_reducible exact Below.refl _ _ | with_reducible assumption | with_reducible refine al ?_ _ | with_reducible refine Below.drew ?_ | with_reducible refine Below.setCell ?_ (by first | (simp; done) | (simp; omega)) _ | with_reducible refine tr ?_ (by with_reducible assumption)))⟩
  have h2' : ¬ (n : Int) < 2 := by omega
  obtain ⟨b, off, rfl, hab, _, _⟩ := hl.at_ (show 0 < n by omega)
  have HRo := Lib.hid (fun W => round_any k n (by omega) (by omega) W)
  have hr := roundS_lt (k := k) (show 0 < n by omega)
  generalize roundS k n = r at *
  have hr' : (r : Int) < (n : Int) := by omega
  have hln := hl.1
  have HL := Lib.hid hl
  obtain ⟨n1, hn1⟩ : ∃ m, n - r = m := ⟨_, rfl⟩
  clear hl h2
  obtain ⟨i0, hi, iz0, iz1, iz2⟩ := info_parts Tryz.infoPtH
  obtain ⟨m, hm⟩ : ∃ m, l.drop r ++ l = m := ⟨_, rfl⟩
  have hmem : ∀ q, q ∈ l ↔ q ∈ m := fun q => by
    rw [← hm, List.mem_append]
    exact ⟨.inr, fun h => h.elim (fun h => List.mem_of_mem_drop h) id⟩
  have hml : m.length = n1 + n := by rw [← hm, List.length_append, List.length_drop, hln, hn1]
  have hcm : ptcells (l.drop r) ++ ptcells l = ptcells m := by rw [← hm]; simp [ptcells]
  have HDR := Lib.hid (ptsAt_drop HL.out hr)
  rw [hn1] at HDR
  go_enter Tryz.func4, Tryz.ntmps4
  go_wp2_with (first | (go_at_call 16; refine (HSM.out _).mono ?_; rintro e w1 ⟨rfl, hb1⟩; obtain ⟨hc1, hf1⟩ := bcell hb1; have hz1 := hb1.size; (try simp at hz1)) | (go_at_call 18; (with_reducible refine (HRo.out _).mono ?_); rintro e w2 ⟨rfl, hb2⟩; have hbw2 : Below w.heap.size w w2 := (by repeat (first | with_reducible exact Below.refl _ _ | with_reducible assumption | with_reducible refine al ?_ _ | with_reducible refine Below.drew ?_ | with_reducible refine Below.setCell ?_ (by first | (simp; done) | (simp; omega)) _ | with_reducible refine tr ?_ (by with_reducible assumption))); have hws2 := hbw2.size) | (at_builtin; go_must (refine wpList_append_own _ rfl _ _ 22 rfl w.heap.size 26 i0 (.agg #[.int .i64 0, .int .i64 0]) 2 16 Tryz.underlying22 hi iz0 iz1 iz2 rfl (by decide) _ _ _ rfl (World.ownsRow_made w2 #[] 0 hws2 (Nat.zero_le _) rfl) ⟨b, off + r * 2, none⟩ n1 (c - r) (ptcells (l.drop r)) rfl ?qc1 ?qc2 ?qc3 ?qc4 ?qc5 ?qc6 ?_)))
  case qc1 => rw [ptcells_len, HDR.out.1]
  case qc2 =>
    intro j u hj
    have := pts_cells (HDR.out.below (hbw2.mono hB)) (by omega) j u hj
    have hp : ((⟨b, off + r * 2, none⟩ : Addr).add j) = ⟨b, off + r * 2 + j, none⟩ := by unfold Addr.add; split <;> simp_all
    rw [hp] at this ⊢
    exact Lib.cell?_alloc_some _ this
  case qc3 => exact pt_one
  case qc4 => unfold maxLen; omega
  case qc5 => omega
  case qc6 => simp; omega
  intro v3 w3 hown3 hgrow3 _
  have hbw3 : Below w.heap.size w w3 := (hbw2.alloc (by omega) _).grown hgrow3 (by simp; omega) (by intro k hk; simp [Value.ownBlock] at hk; omega)
  clear hgrow3
  go_wp2_with (at_builtin; go_must (refine wpList_append_own _ rfl _ _ 22 rfl w.heap.size 26 i0 (.agg #[.int .i64 0, .int .i64 0]) 2 16 Tryz.underlying22 hi iz0 iz1 iz2 rfl (by decide) _ _ _ rfl hown3 ⟨b, off, none⟩ n c (ptcells l) rfl ?qd1 ?qd2 ?qd3 ?qd4 ?qd5 ?qd6 ?_))
  case qd1 => rw [ptcells_len, hln]
  case qd2 => exact fun j u hj => pts_cells (HL.out.below (hbw3.mono hB)) (by omega) j u hj
  case qd3 => exact pt_one
  case qd4 => unfold maxLen; omega
  case qd5 => omega
  case qd6 => have := hbw3.size; omega
  intro v4 w4 hown4 hgrow4 _
  have hb4 : Below w.heap.size w w4 := hbw3.grown hgrow4 hbw3.size (fun j e => (hown3.lt j e).1)
  try simp only [List.nil_append, Nat.zero_add] at hown4
  try rw [hcm] at hown4
  clear hgrow4 hown3 hbw3 hbw2 hb2 HDR hcm hws2
  obtain ⟨gm, cm, rfl⟩ := own_pos2 hown4 (by omega)
  have hPm := own_pts hown4
  have hl0 : 0 < l.length := by omega
  have HH1 := Lib.hid (hull_any B n c (some ⟨b, off, none⟩) l w4 (HL.out.tr hb4 hB) (Nat.le_trans hB hb4.size) (by omega))
  by_cases hck : (hullCk l 1).1 = 0
  case neg =>
    have hckm : (hullCk m 1).1 ≠ 0 := fun e => hck (by rw [hck_good (by omega) (by omega) (fun q hq => (hck_all e).2.2 q ((hmem q).1 hq))])
    go_wp2_with (first | (go_at_call 19; (with_reducible refine HH1.out.mono ?_); rintro e w5 ⟨s1, v1, rfl, _, _, hE1, hb5⟩; obtain ⟨t1, u1, rfl⟩ := errW_some hE1 hck; have HM := Lib.hid (hull_any w4.heap.size (n1 + n) cm (some ⟨gm, 0, none⟩) m w5 (hPm.tr hb5 (Nat.le_refl _)) hb5.size (by omega))) | (go_at_call 19; (with_reducible refine HM.out.mono ?_); rintro e w6 ⟨s2, v2, rfl, _, _, hE2, hb6⟩; obtain ⟨t2, u2, rfl⟩ := errW_some hE2 hckm) | (go_at_call 17; (with_reducible refine (HAW.out _ (by repeat (first | with_reducible exact Below.refl _ _ | with_reducible assumption | with_reducible refine al ?_ _ | with_reducible refine Below.drew ?_ | with_reducible refine Below.setCell ?_ (by first | (simp; done) | (simp; omega)) _ | with_reducible refine tr ?_ (by with_reducible assumption)))).mono ?_); rintro e w7 ⟨rfl, hb7⟩))
    go_ret
    exact ⟨rfl, (by repeat (first | with_reducible exact Below.refl _ _ | with_reducible assumption | with_reducible refine al ?_ _ | with_reducible refine Below.drew ?_ | with_reducible refine Below.setCell ?_ (by first | (simp; done) | (simp; omega)) _ | with_reducible refine tr ?_ (by with_reducible assumption)))⟩
  obtain ⟨_, _, hok⟩ := hck_all hck
  have hckm : (hullCk m 1).1 = 0 := by rw [hck_good (by omega) (by omega) (fun q hq => hok q ((hmem q).2 hq))]
  have hck2 : (hullCk l 2).1 = 0 := by rw [hck_good (by omega) (by omega) hok]
  have hHp := hull_pos hl0 hok
  have hHle := hull_le hl0 hok
  have hsame : hullS m = hullS l := hull_same (by intro e; rw [e] at hl0; simp at hl0) hok hmem
  have HHm := Lib.hid (fun x (hx : x < (hullS l).length) => hok _ (hull_mem hl0 hok hx))
  have HF := Lib.hid (fun F h1 h2 => far_corners (l := l) (F := F) (by omega) hok h1 h2)
  have HFle := Lib.hid (fun x (hx : x < (hullS l).length) y (hy : y < (hullS l).length) => show (sqP (pt (hullS l) x) (pt (hullS l) y)).num ≤ (pairS l 1).d.num from by
    obtain ⟨a, ha, e1⟩ := inPt (hull_mem hl0 hok hx)
    obtain ⟨b', hb', e2⟩ := inPt (hull_mem hl0 hok hy)
    rw [← e1, ← e2]
    exact wide_ge (by omega) ha hb')
  obtain ⟨H, hH⟩ : ∃ H, hullS l = H := ⟨_, rfl⟩
  rw [hH] at hHp hHle hsame HHm HF HFle
  go_wp2_with (first | (go_at_call 19; (with_reducible refine HH1.out.mono ?_); rintro e w5 ⟨s1, v1, rfl, _, hs1, hE1, hb5⟩; rw [hck] at hE1; obtain rfl := errW_zero hE1; have hs1' := hs1 hck; rw [hH] at hs1'; clear hs1 hE1 HH1; obtain ⟨g1, c1, rfl⟩ := own_pos2 hs1' hHp; have HM := Lib.hid (hull_any w4.heap.size (n1 + n) cm (some ⟨gm, 0, none⟩) m w5 (hPm.tr hb5 (Nat.le_refl _)) hb5.size (by omega))) | (go_at_call 19; (with_reducible refine HM.out.mono ?_); rintro e w6 ⟨s2, v2, rfl, _, hs2, hE2, hb6⟩; rw [hckm] at hE2; obtain rfl := errW_zero hE2; have hs2' := hs2 hckm; rw [hsame] at hs2'; clear hs2 hE2 HM; obtain ⟨g2, c2, rfl⟩ := own_pos2 hs2' hHp; have P1 := (own_pts hs1').tr hb6 (Nat.le_refl _); have P2 := own_pts hs2'; have hb06 : Below w.heap.size w w6 := (by repeat (first | with_reducible exact Below.refl _ _ | with_reducible assumption | with_reducible refine al ?_ _ | with_reducible refine Below.drew ?_ | with_reducible refine Below.setCell ?_ (by first | (simp; done) | (simp; omega)) _ | with_reducible refine tr ?_ (by with_reducible assumption))); clear hs1' hs2'; have HW := Lib.hid (widest_any B n c (some ⟨b, off, none⟩) l w6 (HL.out.tr hb06 hB) (Nat.le_trans hB hb06.size) (by omega))) | (go_at_call 20; (with_reducible refine HW.out.mono ?_); rintro e w7 ⟨i, j, d, v7, rfl, _, hps, hE7, hb7⟩; rw [hck2] at hE7; obtain rfl := errW_zero hE7; have hps' := hps hck2; clear hps hE7 HW; obtain ⟨x, y, z, hd⟩ := fV_three d; simp only [hd]))
  obtain ⟨hij, hjn, hdq⟩ := pair_in (l := l) (way := 1) (.inl rfl) (by omega)
  have hcw := close_wide (l := l) (by omega)
  have hcp := pair_in (l := l) (way := -1) (.inr rfl) (by omega)
  rw [← hps'] at hij hjn hdq hcw HF HFle
  simp only at hij hjn hdq hcw HF HFle
  rw [hln] at hjn
  have hcij := hcp.1
  clear hcp
  have hin : i < n := by omega
  have HSq : Hid (∀ W, Calls Tryz.prog 22 #[ptV (pt l i).x (pt l i).y, ptV (pt l j).x (pt l j).y] W (Ret W (.agg #[.int .u64 x, .int .u64 y, .int .u64 z]))) := fun W => by
    have h := rsquare_ok (pt l i) (pt l j) (hok _ (ptIn (by omega))) (hok _ (ptIn (by omega))) W
    rw [← hd, hdq]
    exact h
  refine PgG.keep_world (R := fun w8 => Blk w8 w7.heap.size 40 #[.int .u64 x, .int .u64 y, .int .u64 z] ∧ Below w7.heap.size w7 w8) ⟨(by repeat (first | with_reducible assumption | with_reducible exact Blk.new (by simp) rfl | with_reducible refine Blk.alloc ?_ _ | with_reducible refine Blk.drew ?_ | with_reducible refine Blk.far ?_ (by first | (simp; done) | (simp; omega)) _ | with_reducible refine Blk.tr ?_ (by with_reducible assumption))), (by repeat (first | with_reducible exact Below.refl _ _ | with_reducible assumption | with_reducible refine al ?_ _ | with_reducible refine Below.drew ?_ | with_reducible refine Below.setCell ?_ (by first | (simp; done) | (simp; omega)) _ | with_reducible refine tr ?_ (by with_reducible assumption)))⟩ ?_
  rintro w8 ⟨hD, hb8⟩
  have hb68 : Below w6.heap.size w6 w8 := (by repeat (first | with_reducible exact Below.refl _ _ | with_reducible assumption | with_reducible refine al ?_ _ | with_reducible refine Below.drew ?_ | with_reducible refine Below.setCell ?_ (by first | (simp; done) | (simp; omega)) _ | with_reducible refine tr ?_ (by with_reducible assumption)))
  have hb08 : Below w.heap.size w w8 := (by repeat (first | with_reducible exact Below.refl _ _ | with_reducible assumption | with_reducible refine al ?_ _ | with_reducible refine Below.drew ?_ | with_reducible refine Below.setCell ?_ (by first | (simp; done) | (simp; omega)) _ | with_reducible refine tr ?_ (by with_reducible assumption)))
  have hP1 : PtsAt w8 w6.heap.size (some ⟨g1, 0, none⟩) H.length H := (pts_up P1 (fun _ _ => rfl) hb6.size).tr hb68 (Nat.le_refl _)
  have hP2 : PtsAt w8 w6.heap.size (some ⟨g2, 0, none⟩) H.length H := P2.tr hb68 (Nat.le_refl _)
  have hHn : H.length ≤ 100 := by omega
  have HPt : Hid (∀ W, Below w8.heap.size w8 W → Calls Tryz.prog 21 #[.slice (some ⟨g1, 0, none⟩) H.length c1, .slice (some ⟨g2, 0, none⟩) H.length c2] W (Ret W (.bool true))) := fun W hW => by
    have h := rpoints_any w6.heap.size H.length c1 H.length c2 _ _ H H W (hP1.tr hW hb68.size) (hP2.tr hW hb68.size) (Nat.le_trans hb68.size hW.size) (by omega)
    rw [ptsEq_refl] at h
    exact h
  have PL := HL.out.tr hb08 hB
  obtain ⟨e0, e1⟩ := pts_at PL hin
  obtain ⟨e2, e3⟩ := pts_at PL hjn
  have cD := hD.cell
  have fD := hD.frozen
  have lD := hD.lt
  have hbw : b < w8.heap.size := by have := hb08.size; omega
  have hz0 : w.heap.size ≤ w8.heap.size := hb08.size
  clear hb1 hc1 hf1 hz1 hb5 hb6 hb7 hb4 PL HAW hmem hml
  have HAW := Lib.hid (fun W (hW : Below w.heap.size w W) => awake21_true W (HT.out.tr hW))
  have t1 : ¬ ((i : Int) < 0) := by omega
  have t2 : ¬ ((j : Int) ≤ (i : Int)) := by omega
  have t3 : ¬ ((n : Int) ≤ (j : Int)) := by omega
  have t4 : (i : Int) < (n : Int) := by omega
  have t5 : (j : Int) < (n : Int) := by omega
  refine wp_region_belowI (by kernel_rfl) (by kernel_rfl) (fun _ _ d _ _ h => by cases d <;> exact h) ?_
  simp only [List.map_cons, List.map_nil, List.getD_cons_zero, List.getD_cons_succ, bare, gslot, List.getElem?_cons_zero, List.getElem?_cons_succ, Option.bind_some]
  repeat' ((try simp only [Act.put, List.setIfInBounds_toArray, List.set_cons_zero, List.set_cons_succ]); first | (refine lexL_on ?_ ?_; focus (simp only [List.getElem?_toArray, List.getElem?_cons_succ, List.getElem?_cons_zero, Bool.not_true, Bool.not_false]; done)) | (refine lexL_off ?_ ?_ ?_; (focus (simp only [List.getElem?_toArray, List.getElem?_cons_succ, List.getElem?_cons_zero, Bool.not_true, Bool.not_false]; done)); (focus (exact (by repeat (first | with_reducible exact Below.refl _ _ | with_reducible assumption | with_reducible refine al ?_ _ | with_reducible refine Below.drew ?_ | with_reducible refine Below.setCell ?_ (by first | (simp; done) | (simp; omega)) _ | with_reducible refine tr ?_ (by with_reducible assumption)))))) | (refine lexL_splitS (X := ?_) ?_ ?_ (fun hg => ?_) (fun hg => ?_); rotate_left; (focus (simp only [List.getElem?_toArray, List.getElem?_cons_succ, List.getElem?_cons_zero]; with_reducible rfl)); (focus (exact (by repeat (first | with_reducible exact Below.refl _ _ | with_reducible assumption | with_reducible refine al ?_ _ | with_reducible refine Below.drew ?_ | with_reducible refine Below.setCell ?_ (by first | (simp; done) | (simp; omega)) _ | with_reducible refine tr ?_ (by with_reducible assumption))))); all_goals (try simp only [Bool.not_true, Bool.not_false] at hg)) | (refine lexL_quiet (v := ?_) wantB_none rfl ?_ ?_; rotate_left; focus (intro wq hq; obtain ⟨hcq, hfq⟩ := bcell hq; go_simp; try with_reducible rfl)) | (refine lexL_loud wantB_none rfl (fun K hK => ?_); go_simp; ((first |  (go_at_call 21; (with_reducible refine (HPt.out _ (by repeat (first | with_reducible exact Below.refl _ _ | with_reducible assumption | with_reducible refine al ?_ _ | with_reducible refine Below.drew ?_ | with_reducible refine Below.setCell ?_ (by first | (simp; done) | (simp; omega)) _ | with_reducible refine tr ?_ (by with_reducible assumption)))).mono ?_); rintro e w9 ⟨rfl, hb9⟩; obtain ⟨hc9, hf9⟩ := bcell hb9; have hz9 := hb9.size; (try simp at hz9)) | (go_at_call 22; (with_reducible refine (HSq.out _).mono ?_); rintro e w10 ⟨rfl, hb10⟩; obtain ⟨hc10, hf10⟩ := bcell hb10; have hz10 := hb10.size; (try simp at hz10)) | skip) <;> (refine hK.out _ _ (by repeat (first | with_reducible exact Below.refl _ _ | with_reducible assumption | with_reducible refine al ?_ _ | with_reducible refine Below.drew ?_ | with_reducible refine Below.setCell ?_ (by first | (simp; done) | (simp; omega)) _ | with_reducible refine tr ?_ (by with_reducible assumption))) ?_; clear hK K))))
  (all_goals try simp only [Act.put, List.setIfInBounds_toArray, List.set_cons_zero, List.set_cons_succ]); all_goals (refine lexL_nil ?_)
  have hP10 : PtsAt w10 w6.heap.size (some ⟨g1, 0, none⟩) H.length H := (hP1.tr (w1 := w9) (by repeat (first | with_reducible exact Below.refl _ _ | with_reducible assumption | with_reducible refine al ?_ _ | with_reducible refine Below.drew ?_ | with_reducible refine Below.setCell ?_ (by first | (simp; done) | (simp; omega)) _ | with_reducible refine tr ?_ (by with_reducible assumption))) hb68.size).tr (by repeat (first | with_reducible exact Below.refl _ _ | with_reducible assumption | with_reducible refine al ?_ _ | with_reducible refine Below.drew ?_ | with_reducible refine Below.setCell ?_ (by first | (simp; done) | (simp; omega)) _ | with_reducible refine tr ?_ (by with_reducible assumption))) (Nat.le_trans hb68.size (by omega))
  have hD10 : Blk w10 w7.heap.size 40 #[.int .u64 x, .int .u64 y, .int .u64 z] := (by repeat (first | with_reducible assumption | with_reducible exact Blk.new (by simp) rfl | with_reducible refine Blk.alloc ?_ _ | with_reducible refine Blk.drew ?_ | with_reducible refine Blk.far ?_ (by first | (simp; done) | (simp; omega)) _ | with_reducible refine Blk.tr ?_ (by with_reducible assumption)))
  have hb010 : Below w.heap.size w w10 := (by repeat (first | with_reducible exact Below.refl _ _ | with_reducible assumption | with_reducible refine al ?_ _ | with_reducible refine Below.drew ?_ | with_reducible refine Below.setCell ?_ (by first | (simp; done) | (simp; omega)) _ | with_reducible refine tr ?_ (by with_reducible assumption)))
  have HC := Lib.hid (closest_any B n c (some ⟨b, off, none⟩) l w10 (HL.out.tr hb010 hB) (Nat.le_trans hB hb010.size) (by omega))
  have h67 : w6.heap.size ≤ w10.heap.size := Nat.le_trans hb68.size (by omega)
  clear HPt HSq e0 e1 e2 e3 cD fD hc9 hf9 hc10 hf10 hP1 hP2
  go_wp2_with (go_at_call 23; (with_reducible refine HC.out.mono ?_); rintro e w11 ⟨i2, j2, d2, v11, rfl, _, hpc, hE11, hb11⟩; rw [hck2] at hE11; obtain rfl := errW_zero hE11; have hpc' := hpc hck2; clear hpc hE11 HC; obtain ⟨x2, y2, z2, hd2⟩ := fV_three d2; simp only [hd2]; have hD11 : Blk w11 w7.heap.size 40 #[.int .u64 x, .int .u64 y, .int .u64 z] := hD10.tr hb11; have hb011 : Below w.heap.size w w11 := (by repeat (first | with_reducible exact Below.refl _ _ | with_reducible assumption | with_reducible refine al ?_ _ | with_reducible refine Below.drew ?_ | with_reducible refine Below.setCell ?_ (by first | (simp; done) | (simp; omega)) _ | with_reducible refine tr ?_ (by with_reducible assumption))); have hP11 : PtsAt w11 w6.heap.size (some ⟨g1, 0, none⟩) H.length H := hP10.tr hb11 h67; have h611 : w6.heap.size ≤ w11.heap.size := Nat.le_trans h67 hb11.size)
  rw [← hpc'] at hcij hcw
  simp only at hcij hcw
  have hFd : FrOk d := by rw [hdq]; exact frok_sq (hok _ (ptIn (by omega))) (hok _ (ptIn (by omega)))
  have hFd2 : FrOk d2 := by
    obtain ⟨q1, q2, q3⟩ := pair_in (l := l) (way := -1) (.inr rfl) (by omega)
    rw [← hpc'] at q1 q2 q3
    simp only at q1 q2 q3
    rw [q3]
    exact frok_sq (hok _ (ptIn (by omega))) (hok _ (ptIn (by omega)))
  have HCM : Hid (∀ W, Calls Tryz.prog 24 #[.agg #[.int .u64 x2, .int .u64 y2, .int .u64 z2], .agg #[.int .u64 x, .int .u64 y, .int .u64 z]] W (Ret W (.int .i64 (cmpF d2 d)))) := fun W => by
    have h := rCmpD_any d2 d hFd2 hFd W
    rw [hd, hd2] at h
    exact h
  have hfr : frcells d = #[.int .u64 x, .int .u64 y, .int .u64 z] := by
    have : Value.agg (frcells d) = Value.agg #[.int .u64 x, .int .u64 y, .int .u64 z] := hd
    injection this
  obtain ⟨Wn, hWn⟩ : ∃ x, d.num = x := ⟨_, rfl⟩
  rw [hWn] at HF HFle
  have hWb : Wn < 340282366920938463463374607431768211456 := by rw [← hWn]; exact hFd.1
  have hij2 : (i2 : Int) < (j2 : Int) := by omega
  have h711 : w7.heap.size < w11.heap.size := hD11.lt
  have hz11 : w.heap.size ≤ w11.heap.size := hb011.size
  clear hck hck2 hckm hps' hpc' hd hd2 hdq hFd hFd2 hWn hD10 hD hb8 hb68 hb9 hb10 hb11 hown4 hPm HSM HRo
  refine PgG.keep_world (R := fun w12 => Blk w12 (w11.heap.size + 1) 40 (frcells ⟨0, 1⟩) ∧ Blk w12 w11.heap.size 40 #[.int .u64 x2, .int .u64 y2, .int .u64 z2] ∧ Blk w12 w7.heap.size 40 #[.int .u64 x, .int .u64 y, .int .u64 z] ∧ PtsAt w12 w6.heap.size (some ⟨g1, 0, none⟩) H.length H ∧ Below w.heap.size w w12) ⟨Blk.new (by simp) rfl, (by repeat (first | with_reducible assumption | with_reducible exact Blk.new (by simp) rfl | with_reducible refine Blk.alloc ?_ _ | with_reducible refine Blk.drew ?_ | with_reducible refine Blk.far ?_ (by first | (simp; done) | (simp; omega)) _ | with_reducible refine Blk.tr ?_ (by with_reducible assumption))), (by repeat (first | with_reducible assumption | with_reducible exact Blk.new (by simp) rfl | with_reducible refine Blk.alloc ?_ _ | with_reducible refine Blk.drew ?_ | with_reducible refine Blk.far ?_ (by first | (simp; done) | (simp; omega)) _ | with_reducible refine Blk.tr ?_ (by with_reducible assumption))), hP11.tr (by repeat (first | with_reducible exact Below.refl _ _ | with_reducible assumption | with_reducible refine al ?_ _ | with_reducible refine Below.drew ?_ | with_reducible refine Below.setCell ?_ (by first | (simp; done) | (simp; omega)) _ | with_reducible refine tr ?_ (by with_reducible assumption))) h611, (by repeat (first | with_reducible exact Below.refl _ _ | with_reducible assumption | with_reducible refine al ?_ _ | with_reducible refine Below.drew ?_ | with_reducible refine Below.setCell ?_ (by first | (simp; done) | (simp; omega)) _ | with_reducible refine tr ?_ (by with_reducible assumption)))⟩ ?_
  rintro w12 ⟨hG, hC12, hD12, hP12, hb012⟩
  obtain ⟨G, eG⟩ : ∃ G, w11.heap.size + 1 = G := ⟨_, rfl⟩
  obtain ⟨GC, eC⟩ : ∃ G, w11.heap.size = G := ⟨_, rfl⟩
  obtain ⟨GD, eD⟩ : ∃ G, w7.heap.size = G := ⟨_, rfl⟩
  rw [eG] at hG ⊢
  rw [eC] at hC12 ⊢
  rw [eD] at hD12 ⊢
  have h6G : w6.heap.size ≤ G := by omega
  have hzG : w.heap.size ≤ G := by omega
  have o1 : GD < G := by omega
  have o2 : GC < G := by omega
  have lG := hG.lt
  have HOK := Lib.hid hok
  obtain ⟨na, hna⟩ : ∃ m, H.length = m := ⟨_, rfl⟩
  simp only [hna] at hP12 HHm HFle HF hHn ⊢
  clear eG eC eD hP11 hP10 hD11 hb011 hb010 hb08 hb06 h611 h67 h711 hz11 P1 P2 hok hsame
  go_loopw [19] (fun vp wr => ∃ p F : Nat, p ≤ na ∧ vp = .int .i64 p ∧ F ≤ Wn ∧ Hid (∀ x, x < p → ∀ y, y < x → (sqP (pt H x) (pt H y)).num ≤ F) ∧ Blk wr G 40 (frcells ⟨F, 1⟩) ∧ Below G w12 wr) (fun vp _ => na - (intOf vp).toNat)
  case atStart => exact ⟨0, 0, by omega, rfl, by omega, fun x hx => absurd hx (by omega), hG, Below.refl _ _⟩
  case round =>
    clear hG
    obtain ⟨p, F, hp, rfl, hFW, hall, hG, hb⟩ := hrel
    by_cases hlt : p < na
    · have hp0 : (p : Int) < (na : Int) := by omega
      go_wp2
      go_loopw [20] (fun vq wr => ∃ q F : Nat, q ≤ p ∧ vq = .int .i64 q ∧ F ≤ Wn ∧ Hid (∀ x, x < p → ∀ y, y < x → (sqP (pt H x) (pt H y)).num ≤ F) ∧ Hid (∀ y, y < q → (sqP (pt H p) (pt H y)).num ≤ F) ∧ Blk wr G 40 (frcells ⟨F, 1⟩) ∧ Below G w12 wr) (fun vq _ => p - (intOf vq).toNat)
      case atStart => exact ⟨0, F, by omega, rfl, hFW, hall, fun y hy => absurd hy (by omega), hG, hb⟩
      case round =>
        clear hG hb hall hFW F
        obtain ⟨q, F, hq, rfl, hFW, hall, hrow, hG, hb⟩ := hrel
        by_cases hlt2 : q < p
        · have hq0 : (q : Int) < (p : Int) := by omega
          have hq1 : (q : Int) < (na : Int) := by omega
          have hgb : g1 < w6.heap.size := by
            obtain ⟨b', o', e, h', _⟩ := hP12.2 (by omega)
            cases e
            exact h'
          obtain ⟨a0, a1⟩ := pts_at (hP12.below (hb.mono h6G)) hlt
          obtain ⟨d0, d1⟩ := pts_at (hP12.below (hb.mono h6G)) (show q < na by omega)
          simp only [Nat.zero_add] at a0 a1 d0 d1
          have ok1 := HHm.out p (by omega)
          have ok2 := HHm.out q (by omega)
          have hle := HFle.out p (by omega) q (by omega)
          obtain ⟨N, hN⟩ : ∃ N, (sqP (pt H p) (pt H q)).num = N := ⟨_, rfl⟩
          have hsq : sqP (pt H p) (pt H q) = ⟨N, 1⟩ := by rw [← hN]; exact sqP_eta _ _
          rw [hN] at hle
          have f1 : FrOk ⟨N, 1⟩ := ⟨by show N < _; omega, (by decide : 1 < 18446744073709551616)⟩
          have f2 : FrOk ⟨F, 1⟩ := ⟨by show F < _; omega, (by decide : 1 < 18446744073709551616)⟩
          obtain ⟨x1, hx1⟩ : ∃ x, N / 18446744073709551616 = x := ⟨_, rfl⟩
          obtain ⟨x2', hx2⟩ : ∃ x, N % 18446744073709551616 = x := ⟨_, rfl⟩
          obtain ⟨y1, hy1⟩ : ∃ x, F / 18446744073709551616 = x := ⟨_, rfl⟩
          obtain ⟨y2', hy2⟩ : ∃ x, F % 18446744073709551616 = x := ⟨_, rfl⟩
          have hvN : fV ⟨N, 1⟩ = .agg #[.int .u64 (x1 : Nat), .int .u64 (x2' : Nat), .int .u64 1] := by unfold fV; rw [hx1, hx2]; rfl
          have hvF : fV ⟨F, 1⟩ = .agg #[.int .u64 (y1 : Nat), .int .u64 (y2' : Nat), .int .u64 1] := by unfold fV; rw [hy1, hy2]; rfl
          have hcN : frcells ⟨N, 1⟩ = #[.int .u64 (x1 : Nat), .int .u64 (x2' : Nat), .int .u64 1] := by unfold frcells; rw [hx1, hx2]; rfl
          have hcF : frcells ⟨F, 1⟩ = #[.int .u64 (y1 : Nat), .int .u64 (y2' : Nat), .int .u64 1] := by unfold frcells; rw [hy1, hy2]; rfl
          have HSq : Hid (∀ W, Calls Tryz.prog 22 #[ptV (pt H p).x (pt H p).y, ptV (pt H q).x (pt H q).y] W (Ret W (.agg #[.int .u64 (x1 : Nat), .int .u64 (x2' : Nat), .int .u64 1]))) := fun W => by
            have h := rsquare_ok (pt H p) (pt H q) ok1 ok2 W
            rw [← hvN, ← hsq]
            exact h
          have HCq : Hid (∀ W, Calls Tryz.prog 24 #[.agg #[.int .u64 (x1 : Nat), .int .u64 (x2' : Nat), .int .u64 1], .agg #[.int .u64 (y1 : Nat), .int .u64 (y2' : Nat), .int .u64 1]] W (Ret W (.int .i64 (cmpF ⟨N, 1⟩ ⟨F, 1⟩)))) := fun W => by
            have h := rCmpD_any ⟨N, 1⟩ ⟨F, 1⟩ f1 f2 W
            rw [hvN, hvF] at h
            exact h
          have hc3 := cmpF_one N F
          have HNN := Lib.hid hN
          have HcN := Lib.hid hcN
          have HcF := Lib.hid hcF
          rw [hcF] at hG
          have lR := hG.lt
          have hbg : g1 < wr.heap.size := by omega
          have hbw0 : Below w.heap.size w wr := hb012.trans (hb.mono hzG)
          clear hx1 hx2 hy1 hy2 hvN hvF hsq f1 f2 hN hcN hcF
          go_wp2_with fail
          refine wp_region_alloc' [0, 1, 2, 3, 4, 5, 6, 7, 8] [9] [10] (fun _ => #[.int .u64 0, .int .u64 0, .int .u64 0]) (by kernel_rfl) (by kernel_rfl) (fun _ _ d _ _ h => by cases d <;> exact h) (by intro i hi w; simp only [List.mem_cons, List.not_mem_nil, or_false] at hi; rcases hi with rfl <;> simp only [List.getD_cons_zero, List.getD_cons_succ, tyOf] <;> kernel_rfl) (fun KN hKN => ?_)
          simp only [List.map_cons, List.map_nil, List.getD_cons_zero, List.getD_cons_succ, bare, gslot, List.getElem?_cons_zero, List.getElem?_cons_succ, Option.bind_some]
          repeat ((try simp only [Act.put, List.setIfInBounds_toArray, List.set_cons_zero, List.set_cons_succ]); first | (refine lexN_quiet (v := ?_) rfl ?_ ?_; rotate_left; focus (intro wq hq; obtain ⟨hcq, hfq⟩ := bcell hq; go_simp; try with_reducible rfl)) | (refine lexN_loud (v := ?_) rfl ?_ ?_; rotate_left; focus (intro wq hq K hK; obtain ⟨hcq, hfq⟩ := bcell hq; go_simp; (first | (go_at_call 22; (with_reducible refine (HSq.out _).mono ?_); rintro e w1 ⟨rfl, hb1⟩; obtain ⟨hc1, hf1⟩ := bcell hb1; have hz1 := hb1.size; (try simp at hz1))); refine hK.out _ _ ?_ (by repeat (first | with_reducible exact Below.refl _ _ | with_reducible assumption | with_reducible refine al ?_ _ | with_reducible refine Below.drew ?_ | with_reducible refine Below.setCell ?_ (by first | (simp; done) | (simp; omega)) _ | with_reducible refine tr ?_ (by with_reducible assumption))); simp only [Act.put, List.setIfInBounds_toArray, List.set_cons_zero, List.set_cons_succ]; try with_reducible rfl)))
          (try simp only [Act.put, List.setIfInBounds_toArray, List.set_cons_zero, List.set_cons_succ])
          refine lexN_nil (hKN.out _ ?_)
          clear hKN KN
          intro gs wf hwf hgs hds
          simp only [List.map_cons, List.map_nil, List.getD_cons_zero, List.getD_cons_succ, bare, gslot, List.getElem?_cons_zero, List.getElem?_cons_succ, Option.bind_some, List.foldl_cons, List.foldl_nil, ptrV]
          obtain ⟨hg9, HB9⟩ := hgs 9 (by decide)
          simp only [List.getD_cons_zero, List.getD_cons_succ, tyOf] at HB9
          clear hgs hds
          generalize gs 9 = g9 at *
          have cg9 := HB9.cell
          have fg9 := HB9.frozen
          repeat ((try simp only [Act.put, List.setIfInBounds_toArray, List.set_cons_zero, List.set_cons_succ]); first | (refine lexL_loud wantB_none rfl (fun K hK => ?_); go_simp; refine hK.out _ _ (by repeat (first | with_reducible exact Below.refl _ _ | with_reducible assumption | with_reducible refine al ?_ _ | with_reducible refine Below.drew ?_ | with_reducible refine Below.setCell ?_ (by first | (simp; done) | (simp; omega)) _ | with_reducible refine tr ?_ (by with_reducible assumption))) ?_; clear hK K) | (refine lexL_quiet (v := ?_) wantB_none rfl ?_ ?_; rotate_left; focus (intro wq hq; go_simp; try with_reducible rfl)))
          refine lexL_nil ?_
          refine keep_world (R := fun w2 => Below w.heap.size w w2 ∧ Blk w2 g9 40 #[.int .u64 x1, .int .u64 x2', .int .u64 1] ∧ Blk w2 G 40 #[.int .u64 y1, .int .u64 y2', .int .u64 1] ∧ Below wr.heap.size wr w2) ⟨(by repeat (first | with_reducible exact Below.refl _ _ | with_reducible assumption | with_reducible refine al ?_ _ | with_reducible refine Below.drew ?_ | with_reducible refine Below.setCell ?_ (by first | (simp; done) | (simp; omega)) _ | with_reducible refine tr ?_ (by with_reducible assumption))), (((HB9.set_ 0 _).set_ 1 _).set_ 2 _).eq_ (by simp), (by repeat (first | with_reducible assumption | with_reducible exact Blk.new (by simp) rfl | with_reducible refine Blk.alloc ?_ _ | with_reducible refine Blk.drew ?_ | with_reducible refine Blk.far ?_ (by first | (simp; done) | (simp; omega)) _ | with_reducible refine Blk.tr ?_ (by with_reducible assumption))), (by repeat (first | with_reducible exact Below.refl _ _ | with_reducible assumption | with_reducible refine al ?_ _ | with_reducible refine Below.drew ?_ | with_reducible refine Below.setCell ?_ (by first | (simp; done) | (simp; omega)) _ | with_reducible refine tr ?_ (by with_reducible assumption)))⟩ ?_
          rintro w2 ⟨hb2, h9, hE0, hE1⟩
          clear cg9 fg9 HB9
          have cg9 := h9.cell
          have fg9 := h9.frozen
          have lg9 := h9.lt
          obtain ⟨hc2, hf2⟩ := bcell hb2
          clear a0 a1 d0 d1
          have cG := hE0.cell
          have fG := hE0.frozen
          have lG2 := hE0.lt
          have hb2' : Below G w12 w2 := hb.trans (hE1.mono (Nat.le_of_lt lR))
          have hn9 : g9 ≠ G := by intro e; subst e; have := h9; omega
          have h9lt := h9.lt
          rcases hc3 with ⟨hr1, hr2⟩ | ⟨hr1, hr2⟩ | ⟨hr1, hr2⟩
          case inr.inr =>
            rw [hr2] at HCq
            go_wp2_with (go_at_call 24; (with_reducible refine (HCq.out _).mono ?_); rintro e w5 ⟨rfl, hb5⟩; have h95 : Blk w5 g9 40 #[.int .u64 x1, .int .u64 x2', .int .u64 1] := (by repeat (first | with_reducible assumption | with_reducible exact Blk.new (by simp) rfl | with_reducible refine Blk.alloc ?_ _ | with_reducible refine Blk.drew ?_ | with_reducible refine Blk.far ?_ (by first | (simp; done) | (simp; omega)) _ | with_reducible refine Blk.tr ?_ (by with_reducible assumption))); have c95 := h95.cell; have l95 := h95.lt; have hG5 : Blk w5 G 40 #[.int .u64 y1, .int .u64 y2', .int .u64 1] := (by repeat (first | with_reducible assumption | with_reducible exact Blk.new (by simp) rfl | with_reducible refine Blk.alloc ?_ _ | with_reducible refine Blk.drew ?_ | with_reducible refine Blk.far ?_ (by first | (simp; done) | (simp; omega)) _ | with_reducible refine Blk.tr ?_ (by with_reducible assumption))); have cG5 := hG5.cell; have fG5 := hG5.frozen; have lG5 := hG5.lt; have hb5' : Below G w12 w5 := hb2'.trans (hb5.mono (Nat.le_of_lt lG2)))
            go_roundw
            case rel => exact ⟨q + 1, N, by omega, by go_num, hle, fun x hx y hy => Nat.le_trans (hall.out x hx y hy) (by omega), fun y hy => by
              by_cases e : y = q
              · subst e; rw [HNN.out]; exact Nat.le_refl _
              · exact Nat.le_trans (hrow.out y (by omega)) (by omega), by rw [HcN.out]; exact three_put (x := .int .u64 y1) (y := .int .u64 y2') (z := .int .u64 1) hG5, (by repeat (first | with_reducible exact Below.refl _ _ | with_reducible assumption | with_reducible refine al ?_ _ | with_reducible refine Below.drew ?_ | with_reducible refine Below.setCell ?_ (by first | (simp; done) | (simp; omega)) _ | with_reducible refine tr ?_ (by with_reducible assumption)))⟩
            case measure => simp [intOf]; omega
          all_goals
            rw [hr2] at HCq
            go_wp2_with (go_at_call 24; (with_reducible refine (HCq.out _).mono ?_); rintro e w5 ⟨rfl, hb5⟩; have hG5 : Blk w5 G 40 #[.int .u64 y1, .int .u64 y2', .int .u64 1] := (by repeat (first | with_reducible assumption | with_reducible exact Blk.new (by simp) rfl | with_reducible refine Blk.alloc ?_ _ | with_reducible refine Blk.drew ?_ | with_reducible refine Blk.far ?_ (by first | (simp; done) | (simp; omega)) _ | with_reducible refine Blk.tr ?_ (by with_reducible assumption))); have hb5' : Below G w12 w5 := hb2'.trans (hb5.mono (Nat.le_of_lt lG2)))
            go_roundw
            case rel => exact ⟨q + 1, F, by omega, by go_num, hFW, hall, fun y hy => by
              by_cases e : y = q
              · subst e; rw [HNN.out]; omega
              · exact hrow.out y (by omega), by rw [HcF.out]; exact hG5, hb5'⟩
            case measure => simp [intOf]; omega
        · obtain rfl : q = p := by omega
          go_wp2
          go_roundw
          case rel => exact ⟨q + 1, F, by omega, by go_num, hFW, fun x hx y hy => by
            by_cases e : x = q
            · subst e; exact hrow.out y hy
            · exact hall.out x (by omega) y hy, hG, hb⟩
          case measure => simp [intOf]; omega
    · obtain rfl : p = na := by omega
      have hFd := HF.out F hFW (fun x hx y hy => hall.out x hx y hy)
      rw [hFd, hfr] at hG
      have hD13 : Blk wr GD 40 #[.int .u64 x, .int .u64 y, .int .u64 z] := hD12.below hb o1
      have hC13 : Blk wr GC 40 #[.int .u64 x2, .int .u64 y2, .int .u64 z2] := hC12.below hb o2
      have hbw : Below w.heap.size w wr := hb012.trans (hb.mono hzG)
      have cG := hG.cell
      have fG := hG.frozen
      have lG3 := hG.lt
      have cD := hD13.cell
      have fD := hD13.frozen
      have lD3 := hD13.lt
      have cC := hC13.cell
      have fC := hC13.frozen
      have lC3 := hC13.lt
      clear hD12 hC12 hP12 hb012 HFle HF hall hFd hfr
      obtain ⟨C, hC⟩ : ∃ C, cmpF d2 d = C := ⟨_, rfl⟩
      rw [hC] at HCM hcw
      go_wp2_with (first | (go_at_call 24; (with_reducible refine (HCM.out _).mono ?_); rintro e w5 ⟨rfl, hb5⟩) | (go_at_call 17; (with_reducible refine (HAW.out _ (by repeat (first | with_reducible exact Below.refl _ _ | with_reducible assumption | with_reducible refine al ?_ _ | with_reducible refine Below.drew ?_ | with_reducible refine Below.setCell ?_ (by first | (simp; done) | (simp; omega)) _ | with_reducible refine tr ?_ (by with_reducible assumption)))).mono ?_); rintro e w7 ⟨rfl, hb7⟩))
      go_ret
      exact ⟨rfl, (by repeat (first | with_reducible exact Below.refl _ _ | with_reducible assumption | with_reducible refine al ?_ _ | with_reducible refine Below.drew ?_ | with_reducible refine Below.setCell ?_ (by first | (simp; done) | (simp; omega)) _ | with_reducible refine tr ?_ (by with_reducible assumption)))⟩
end Go.Proofs.YtjdgibpjlhpanaaGreatDoor
