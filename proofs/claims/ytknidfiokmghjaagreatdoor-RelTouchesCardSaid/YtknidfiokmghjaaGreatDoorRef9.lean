/-
  Contracts of the references of chapters 4 to 6: corners, MeetsBox, ringBox, rings.
-/
import Derived.Test.YtknidfiokmghjaaGreatDoorRef8
set_option linter.unusedSimpArgs false
set_option linter.unusedVariables false
namespace Go.Proofs.YtknidfiokmghjaaGreatDoor
open Go.RowKit Pg

def crn (r : Bx) : List Pt := [r.lo, ⟨r.hi.x, r.lo.y⟩, r.hi, ⟨r.lo.x, r.hi.y⟩]
theorem mboxR_crn (a b : Pt) (r : Bx) : mboxR a b r = ((okPt a && okPt b && okBx r) && ((bhas r a || bhas r b) || (List.range 4).any fun i => meetS a b (pt (crn r) i) (nx (crn r) i))) := by
  have e : (List.range 4).any (fun i => meetS a b (pt (crn r) i) (nx (crn r) i)) = (meetS a b r.lo ⟨r.hi.x, r.lo.y⟩ || (meetS a b ⟨r.hi.x, r.lo.y⟩ r.hi || (meetS a b r.hi ⟨r.lo.x, r.hi.y⟩ || (meetS a b ⟨r.lo.x, r.hi.y⟩ r.lo || false)))) := by
    rw [show List.range 4 = [0, 1, 2, 3] by decide]
    simp only [List.any_cons, List.any_nil]
    simp [crn, pt, nx]
  rw [e, mboxR]
  cases okPt a <;> cases okPt b <;> cases okBx r <;> simp [Bool.or_assoc]
theorem pts_crn {w : World} {g : Nat} {r : Bx} {t : TypeId} (h : Blk w g t #[.int .i64 r.lo.x, .int .i64 r.lo.y, .int .i64 r.hi.x, .int .i64 r.lo.y, .int .i64 r.hi.x, .int .i64 r.hi.y, .int .i64 r.lo.x, .int .i64 r.hi.y]) : PtsAt w w.heap.size (some ⟨g, 0, none⟩) 4 (crn r) :=
  ⟨rfl, fun _ => ⟨g, 0, rfl, h.lt, fun k s hs => by
    match k, hs with
    | 0, hs =>
      simp [crn] at hs
      subst hs
      exact ⟨by rw [h.cell]; rfl, by rw [h.cell]; rfl⟩
    | 1, hs =>
      simp [crn] at hs
      subst hs
      exact ⟨by rw [h.cell]; rfl, by rw [h.cell]; rfl⟩
    | 2, hs =>
      simp [crn] at hs
      subst hs
      exact ⟨by rw [h.cell]; rfl, by rw [h.cell]; rfl⟩
    | 3, hs =>
      simp [crn] at hs
      subst hs
      exact ⟨by rw [h.cell]; rfl, by rw [h.cell]; rfl⟩⟩⟩

set_option maxHeartbeats 400000 in
theorem rcorners_any (r : Bx) (w : World) :
    Calls Tryz.prog 114 #[bxV r.lo.x r.lo.y r.hi.x r.hi.y] w fun e w' => ∃ g, e = .returned (.slice (some ⟨g, 0, none⟩) 4 4) ∧ Blk w' g 27 #[.int .i64 r.lo.x, .int .i64 r.lo.y, .int .i64 r.hi.x, .int .i64 r.lo.y, .int .i64 r.hi.x, .int .i64 r.hi.y, .int .i64 r.lo.x, .int .i64 r.hi.y] ∧ Below w.heap.size w w' := by
  go_enter Tryz.func114, Tryz.ntmps114
  go_wp2
  go_ret
  exact ⟨_, rfl, (by repeat (first | with_reducible assumption | with_reducible exact Blk.new (by simp) rfl | with_reducible refine Blk.alloc ?_ _ | with_reducible refine Blk.drew ?_ | with_reducible refine Blk.far ?_ (by simp; omega) _ | with_reducible refine Blk.tr ?_ (by with_reducible assumption))), (by repeat (first | with_reducible exact Below.refl _ _ | with_reducible assumption | with_reducible refine al ?_ _ | with_reducible refine Below.drew ?_ | with_reducible refine Below.setCell ?_ (by first | (simp; done) | (simp; omega)) _ | with_reducible refine tr ?_ (by with_reducible assumption)))⟩

theorem any4_f {f : Nat → Bool} (h : ∀ j, j < 4 → f j = false) : (List.range 4).any f = false := any_range_false 4 f h

set_option maxHeartbeats 2000000 in
set_option maxRecDepth 20000 in
theorem rmeetsBox_any (ax ay bx by_ : Int) (r : Bx) (w : World) :
    Calls Tryz.prog 73 #[ptV ax ay, ptV bx by_, bxV r.lo.x r.lo.y r.hi.x r.hi.y] w (Ret w (.bool (mboxR ⟨ax, ay⟩ ⟨bx, by_⟩ r))) := by
  have HF := Lib.hid (mboxR_crn ⟨ax, ay⟩ ⟨bx, by_⟩ r)
  cases h1 : okPt ⟨ax, ay⟩
  · have HG : Hid (mboxR ⟨ax, ay⟩ ⟨bx, by_⟩ r = false) := by unfold Hid; rw [HF.out, h1]; rfl
    have H1 := Lib.hid h1
    clear h1
    go_enter Tryz.func73, Tryz.ntmps73
    go_wp2_with (go_at_call 20; refine (rpoint_any _ _ _).mono ?_; rw [H1.out]; rintro e w1 ⟨rfl, hb1⟩; obtain ⟨hc1, hf1⟩ := bcell hb1; have hz1 := hb1.size; (try simp at hz1); have hy0 : w.heap.size < w1.heap.size := (by omega); have hy1 : w.heap.size + 1 < w1.heap.size := (by omega); have hy2 : w.heap.size + 1 + 1 < w1.heap.size := (by omega))
    go_ret
    exact ⟨ret_bool HG.out.symm, (by repeat (first | with_reducible exact Below.refl _ _ | with_reducible assumption | with_reducible refine al ?_ _ | with_reducible refine Below.drew ?_ | with_reducible refine Below.setCell ?_ (by first | (simp; done) | (simp; omega)) _ | with_reducible refine tr ?_ (by with_reducible assumption)))⟩
  cases h2 : okPt ⟨bx, by_⟩
  · have HG : Hid (mboxR ⟨ax, ay⟩ ⟨bx, by_⟩ r = false) := by unfold Hid; rw [HF.out, h1, h2]; rfl
    have H1 := Lib.hid h1
    have H2 := Lib.hid h2
    clear h1 h2
    go_enter Tryz.func73, Tryz.ntmps73
    go_wp2_with (go_at_call 20; refine (rpoint_any _ _ _).mono ?_; (first | rw [H1.out] | rw [H2.out]); rintro e w1 ⟨rfl, hb1⟩; obtain ⟨hc1, hf1⟩ := bcell hb1; have hz1 := hb1.size; (try simp at hz1); have hy0 : w.heap.size < w1.heap.size := (by omega); have hy1 : w.heap.size + 1 < w1.heap.size := (by omega); have hy2 : w.heap.size + 1 + 1 < w1.heap.size := (by omega))
    go_ret
    exact ⟨ret_bool HG.out.symm, (by repeat (first | with_reducible exact Below.refl _ _ | with_reducible assumption | with_reducible refine al ?_ _ | with_reducible refine Below.drew ?_ | with_reducible refine Below.setCell ?_ (by first | (simp; done) | (simp; omega)) _ | with_reducible refine tr ?_ (by with_reducible assumption)))⟩
  obtain ⟨m, hm⟩ : ∃ m : Nat, ckBox ⟨⟨r.lo.x, r.lo.y⟩, ⟨r.hi.x, r.hi.y⟩⟩ = m := ⟨_, rfl⟩
  have HM := Lib.hid hm
  by_cases hz : m = 0
  case neg =>
    have hz1 : ((m : Int) != 0) = true := by rw [bne_iff_ne]; omega
    have HG : Hid (mboxR ⟨ax, ay⟩ ⟨bx, by_⟩ r = false) := by
      have : okBx r = false := by rw [← Bool.not_eq_true, ck_of_ok]; intro h; exact hz (hm.symm.trans h)
      unfold Hid; rw [HF.out, h1, h2, this]; rfl
    have H1 := Lib.hid h1
    have H2 := Lib.hid h2
    clear h1 h2 hm hz
    go_enter Tryz.func73, Tryz.ntmps73
    go_wp2_with (first | (go_at_call 20; refine (rpoint_any _ _ _).mono ?_; (first | rw [H1.out] | rw [H2.out]); rintro e w1 ⟨rfl, hb1⟩; obtain ⟨hc1, hf1⟩ := bcell hb1; have hz1 := hb1.size; (try simp at hz1); have hy0 : w.heap.size < w1.heap.size := (by omega); have hy1 : w.heap.size + 1 < w1.heap.size := (by omega); have hy2 : w.heap.size + 1 + 1 < w1.heap.size := (by omega)) | (go_at_call 29; refine (rcheckBox_any _ _ _ _ _).mono ?_; rw [HM.out]; rintro e w1 ⟨rfl, hb1⟩; obtain ⟨hc1, hf1⟩ := bcell hb1; have hz1 := hb1.size; (try simp at hz1); have hy0 : w.heap.size < w1.heap.size := (by omega); have hy1 : w.heap.size + 1 < w1.heap.size := (by omega); have hy2 : w.heap.size + 1 + 1 < w1.heap.size := (by omega)))
    go_ret
    exact ⟨ret_bool HG.out.symm, (by repeat (first | with_reducible exact Below.refl _ _ | with_reducible assumption | with_reducible refine al ?_ _ | with_reducible refine Below.drew ?_ | with_reducible refine Below.setCell ?_ (by first | (simp; done) | (simp; omega)) _ | with_reducible refine tr ?_ (by with_reducible assumption)))⟩
  subst hz
  have hok : okBx r = true := ck_of_ok.2 hm
  have HG : Hid (mboxR ⟨ax, ay⟩ ⟨bx, by_⟩ r = ((bhas ⟨⟨r.lo.x, r.lo.y⟩, ⟨r.hi.x, r.hi.y⟩⟩ ⟨ax, ay⟩ || bhas ⟨⟨r.lo.x, r.lo.y⟩, ⟨r.hi.x, r.hi.y⟩⟩ ⟨bx, by_⟩) || (List.range 4).any fun i => meetS ⟨ax, ay⟩ ⟨bx, by_⟩ (pt (crn r) i) (nx (crn r) i))) := by unfold Hid; rw [HF.out, h1, h2, hok]; rfl
  have H1 := Lib.hid h1
  have H2 := Lib.hid h2
  clear h1 h2 hm hok HF
  cases b1 : bhas ⟨⟨r.lo.x, r.lo.y⟩, ⟨r.hi.x, r.hi.y⟩⟩ ⟨ax, ay⟩
  case true =>
    have B1 := Lib.hid b1
    clear b1
    go_enter Tryz.func73, Tryz.ntmps73
    go_wp2_with (first | (go_at_call 20; refine (rpoint_any _ _ _).mono ?_; (first | rw [H1.out] | rw [H2.out]); rintro e w1 ⟨rfl, hb1⟩; obtain ⟨hc1, hf1⟩ := bcell hb1; have hz1 := hb1.size; (try simp at hz1); have hy0 : w.heap.size < w1.heap.size := (by omega); have hy1 : w.heap.size + 1 < w1.heap.size := (by omega); have hy2 : w.heap.size + 1 + 1 < w1.heap.size := (by omega)) | (go_at_call 29; refine (rcheckBox_any _ _ _ _ _).mono ?_; rw [HM.out]; rintro e w1 ⟨rfl, hb1⟩; obtain ⟨hc1, hf1⟩ := bcell hb1; have hz1 := hb1.size; (try simp at hz1); have hy0 : w.heap.size < w1.heap.size := (by omega); have hy1 : w.heap.size + 1 < w1.heap.size := (by omega); have hy2 : w.heap.size + 1 + 1 < w1.heap.size := (by omega)) | (go_at_call 32; refine (rboxHas_any _ _ _ _ _ _ _).mono ?_; rw [B1.out]; rintro e w1 ⟨rfl, hb1⟩; obtain ⟨hc1, hf1⟩ := bcell hb1; have hz1 := hb1.size; (try simp at hz1); have hy0 : w.heap.size < w1.heap.size := (by omega); have hy1 : w.heap.size + 1 < w1.heap.size := (by omega); have hy2 : w.heap.size + 1 + 1 < w1.heap.size := (by omega)))
    go_ret
    exact ⟨ret_bool (by rw [HG.out, B1.out]; rfl), (by repeat (first | with_reducible exact Below.refl _ _ | with_reducible assumption | with_reducible refine al ?_ _ | with_reducible refine Below.drew ?_ | with_reducible refine Below.setCell ?_ (by first | (simp; done) | (simp; omega)) _ | with_reducible refine tr ?_ (by with_reducible assumption)))⟩
  cases b2 : bhas ⟨⟨r.lo.x, r.lo.y⟩, ⟨r.hi.x, r.hi.y⟩⟩ ⟨bx, by_⟩
  case true =>
    have B1 := Lib.hid b1
    have B2 := Lib.hid b2
    clear b1 b2
    go_enter Tryz.func73, Tryz.ntmps73
    go_wp2_with (first | (go_at_call 20; refine (rpoint_any _ _ _).mono ?_; (first | rw [H1.out] | rw [H2.out]); rintro e w1 ⟨rfl, hb1⟩; obtain ⟨hc1, hf1⟩ := bcell hb1; have hz1 := hb1.size; (try simp at hz1); have hy0 : w.heap.size < w1.heap.size := (by omega); have hy1 : w.heap.size + 1 < w1.heap.size := (by omega); have hy2 : w.heap.size + 1 + 1 < w1.heap.size := (by omega)) | (go_at_call 29; refine (rcheckBox_any _ _ _ _ _).mono ?_; rw [HM.out]; rintro e w1 ⟨rfl, hb1⟩; obtain ⟨hc1, hf1⟩ := bcell hb1; have hz1 := hb1.size; (try simp at hz1); have hy0 : w.heap.size < w1.heap.size := (by omega); have hy1 : w.heap.size + 1 < w1.heap.size := (by omega); have hy2 : w.heap.size + 1 + 1 < w1.heap.size := (by omega)) | (go_at_call 32; refine (rboxHas_any _ _ _ _ _ _ _).mono ?_; (first | rw [B1.out] | rw [B2.out]); rintro e w1 ⟨rfl, hb1⟩; obtain ⟨hc1, hf1⟩ := bcell hb1; have hz1 := hb1.size; (try simp at hz1); have hy0 : w.heap.size < w1.heap.size := (by omega); have hy1 : w.heap.size + 1 < w1.heap.size := (by omega); have hy2 : w.heap.size + 1 + 1 < w1.heap.size := (by omega)))
    go_ret
    exact ⟨ret_bool (by rw [HG.out, B1.out, B2.out]; rfl), (by repeat (first | with_reducible exact Below.refl _ _ | with_reducible assumption | with_reducible refine al ?_ _ | with_reducible refine Below.drew ?_ | with_reducible refine Below.setCell ?_ (by first | (simp; done) | (simp; omega)) _ | with_reducible refine tr ?_ (by with_reducible assumption)))⟩
  have HG2 : Hid (mboxR ⟨ax, ay⟩ ⟨bx, by_⟩ r = (List.range 4).any fun i => meetS ⟨ax, ay⟩ ⟨bx, by_⟩ (pt (crn r) i) (nx (crn r) i)) := by unfold Hid; rw [HG.out, b1, b2]; rfl
  have B1 := Lib.hid b1
  have B2 := Lib.hid b2
  clear b1 b2 HG
  go_enter Tryz.func73, Tryz.ntmps73
  go_wp2_with (first | (go_at_call 20; refine (rpoint_any _ _ _).mono ?_; (first | rw [H1.out] | rw [H2.out]); rintro e w1 ⟨rfl, hb1⟩; obtain ⟨hc1, hf1⟩ := bcell hb1; have hz1 := hb1.size; (try simp at hz1); have hy0 : w.heap.size < w1.heap.size := (by omega); have hy1 : w.heap.size + 1 < w1.heap.size := (by omega); have hy2 : w.heap.size + 1 + 1 < w1.heap.size := (by omega)) | (go_at_call 29; refine (rcheckBox_any _ _ _ _ _).mono ?_; rw [HM.out]; rintro e w1 ⟨rfl, hb1⟩; obtain ⟨hc1, hf1⟩ := bcell hb1; have hz1 := hb1.size; (try simp at hz1); have hy0 : w.heap.size < w1.heap.size := (by omega); have hy1 : w.heap.size + 1 < w1.heap.size := (by omega); have hy2 : w.heap.size + 1 + 1 < w1.heap.size := (by omega)) | (go_at_call 32; refine (rboxHas_any _ _ _ _ _ _ _).mono ?_; (first | rw [B1.out] | rw [B2.out]); rintro e w1 ⟨rfl, hb1⟩; obtain ⟨hc1, hf1⟩ := bcell hb1; have hz1 := hb1.size; (try simp at hz1); have hy0 : w.heap.size < w1.heap.size := (by omega); have hy1 : w.heap.size + 1 < w1.heap.size := (by omega); have hy2 : w.heap.size + 1 + 1 < w1.heap.size := (by omega)) | (go_at_call 114; refine (rcorners_any r _).mono ?_; rintro e wc ⟨g, rfl, hC, hbc⟩; obtain ⟨hcc, hfc⟩ := bcell hbc; have hzc := hbc.size; (try simp at hzc)))
  have hA0 : Blk wc w.heap.size 27 #[.int .i64 ax, .int .i64 ay] := (by repeat (first | with_reducible assumption | with_reducible exact Blk.new (by simp) rfl | with_reducible refine Blk.alloc ?_ _ | with_reducible refine Blk.drew ?_ | with_reducible refine Blk.far ?_ (by simp; omega) _ | with_reducible refine Blk.tr ?_ (by with_reducible assumption)))
  have hB0 : Blk wc (w.heap.size + 1) 27 #[.int .i64 bx, .int .i64 by_] := (by repeat (first | with_reducible assumption | with_reducible exact Blk.new (by simp) rfl | with_reducible refine Blk.alloc ?_ _ | with_reducible refine Blk.drew ?_ | with_reducible refine Blk.far ?_ (by simp; omega) _ | with_reducible refine Blk.tr ?_ (by with_reducible assumption)))
  have hb0 : Below w.heap.size w wc := (by repeat (first | with_reducible exact Below.refl _ _ | with_reducible assumption | with_reducible refine al ?_ _ | with_reducible refine Below.drew ?_ | with_reducible refine Below.setCell ?_ (by first | (simp; done) | (simp; omega)) _ | with_reducible refine tr ?_ (by with_reducible assumption)))
  have hPC := pts_crn hC
  obtain ⟨L, hL⟩ : ∃ L, crn r = L := ⟨_, rfl⟩
  rw [hL] at hPC HG2
  have HC := Lib.hid hPC
  clear hL hPC
  have HBw := Lib.hid hb0
  clear hC hbc hcc hfc hzc hb1 hc1 hf1 hz1 hy0 hy1 hy2
  go_loopw [8] (fun i wr => ∃ k : Nat, k ≤ 4 ∧ i = .int .i64 k ∧ Hid (∀ j, j < k → meetS ⟨ax, ay⟩ ⟨bx, by_⟩ (pt L j) (nx L j) = false) ∧ Blk wr w.heap.size 27 #[.int .i64 ax, .int .i64 ay] ∧ Blk wr (w.heap.size + 1) 27 #[.int .i64 bx, .int .i64 by_] ∧ Below wc.heap.size wc wr) (fun i _ => 4 - (intOf i).toNat)
  case atStart => exact ⟨0, by omega, rfl, fun j hj => by omega, hA0, hB0, Below.refl _ _⟩
  case round =>
    obtain ⟨k, hk, rfl, hno, hA, hB, hb⟩ := hrel
    have hbw0 : Below w.heap.size w wr := HBw.out.trans (hb.mono HBw.out.size)
    by_cases hlt : k < 4
    · have HL := HC.out.below hb
      obtain ⟨b, off, ho, hab, c0, c1⟩ := HL.at_ hlt
      injection ho with ho
      injection ho with ho1 ho2
      subst ho1 ho2
      obtain ⟨c2, c3⟩ := nx_of HL hlt
      have hbs := hb.size
      have cA := hA.cell
      have cB := hB.cell
      have lA := hA.lt
      have lB := hB.lt
      have hgw : g < wr.heap.size := by omega
      have hk0 : (k : Int) < 4 := by omega
      have hk3 : (0 : Int) ≤ (k : Int) + 1 := by omega
      obtain ⟨m, hm, hwr, htm, hml⟩ := step_of hlt (by omega)
      rw [hm] at c2 c3
      have htm' : ((k : Int) + 1).tmod 4 = (m : Int) := htm
      clear hm htm HL hA0 hB0 hb0
      have hml0 : (m : Int) < 4 := by omega
      simp only [Nat.zero_add] at c0 c1 c2 c3
      go_wp2_with fail
      refine wp_region_belowI (by kernel_rfl) (by kernel_rfl) (fun _ _ d _ _ h => by cases d <;> exact h) ?_
      simp only [List.map_cons, List.map_nil, List.getD_cons_zero, List.getD_cons_succ, bare, gslot, List.getElem?_cons_zero, List.getElem?_cons_succ, Option.bind_some]
      repeat' ((try simp only [Act.put, List.setIfInBounds_toArray, List.set_cons_zero, List.set_cons_succ]); first | (refine lexL_quiet (v := ?_) wantB_none rfl ?_ ?_; rotate_left; focus (intro wq hq; obtain ⟨hcq, hfq⟩ := bcell hq; go_simp; try with_reducible rfl)) | (refine lexL_loud wantB_none rfl (fun K hK => ?_); go_simp; ((first | (go_at_call 72; refine (rmeet_any _ _ _ _ _ _ _ _ _).mono ?_; rintro e w1 ⟨rfl, hb1⟩; obtain ⟨hc1, hf1⟩ := bcell hb1; have hz1 := hb1.size; (try simp at hz1)) | skip) <;> (refine hK.out _ _ (by repeat (first | with_reducible exact Below.refl _ _ | with_reducible assumption | with_reducible refine al ?_ _ | with_reducible refine Below.drew ?_ | with_reducible refine Below.setCell ?_ (by first | (simp; done) | (simp; omega)) _ | with_reducible refine tr ?_ (by with_reducible assumption))) ?_; clear hK K))) | (refine lexL_on ?_ ?_; focus (simp only [List.getElem?_toArray, List.getElem?_cons_succ, List.getElem?_cons_zero, Bool.not_true, Bool.not_false]; done)) | (refine lexL_off ?_ ?_ ?_; (focus (simp only [List.getElem?_toArray, List.getElem?_cons_succ, List.getElem?_cons_zero, Bool.not_true, Bool.not_false]; done)); (focus (exact (by repeat (first | with_reducible exact Below.refl _ _ | with_reducible assumption | with_reducible refine al ?_ _ | with_reducible refine Below.drew ?_ | with_reducible refine Below.setCell ?_ (by first | (simp; done) | (simp; omega)) _ | with_reducible refine tr ?_ (by with_reducible assumption)))))) | (refine lexL_splitS (X := ?_) ?_ ?_ (fun hg => ?_) (fun hg => ?_); rotate_left; (focus (simp only [List.getElem?_toArray, List.getElem?_cons_succ, List.getElem?_cons_zero]; with_reducible rfl)); (focus (exact (by repeat (first | with_reducible exact Below.refl _ _ | with_reducible assumption | with_reducible refine al ?_ _ | with_reducible refine Below.drew ?_ | with_reducible refine Below.setCell ?_ (by first | (simp; done) | (simp; omega)) _ | with_reducible refine tr ?_ (by with_reducible assumption))))); all_goals (try simp only [Bool.not_true, Bool.not_false] at hg)))
      (all_goals try simp only [Act.put, List.setIfInBounds_toArray, List.set_cons_zero, List.set_cons_succ]); all_goals (refine lexL_nil ?_)
      go_wp2
      · go_ret
        exact ⟨ret_bool (by rw [HG2.out, any_range_true 4 (fun j => meetS ⟨ax, ay⟩ ⟨bx, by_⟩ (pt L j) (nx L j)) k hlt (by assumption)]), (by repeat (first | with_reducible exact Below.refl _ _ | with_reducible assumption | with_reducible refine al ?_ _ | with_reducible refine Below.drew ?_ | with_reducible refine Below.setCell ?_ (by first | (simp; done) | (simp; omega)) _ | with_reducible refine tr ?_ (by with_reducible assumption)))⟩
      · have hf : meetS ⟨ax, ay⟩ ⟨bx, by_⟩ ⟨(pt L k).x, (pt L k).y⟩ ⟨(nx L k).x, (nx L k).y⟩ = false := by first | assumption | (simpa using (by assumption : ¬ meetS ⟨ax, ay⟩ ⟨bx, by_⟩ ⟨(pt L k).x, (pt L k).y⟩ ⟨(nx L k).x, (nx L k).y⟩ = true))
        have HN := Lib.hid hf
        clear hf
        go_roundw
        case rel => exact ⟨k + 1, by omega, by go_num, fun j hj => by
          by_cases e : j = k
          · subst e; exact HN.out
          · exact hno.out j (by omega), (by repeat (first | with_reducible assumption | with_reducible exact Blk.new (by simp) rfl | with_reducible refine Blk.alloc ?_ _ | with_reducible refine Blk.drew ?_ | with_reducible refine Blk.far ?_ (by simp; omega) _ | with_reducible refine Blk.tr ?_ (by with_reducible assumption))), (by repeat (first | with_reducible assumption | with_reducible exact Blk.new (by simp) rfl | with_reducible refine Blk.alloc ?_ _ | with_reducible refine Blk.drew ?_ | with_reducible refine Blk.far ?_ (by simp; omega) _ | with_reducible refine Blk.tr ?_ (by with_reducible assumption))), Below.trans hb (Below.mono (by repeat (first | with_reducible exact Below.refl _ _ | with_reducible assumption | with_reducible refine al ?_ _ | with_reducible refine Below.drew ?_ | with_reducible refine Below.setCell ?_ (by first | (simp; done) | (simp; omega)) _ | with_reducible refine tr ?_ (by with_reducible assumption))) hbs)⟩
        case measure => simp [intOf]; omega
    · have HR : Hid (mboxR ⟨ax, ay⟩ ⟨bx, by_⟩ r = false) := by unfold Hid; rw [HG2.out]; exact any4_f fun j hj => hno.out j (by omega)
      clear hA0 hB0 hb0
      have hk4 : ¬ (k : Int) < 4 := by omega
      go_wp2
      go_ret
      exact ⟨ret_bool HR.out.symm, (by repeat (first | with_reducible exact Below.refl _ _ | with_reducible assumption | with_reducible refine al ?_ _ | with_reducible refine Below.drew ?_ | with_reducible refine Below.setCell ?_ (by first | (simp; done) | (simp; omega)) _ | with_reducible refine tr ?_ (by with_reducible assumption)))⟩
end Go.Proofs.YtknidfiokmghjaaGreatDoor
