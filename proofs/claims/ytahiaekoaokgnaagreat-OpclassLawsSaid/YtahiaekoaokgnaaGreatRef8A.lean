/-
  Contracts of the references of chapters 4 to 6: edge, has, corners, MeetsBox, ringBox, rings.
  Contracts of the references of chapters 4 to 6: corners, MeetsBox, ringBox, rings.
  Contracts of the references of chapter 6: ringBox, rings, Rings.
-/
import Derived.Test.YtahiaekoaokgnaaGreatRef6
import Derived.Test.YtahiaekoaokgnaaGreatRef3
import Derived.Test.YtahiaekoaokgnaaGreatPlain1
set_option linter.unusedSimpArgs false
set_option linter.unusedVariables false
namespace Go.Proofs.YtahiaekoaokgnaaGreat
open Go.RowKit Pg

set_option maxHeartbeats 1000000 in
set_option maxRecDepth 20000 in
theorem redge_any (B n c : Nat) (px py : Int) (A : Option Addr) (l : List Pt) (w : World) (hl : PtsAt w B A n l) (hB : B ≤ w.heap.size) (hn : n ≤ 1000000) :
    Calls Tryz.prog 97 #[.slice A n c, ptV px py] w (Ret w (.bool (edgeB l ⟨px, py⟩))) := by
  go_enter Tryz.func97, Tryz.ntmps97
  go_wp2
  go_loopw [5] (fun i wr => ∃ k : Nat, k ≤ n ∧ i = .int .i64 k ∧ Hid (∀ j, j < k → onS (pt l j) (nx l j) ⟨px, py⟩ = false) ∧ Blk wr w.heap.size 52 #[.int .i64 px, .int .i64 py] ∧ Below w.heap.size w wr) (fun i _ => n - (intOf i).toNat)
  case atStart => exact ⟨0, Nat.zero_le _, rfl, fun j hj => by omega, Blk.new rfl rfl, bel⟩
  case round =>
    obtain ⟨k, hk, rfl, hno, hP, hb⟩ := hrel
    by_cases hlt : k < n
    · obtain ⟨b, off, rfl, hab, c0, c1⟩ := (hl.below (hb.mono hB)).at_ hlt
      obtain ⟨c2, c3⟩ := nx_of (hl.below (hb.mono hB)) hlt
      have hPl := hP.lt
      have hPc := hP.cell
      have hbs := hb.size
      have hbw : b < wr.heap.size := by omega
      have hk0 : (k : Int) < (n : Int) := by omega
      have hk3 : (0 : Int) ≤ (k : Int) + 1 := by omega
      obtain ⟨m, hm, hwr, htm, hml⟩ := step_of hlt hn
      rw [hm] at c2 c3
      clear hm
      have hn0 : ¬ n = 0 := by omega
      have hml0 : (m : Int) < (n : Int) := by omega
      go_wp2_with fail
      refine wp_region_belowI (by kernel_rfl) (by kernel_rfl) (fun _ _ d _ _ h => by cases d <;> exact h) ?_
      simp only [List.map_cons, List.map_nil, List.getD_cons_zero, List.getD_cons_succ, bare, gslot, List.getElem?_cons_zero, List.getElem?_cons_succ, Option.bind_some]
      repeat' ((try simp only [Act.put, List.setIfInBounds_toArray, List.set_cons_zero, List.set_cons_succ]); first | (refine lexL_quiet (v := ?_) wantB_none rfl ?_ ?_; rotate_left; focus (intro wq hq; obtain ⟨hcq, hfq⟩ := bcell hq; go_simp; try with_reducible rfl)) | (refine lexL_loud wantB_none rfl (fun K hK => ?_); go_simp; ((first | (go_at_call 128; refine (ron_any _ _ _ _ _ _ _).mono ?_; rintro e w1 ⟨rfl, hb1⟩; obtain ⟨hc1, hf1⟩ := bcell hb1; have hz1 := hb1.size; (try simp at hz1)) | skip) <;> (refine hK.out _ _ bel ?_; clear hK K))) | (refine lexL_on ?_ ?_; focus (simp only [List.getElem?_toArray, List.getElem?_cons_succ, List.getElem?_cons_zero, Bool.not_true, Bool.not_false]; done)) | (refine lexL_off ?_ ?_ ?_; (focus (simp only [List.getElem?_toArray, List.getElem?_cons_succ, List.getElem?_cons_zero, Bool.not_true, Bool.not_false]; done)); (focus (exact bel))) | (refine lexL_splitS (X := ?_) ?_ ?_ (fun hg => ?_) (fun hg => ?_); rotate_left; (focus (simp only [List.getElem?_toArray, List.getElem?_cons_succ, List.getElem?_cons_zero]; with_reducible rfl)); (focus (exact bel)); all_goals (try simp only [Bool.not_true, Bool.not_false] at hg)))
      (all_goals try simp only [Act.put, List.setIfInBounds_toArray, List.set_cons_zero, List.set_cons_succ]); all_goals (refine lexL_nil ?_)
      go_wp2
      · go_ret
        exact ⟨ret_bool (any_range_true _ (fun j => onS (pt l j) (nx l j) ⟨px, py⟩) k (by rw [hl.1]; exact hlt) (by assumption)).symm, bel⟩
      · have hf : onS ⟨(pt l k).x, (pt l k).y⟩ ⟨(nx l k).x, (nx l k).y⟩ ⟨px, py⟩ = false := by first | assumption | (simpa using (by assumption : ¬ onS ⟨(pt l k).x, (pt l k).y⟩ ⟨(nx l k).x, (nx l k).y⟩ ⟨px, py⟩ = true))
        have HF := Lib.hid hf
        clear hf
        go_roundw
        case rel => exact ⟨k + 1, by omega, by go_num, fun j hj => by
          by_cases e : j = k
          · subst e; exact HF.out
          · exact hno.out j (by omega), blkA, bel⟩
        case measure => simp [intOf]; omega
    · have HF : Hid (edgeB l ⟨px, py⟩ = false) := any_range_false _ _ fun j hj => hno.out j (by rw [hl.1] at hj; omega)
      go_wp2
      go_ret
      exact ⟨ret_bool HF.out.symm, hb⟩

theorem rxor3 {A B C : Prop} [Decidable A] [Decidable B] [Decidable C] {p : Bool} (h : A ∧ B ∧ C) : Value.bool (!p) = Value.bool (xor p (decide A && decide B && decide C)) := by
  rw [decide_eq_true h.1, decide_eq_true h.2.1, decide_eq_true h.2.2]; simp
theorem rxor0 {A B C : Prop} [Decidable A] [Decidable B] [Decidable C] {p : Bool} (h : ¬ (A ∧ B ∧ C)) : Value.bool p = Value.bool (xor p (decide A && decide B && decide C)) := by
  have : (decide A && decide B && decide C) = false := by
    cases hd : (decide A && decide B && decide C)
    · rfl
    · simp at hd; exact absurd ⟨hd.1.1, hd.1.2, hd.2⟩ h
  rw [this]; simp

set_option maxHeartbeats 2000000 in
set_option maxRecDepth 20000 in
theorem rhas2_any (B n c : Nat) (px py : Int) (A : Option Addr) (l : List Pt) (w : World) (hl : PtsAt w B A n l) (hB : B ≤ w.heap.size) (hn : n ≤ 1000000) :
    Calls Tryz.prog 63 #[.slice A n c, ptV px py] w (Ret w (.bool (rhasR l ⟨px, py⟩))) := by
  cases he : edgeB l ⟨px, py⟩
  case true =>
    have HG : Hid (rhasR l ⟨px, py⟩ = true) := by unfold Hid rhasR; rw [he]; rfl
    have HEB := Lib.hid he
    clear he
    go_enter Tryz.func63, Tryz.ntmps63
    go_wp2_with (go_at_call 97; refine (redge_any B n c _ _ A l _ (hl.tr bel hB) (Nat.le_trans hB (Below.size (B := w.heap.size) (w := w) bel)) hn).mono ?_; rw [HEB.out]; rintro e w1 ⟨rfl, hb1⟩; obtain ⟨hc1, hf1⟩ := bcell hb1; have hz1 := hb1.size; (try simp at hz1); have hy0 : w.heap.size < w1.heap.size := (by omega))
    go_ret
    exact ⟨ret_bool HG.out.symm, bel⟩
  case false =>
    have HG : Hid (rhasR l ⟨px, py⟩ = parity l ⟨px, py⟩ l.length) := by unfold Hid rhasR; rw [he]; rfl
    have HEB := Lib.hid he
    clear he
    go_enter Tryz.func63, Tryz.ntmps63
    go_wp2_with (go_at_call 97; refine (redge_any B n c _ _ A l _ (hl.tr bel hB) (Nat.le_trans hB (Below.size (B := w.heap.size) (w := w) bel)) hn).mono ?_; rw [HEB.out]; rintro e w1 ⟨rfl, hb1⟩; obtain ⟨hc1, hf1⟩ := bcell hb1; have hz1 := hb1.size; (try simp at hz1); have hy0 : w.heap.size < w1.heap.size := (by omega))
    have hP0 : Blk w1 w.heap.size 52 #[.int .i64 px, .int .i64 py] := blkA
    have hb0 : Below w.heap.size w w1 := bel
    go_loopw [5, 6, 7, 8] (fun s i _ _ wr => ∃ k : Nat, k ≤ n ∧ i = .int .i64 k ∧ s = .bool (parity l ⟨px, py⟩ k) ∧ Blk wr w.heap.size 52 #[.int .i64 px, .int .i64 py] ∧ Below w.heap.size w wr) (fun _ i _ _ _ => n - (intOf i).toNat)
    case atStart => exact ⟨0, Nat.zero_le _, rfl, rfl, hP0, hb0⟩
    case round =>
      obtain ⟨k, hk, rfl, rfl, hP, hb⟩ := hrel
      by_cases hlt : k < n
      · obtain ⟨b, off, rfl, hab, c0, c1⟩ := (hl.below (hb.mono hB)).at_ hlt
        obtain ⟨c2, c3⟩ := nx_of (hl.below (hb.mono hB)) hlt
        have hPl := hP.lt
        have hPc := hP.cell
        have hbs := hb.size
        have hbw : b < wr.heap.size := by omega
        have hbw1 : b < wr.heap.size + 1 := by omega
        have hk0 : (k : Int) < (n : Int) := by omega
        have hk3 : (0 : Int) ≤ (k : Int) + 1 := by omega
        obtain ⟨m, hm, hwr, htm, hml⟩ := step_of hlt hn
        rw [hm] at c2 c3
        clear hm hb0 hP0 hb1 hc1 hf1 hz1
        have hn0 : ¬ n = 0 := by omega
        have hml0 : (m : Int) < (n : Int) := by omega
        have HX : Hid (parity l ⟨px, py⟩ (k + 1) = xor (parity l ⟨px, py⟩ k) (crossesB ⟨(pt l k).x, (pt l k).y⟩ ⟨(nx l k).x, (nx l k).y⟩ ⟨px, py⟩)) := rfl
        by_cases hsw : (nx l k).y < (pt l k).y
        all_goals
          go_wp2_with (go_at_call 98; refine (rcross_any _ _ _ _ _ _ _).mono ?_; rintro e w1 ⟨rfl, hb1⟩; obtain ⟨hc1, hf1⟩ := bcell hb1; have hz1 := hb1.size; (try simp at hz1); have hyr : wr.heap.size < w1.heap.size := (by omega); have hyr1 : wr.heap.size + 1 < w1.heap.size := (by omega); have hyr0 : w.heap.size < w1.heap.size := (by omega))
          all_goals
            go_roundw
            case rel => exact ⟨k + 1, by omega, by go_num, by rw [HX.out, crossesB]; (first | rw [if_pos (by simpa using hsw)] | rw [if_neg (by simp only [Int.not_lt]; simpa using hsw)]); (first | exact rxor3 ⟨by (try dsimp only); omega, by (try dsimp only); omega, by (try dsimp only); omega⟩ | exact rxor0 (by (try dsimp only); omega)), blkA, bel⟩
            case measure => simp [intOf]; omega
      · have HL : Hid (k = n) := by unfold Hid; omega
        have HR : Hid (rhasR l ⟨px, py⟩ = parity l ⟨px, py⟩ k) := by unfold Hid; rw [HG.out, HL.out, hl.1]
        go_wp2
        go_ret
        exact ⟨ret_bool HR.out.symm, hb⟩
end Go.Proofs.YtahiaekoaokgnaaGreat
set_option linter.unusedSimpArgs false
set_option linter.unusedVariables false
namespace Go.Proofs.YtahiaekoaokgnaaGreat
open Go.RowKit Pg

def crn (r : Bx) : List Pt := [r.lo, ⟨r.hi.x, r.lo.y⟩, r.hi, ⟨r.lo.x, r.hi.y⟩]
theorem mboxR_crn (a b : Pt) (r : Bx) : mboxR a b r = ((okPt a && okPt b && okBx r) && ((bhas r a || bhas r b) || (List.range 4).any fun i => meetS a b (pt (crn r) i) (nx (crn r) i))) := by
  have e : (List.range 4).any (fun i => meetS a b (pt (crn r) i) (nx (crn r) i)) = (meetS a b r.lo ⟨r.hi.x, r.lo.y⟩ || (meetS a b ⟨r.hi.x, r.lo.y⟩ r.hi || (meetS a b r.hi ⟨r.lo.x, r.hi.y⟩ || (meetS a b ⟨r.lo.x, r.hi.y⟩ r.lo || false)))) := by
    rw [show List.range 4 = [0, 1, 2, 3] by decide]
    simp only [List.any_cons, List.any_nil]
    simp [crn, pt, nx]
  rw [e, mboxR]
  cases okPt a <;> cases okPt b <;> cases okBx r <;> simp [Bool.or_assoc]
theorem pts_crn {w : World} {g : Nat} {r : Bx} {t : TypeId} (h : Blk w g t #[.int .i64 r.lo.x, .int .i64 r.lo.y, .int .i64 r.hi.x, .int .i64 r.lo.y, .int .i64 r.hi.x, .int .i64 r.hi.y, .int .i64 r.lo.x, .int .i64 r.hi.y]) : PtsAt w w.heap.size (some ⟨g, 0, none⟩) 4 (crn r) :=
  ⟨rfl, fun _ => ⟨g, 0, rfl, h.lt, fun k s hs => by
    match k, hs with
    | 0, hs =>
      simp [crn] at hs
      subst hs
      exact ⟨by rw [h.cell]; rfl, by rw [h.cell]; rfl⟩
    | 1, hs =>
      simp [crn] at hs
      subst hs
      exact ⟨by rw [h.cell]; rfl, by rw [h.cell]; rfl⟩
    | 2, hs =>
      simp [crn] at hs
      subst hs
      exact ⟨by rw [h.cell]; rfl, by rw [h.cell]; rfl⟩
    | 3, hs =>
      simp [crn] at hs
      subst hs
      exact ⟨by rw [h.cell]; rfl, by rw [h.cell]; rfl⟩⟩⟩

set_option maxHeartbeats 400000 in
theorem rcorners_any (r : Bx) (w : World) :
    Calls Tryz.prog 129 #[bxV r.lo.x r.lo.y r.hi.x r.hi.y] w fun e w' => ∃ g, e = .returned (.slice (some ⟨g, 0, none⟩) 4 4) ∧ Blk w' g 52 #[.int .i64 r.lo.x, .int .i64 r.lo.y, .int .i64 r.hi.x, .int .i64 r.lo.y, .int .i64 r.hi.x, .int .i64 r.hi.y, .int .i64 r.lo.x, .int .i64 r.hi.y] ∧ Below w.heap.size w w' := by
  go_enter Tryz.func129, Tryz.ntmps129
  go_wp2
  go_ret
  exact ⟨_, rfl, blkA, bel⟩

theorem any4_f {f : Nat → Bool} (h : ∀ j, j < 4 → f j = false) : (List.range 4).any f = false := any_range_false 4 f h

set_option maxHeartbeats 2000000 in
set_option maxRecDepth 20000 in
theorem rmeetsBox_any (ax ay bx by_ : Int) (r : Bx) (w : World) :
    Calls Tryz.prog 92 #[ptV ax ay, ptV bx by_, bxV r.lo.x r.lo.y r.hi.x r.hi.y] w (Ret w (.bool (mboxR ⟨ax, ay⟩ ⟨bx, by_⟩ r))) := by
  have HF := Lib.hid (mboxR_crn ⟨ax, ay⟩ ⟨bx, by_⟩ r)
  cases h1 : okPt ⟨ax, ay⟩
  · have HG : Hid (mboxR ⟨ax, ay⟩ ⟨bx, by_⟩ r = false) := by unfold Hid; rw [HF.out, h1]; rfl
    have H1 := Lib.hid h1
    clear h1
    go_enter Tryz.func92, Tryz.ntmps92
    go_wp2_with (go_at_call 24; refine (rpoint_any _ _ _).mono ?_; rw [H1.out]; rintro e w1 ⟨rfl, hb1⟩; obtain ⟨hc1, hf1⟩ := bcell hb1; have hz1 := hb1.size; (try simp at hz1); have hy0 : w.heap.size < w1.heap.size := (by omega); have hy1 : w.heap.size + 1 < w1.heap.size := (by omega); have hy2 : w.heap.size + 1 + 1 < w1.heap.size := (by omega))
    go_ret
    exact ⟨ret_bool HG.out.symm, bel⟩
  cases h2 : okPt ⟨bx, by_⟩
  · have HG : Hid (mboxR ⟨ax, ay⟩ ⟨bx, by_⟩ r = false) := by unfold Hid; rw [HF.out, h1, h2]; rfl
    have H1 := Lib.hid h1
    have H2 := Lib.hid h2
    clear h1 h2
    go_enter Tryz.func92, Tryz.ntmps92
    go_wp2_with (go_at_call 24; refine (rpoint_any _ _ _).mono ?_; (first | rw [H1.out] | rw [H2.out]); rintro e w1 ⟨rfl, hb1⟩; obtain ⟨hc1, hf1⟩ := bcell hb1; have hz1 := hb1.size; (try simp at hz1); have hy0 : w.heap.size < w1.heap.size := (by omega); have hy1 : w.heap.size + 1 < w1.heap.size := (by omega); have hy2 : w.heap.size + 1 + 1 < w1.heap.size := (by omega))
    go_ret
    exact ⟨ret_bool HG.out.symm, bel⟩
  obtain ⟨m, hm⟩ : ∃ m : Nat, ckBox ⟨⟨r.lo.x, r.lo.y⟩, ⟨r.hi.x, r.hi.y⟩⟩ = m := ⟨_, rfl⟩
  have HM := Lib.hid hm
  by_cases hz : m = 0
  case neg =>
    have hz1 : ((m : Int) != 0) = true := by rw [bne_iff_ne]; omega
    have HG : Hid (mboxR ⟨ax, ay⟩ ⟨bx, by_⟩ r = false) := by
      have : okBx r = false := by rw [← Bool.not_eq_true, ck_of_ok]; intro h; exact hz (hm.symm.trans h)
      unfold Hid; rw [HF.out, h1, h2, this]; rfl
    have H1 := Lib.hid h1
    have H2 := Lib.hid h2
    clear h1 h2 hm hz
    go_enter Tryz.func92, Tryz.ntmps92
    go_wp2_with (first | (go_at_call 24; refine (rpoint_any _ _ _).mono ?_; (first | rw [H1.out] | rw [H2.out]); rintro e w1 ⟨rfl, hb1⟩; obtain ⟨hc1, hf1⟩ := bcell hb1; have hz1 := hb1.size; (try simp at hz1); have hy0 : w.heap.size < w1.heap.size := (by omega); have hy1 : w.heap.size + 1 < w1.heap.size := (by omega); have hy2 : w.heap.size + 1 + 1 < w1.heap.size := (by omega)) | (go_at_call 25; refine (rcheckBox_any _ _ _ _ _).mono ?_; rw [HM.out]; rintro e w1 ⟨rfl, hb1⟩; obtain ⟨hc1, hf1⟩ := bcell hb1; have hz1 := hb1.size; (try simp at hz1); have hy0 : w.heap.size < w1.heap.size := (by omega); have hy1 : w.heap.size + 1 < w1.heap.size := (by omega); have hy2 : w.heap.size + 1 + 1 < w1.heap.size := (by omega)))
    go_ret
    exact ⟨ret_bool HG.out.symm, bel⟩
  subst hz
  have hok : okBx r = true := ck_of_ok.2 hm
  have HG : Hid (mboxR ⟨ax, ay⟩ ⟨bx, by_⟩ r = ((bhas ⟨⟨r.lo.x, r.lo.y⟩, ⟨r.hi.x, r.hi.y⟩⟩ ⟨ax, ay⟩ || bhas ⟨⟨r.lo.x, r.lo.y⟩, ⟨r.hi.x, r.hi.y⟩⟩ ⟨bx, by_⟩) || (List.range 4).any fun i => meetS ⟨ax, ay⟩ ⟨bx, by_⟩ (pt (crn r) i) (nx (crn r) i))) := by unfold Hid; rw [HF.out, h1, h2, hok]; rfl
  have H1 := Lib.hid h1
  have H2 := Lib.hid h2
  clear h1 h2 hm hok HF
  cases b1 : bhas ⟨⟨r.lo.x, r.lo.y⟩, ⟨r.hi.x, r.hi.y⟩⟩ ⟨ax, ay⟩
  case true =>
    have B1 := Lib.hid b1
    clear b1
    go_enter Tryz.func92, Tryz.ntmps92
    go_wp2_with (first | (go_at_call 24; refine (rpoint_any _ _ _).mono ?_; (first | rw [H1.out] | rw [H2.out]); rintro e w1 ⟨rfl, hb1⟩; obtain ⟨hc1, hf1⟩ := bcell hb1; have hz1 := hb1.size; (try simp at hz1); have hy0 : w.heap.size < w1.heap.size := (by omega); have hy1 : w.heap.size + 1 < w1.heap.size := (by omega); have hy2 : w.heap.size + 1 + 1 < w1.heap.size := (by omega)) | (go_at_call 25; refine (rcheckBox_any _ _ _ _ _).mono ?_; rw [HM.out]; rintro e w1 ⟨rfl, hb1⟩; obtain ⟨hc1, hf1⟩ := bcell hb1; have hz1 := hb1.size; (try simp at hz1); have hy0 : w.heap.size < w1.heap.size := (by omega); have hy1 : w.heap.size + 1 < w1.heap.size := (by omega); have hy2 : w.heap.size + 1 + 1 < w1.heap.size := (by omega)) | (go_at_call 91; refine (rboxHas_any _ _ _ _ _ _ _).mono ?_; rw [B1.out]; rintro e w1 ⟨rfl, hb1⟩; obtain ⟨hc1, hf1⟩ := bcell hb1; have hz1 := hb1.size; (try simp at hz1); have hy0 : w.heap.size < w1.heap.size := (by omega); have hy1 : w.heap.size + 1 < w1.heap.size := (by omega); have hy2 : w.heap.size + 1 + 1 < w1.heap.size := (by omega)))
    go_ret
    exact ⟨ret_bool (by rw [HG.out, B1.out]; rfl), bel⟩
  cases b2 : bhas ⟨⟨r.lo.x, r.lo.y⟩, ⟨r.hi.x, r.hi.y⟩⟩ ⟨bx, by_⟩
  case true =>
    have B1 := Lib.hid b1
    have B2 := Lib.hid b2
    clear b1 b2
    go_enter Tryz.func92, Tryz.ntmps92
    go_wp2_with (first | (go_at_call 24; refine (rpoint_any _ _ _).mono ?_; (first | rw [H1.out] | rw [H2.out]); rintro e w1 ⟨rfl, hb1⟩; obtain ⟨hc1, hf1⟩ := bcell hb1; have hz1 := hb1.size; (try simp at hz1); have hy0 : w.heap.size < w1.heap.size := (by omega); have hy1 : w.heap.size + 1 < w1.heap.size := (by omega); have hy2 : w.heap.size + 1 + 1 < w1.heap.size := (by omega)) | (go_at_call 25; refine (rcheckBox_any _ _ _ _ _).mono ?_; rw [HM.out]; rintro e w1 ⟨rfl, hb1⟩; obtain ⟨hc1, hf1⟩ := bcell hb1; have hz1 := hb1.size; (try simp at hz1); have hy0 : w.heap.size < w1.heap.size := (by omega); have hy1 : w.heap.size + 1 < w1.heap.size := (by omega); have hy2 : w.heap.size + 1 + 1 < w1.heap.size := (by omega)) | (go_at_call 91; refine (rboxHas_any _ _ _ _ _ _ _).mono ?_; (first | rw [B1.out] | rw [B2.out]); rintro e w1 ⟨rfl, hb1⟩; obtain ⟨hc1, hf1⟩ := bcell hb1; have hz1 := hb1.size; (try simp at hz1); have hy0 : w.heap.size < w1.heap.size := (by omega); have hy1 : w.heap.size + 1 < w1.heap.size := (by omega); have hy2 : w.heap.size + 1 + 1 < w1.heap.size := (by omega)))
    go_ret
    exact ⟨ret_bool (by rw [HG.out, B1.out, B2.out]; rfl), bel⟩
  have HG2 : Hid (mboxR ⟨ax, ay⟩ ⟨bx, by_⟩ r = (List.range 4).any fun i => meetS ⟨ax, ay⟩ ⟨bx, by_⟩ (pt (crn r) i) (nx (crn r) i)) := by unfold Hid; rw [HG.out, b1, b2]; rfl
  have B1 := Lib.hid b1
  have B2 := Lib.hid b2
  clear b1 b2 HG
  go_enter Tryz.func92, Tryz.ntmps92
  go_wp2_with (first | (go_at_call 24; refine (rpoint_any _ _ _).mono ?_; (first | rw [H1.out] | rw [H2.out]); rintro e w1 ⟨rfl, hb1⟩; obtain ⟨hc1, hf1⟩ := bcell hb1; have hz1 := hb1.size; (try simp at hz1); have hy0 : w.heap.size < w1.heap.size := (by omega); have hy1 : w.heap.size + 1 < w1.heap.size := (by omega); have hy2 : w.heap.size + 1 + 1 < w1.heap.size := (by omega)) | (go_at_call 25; refine (rcheckBox_any _ _ _ _ _).mono ?_; rw [HM.out]; rintro e w1 ⟨rfl, hb1⟩; obtain ⟨hc1, hf1⟩ := bcell hb1; have hz1 := hb1.size; (try simp at hz1); have hy0 : w.heap.size < w1.heap.size := (by omega); have hy1 : w.heap.size + 1 < w1.heap.size := (by omega); have hy2 : w.heap.size + 1 + 1 < w1.heap.size := (by omega)) | (go_at_call 91; refine (rboxHas_any _ _ _ _ _ _ _).mono ?_; (first | rw [B1.out] | rw [B2.out]); rintro e w1 ⟨rfl, hb1⟩; obtain ⟨hc1, hf1⟩ := bcell hb1; have hz1 := hb1.size; (try simp at hz1); have hy0 : w.heap.size < w1.heap.size := (by omega); have hy1 : w.heap.size + 1 < w1.heap.size := (by omega); have hy2 : w.heap.size + 1 + 1 < w1.heap.size := (by omega)) | (go_at_call 129; refine (rcorners_any r _).mono ?_; rintro e wc ⟨g, rfl, hC, hbc⟩; obtain ⟨hcc, hfc⟩ := bcell hbc; have hzc := hbc.size; (try simp at hzc)))
  have hA0 : Blk wc w.heap.size 52 #[.int .i64 ax, .int .i64 ay] := blkA
  have hB0 : Blk wc (w.heap.size + 1) 52 #[.int .i64 bx, .int .i64 by_] := blkA
  have hb0 : Below w.heap.size w wc := bel
  have hPC := pts_crn hC
  obtain ⟨L, hL⟩ : ∃ L, crn r = L := ⟨_, rfl⟩
  rw [hL] at hPC HG2
  have HC := Lib.hid hPC
  clear hL hPC
  have HBw := Lib.hid hb0
  clear hC hbc hcc hfc hzc hb1 hc1 hf1 hz1 hy0 hy1 hy2
  go_loopw [8] (fun i wr => ∃ k : Nat, k ≤ 4 ∧ i = .int .i64 k ∧ Hid (∀ j, j < k → meetS ⟨ax, ay⟩ ⟨bx, by_⟩ (pt L j) (nx L j) = false) ∧ Blk wr w.heap.size 52 #[.int .i64 ax, .int .i64 ay] ∧ Blk wr (w.heap.size + 1) 52 #[.int .i64 bx, .int .i64 by_] ∧ Below wc.heap.size wc wr) (fun i _ => 4 - (intOf i).toNat)
  case atStart => exact ⟨0, by omega, rfl, fun j hj => by omega, hA0, hB0, Below.refl _ _⟩
  case round =>
    obtain ⟨k, hk, rfl, hno, hA, hB, hb⟩ := hrel
    have hbw0 : Below w.heap.size w wr := HBw.out.trans (hb.mono HBw.out.size)
    by_cases hlt : k < 4
    · have HL := HC.out.below hb
      obtain ⟨b, off, ho, hab, c0, c1⟩ := HL.at_ hlt
      injection ho with ho
      injection ho with ho1 ho2
      subst ho1 ho2
      obtain ⟨c2, c3⟩ := nx_of HL hlt
      have hbs := hb.size
      have cA := hA.cell
      have cB := hB.cell
      have lA := hA.lt
      have lB := hB.lt
      have hgw : g < wr.heap.size := by omega
      have hk0 : (k : Int) < 4 := by omega
      have hk3 : (0 : Int) ≤ (k : Int) + 1 := by omega
      obtain ⟨m, hm, hwr, htm, hml⟩ := step_of hlt (by omega)
      rw [hm] at c2 c3
      have htm' : ((k : Int) + 1).tmod 4 = (m : Int) := htm
      clear hm htm HL hA0 hB0 hb0
      have hml0 : (m : Int) < 4 := by omega
      simp only [Nat.zero_add] at c0 c1 c2 c3
      go_wp2_with fail
      refine wp_region_belowI (by kernel_rfl) (by kernel_rfl) (fun _ _ d _ _ h => by cases d <;> exact h) ?_
      simp only [List.map_cons, List.map_nil, List.getD_cons_zero, List.getD_cons_succ, bare, gslot, List.getElem?_cons_zero, List.getElem?_cons_succ, Option.bind_some]
      repeat' ((try simp only [Act.put, List.setIfInBounds_toArray, List.set_cons_zero, List.set_cons_succ]); first | (refine lexL_quiet (v := ?_) wantB_none rfl ?_ ?_; rotate_left; focus (intro wq hq; obtain ⟨hcq, hfq⟩ := bcell hq; go_simp; try with_reducible rfl)) | (refine lexL_loud wantB_none rfl (fun K hK => ?_); go_simp; ((first | (go_at_call 88; refine (rmeet_any _ _ _ _ _ _ _ _ _).mono ?_; rintro e w1 ⟨rfl, hb1⟩; obtain ⟨hc1, hf1⟩ := bcell hb1; have hz1 := hb1.size; (try simp at hz1)) | skip) <;> (refine hK.out _ _ bel ?_; clear hK K))) | (refine lexL_on ?_ ?_; focus (simp only [List.getElem?_toArray, List.getElem?_cons_succ, List.getElem?_cons_zero, Bool.not_true, Bool.not_false]; done)) | (refine lexL_off ?_ ?_ ?_; (focus (simp only [List.getElem?_toArray, List.getElem?_cons_succ, List.getElem?_cons_zero, Bool.not_true, Bool.not_false]; done)); (focus (exact bel))) | (refine lexL_splitS (X := ?_) ?_ ?_ (fun hg => ?_) (fun hg => ?_); rotate_left; (focus (simp only [List.getElem?_toArray, List.getElem?_cons_succ, List.getElem?_cons_zero]; with_reducible rfl)); (focus (exact bel)); all_goals (try simp only [Bool.not_true, Bool.not_false] at hg)))
      (all_goals try simp only [Act.put, List.setIfInBounds_toArray, List.set_cons_zero, List.set_cons_succ]); all_goals (refine lexL_nil ?_)
      go_wp2
      · go_ret
        exact ⟨ret_bool (by rw [HG2.out, any_range_true 4 (fun j => meetS ⟨ax, ay⟩ ⟨bx, by_⟩ (pt L j) (nx L j)) k hlt (by assumption)]), bel⟩
      · have hf : meetS ⟨ax, ay⟩ ⟨bx, by_⟩ ⟨(pt L k).x, (pt L k).y⟩ ⟨(nx L k).x, (nx L k).y⟩ = false := by first | assumption | (simpa using (by assumption : ¬ meetS ⟨ax, ay⟩ ⟨bx, by_⟩ ⟨(pt L k).x, (pt L k).y⟩ ⟨(nx L k).x, (nx L k).y⟩ = true))
        have HN := Lib.hid hf
        clear hf
        go_roundw
        case rel => exact ⟨k + 1, by omega, by go_num, fun j hj => by
          by_cases e : j = k
          · subst e; exact HN.out
          · exact hno.out j (by omega), blkA, blkA, Below.trans hb (Below.mono bel hbs)⟩
        case measure => simp [intOf]; omega
    · have HR : Hid (mboxR ⟨ax, ay⟩ ⟨bx, by_⟩ r = false) := by unfold Hid; rw [HG2.out]; exact any4_f fun j hj => hno.out j (by omega)
      clear hA0 hB0 hb0
      have hk4 : ¬ (k : Int) < 4 := by omega
      go_wp2
      go_ret
      exact ⟨ret_bool HR.out.symm, bel⟩
end Go.Proofs.YtahiaekoaokgnaaGreat
set_option linter.unusedSimpArgs false
set_option linter.unusedVariables false
namespace Go.Proofs.YtahiaekoaokgnaaGreat
open Go.RowKit Pg

theorem rbox_t {l : List Pt} {b : Bx} {k : Nat} (hk : k < l.length) (h : mboxR (pt l k) (nx l k) b = true) : ringBoxR l b = true := by
  unfold ringBoxR
  rw [any_range_true _ (fun i => mboxR (pt l i) (nx l i) b) k hk h, Bool.or_true]

set_option maxHeartbeats 1000000 in
set_option maxRecDepth 20000 in
theorem rringBox_any (B n c : Nat) (r : Bx) (A : Option Addr) (l : List Pt) (w : World) (hl : PtsAt w B A n l) (hB : B ≤ w.heap.size) (hn : n ≤ 1000000) :
    Calls Tryz.prog 57 #[.slice A n c, bxV r.lo.x r.lo.y r.hi.x r.hi.y] w (Ret w (.bool (ringBoxR l r))) := by
  cases h0 : rhasR l ⟨r.lo.x, r.lo.y⟩
  case true =>
    have HG : Hid (ringBoxR l r = true) := by
      have h1 : rhasR l r.lo = true := h0
      unfold Hid ringBoxR
      rw [h1, Bool.true_or]
    have H0 := Lib.hid h0
    clear h0
    go_enter Tryz.func57, Tryz.ntmps57
    go_wp2_with (go_at_call 63; refine (rhas2_any B n c _ _ A l _ (hl.tr bel hB) (Nat.le_trans hB (Below.size (B := w.heap.size) (w := w) bel)) hn).mono ?_; rw [H0.out]; rintro e w1 ⟨rfl, hb1⟩; obtain ⟨hc1, hf1⟩ := bcell hb1; have hz1 := hb1.size; (try simp at hz1); have hy0 : w.heap.size < w1.heap.size := (by omega))
    go_ret
    exact ⟨ret_bool HG.out.symm, bel⟩
  case false =>
    have H0 := Lib.hid h0
    clear h0
    go_enter Tryz.func57, Tryz.ntmps57
    go_wp2_with (go_at_call 63; refine (rhas2_any B n c _ _ A l _ (hl.tr bel hB) (Nat.le_trans hB (Below.size (B := w.heap.size) (w := w) bel)) hn).mono ?_; rw [H0.out]; rintro e wc ⟨rfl, hbc⟩; obtain ⟨hcc, hfc⟩ := bcell hbc; have hzc := hbc.size; (try simp at hzc); have hyc : w.heap.size < wc.heap.size := (by omega))
    have hP0 : Blk wc w.heap.size 54 #[.int .i64 r.lo.x, .int .i64 r.lo.y, .int .i64 r.hi.x, .int .i64 r.hi.y] := blkA
    have hb0 : Below w.heap.size w wc := bel
    go_loopw [5] (fun i wr => ∃ k : Nat, k ≤ n ∧ i = .int .i64 k ∧ Hid (∀ j, j < k → mboxR (pt l j) (nx l j) r = false) ∧ Blk wr w.heap.size 54 #[.int .i64 r.lo.x, .int .i64 r.lo.y, .int .i64 r.hi.x, .int .i64 r.hi.y] ∧ Below w.heap.size w wr) (fun i _ => n - (intOf i).toNat)
    case atStart => exact ⟨0, Nat.zero_le _, rfl, fun j hj => by omega, hP0, hb0⟩
    case round =>
      obtain ⟨k, hk, rfl, hno, hP, hb⟩ := hrel
      clear hP0 hb0 hbc hcc hfc hzc hyc
      by_cases hlt : k < n
      · obtain ⟨b, off, rfl, hab, c0, c1⟩ := (hl.below (hb.mono hB)).at_ hlt
        obtain ⟨c2, c3⟩ := nx_of (hl.below (hb.mono hB)) hlt
        have hPl := hP.lt
        have hPc := hP.cell
        have hbs := hb.size
        have hbw : b < wr.heap.size := by omega
        have hk0 : (k : Int) < (n : Int) := by omega
        have hk3 : (0 : Int) ≤ (k : Int) + 1 := by omega
        obtain ⟨m, hm, hwr, htm, hml⟩ := step_of hlt hn
        rw [hm] at c2 c3
        clear hm
        have hn0 : ¬ n = 0 := by omega
        have hml0 : (m : Int) < (n : Int) := by omega
        go_wp2_with fail
        refine wp_region_belowI (by kernel_rfl) (by kernel_rfl) (fun _ _ d _ _ h => by cases d <;> exact h) ?_
        simp only [List.map_cons, List.map_nil, List.getD_cons_zero, List.getD_cons_succ, bare, gslot, List.getElem?_cons_zero, List.getElem?_cons_succ, Option.bind_some]
        repeat' ((try simp only [Act.put, List.setIfInBounds_toArray, List.set_cons_zero, List.set_cons_succ]); first | (refine lexL_quiet (v := ?_) wantB_none rfl ?_ ?_; rotate_left; focus (intro wq hq; obtain ⟨hcq, hfq⟩ := bcell hq; go_simp; try with_reducible rfl)) | (refine lexL_loud wantB_none rfl (fun K hK => ?_); go_simp; ((first | (go_at_call 92; refine (rmeetsBox_any _ _ _ _ r _).mono ?_; rintro e w1 ⟨rfl, hb1⟩; obtain ⟨hc1, hf1⟩ := bcell hb1; have hz1 := hb1.size; (try simp at hz1)) | skip) <;> (refine hK.out _ _ bel ?_; clear hK K))) | (refine lexL_on ?_ ?_; focus (simp only [List.getElem?_toArray, List.getElem?_cons_succ, List.getElem?_cons_zero, Bool.not_true, Bool.not_false]; done)) | (refine lexL_off ?_ ?_ ?_; (focus (simp only [List.getElem?_toArray, List.getElem?_cons_succ, List.getElem?_cons_zero, Bool.not_true, Bool.not_false]; done)); (focus (exact bel))) | (refine lexL_splitS (X := ?_) ?_ ?_ (fun hg => ?_) (fun hg => ?_); rotate_left; (focus (simp only [List.getElem?_toArray, List.getElem?_cons_succ, List.getElem?_cons_zero]; with_reducible rfl)); (focus (exact bel)); all_goals (try simp only [Bool.not_true, Bool.not_false] at hg)))
        (all_goals try simp only [Act.put, List.setIfInBounds_toArray, List.set_cons_zero, List.set_cons_succ]); all_goals (refine lexL_nil ?_)
        go_wp2
        · go_ret
          exact ⟨ret_bool (rbox_t (by rw [hl.1]; exact hlt) (by assumption)).symm, bel⟩
        · have hf : mboxR ⟨(pt l k).x, (pt l k).y⟩ ⟨(nx l k).x, (nx l k).y⟩ r = false := by first | assumption | (simpa using (by assumption : ¬ mboxR ⟨(pt l k).x, (pt l k).y⟩ ⟨(nx l k).x, (nx l k).y⟩ r = true))
          have HF := Lib.hid hf
          clear hf
          go_roundw
          case rel => exact ⟨k + 1, by omega, by go_num, fun j hj => by
            by_cases e : j = k
            · subst e; exact HF.out
            · exact hno.out j (by omega), blkA, bel⟩
          case measure => simp [intOf]; omega
      · have HF : Hid (ringBoxR l r = false) := by
          have h1 : rhasR l r.lo = false := H0.out
          unfold Hid ringBoxR
          rw [h1, any_range_false _ _ fun j hj => hno.out j (by rw [hl.1] at hj; omega)]
          rfl
        go_wp2
        go_ret
        exact ⟨ret_bool HF.out.symm, hb⟩

theorem crossAny2_t {a b : List Pt} {i k : Nat} (hi : i < a.length) (hk : k < b.length) (h : meetS (pt a i) (nx a i) (pt b k) (nx b k) = true) : crossAny a b = true :=
  any_range_true _ _ i hi (any_range_true _ _ k hk h)
theorem crossAny2_f {a b : List Pt} (h : ∀ i, i < a.length → ∀ k, k < b.length → meetS (pt a i) (nx a i) (pt b k) (nx b k) = false) : crossAny a b = false :=
  any_range_false _ _ fun i hi => any_range_false _ _ fun k hk => h i hi k hk

set_option maxHeartbeats 2000000 in
set_option maxRecDepth 20000 in
theorem rrings_any (B n c n' c' : Nat) (A A' : Option Addr) (l l' : List Pt) (w : World) (hl : PtsAt w B A n l) (hl' : PtsAt w B A' n' l') (hB : B ≤ w.heap.size) (hn : n ≤ 1000000) (hn' : n' ≤ 1000000) (h1 : 1 ≤ n) (h1' : 1 ≤ n') :
    Calls Tryz.prog 56 #[.slice A n c, .slice A' n' c'] w (Ret w (.bool (ringsR l l'))) := by
  obtain ⟨b, off, rfl, hab, c0, c1⟩ := hl.at_ (k := 0) (by omega)
  obtain ⟨b', off', rfl, hab', d0, d1⟩ := hl'.at_ (k := 0) (by omega)
  simp only [Nat.zero_mul, Nat.add_zero] at c0 c1 d0 d1
  have hbw : b < w.heap.size := by omega
  have hbw' : b' < w.heap.size := by omega
  have hn1 : 0 < n := by omega
  have hn1' : 0 < n' := by omega
  cases e1 : rhasR l ⟨(pt l' 0).x, (pt l' 0).y⟩
  case true =>
    have HG : Hid (ringsR l l' = true) := by
      have h1 : rhasR l (pt l' 0) = true := e1
      unfold Hid ringsR
      rw [h1, Bool.true_or, Bool.true_or]
    have E1 := Lib.hid e1
    clear e1
    go_enter Tryz.func56, Tryz.ntmps56
    go_wp2_with (go_at_call 63; refine (rhas2_any B n c _ _ _ l _ (hl.tr bel hB) (Nat.le_trans hB (Below.size (B := w.heap.size) (w := w) bel)) hn).mono ?_; rw [E1.out]; rintro e w1 ⟨rfl, hb1⟩; obtain ⟨hc1, hf1⟩ := bcell hb1; have hz1 := hb1.size; (try simp at hz1))
    go_ret
    exact ⟨ret_bool HG.out.symm, bel⟩
  cases e2 : rhasR l' ⟨(pt l 0).x, (pt l 0).y⟩
  case true =>
    have HG : Hid (ringsR l l' = true) := by
      have h1 : rhasR l' (pt l 0) = true := e2
      unfold Hid ringsR
      rw [h1, Bool.or_true, Bool.true_or]
    have E1 := Lib.hid e1
    have E2 := Lib.hid e2
    clear e1 e2
    go_enter Tryz.func56, Tryz.ntmps56
    go_wp2_with (first | (go_at_call 63; have _hz := hza; refine (rhas2_any B n' c' _ _ _ l' _ (hl'.tr bel hB) (Nat.le_trans hB (Below.size (B := w.heap.size) (w := w) bel)) hn').mono ?_; rw [E2.out]; rintro e w1 ⟨rfl, hb1⟩; obtain ⟨hc1, hf1⟩ := bcell hb1; have hz1 := hb1.size; (try simp at hz1)) | (go_at_call 63; refine (rhas2_any B n c _ _ _ l _ (hl.tr bel hB) (Nat.le_trans hB (Below.size (B := w.heap.size) (w := w) bel)) hn).mono ?_; rw [E1.out]; rintro e wa ⟨rfl, hba⟩; obtain ⟨hca, hfa⟩ := bcell hba; have hza := hba.size; (try simp at hza); have hbx : b < wa.heap.size := (by omega)))
    go_ret
    exact ⟨ret_bool HG.out.symm, bel⟩
  have HF : Hid (ringsR l l' = crossAny l l') := by
    have h1 : rhasR l (pt l' 0) = false := e1
    have h2 : rhasR l' (pt l 0) = false := e2
    unfold Hid ringsR
    rw [h1, h2]
    rfl
  have E1 := Lib.hid e1
  have E2 := Lib.hid e2
  clear e1 e2
  go_enter Tryz.func56, Tryz.ntmps56
  go_wp2_with (first | (go_at_call 63; have _hz := hza; refine (rhas2_any B n' c' _ _ _ l' _ (hl'.tr bel hB) (Nat.le_trans hB (Below.size (B := w.heap.size) (w := w) bel)) hn').mono ?_; rw [E2.out]; rintro e wc ⟨rfl, hbc⟩; obtain ⟨hcc, hfc⟩ := bcell hbc; have hzc := hbc.size; (try simp at hzc)) | (go_at_call 63; refine (rhas2_any B n c _ _ _ l _ (hl.tr bel hB) (Nat.le_trans hB (Below.size (B := w.heap.size) (w := w) bel)) hn).mono ?_; rw [E1.out]; rintro e wa ⟨rfl, hba⟩; obtain ⟨hca, hfa⟩ := bcell hba; have hza := hba.size; (try simp at hza); have hbx : b < wa.heap.size := (by omega)))
  have hb0 : Below w.heap.size w wc := bel
  clear c0 c1 d0 d1 hba hca hfa hza hbx hbc hcc hfc hzc
  go_loopw [5, 6] (fun i _ wr => ∃ k : Nat, k ≤ n ∧ i = .int .i64 k ∧ Hid (∀ j, j < k → ∀ p, p < n' → meetS (pt l j) (nx l j) (pt l' p) (nx l' p) = false) ∧ Below w.heap.size w wr) (fun i _ _ => n - (intOf i).toNat)
  case atStart => exact ⟨0, Nat.zero_le _, rfl, fun j hj => by omega, hb0⟩
  case round =>
    obtain ⟨k, hk, rfl, hno, hb⟩ := hrel
    clear hb0
    by_cases hlt : k < n
    · obtain ⟨wo, hwo⟩ : ∃ wo : World, wo = wr := ⟨_, rfl⟩
      subst hwo
      go_wp2
      go_loopw [6] (fun i wr => ∃ q : Nat, q ≤ n' ∧ i = .int .i64 q ∧ Hid (∀ p, p < q → meetS (pt l k) (nx l k) (pt l' p) (nx l' p) = false) ∧ Below w.heap.size w wr) (fun i _ => n' - (intOf i).toNat)
      case atStart => exact ⟨0, Nat.zero_le _, rfl, fun j hj => by omega, hb⟩
      case round =>
        obtain ⟨q, hq, rfl, hnq, hb3⟩ := hrel
        by_cases hqt : q < n'
        · obtain ⟨_, _, ho, _, c0, c1⟩ := (hl.below (hb3.mono hB)).at_ hlt
          injection ho with ho
          injection ho with ho1 ho2
          subst ho1 ho2
          obtain ⟨_, _, ho, _, d0, d1⟩ := (hl'.below (hb3.mono hB)).at_ hqt
          injection ho with ho
          injection ho with ho1 ho2
          subst ho1 ho2
          obtain ⟨c2, c3⟩ := nx_of (hl.below (hb3.mono hB)) hlt
          obtain ⟨d2, d3⟩ := nx_of (hl'.below (hb3.mono hB)) hqt
          have hbs3 := hb3.size
          have hbw0 : b < wr.heap.size := by omega
          have hbw2 : b' < wr.heap.size := by omega
          have hk0 : (k : Int) < (n : Int) := by omega
          have hq0 : (q : Int) < (n' : Int) := by omega
          have hk3 : (0 : Int) ≤ (k : Int) + 1 := by omega
          have hq3 : (0 : Int) ≤ (q : Int) + 1 := by omega
          obtain ⟨m, hm, hwr, htm, hml⟩ := step_of hlt hn
          rw [hm] at c2 c3
          clear hm
          obtain ⟨m', hm', hwr', htm', hml'⟩ := step_of hqt hn'
          rw [hm'] at d2 d3
          clear hm'
          have hn0 : ¬ n = 0 := by omega
          have hn0' : ¬ n' = 0 := by omega
          have hml0 : (m : Int) < (n : Int) := by omega
          have hml0' : (m' : Int) < (n' : Int) := by omega
          go_wp2_with fail
          refine wp_region_belowI (by kernel_rfl) (by kernel_rfl) (fun _ _ d _ _ h => by cases d <;> exact h) ?_
          simp only [List.map_cons, List.map_nil, List.getD_cons_zero, List.getD_cons_succ, bare, gslot, List.getElem?_cons_zero, List.getElem?_cons_succ, Option.bind_some]
          repeat' ((try simp only [Act.put, List.setIfInBounds_toArray, List.set_cons_zero, List.set_cons_succ]); first | (refine lexL_quiet (v := ?_) wantB_none rfl ?_ ?_; rotate_left; focus (intro wq hq; obtain ⟨hcq, hfq⟩ := bcell hq; go_simp; try with_reducible rfl)) | (refine lexL_loud wantB_none rfl (fun K hK => ?_); go_simp; ((first | (go_at_call 88; refine (rmeet_any _ _ _ _ _ _ _ _ _).mono ?_; rintro e w1 ⟨rfl, hb1⟩; obtain ⟨hc1, hf1⟩ := bcell hb1; have hz1 := hb1.size; (try simp at hz1)) | skip) <;> (refine hK.out _ _ bel ?_; clear hK K))) | (refine lexL_on ?_ ?_; focus (simp only [List.getElem?_toArray, List.getElem?_cons_succ, List.getElem?_cons_zero, Bool.not_true, Bool.not_false]; done)) | (refine lexL_off ?_ ?_ ?_; (focus (simp only [List.getElem?_toArray, List.getElem?_cons_succ, List.getElem?_cons_zero, Bool.not_true, Bool.not_false]; done)); (focus (exact bel))) | (refine lexL_splitS (X := ?_) ?_ ?_ (fun hg => ?_) (fun hg => ?_); rotate_left; (focus (simp only [List.getElem?_toArray, List.getElem?_cons_succ, List.getElem?_cons_zero]; with_reducible rfl)); (focus (exact bel)); all_goals (try simp only [Bool.not_true, Bool.not_false] at hg)))
          (all_goals try simp only [Act.put, List.setIfInBounds_toArray, List.set_cons_zero, List.set_cons_succ]); all_goals (refine lexL_nil ?_)
          go_wp2
          · go_ret
            exact ⟨ret_bool (by rw [HF.out, crossAny2_t (i := k) (k := q) (by rw [hl.1]; exact hlt) (by rw [hl'.1]; exact hqt) (by assumption)]), bel⟩
          · have hf : meetS ⟨(pt l k).x, (pt l k).y⟩ ⟨(nx l k).x, (nx l k).y⟩ ⟨(pt l' q).x, (pt l' q).y⟩ ⟨(nx l' q).x, (nx l' q).y⟩ = false := by first | assumption | (simpa using (by assumption : ¬ meetS ⟨(pt l k).x, (pt l k).y⟩ ⟨(nx l k).x, (nx l k).y⟩ ⟨(pt l' q).x, (pt l' q).y⟩ ⟨(nx l' q).x, (nx l' q).y⟩ = true))
            have HN := Lib.hid hf
            clear hf
            go_roundw
            case rel => exact ⟨q + 1, by omega, by go_num, fun j hj => by
              by_cases e : j = q
              · subst e; exact HN.out
              · exact hnq.out j (by omega), bel⟩
            case measure => simp [intOf]; omega
        · go_wp2
          go_roundw
          case rel => exact ⟨k + 1, by omega, by go_num, fun j hj p hp => by
            by_cases e : j = k
            · subst e; exact hnq.out p (by omega)
            · exact hno.out j (by omega) p hp, bel⟩
          case measure => simp [intOf]; omega
    · have HR : Hid (ringsR l l' = false) := by
        unfold Hid
        rw [HF.out]
        exact crossAny2_f fun i hi p hp => hno.out i (by rw [hl.1] at hi; omega) p (by rw [← hl'.1]; exact hp)
      go_wp2
      go_ret
      exact ⟨ret_bool HR.out.symm, bel⟩
end Go.Proofs.YtahiaekoaokgnaaGreat
