/-
  The contract of ring.Has.
-/
import Derived.Test.YtjdgibpjlhpanaaGreatDoorRingCk
set_option linter.unusedSimpArgs false
set_option linter.unusedVariables false
namespace Go.Proofs.YtjdgibpjlhpanaaGreatDoor
open Go.RowKit Pg

theorem sgn_pos (n : Int) : (0 < sgn n) ↔ 0 < n := by
  unfold sgn
  split
  · omega
  · split <;> omega
theorem crossesB_eq (a b p : Pt) : crossesB a b p = if b.y < a.y then decide (b.y ≤ p.y) && decide (p.y < a.y) && decide (0 < orient b a p) else decide (a.y ≤ p.y) && decide (p.y < b.y) && decide (0 < orient a b p) := by
  unfold crossesB orient
  simp only [sgn_pos]

theorem xor3 {A B C : Prop} [Decidable A] [Decidable B] [Decidable C] {p : Bool} (h : A ∧ B ∧ C) : Value.bool (!p) = Value.bool (xor p (decide A && decide B && decide C)) := by
  rw [decide_eq_true h.1, decide_eq_true h.2.1, decide_eq_true h.2.2]; simp
theorem xor0 {A B C : Prop} [Decidable A] [Decidable B] [Decidable C] {p : Bool} (h : ¬ (A ∧ B ∧ C)) : Value.bool p = Value.bool (xor p (decide A && decide B && decide C)) := by
  have : (decide A && decide B && decide C) = false := by
    cases hd : (decide A && decide B && decide C)
    · rfl
    · simp at hd; exact absurd ⟨hd.1.1, hd.1.2, hd.2⟩ h
  rw [this]; simp

set_option maxHeartbeats 2000000 in
set_option maxRecDepth 20000 in
theorem rhas_any (B n c : Nat) (px py : Int) (A : Option Addr) (l : List Pt) (w : World) (hl : PtsAt w B A n l) (hB : B ≤ w.heap.size) (hn : n ≤ 1000000) :
    Calls Tryz.prog 54 #[.slice A n c, ptV px py] w (Ret w (.bool (rhas l ⟨px, py⟩))) := by
  by_cases hck : ckRing l = 0
  · cases hp : okPt ⟨px, py⟩
    · have HE : Hid (errV (if okPt ⟨px, py⟩ = true then 0 else 2) = .iface 131 (.int .i64 2)) := by unfold Hid; rw [hp]; rfl
      have HF : Hid (rhas l ⟨px, py⟩ = false) := by unfold Hid rhas; rw [hp]; simp
      have HC := Lib.hid hck
      clear hck hp
      go_enter Tryz.func54, Tryz.ntmps54
      go_wp2_with (first | (go_at_call 78; refine (check_ok B n c A l _ (hl.tr (by repeat (first | with_reducible exact Below.refl _ _ | with_reducible assumption | with_reducible refine al ?_ _ | with_reducible refine Below.drew ?_ | with_reducible refine Below.setCell ?_ (by first | (simp; done) | (simp; omega)) _ | with_reducible refine tr ?_ (by with_reducible assumption))) hB) (Nat.le_trans hB (Below.size (B := w.heap.size) (w := w) (by repeat (first | with_reducible exact Below.refl _ _ | with_reducible assumption | with_reducible refine al ?_ _ | with_reducible refine Below.drew ?_ | with_reducible refine Below.setCell ?_ (by first | (simp; done) | (simp; omega)) _ | with_reducible refine tr ?_ (by with_reducible assumption))))) hn HC.out).mono ?_; rintro e w1 ⟨rfl, hb1⟩; obtain ⟨hc1, hf1⟩ := bcell hb1; have hz1 := hb1.size; (try simp at hz1); have hy0 : w.heap.size < w1.heap.size := (by omega)) | (go_at_call 51; refine (checkPoint_any _ _ _).mono ?_; rw [HE.out]; rintro e w1 ⟨rfl, hb1⟩; obtain ⟨hc1, hf1⟩ := bcell hb1; have hz1 := hb1.size; (try simp at hz1); have hy0 : w.heap.size < w1.heap.size := (by omega)))
      go_ret
      exact ⟨ret_bool HF.out.symm, (by repeat (first | with_reducible exact Below.refl _ _ | with_reducible assumption | with_reducible refine al ?_ _ | with_reducible refine Below.drew ?_ | with_reducible refine Below.setCell ?_ (by first | (simp; done) | (simp; omega)) _ | with_reducible refine tr ?_ (by with_reducible assumption)))⟩
    · have HE : Hid (errV (if okPt ⟨px, py⟩ = true then 0 else 2) = .nilIface) := by unfold Hid; rw [hp]; rfl
      have HF : Hid (rhas l ⟨px, py⟩ = (edgeB l ⟨px, py⟩ || parity l ⟨px, py⟩ l.length)) := by unfold Hid rhas; rw [hp]; simp [hck, rhasR]
      have HC := Lib.hid hck
      clear hck hp
      cases he : edgeB l ⟨px, py⟩
      case true =>
        have HG : Hid (rhas l ⟨px, py⟩ = true) := by unfold Hid; rw [HF.out, he]; rfl
        have HEB := Lib.hid he
        clear he
        go_enter Tryz.func54, Tryz.ntmps54
        go_wp2_with (first | (go_at_call 78; refine (check_ok B n c A l _ (hl.tr (by repeat (first | with_reducible exact Below.refl _ _ | with_reducible assumption | with_reducible refine al ?_ _ | with_reducible refine Below.drew ?_ | with_reducible refine Below.setCell ?_ (by first | (simp; done) | (simp; omega)) _ | with_reducible refine tr ?_ (by with_reducible assumption))) hB) (Nat.le_trans hB (Below.size (B := w.heap.size) (w := w) (by repeat (first | with_reducible exact Below.refl _ _ | with_reducible assumption | with_reducible refine al ?_ _ | with_reducible refine Below.drew ?_ | with_reducible refine Below.setCell ?_ (by first | (simp; done) | (simp; omega)) _ | with_reducible refine tr ?_ (by with_reducible assumption))))) hn HC.out).mono ?_; rintro e w1 ⟨rfl, hb1⟩; obtain ⟨hc1, hf1⟩ := bcell hb1; have hz1 := hb1.size; (try simp at hz1); have hy0 : w.heap.size < w1.heap.size := (by omega)) | (go_at_call 51; refine (checkPoint_any _ _ _).mono ?_; rw [HE.out]; rintro e w1 ⟨rfl, hb1⟩; obtain ⟨hc1, hf1⟩ := bcell hb1; have hz1 := hb1.size; (try simp at hz1); have hy0 : w.heap.size < w1.heap.size := (by omega)) | (go_at_call 107; refine (edge_any B n c _ _ A l _ (hl.tr (by repeat (first | with_reducible exact Below.refl _ _ | with_reducible assumption | with_reducible refine al ?_ _ | with_reducible refine Below.drew ?_ | with_reducible refine Below.setCell ?_ (by first | (simp; done) | (simp; omega)) _ | with_reducible refine tr ?_ (by with_reducible assumption))) hB) (Nat.le_trans hB (Below.size (B := w.heap.size) (w := w) (by repeat (first | with_reducible exact Below.refl _ _ | with_reducible assumption | with_reducible refine al ?_ _ | with_reducible refine Below.drew ?_ | with_reducible refine Below.setCell ?_ (by first | (simp; done) | (simp; omega)) _ | with_reducible refine tr ?_ (by with_reducible assumption))))) hn).mono ?_; rw [HEB.out]; rintro e w1 ⟨rfl, hb1⟩; obtain ⟨hc1, hf1⟩ := bcell hb1; have hz1 := hb1.size; (try simp at hz1); have hy0 : w.heap.size < w1.heap.size := (by omega)))
        go_ret
        exact ⟨ret_bool HG.out.symm, (by repeat (first | with_reducible exact Below.refl _ _ | with_reducible assumption | with_reducible refine al ?_ _ | with_reducible refine Below.drew ?_ | with_reducible refine Below.setCell ?_ (by first | (simp; done) | (simp; omega)) _ | with_reducible refine tr ?_ (by with_reducible assumption)))⟩
      case false =>
        have HG : Hid (rhas l ⟨px, py⟩ = parity l ⟨px, py⟩ l.length) := by unfold Hid; rw [HF.out, he]; rfl
        have HEB := Lib.hid he
        clear he
        go_enter Tryz.func54, Tryz.ntmps54
        go_wp2_with (first | (go_at_call 78; refine (check_ok B n c A l _ (hl.tr (by repeat (first | with_reducible exact Below.refl _ _ | with_reducible assumption | with_reducible refine al ?_ _ | with_reducible refine Below.drew ?_ | with_reducible refine Below.setCell ?_ (by first | (simp; done) | (simp; omega)) _ | with_reducible refine tr ?_ (by with_reducible assumption))) hB) (Nat.le_trans hB (Below.size (B := w.heap.size) (w := w) (by repeat (first | with_reducible exact Below.refl _ _ | with_reducible assumption | with_reducible refine al ?_ _ | with_reducible refine Below.drew ?_ | with_reducible refine Below.setCell ?_ (by first | (simp; done) | (simp; omega)) _ | with_reducible refine tr ?_ (by with_reducible assumption))))) hn HC.out).mono ?_; rintro e w1 ⟨rfl, hb1⟩; obtain ⟨hc1, hf1⟩ := bcell hb1; have hz1 := hb1.size; (try simp at hz1); have hy0 : w.heap.size < w1.heap.size := (by omega)) | (go_at_call 51; refine (checkPoint_any _ _ _).mono ?_; rw [HE.out]; rintro e w1 ⟨rfl, hb1⟩; obtain ⟨hc1, hf1⟩ := bcell hb1; have hz1 := hb1.size; (try simp at hz1); have hy0 : w.heap.size < w1.heap.size := (by omega)) | (go_at_call 107; refine (edge_any B n c _ _ A l _ (hl.tr (by repeat (first | with_reducible exact Below.refl _ _ | with_reducible assumption | with_reducible refine al ?_ _ | with_reducible refine Below.drew ?_ | with_reducible refine Below.setCell ?_ (by first | (simp; done) | (simp; omega)) _ | with_reducible refine tr ?_ (by with_reducible assumption))) hB) (Nat.le_trans hB (Below.size (B := w.heap.size) (w := w) (by repeat (first | with_reducible exact Below.refl _ _ | with_reducible assumption | with_reducible refine al ?_ _ | with_reducible refine Below.drew ?_ | with_reducible refine Below.setCell ?_ (by first | (simp; done) | (simp; omega)) _ | with_reducible refine tr ?_ (by with_reducible assumption))))) hn).mono ?_; rw [HEB.out]; rintro e w1 ⟨rfl, hb1⟩; obtain ⟨hc1, hf1⟩ := bcell hb1; have hz1 := hb1.size; (try simp at hz1); have hy0 : w.heap.size < w1.heap.size := (by omega)))
        have hP0 : Blk w1 w.heap.size 26 #[.int .i64 px, .int .i64 py] := (by repeat (first | with_reducible assumption | with_reducible exact Blk.new (by simp) rfl | with_reducible refine Blk.alloc ?_ _ | with_reducible refine Blk.drew ?_ | with_reducible refine Blk.far ?_ (by first | (simp; done) | (simp; omega)) _ | with_reducible refine Blk.tr ?_ (by with_reducible assumption)))
        have hb0 : Below w.heap.size w w1 := (by repeat (first | with_reducible exact Below.refl _ _ | with_reducible assumption | with_reducible refine al ?_ _ | with_reducible refine Below.drew ?_ | with_reducible refine Below.setCell ?_ (by first | (simp; done) | (simp; omega)) _ | with_reducible refine tr ?_ (by with_reducible assumption)))
        go_loopw [5, 22] (fun s i wr => ∃ k : Nat, k ≤ n ∧ i = .int .i64 k ∧ s = .bool (parity l ⟨px, py⟩ k) ∧ Blk wr w.heap.size 26 #[.int .i64 px, .int .i64 py] ∧ Below w.heap.size w wr) (fun _ i _ => n - (intOf i).toNat)
        case atStart => exact ⟨0, Nat.zero_le _, rfl, rfl, hP0, hb0⟩
        case round =>
          obtain ⟨k, hk, rfl, rfl, hP, hb⟩ := hrel
          by_cases hlt : k < n
          · obtain ⟨b, off, rfl, hab, c0, c1⟩ := (hl.below (hb.mono hB)).at_ hlt
            have hPl := hP.lt
            have hPc := hP.cell
            have hbs := hb.size
            have hbw : b < wr.heap.size := by omega
            have hk0 : (k : Int) < (n : Int) := by omega
            clear hb0 hP0
            go_wp2_with fail
            refine wp_region_alloc' [0, 1, 2, 3, 4, 5, 6] [7, 8] [9, 10] (fun _ => #[.int .i64 0, .int .i64 0]) (by kernel_rfl) (by kernel_rfl) (fun _ _ d _ _ h => by cases d <;> exact h) (by intro i hi w; simp only [List.mem_cons, List.not_mem_nil, or_false] at hi; rcases hi with rfl | rfl <;> simp only [List.getD_cons_zero, List.getD_cons_succ, tyOf] <;> kernel_rfl) (fun KN hKN => ?_)
            simp only [List.map_cons, List.map_nil, List.getD_cons_zero, List.getD_cons_succ, bare, gslot, List.getElem?_cons_zero, List.getElem?_cons_succ, Option.bind_some]
            repeat ((try simp only [Act.put, List.setIfInBounds_toArray, List.set_cons_zero, List.set_cons_succ]); first | (refine lexN_quiet (v := ?_) rfl ?_ ?_; rotate_left; focus (intro wq hq; obtain ⟨hcq, hfq⟩ := bcell hq; go_simp; try with_reducible rfl)) | (refine lexN_loud (v := ?_) rfl ?_ ?_; rotate_left; focus (intro wq hq K hK; obtain ⟨hcq, hfq⟩ := bcell hq; go_simp; (first | (go_at_call 108; refine (next_any B n c k _ l _ (hl.tr (by repeat (first | with_reducible exact Below.refl _ _ | with_reducible assumption | with_reducible refine al ?_ _ | with_reducible refine Below.drew ?_ | with_reducible refine Below.setCell ?_ (by first | (simp; done) | (simp; omega)) _ | with_reducible refine tr ?_ (by with_reducible assumption))) hB) (Nat.le_trans hB (Below.size (B := w.heap.size) (w := w) (by repeat (first | with_reducible exact Below.refl _ _ | with_reducible assumption | with_reducible refine al ?_ _ | with_reducible refine Below.drew ?_ | with_reducible refine Below.setCell ?_ (by first | (simp; done) | (simp; omega)) _ | with_reducible refine tr ?_ (by with_reducible assumption))))) hn hlt).mono ?_; rintro e w1 ⟨rfl, hb1⟩; obtain ⟨hc1, hf1⟩ := bcell hb1; have hz1 := hb1.size; (try simp at hz1))); refine hK.out _ _ ?_ (by repeat (first | with_reducible exact Below.refl _ _ | with_reducible assumption | with_reducible refine al ?_ _ | with_reducible refine Below.drew ?_ | with_reducible refine Below.setCell ?_ (by first | (simp; done) | (simp; omega)) _ | with_reducible refine tr ?_ (by with_reducible assumption))); simp only [Act.put, List.setIfInBounds_toArray, List.set_cons_zero, List.set_cons_succ]; try with_reducible rfl)))
            (try simp only [Act.put, List.setIfInBounds_toArray, List.set_cons_zero, List.set_cons_succ])
            refine lexN_nil (hKN.out _ ?_)
            clear hKN KN
            intro gs wf hwf hgs hds
            simp only [List.map_cons, List.map_nil, List.getD_cons_zero, List.getD_cons_succ, bare, gslot, List.getElem?_cons_zero, List.getElem?_cons_succ, Option.bind_some, List.foldl_cons, List.foldl_nil, ptrV]
            obtain ⟨hg7, HB7⟩ := hgs 7 (by decide)
            obtain ⟨hg8, HB8⟩ := hgs 8 (by decide)
            have hd7x8 := hds 7 (by decide) 8 (by decide) (by decide)
            simp only [List.getD_cons_zero, List.getD_cons_succ, tyOf] at HB7 HB8
            clear hgs hds
            generalize gs 7 = g7 at *
            generalize gs 8 = g8 at *
            have cg7 := HB7.cell
            have fg7 := HB7.frozen
            have cg8 := HB8.cell
            have fg8 := HB8.frozen
            have hd8x7 := Ne.symm hd7x8
            repeat ((try simp only [Act.put, List.setIfInBounds_toArray, List.set_cons_zero, List.set_cons_succ]); first | (refine lexL_loud wantB_none rfl (fun K hK => ?_); go_simp; refine hK.out _ _ (by repeat (first | with_reducible exact Below.refl _ _ | with_reducible assumption | with_reducible refine al ?_ _ | with_reducible refine Below.drew ?_ | with_reducible refine Below.setCell ?_ (by first | (simp; done) | (simp; omega)) _ | with_reducible refine tr ?_ (by with_reducible assumption))) ?_; clear hK K) | (refine lexL_quiet (v := ?_) wantB_none rfl ?_ ?_; rotate_left; focus (intro wq hq; go_simp; try with_reducible rfl)))
            refine lexL_nil ?_
            refine keep_world (R := fun w2 => Below w.heap.size w w2 ∧ Blk w2 g7 26 #[.int .i64 (pt l k).x, .int .i64 (pt l k).y] ∧ Blk w2 g8 26 #[.int .i64 (nx l k).x, .int .i64 (nx l k).y] ∧ Blk w2 w.heap.size 26 #[.int .i64 px, .int .i64 py]) ⟨(by repeat (first | with_reducible exact Below.refl _ _ | with_reducible assumption | with_reducible refine al ?_ _ | with_reducible refine Below.drew ?_ | with_reducible refine Below.setCell ?_ (by first | (simp; done) | (simp; omega)) _ | with_reducible refine tr ?_ (by with_reducible assumption))), ((((HB7.set_ 0 _).set_ 1 _).far (p := ⟨g8, 0, none⟩) hd7x8 _).far (p := ⟨g8, 1, none⟩) hd7x8 _).eq_ (by simp), ((((HB8.far (p := ⟨g7, 0, none⟩) hd8x7 _).far (p := ⟨g7, 1, none⟩) hd8x7 _).set_ 0 _).set_ 1 _).eq_ (by simp), (by repeat (first | with_reducible assumption | with_reducible exact Blk.new (by simp) rfl | with_reducible refine Blk.alloc ?_ _ | with_reducible refine Blk.drew ?_ | with_reducible refine Blk.far ?_ (by first | (simp; done) | (simp; omega)) _ | with_reducible refine Blk.tr ?_ (by with_reducible assumption)))⟩ ?_
            rintro w2 ⟨hb2, h7, h8, hE0⟩
            clear cg7 fg7 HB7 cg8 fg8 HB8
            have cg7 := h7.cell
            have fg7 := h7.frozen
            have lg7 := h7.lt
            have cg8 := h8.cell
            have fg8 := h8.frozen
            have lg8 := h8.lt
            obtain ⟨hc2, hf2⟩ := bcell hb2
            have cP := hE0.cell
            have lP := hE0.lt
            have np7 : w.heap.size ≠ g7 := by omega
            have np8 : w.heap.size ≠ g8 := by omega
            have np7' : g7 ≠ w.heap.size := by omega
            have np8' : g8 ≠ w.heap.size := by omega
            have HX : Hid (parity l ⟨px, py⟩ (k + 1) = xor (parity l ⟨px, py⟩ k) (crossesB ⟨(pt l k).x, (pt l k).y⟩ ⟨(nx l k).x, (nx l k).y⟩ ⟨px, py⟩)) := rfl
            clear hwf hc2 hf2 c0 c1 hPc h7 h8
            by_cases hsw : (nx l k).y < (pt l k).y
            all_goals
              go_wp2_with (go_at_call 79; refine (orient_any _ _ _ _ _ _ _).mono ?_; rintro e w1 ⟨rfl, hb1⟩; obtain ⟨hc1, hf1⟩ := bcell hb1; have hz1 := hb1.size; (try simp at hz1); have hy0 : w.heap.size < w1.heap.size := (by omega))
              all_goals
                go_roundw
                case rel => exact ⟨k + 1, by omega, by go_num, by rw [HX.out, crossesB_eq]; (first | rw [if_pos (by simpa using hsw)] | rw [if_neg (by simp only [Int.not_lt]; simpa using hsw)]); (first | exact xor3 ⟨by (try dsimp only); omega, by (try dsimp only); omega, by (try dsimp only); omega⟩ | exact xor0 (by (try dsimp only); omega)), (by repeat (first | with_reducible assumption | with_reducible exact Blk.new (by simp) rfl | with_reducible refine Blk.alloc ?_ _ | with_reducible refine Blk.drew ?_ | with_reducible refine Blk.far ?_ (by first | (simp; done) | (simp; omega)) _ | with_reducible refine Blk.tr ?_ (by with_reducible assumption))), (by repeat (first | with_reducible exact Below.refl _ _ | with_reducible assumption | with_reducible refine al ?_ _ | with_reducible refine Below.drew ?_ | with_reducible refine Below.setCell ?_ (by first | (simp; done) | (simp; omega)) _ | with_reducible refine tr ?_ (by with_reducible assumption)))⟩
                case measure => simp [intOf]; omega
          · have HL : Hid (k = n) := by unfold Hid; omega
            have HR : Hid (rhas l ⟨px, py⟩ = parity l ⟨px, py⟩ k) := by unfold Hid; rw [HG.out, HL.out, hl.1]
            go_wp2
            go_ret
            exact ⟨ret_bool HR.out.symm, hb⟩
  · have HF : Hid (rhas l ⟨px, py⟩ = false) := by unfold Hid rhas; simp [hck]
    have HC := Lib.hid hck
    clear hck
    go_enter Tryz.func54, Tryz.ntmps54
    go_wp2_with (go_at_call 78; refine (check_bad B n c A l _ (hl.tr (by repeat (first | with_reducible exact Below.refl _ _ | with_reducible assumption | with_reducible refine al ?_ _ | with_reducible refine Below.drew ?_ | with_reducible refine Below.setCell ?_ (by first | (simp; done) | (simp; omega)) _ | with_reducible refine tr ?_ (by with_reducible assumption))) hB) (Nat.le_trans hB (Below.size (B := w.heap.size) (w := w) (by repeat (first | with_reducible exact Below.refl _ _ | with_reducible assumption | with_reducible refine al ?_ _ | with_reducible refine Below.drew ?_ | with_reducible refine Below.setCell ?_ (by first | (simp; done) | (simp; omega)) _ | with_reducible refine tr ?_ (by with_reducible assumption))))) hn HC.out).mono ?_; rintro e w1 ⟨g, rfl, hfault, hb1⟩)
    go_ret
    exact ⟨ret_bool HF.out.symm, (by repeat (first | with_reducible exact Below.refl _ _ | with_reducible assumption | with_reducible refine al ?_ _ | with_reducible refine Below.drew ?_ | with_reducible refine Below.setCell ?_ (by first | (simp; done) | (simp; omega)) _ | with_reducible refine tr ?_ (by with_reducible assumption)))⟩
end Go.Proofs.YtjdgibpjlhpanaaGreatDoor
