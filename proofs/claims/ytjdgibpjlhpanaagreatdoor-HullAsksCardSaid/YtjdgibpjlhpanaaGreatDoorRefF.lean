/-
  Contracts of the references of chapter 21: CheckMany, Far, Convex.
-/
import Derived.Test.YtjdgibpjlhpanaaGreatDoorHulI
import Derived.Test.YtjdgibpjlhpanaaGreatDoorHulK
import Derived.Test.YtjdgibpjlhpanaaGreatDoorRefSq
import Derived.Test.YtjdgibpjlhpanaaGreatDoorRef4
set_option linter.unusedSimpArgs false
set_option linter.unusedVariables false
namespace Pg
theorem foldj {l : List Pt} {way : Int} : ∀ (M : List (Nat × Nat)) (s : PSt), s.j ≠ 0 → (∀ ab ∈ M, ab.2 ≠ 0) → (M.foldl (pstep l way) s).j ≠ 0
  | [], s, h, _ => h
  | a :: r, s, h, hM => by
    refine foldj r _ ?_ (fun x hx => hM x (by simp [hx]))
    unfold pstep
    split
    · exact hM a (by simp)
    · exact h
/-- the reference's best pair of those ahead of (k, b) -/
def farI (l : List Pt) : PSt := ⟨0, 1, sqP (pt l 0) (pt l 1)⟩
def stQ (l : List Pt) (way : Int) (n k b : Nat) : PSt := ((List.range' (k + 1) (b - (k + 1))).map fun b => (k, b)).foldl (pstep l way) ((pairsTo n k).foldl (pstep l way) (farI l))
theorem stQ_start (l : List Pt) (way : Int) (n k : Nat) : stQ l way n k (k + 1) = (pairsTo n k).foldl (pstep l way) (farI l) := by simp [stQ]
theorem stQ_end (l : List Pt) (way : Int) (n k : Nat) : stQ l way n k n = (pairsTo n (k + 1)).foldl (pstep l way) (farI l) := by
  rw [pairsTo_succ, List.foldl_append]
  rfl
theorem stQ_step (l : List Pt) (way : Int) (n k b : Nat) (h : k + 1 ≤ b) : stQ l way n k (b + 1) = pstep l way (stQ l way n k b) (k, b) := by
  unfold stQ
  have e : b + 1 - (k + 1) = (b - (k + 1)) + 1 := by omega
  rw [e, List.range'_concat, List.map_append, List.foldl_append]
  simp only [List.map_cons, List.map_nil, List.foldl_cons, List.foldl_nil]
  have e2 : k + 1 + 1 * (b - (k + 1)) = b := by omega
  rw [e2]
theorem stQ_j (l : List Pt) (way : Int) (n k b : Nat) : (stQ l way n k b).j ≠ 0 := by
  unfold stQ
  refine foldj _ _ (foldj _ _ (by simp [farI]) ?_) ?_
  · rintro ⟨x, y⟩ h
    have := mem_pairsTo.1 h
    simp
    omega
  · rintro ⟨x, y⟩ h
    simp only [List.mem_map, List.mem_range', Prod.mk.injEq] at h
    obtain ⟨z, ⟨i, hi, rfl⟩, rfl, rfl⟩ := h
    simp
theorem cmpF_self1 (x : Nat) : cmpF ⟨x, 1⟩ ⟨x, 1⟩ = 0 := by
  rcases cmpF_one x x with h | h | h
  · omega
  · exact h.2
  · omega
theorem far_eq {l : List Pt} {way : Int} (h2 : 2 ≤ l.length) : (pairsTo l.length l.length).foldl (pstep l way) (farI l) = pairS l way := by
  obtain ⟨n, hn⟩ : ∃ n, l.length = n + 2 := ⟨l.length - 2, by omega⟩
  have e : pairsTo l.length l.length = (0, 1) :: (pairsTo l.length l.length).tail := by
    have e1 : pairsTo l.length (n + 2) = _ := rfl
    have : ∀ m, pairsTo (n + 2) (m + 1) = (0, 1) :: (pairsTo (n + 2) (m + 1)).tail := by
      intro m
      induction m with
      | zero =>
        rw [pairsTo_succ]
        simp [pairsTo, List.range'_succ]
      | succ m ih =>
        rw [pairsTo_succ, ih]
        simp
    rw [hn]
    exact this (n + 1)
  unfold pairS
  rw [e, List.foldl_cons, List.foldl_cons]
  congr 1
  unfold pstep farI
  simp only [or_true, true_or, if_true]
  rw [sqP_eta, cmpF_self1]
  simp
end Pg
namespace Go.Proofs.YtjdgibpjlhpanaaGreatDoor
open Go.RowKit Pg

set_option maxHeartbeats 1000000 in
set_option maxRecDepth 20000 in
theorem rmany_any (B n c least : Nat) (A : Option Addr) (l : List Pt) (w : World) (hl : PtsAt w B A n l) (hB : B ≤ w.heap.size) (hn : n ≤ 1000000) (hls : least ≤ 2) :
    Calls Tryz.prog 74 #[.slice A n c, .int .i64 least] w (Ret w (.tuple #[.int .i64 (hullCk l least).1, .int .i64 (hullCk l least).2])) := by
  have hln := hl.1
  by_cases h1 : n < least
  · have e : hullCk l least = (1, (n : Int)) := by unfold hullCk; rw [if_pos (by omega), hln]
    have h2 : (n : Int) < (least : Int) := by omega
    rw [e]
    clear hl e
    go_enter Tryz.func74, Tryz.ntmps74
    go_wp2
    go_ret2
    exact ⟨rfl, (by repeat (first | with_reducible exact Below.refl _ _ | with_reducible assumption | with_reducible refine al ?_ _ | with_reducible refine Below.drew ?_ | with_reducible refine Below.setCell ?_ (by first | (simp; done) | (simp; omega)) _ | with_reducible refine tr ?_ (by with_reducible assumption)))⟩
  by_cases h2 : 1000 < n
  · have e : hullCk l least = (13, (n : Int)) := by unfold hullCk; rw [if_neg (by omega), if_pos (by omega), hln]
    have h3 : ¬ (n : Int) < (least : Int) := by omega
    have h4 : (1000 : Int) < (n : Int) := by omega
    rw [e]
    clear hl e
    go_enter Tryz.func74, Tryz.ntmps74
    go_wp2
    go_ret2
    exact ⟨rfl, (by repeat (first | with_reducible exact Below.refl _ _ | with_reducible assumption | with_reducible refine al ?_ _ | with_reducible refine Below.drew ?_ | with_reducible refine Below.setCell ?_ (by first | (simp; done) | (simp; omega)) _ | with_reducible refine tr ?_ (by with_reducible assumption)))⟩
  have ek : hullCk l least = match firstBad l with | some i => (2, (i : Int)) | none => (0, 0) := by unfold hullCk; rw [if_neg (by omega), if_neg (by omega)]; rfl
  have h3 : ¬ (n : Int) < (least : Int) := by omega
  have h4 : ¬ (1000 : Int) < (n : Int) := by omega
  obtain ⟨r, hr⟩ : ∃ r, hullCk l least = r := ⟨_, rfl⟩
  rw [hr] at ek ⊢
  have HE := Lib.hid ek
  have HL := Lib.hid hl
  clear hr ek hl
  go_enter Tryz.func74, Tryz.ntmps74
  go_wp2
  go_loopw [6] (fun vi wr => ∃ k : Nat, k ≤ n ∧ vi = .int .i64 k ∧ (∀ j, j < k → okPt (pt l j) = true) ∧ Below w.heap.size w wr) (fun vi _ => n - (intOf vi).toNat)
  case atStart => exact ⟨0, by omega, rfl, fun j hj => absurd hj (by omega), (by repeat (first | with_reducible exact Below.refl _ _ | with_reducible assumption | with_reducible refine al ?_ _ | with_reducible refine Below.drew ?_ | with_reducible refine Below.setCell ?_ (by first | (simp; done) | (simp; omega)) _ | with_reducible refine tr ?_ (by with_reducible assumption)))⟩
  case round =>
    obtain ⟨k, hk, rfl, hall, hb⟩ := hrel
    by_cases hlt : k < n
    · obtain ⟨b, off, rfl, hab, a0, a1⟩ := (HL.out.below (hb.mono hB)).at_ hlt
      have hk0 : (k : Int) < (n : Int) := by omega
      have HC : Hid (∀ w', Calls Tryz.prog 10 #[ptV (pt l k).x (pt l k).y] w' (Ret w' (.bool (okPt (pt l k))))) := fun w' => rpoint_any _ _ w'
      cases hok : okPt (pt l k)
      · have ef := firstBad_some (by rw [hln]; exact hlt) hok hall
        have er : r = (2, (k : Int)) := by rw [HE.out, ef]
        subst er
        rw [hok] at HC
        clear hall ef hok HE
        go_wp2_with (go_at_call 10; (with_reducible refine (HC.out _).mono ?_); rintro e w4 ⟨rfl, hb4⟩; obtain ⟨hc4, hf4⟩ := bcell hb4; have hz4 := hb4.size; (try simp at hz4))
        go_ret2
        exact ⟨rfl, (by repeat (first | with_reducible exact Below.refl _ _ | with_reducible assumption | with_reducible refine al ?_ _ | with_reducible refine Below.drew ?_ | with_reducible refine Below.setCell ?_ (by first | (simp; done) | (simp; omega)) _ | with_reducible refine tr ?_ (by with_reducible assumption)))⟩
      · rw [hok] at HC
        have HA := Lib.hid hall
        have HO := Lib.hid hok
        clear hall hok
        go_wp2_with (go_at_call 10; (with_reducible refine (HC.out _).mono ?_); rintro e w4 ⟨rfl, hb4⟩; obtain ⟨hc4, hf4⟩ := bcell hb4; have hz4 := hb4.size; (try simp at hz4))
        go_roundw
        case rel => exact ⟨k + 1, by omega, by go_num, fun j hj => by
          by_cases e : j = k
          · subst e; exact HO.out
          · exact HA.out j (by omega), (by repeat (first | with_reducible exact Below.refl _ _ | with_reducible assumption | with_reducible refine al ?_ _ | with_reducible refine Below.drew ?_ | with_reducible refine Below.setCell ?_ (by first | (simp; done) | (simp; omega)) _ | with_reducible refine tr ?_ (by with_reducible assumption)))⟩
        case measure => simp [intOf]; omega
    · have ef := firstBad_none (l := l) fun j hj => hall j (by omega)
      have er : r = (0, 0) := by rw [HE.out, ef]
      subst er
      go_wp2
      go_ret2
      exact ⟨rfl, (by repeat (first | with_reducible exact Below.refl _ _ | with_reducible assumption | with_reducible refine al ?_ _ | with_reducible refine Below.drew ?_ | with_reducible refine Below.setCell ?_ (by first | (simp; done) | (simp; omega)) _ | with_reducible refine tr ?_ (by with_reducible assumption)))⟩

theorem rmany1_any (B n c : Nat) (A : Option Addr) (l : List Pt) (w : World) (hl : PtsAt w B A n l) (hB : B ≤ w.heap.size) (hn : n ≤ 1000000) :
    Calls Tryz.prog 74 #[.slice A n c, .int .i64 1] w (Ret w (.tuple #[.int .i64 (hullCk l 1).1, .int .i64 (hullCk l 1).2])) := rmany_any B n c 1 A l w hl hB hn (by omega)
theorem rmany2_any (B n c : Nat) (A : Option Addr) (l : List Pt) (w : World) (hl : PtsAt w B A n l) (hB : B ≤ w.heap.size) (hn : n ≤ 1000000) :
    Calls Tryz.prog 74 #[.slice A n c, .int .i64 2] w (Ret w (.tuple #[.int .i64 (hullCk l 2).1, .int .i64 (hullCk l 2).2])) := rmany_any B n c 2 A l w hl hB hn (by omega)

set_option maxHeartbeats 2000000 in
set_option maxRecDepth 20000 in
theorem rconvex_any (B n c : Nat) (A : Option Addr) (l : List Pt) (w : World) (hl : PtsAt w B A n l) (hB : B ≤ w.heap.size) (hn : n ≤ 1000000) :
    Calls Tryz.prog 28 #[.slice A n c] w (Ret w (.bool (convexS l))) := by
  have HC := Lib.hid (fun W (hW : Below w.heap.size w W) => rcheckRing_any B n c A l W (hl.tr hW hB) (Nat.le_trans hB (Below.size (B := w.heap.size) (w := w) hW)) hn)
  rw [← ckRing_eq] at HC
  by_cases h0 : ckRing l = 0
  case neg =>
    have HR : Hid (convexS l = false) := by unfold Hid convexS; rw [if_neg h0]
    obtain ⟨k, hk⟩ : ∃ k, ckRing l = k := ⟨_, rfl⟩
    rw [hk] at HC h0
    have h01 : ¬ (k : Int) = 0 := by omega
    go_enter Tryz.func28, Tryz.ntmps28
    go_wp2_with (go_at_call 44; (with_reducible refine (HC.out _ (by repeat (first | with_reducible exact Below.refl _ _ | with_reducible assumption | with_reducible refine al ?_ _ | with_reducible refine Below.drew ?_ | with_reducible refine Below.setCell ?_ (by first | (simp; done) | (simp; omega)) _ | with_reducible refine tr ?_ (by with_reducible assumption)))).mono ?_); rintro e w1 ⟨id, rfl, hb1⟩)
    go_ret
    exact ⟨by rw [HR.out]; rfl, (by repeat (first | with_reducible exact Below.refl _ _ | with_reducible assumption | with_reducible refine al ?_ _ | with_reducible refine Below.drew ?_ | with_reducible refine Below.setCell ?_ (by first | (simp; done) | (simp; omega)) _ | with_reducible refine tr ?_ (by with_reducible assumption)))⟩
  have HR : Hid (convexS l = (!turnAny l 1 n || !turnAny l (-1) n)) := by unfold Hid convexS; rw [if_pos h0, hl.1]
  rw [h0] at HC
  have hln := hl.1
  have HL := Lib.hid hl
  clear hl
  go_enter Tryz.func28, Tryz.ntmps28
  go_wp2_with (go_at_call 44; (with_reducible refine (HC.out _ (by repeat (first | with_reducible exact Below.refl _ _ | with_reducible assumption | with_reducible refine al ?_ _ | with_reducible refine Below.drew ?_ | with_reducible refine Below.setCell ?_ (by first | (simp; done) | (simp; omega)) _ | with_reducible refine tr ?_ (by with_reducible assumption)))).mono ?_); rintro e w1 ⟨id, rfl, hb1⟩)
  clear HC h0
  go_loopw [5, 6, 7] (fun vl vr vi wr => ∃ k : Nat, k ≤ n ∧ vi = .int .i64 k ∧ vl = .bool (turnAny l 1 k) ∧ vr = .bool (turnAny l (-1) k) ∧ Below w.heap.size w wr) (fun _ _ vi _ => n - (intOf vi).toNat)
  case atStart => exact ⟨0, Nat.zero_le _, rfl, rfl, rfl, (by repeat (first | with_reducible exact Below.refl _ _ | with_reducible assumption | with_reducible refine al ?_ _ | with_reducible refine Below.drew ?_ | with_reducible refine Below.setCell ?_ (by first | (simp; done) | (simp; omega)) _ | with_reducible refine tr ?_ (by with_reducible assumption)))⟩
  case round =>
    clear hb1
    obtain ⟨k, hk, rfl, rfl, rfl, hb⟩ := hrel
    by_cases hlt : k < n
    · obtain ⟨b, off, rfl, hab, c0, c1⟩ := (HL.out.below (hb.mono hB)).at_ hlt
      obtain ⟨m1, hm1, hwr1, htm1, hml1⟩ := step_of hlt hn
      obtain ⟨m2, hm2, hwr2, htm2, hml2⟩ := step2_of hlt hn
      obtain ⟨c2, c3⟩ := pts_at (HL.out.below (hb.mono hB)) hml1
      obtain ⟨c4, c5⟩ := pts_at (HL.out.below (hb.mono hB)) hml2
      have hbs := hb.size
      have hbw : b < wr.heap.size := by omega
      have hk0 : (k : Int) < (n : Int) := by omega
      have hk3 : (0 : Int) ≤ (k : Int) + 1 := by omega
      have hk4 : (0 : Int) ≤ (k : Int) + 2 := by omega
      have hn0 : ¬ n = 0 := by omega
      have hml01 : (m1 : Int) < (n : Int) := by omega
      have hml02 : (m2 : Int) < (n : Int) := by omega
      have HT := Lib.hid (fun v => turnAny_succ l v k)
      rw [hln, hm1, hm2] at HT
      have HO := Lib.hid (fun W => rorient_any (pt l k).x (pt l k).y (pt l m1).x (pt l m1).y (pt l m2).x (pt l m2).y W)
      have h3 := orient_three (pt l k) (pt l m1) (pt l m2)
      have eO : orient ⟨(pt l k).x, (pt l k).y⟩ ⟨(pt l m1).x, (pt l m1).y⟩ ⟨(pt l m2).x, (pt l m2).y⟩ = orient (pt l k) (pt l m1) (pt l m2) := rfl
      simp only [eO] at HO
      clear hm1 hm2 eO
      generalize orient (pt l k) (pt l m1) (pt l m2) = o at *
      have t1 : turnAny l 1 (k + 1) = _ := HT.out 1
      have t2 : turnAny l (-1) (k + 1) = _ := HT.out (-1)
      clear HT
      generalize turnAny l 1 k = tl at *
      generalize turnAny l (-1) k = tr_ at *
      rcases h3 with rfl | rfl | rfl <;> cases tl <;> cases tr_
      all_goals
        simp at t1 t2
        go_wp2_with fail
        refine wp_region_belowI (by kernel_rfl) (by kernel_rfl) (fun _ _ d _ _ h => by cases d <;> exact h) ?_
        simp only [List.map_cons, List.map_nil, List.getD_cons_zero, List.getD_cons_succ, bare, gslot, List.getElem?_cons_zero, List.getElem?_cons_succ, Option.bind_some]
        repeat' ((try simp only [Act.put, List.setIfInBounds_toArray, List.set_cons_zero, List.set_cons_succ]); first | (refine lexL_quiet (v := ?_) wantB_none rfl ?_ ?_; rotate_left; focus (intro wq hq; obtain ⟨hcq, hfq⟩ := bcell hq; go_simp; try with_reducible rfl)) | (refine lexL_loud wantB_none rfl (fun K hK => ?_); go_simp; ((first | (go_at_call 80; (with_reducible refine (HO.out _).mono ?_); rintro e w1 ⟨rfl, hb1⟩; obtain ⟨hc1, hf1⟩ := bcell hb1; have hz1 := hb1.size; (try simp at hz1)) | skip) <;> (refine hK.out _ _ (by repeat (first | with_reducible exact Below.refl _ _ | with_reducible assumption | with_reducible refine al ?_ _ | with_reducible refine Below.drew ?_ | with_reducible refine Below.setCell ?_ (by first | (simp; done) | (simp; omega)) _ | with_reducible refine tr ?_ (by with_reducible assumption))) ?_; clear hK K))) | (refine lexL_on ?_ ?_; focus (simp only [List.getElem?_toArray, List.getElem?_cons_succ, List.getElem?_cons_zero, Bool.not_true, Bool.not_false]; done)) | (refine lexL_off ?_ ?_ ?_; (focus (simp only [List.getElem?_toArray, List.getElem?_cons_succ, List.getElem?_cons_zero, Bool.not_true, Bool.not_false]; done)); (focus (exact (by repeat (first | with_reducible exact Below.refl _ _ | with_reducible assumption | with_reducible refine al ?_ _ | with_reducible refine Below.drew ?_ | with_reducible refine Below.setCell ?_ (by first | (simp; done) | (simp; omega)) _ | with_reducible refine tr ?_ (by with_reducible assumption)))))) | (refine lexL_splitS (X := ?_) ?_ ?_ (fun hg => ?_) (fun hg => ?_); rotate_left; (focus (simp only [List.getElem?_toArray, List.getElem?_cons_succ, List.getElem?_cons_zero]; with_reducible rfl)); (focus (exact (by repeat (first | with_reducible exact Below.refl _ _ | with_reducible assumption | with_reducible refine al ?_ _ | with_reducible refine Below.drew ?_ | with_reducible refine Below.setCell ?_ (by first | (simp; done) | (simp; omega)) _ | with_reducible refine tr ?_ (by with_reducible assumption))))); all_goals (try simp only [Bool.not_true, Bool.not_false] at hg)))
        (all_goals try simp only [Act.put, List.setIfInBounds_toArray, List.set_cons_zero, List.set_cons_succ]); all_goals (refine lexL_nil ?_)
        go_wp2
        go_roundw
        case rel => exact ⟨k + 1, by omega, by go_num, by rw [t1], by rw [t2], (by repeat (first | with_reducible exact Below.refl _ _ | with_reducible assumption | with_reducible refine al ?_ _ | with_reducible refine Below.drew ?_ | with_reducible refine Below.setCell ?_ (by first | (simp; done) | (simp; omega)) _ | with_reducible refine tr ?_ (by with_reducible assumption)))⟩
        case measure => simp [intOf]; omega
    · obtain rfl : n = k := by omega
      clear hlt
      generalize turnAny l 1 n = a at *
      generalize turnAny l (-1) n = b at *
      cases a <;> cases b
      all_goals
        go_wp2
        go_ret
        exact ⟨by rw [HR.out]; rfl, (by repeat (first | with_reducible exact Below.refl _ _ | with_reducible assumption | with_reducible refine al ?_ _ | with_reducible refine Below.drew ?_ | with_reducible refine Below.setCell ?_ (by first | (simp; done) | (simp; omega)) _ | with_reducible refine tr ?_ (by with_reducible assumption)))⟩

set_option maxHeartbeats 4000000 in
set_option maxRecDepth 20000 in
theorem rfar_any (B n c : Nat) (way : Int) (hway : way = 1 ∨ way = -1) (A : Option Addr) (l : List Pt) (w : World) (hl : PtsAt w B A n l) (hB : B ≤ w.heap.size) (hn : n ≤ 1000000) :
    Calls Tryz.prog 29 #[.slice A n c, .int .i64 way] w fun e w' => ∃ (i j : Nat) (d : Fr), e = .returned (.tuple #[.int .i64 i, .int .i64 j, fV d, .int .i64 (hullCk l 2).1, .int .i64 (hullCk l 2).2]) ∧ ((hullCk l 2).1 ≠ 0 → i = 0 ∧ j = 0 ∧ d = ⟨0, 0⟩) ∧ ((hullCk l 2).1 = 0 → (⟨i, j, d⟩ : PSt) = pairS l way) ∧ Below w.heap.size w w' := by
  have HCK := Lib.hid (fun W hW => rmany2_any B n c A l W (hl.tr hW hB) (Nat.le_trans hB (Below.size (B := w.heap.size) (w := w) hW)) hn)
  by_cases h0 : (hullCk l 2).1 = 0
  case neg =>
    obtain ⟨ck, hck⟩ : ∃ r, hullCk l 2 = r := ⟨_, rfl⟩
    simp only [hck] at HCK h0 ⊢
    obtain ⟨k, i⟩ := ck
    simp only at h0 HCK ⊢
    have h01 : ¬ (k : Int) = 0 := by omega
    clear hl hck
    go_enter Tryz.func29, Tryz.ntmps29
    go_wp2_with (go_at_call 74; (with_reducible refine (HCK.out _ (by repeat (first | with_reducible exact Below.refl _ _ | with_reducible assumption | with_reducible refine al ?_ _ | with_reducible refine Below.drew ?_ | with_reducible refine Below.setCell ?_ (by first | (simp; done) | (simp; omega)) _ | with_reducible refine tr ?_ (by with_reducible assumption)))).mono ?_); rintro e w1 ⟨rfl, hb1⟩; have hR1 : Blk w1 w.heap.size 40 #[.int .u64 0, .int .u64 0, .int .u64 0] := (by repeat (first | with_reducible assumption | with_reducible exact Blk.new (by simp) rfl | with_reducible refine Blk.alloc ?_ _ | with_reducible refine Blk.drew ?_ | with_reducible refine Blk.far ?_ (by first | (simp; done) | (simp; omega)) _ | with_reducible refine Blk.tr ?_ (by with_reducible assumption))); have cR := hR1.cell; have fR := hR1.frozen; have lR := hR1.lt)
    refine post_gen2 (R := fun w2 => Blk w2 w.heap.size 40 #[.int .u64 0, .int .u64 0, .int .u64 0] ∧ Below w.heap.size w w2) ⟨?_, (by repeat (first | with_reducible exact Below.refl _ _ | with_reducible assumption | with_reducible refine al ?_ _ | with_reducible refine Below.drew ?_ | with_reducible refine Below.setCell ?_ (by first | (simp; done) | (simp; omega)) _ | with_reducible refine tr ?_ (by with_reducible assumption)))⟩ ?_
    · exact three_put (x := .int .u64 0) (y := .int .u64 0) (z := .int .u64 0) (by repeat (first | with_reducible assumption | with_reducible exact Blk.new (by simp) rfl | with_reducible refine Blk.alloc ?_ _ | with_reducible refine Blk.drew ?_ | with_reducible refine Blk.far ?_ (by first | (simp; done) | (simp; omega)) _ | with_reducible refine Blk.tr ?_ (by with_reducible assumption)))
    rintro w2 ⟨HR, hb2⟩
    have r0 := HR.cell 0
    have r1 := HR.cell 1
    have r2 := HR.cell 2
    simp only [List.getElem?_toArray, List.getElem?_cons_zero, List.getElem?_cons_succ] at r0 r1 r2
    exact bodyPost_ret (v := .tuple #[.int .i64 0, .int .i64 0, fV ⟨0, 0⟩, .int .i64 k, .int .i64 i]) (by simp [results, Tryz.results29, go_sem, r0, r1, r2]) rfl ⟨0, 0, ⟨0, 0⟩, rfl, fun _ => ⟨rfl, rfl, rfl⟩, fun h => absurd h h0, hb2⟩
  have hi0 : (hullCk l 2).2 = 0 := by
    unfold hullCk at h0 ⊢
    split at h0
    · cases h0
    · split at h0
      · cases h0
      · rename_i c1 c2
        rw [if_neg c1, if_neg c2]
        cases e : firstBad l with
        | some i => rw [e] at h0; cases h0
        | none => rfl
  obtain ⟨hn2, hokl⟩ := hullCk_ok (l := l) (least := 2) h0
  rw [h0, hi0] at HCK ⊢
  have hfe := far_eq (way := way) hn2
  have hln := hl.1
  rw [hln] at hn2 hfe
  have HL := Lib.hid hl
  have HOK := Lib.hid hokl
  clear hl hokl h0 hi0
  have hF0 : sqP (pt l 0) (pt l 1) = ⟨(sqP (pt l 0) (pt l 1)).num, 1⟩ := sqP_eta _ _
  obtain ⟨N0, hN0⟩ : ∃ N, (sqP (pt l 0) (pt l 1)).num = N := ⟨_, rfl⟩
  rw [hN0] at hF0
  have HSq0 : Hid (∀ w', Calls Tryz.prog 22 #[ptV (pt l 0).x (pt l 0).y, ptV (pt l 1).x (pt l 1).y] w' (Ret w' (fV ⟨N0, 1⟩))) := fun w' => by
    have h := rsquare_ok (pt l 0) (pt l 1) (HOK.out 0 (by omega)) (HOK.out 1 (by omega)) w'
    rw [← hF0]
    exact h
  obtain ⟨u1, hu1⟩ : ∃ x, N0 / 18446744073709551616 = x := ⟨_, rfl⟩
  obtain ⟨u2, hu2⟩ : ∃ x, N0 % 18446744073709551616 = x := ⟨_, rfl⟩
  have hV0 : fV ⟨N0, 1⟩ = .agg #[.int .u64 (u1 : Nat), .int .u64 (u2 : Nat), .int .u64 1] := by unfold fV; rw [hu1, hu2]; rfl
  rw [hV0] at HSq0
  have hfI : frcells (farI l).d = #[.int .u64 (u1 : Nat), .int .u64 (u2 : Nat), .int .u64 1] := by unfold frcells farI; rw [hF0]; simp only; rw [hu1, hu2]; rfl
  clear hV0 hu1 hu2 hN0
  obtain ⟨bA, off, rfl, hab, _, _⟩ := HL.out.at_ (show 0 < n by omega)
  have hn01 : (0 : Int) < (n : Int) := by omega
  have hn02 : (1 : Int) < (n : Int) := by omega
  have hn03 : 0 < n := by omega
  have hn04 : 1 < n := by omega
  go_enter Tryz.func29, Tryz.ntmps29
  go_wp2_with (go_at_call 74; (with_reducible refine (HCK.out _ (by repeat (first | with_reducible exact Below.refl _ _ | with_reducible assumption | with_reducible refine al ?_ _ | with_reducible refine Below.drew ?_ | with_reducible refine Below.setCell ?_ (by first | (simp; done) | (simp; omega)) _ | with_reducible refine tr ?_ (by with_reducible assumption)))).mono ?_); rintro e w1 ⟨rfl, hb1⟩; have hR1 : Blk w1 w.heap.size 40 #[.int .u64 0, .int .u64 0, .int .u64 0] := (by repeat (first | with_reducible assumption | with_reducible exact Blk.new (by simp) rfl | with_reducible refine Blk.alloc ?_ _ | with_reducible refine Blk.drew ?_ | with_reducible refine Blk.far ?_ (by first | (simp; done) | (simp; omega)) _ | with_reducible refine Blk.tr ?_ (by with_reducible assumption))); have hP1 : PtsAt w1 B (some ⟨bA, off, none⟩) n l := HL.out.tr (by repeat (first | with_reducible exact Below.refl _ _ | with_reducible assumption | with_reducible refine al ?_ _ | with_reducible refine Below.drew ?_ | with_reducible refine Below.setCell ?_ (by first | (simp; done) | (simp; omega)) _ | with_reducible refine tr ?_ (by with_reducible assumption))) hB; have hb0 : Below w.heap.size w w1 := (by repeat (first | with_reducible exact Below.refl _ _ | with_reducible assumption | with_reducible refine al ?_ _ | with_reducible refine Below.drew ?_ | with_reducible refine Below.setCell ?_ (by first | (simp; done) | (simp; omega)) _ | with_reducible refine tr ?_ (by with_reducible assumption))))
  obtain ⟨a0, a1⟩ := pts_at hP1 (show 0 < n by omega)
  obtain ⟨d0, d1⟩ := pts_at hP1 (show 1 < n by omega)
  simp only [Nat.zero_mul, Nat.add_zero, Nat.one_mul] at a0 a1 d0 d1
  have hbw : bA < w1.heap.size := by have := hb0.size; omega
  have lR1 := hR1.lt
  clear hb1 HCK hP1
  refine wp_region_alloc' [0, 1, 2, 3, 4, 5, 6] [7] [8] (fun _ => #[.int .u64 0, .int .u64 0, .int .u64 0]) (by kernel_rfl) (by kernel_rfl) (fun _ _ d _ _ h => by cases d <;> exact h) (by intro i hi w; simp only [List.mem_cons, List.not_mem_nil, or_false] at hi; rcases hi with rfl <;> simp only [List.getD_cons_zero, List.getD_cons_succ, tyOf] <;> kernel_rfl) (fun KN hKN => ?_)
  simp only [List.map_cons, List.map_nil, List.getD_cons_zero, List.getD_cons_succ, bare, gslot, List.getElem?_cons_zero, List.getElem?_cons_succ, Option.bind_some]
  repeat ((try simp only [Act.put, List.setIfInBounds_toArray, List.set_cons_zero, List.set_cons_succ]); first | (refine lexN_quiet (v := ?_) rfl ?_ ?_; rotate_left; focus (intro wq hq; obtain ⟨hcq, hfq⟩ := bcell hq; go_simp; try with_reducible rfl)) | (refine lexN_loud (v := ?_) rfl ?_ ?_; rotate_left; focus (intro wq hq K hK; obtain ⟨hcq, hfq⟩ := bcell hq; go_simp; (first | (go_at_call 22; (with_reducible refine (HSq0.out _).mono ?_); rintro e w1 ⟨rfl, hb1⟩; obtain ⟨hc1, hf1⟩ := bcell hb1; have hz1 := hb1.size; (try simp at hz1))); refine hK.out _ _ ?_ (by repeat (first | with_reducible exact Below.refl _ _ | with_reducible assumption | with_reducible refine al ?_ _ | with_reducible refine Below.drew ?_ | with_reducible refine Below.setCell ?_ (by first | (simp; done) | (simp; omega)) _ | with_reducible refine tr ?_ (by with_reducible assumption))); simp only [Act.put, List.setIfInBounds_toArray, List.set_cons_zero, List.set_cons_succ]; try with_reducible rfl)))
  (try simp only [Act.put, List.setIfInBounds_toArray, List.set_cons_zero, List.set_cons_succ])
  refine lexN_nil (hKN.out _ ?_)
  clear hKN KN
  intro gs wf hwf hgs hds
  simp only [List.map_cons, List.map_nil, List.getD_cons_zero, List.getD_cons_succ, bare, gslot, List.getElem?_cons_zero, List.getElem?_cons_succ, Option.bind_some, List.foldl_cons, List.foldl_nil, ptrV]
  obtain ⟨hg7, HB7⟩ := hgs 7 (by decide)
  simp only [List.getD_cons_zero, List.getD_cons_succ, tyOf] at HB7
  clear hgs hds
  generalize gs 7 = g7 at *
  have cg7 := HB7.cell
  have fg7 := HB7.frozen
  repeat ((try simp only [Act.put, List.setIfInBounds_toArray, List.set_cons_zero, List.set_cons_succ]); first | (refine lexL_loud wantB_none rfl (fun K hK => ?_); go_simp; refine hK.out _ _ (by repeat (first | with_reducible exact Below.refl _ _ | with_reducible assumption | with_reducible refine al ?_ _ | with_reducible refine Below.drew ?_ | with_reducible refine Below.setCell ?_ (by first | (simp; done) | (simp; omega)) _ | with_reducible refine tr ?_ (by with_reducible assumption))) ?_; clear hK K) | (refine lexL_quiet (v := ?_) wantB_none rfl ?_ ?_; rotate_left; focus (intro wq hq; go_simp; try with_reducible rfl)))
  refine lexL_nil ?_
  refine keep_world (R := fun w2 => Below w.heap.size w w2 ∧ Blk w2 g7 40 #[.int .u64 u1, .int .u64 u2, .int .u64 1] ∧ Blk w2 w.heap.size 40 #[.int .u64 0, .int .u64 0, .int .u64 0]) ⟨(by repeat (first | with_reducible exact Below.refl _ _ | with_reducible assumption | with_reducible refine al ?_ _ | with_reducible refine Below.drew ?_ | with_reducible refine Below.setCell ?_ (by first | (simp; done) | (simp; omega)) _ | with_reducible refine tr ?_ (by with_reducible assumption))), (((HB7.set_ 0 _).set_ 1 _).set_ 2 _).eq_ (by simp), (by repeat (first | with_reducible assumption | with_reducible exact Blk.new (by simp) rfl | with_reducible refine Blk.alloc ?_ _ | with_reducible refine Blk.drew ?_ | with_reducible refine Blk.far ?_ (by first | (simp; done) | (simp; omega)) _ | with_reducible refine Blk.tr ?_ (by with_reducible assumption)))⟩ ?_
  rintro w2 ⟨hb2, h7, hE0⟩
  clear cg7 fg7 HB7
  have cg7 := h7.cell
  have fg7 := h7.frozen
  have lg7 := h7.lt
  obtain ⟨hc2, hf2⟩ := bcell hb2
  clear a0 a1 d0 d1
  have hb2' : Below w.heap.size w w2 := (by repeat (first | with_reducible exact Below.refl _ _ | with_reducible assumption | with_reducible refine al ?_ _ | with_reducible refine Below.drew ?_ | with_reducible refine Below.setCell ?_ (by first | (simp; done) | (simp; omega)) _ | with_reducible refine tr ?_ (by with_reducible assumption)))
  have hg7w : w.heap.size < g7 := by omega
  have hg7n : g7 ≠ w.heap.size := by omega
  have hfq : ∀ k b, FrOk (stQ l way n k b).d := fun k b => by
    unfold stQ
    have hall : ∀ j, okPt (pt l j) = true := fun j => by
      rcases Nat.lt_or_ge j l.length with h | h
      · exact HOK.out j h
      · rw [pt_out h]; decide
    exact fold_frok hall way _ _ (fold_frok hall way _ _ (frok_sq (hall 0) (hall 1)))
  go_wp2
  go_loopw [11, 12, 14] (fun vi vj vk wr => ∃ k : Nat, k ≤ n ∧ vk = .int .i64 k ∧ vi = .int .i64 (((pairsTo n k).foldl (pstep l way) (farI l)).i : Nat) ∧ vj = .int .i64 (((pairsTo n k).foldl (pstep l way) (farI l)).j : Nat) ∧ Blk wr g7 40 (frcells ((pairsTo n k).foldl (pstep l way) (farI l)).d) ∧ Blk wr w.heap.size 40 #[.int .u64 0, .int .u64 0, .int .u64 0] ∧ Below w.heap.size w wr) (fun _ _ vk _ => n - (intOf vk).toNat)
  case atStart => exact ⟨0, by omega, rfl, rfl, rfl, by rw [show (pairsTo n 0).foldl (pstep l way) (farI l) = farI l from rfl, hfI]; exact h7, hE0, hb2'⟩
  case round =>
    clear h7 hE0 hb2' hb2
    obtain ⟨k, hk, rfl, rfl, rfl, hR, hZ, hb⟩ := hrel
    by_cases hlt : k < n
    · have hk0 : (k : Int) < (n : Int) := by omega
      have es := (stQ_start l way n k).symm
      rw [es] at hR ⊢
      clear es
      go_wp2
      go_loopw [11, 12, 15] (fun vi vj vb wr => ∃ b : Nat, k + 1 ≤ b ∧ b ≤ n ∧ vb = .int .i64 b ∧ vi = .int .i64 ((stQ l way n k b).i : Nat) ∧ vj = .int .i64 ((stQ l way n k b).j : Nat) ∧ Blk wr g7 40 (frcells (stQ l way n k b).d) ∧ Blk wr w.heap.size 40 #[.int .u64 0, .int .u64 0, .int .u64 0] ∧ Below w.heap.size w wr) (fun _ _ vb _ => n - (intOf vb).toNat)
      case atStart => exact ⟨k + 1, Nat.le_refl _, by omega, by go_num, rfl, rfl, hR, hZ, hb⟩
      case round =>
        clear hR hZ hb
        obtain ⟨b, hkb, hbn, rfl, rfl, rfl, hR, hZ, hb⟩ := hrel
        by_cases hlt2 : b < n
        · have hb0 : (b : Int) < (n : Int) := by omega
          obtain ⟨a0, a1⟩ := pts_at (HL.out.below (hb.mono hB)) hlt
          obtain ⟨d0, d1⟩ := pts_at (HL.out.below (hb.mono hB)) hlt2
          have ok1 := HOK.out k (by omega)
          have ok2 := HOK.out b (by omega)
          obtain ⟨p, hp⟩ : ∃ p, pt l k = p := ⟨_, rfl⟩
          obtain ⟨q, hq⟩ : ∃ q, pt l b = q := ⟨_, rfl⟩
          have est := stQ_step l way n k b hkb
          unfold pstep at est
          simp only [hp, hq] at est
          rw [hp] at a0 a1 ok1
          rw [hq] at d0 d1 ok2
          obtain ⟨N, hN⟩ : ∃ N, (sqP p q).num = N := ⟨_, rfl⟩
          have hsq : sqP p q = ⟨N, 1⟩ := by rw [← hN]; exact sqP_eta _ _
          have HSq : Hid (∀ w', Calls Tryz.prog 22 #[ptV p.x p.y, ptV q.x q.y] w' (Ret w' (fV ⟨N, 1⟩))) := fun w' => by
            have h := rsquare_ok p q ok1 ok2 w'
            rw [← hsq]
            exact h
          have HST := Lib.hid est
          have FOK1 : FrOk (sqP p q) := frok_sq ok1 ok2
          have FOK2 : FrOk (stQ l way n k b).d := hfq k b
          have hbw : bA < wr.heap.size := by have := hb.size; omega
          clear est hp hq ok1 ok2
          have hj0 := stQ_j l way n k b
          generalize stQ l way n k b = st at *
          unfold frcells at hR
          have lR := hR.lt
          obtain ⟨x1, hx1⟩ : ∃ x, N / 18446744073709551616 = x := ⟨_, rfl⟩
          obtain ⟨x2, hx2⟩ : ∃ x, N % 18446744073709551616 = x := ⟨_, rfl⟩
          obtain ⟨y1, hy1⟩ : ∃ x, st.d.num / 18446744073709551616 = x := ⟨_, rfl⟩
          obtain ⟨y2, hy2⟩ : ∃ x, st.d.num % 18446744073709551616 = x := ⟨_, rfl⟩
          obtain ⟨y3, hy3⟩ : ∃ x, st.d.den = x := ⟨_, rfl⟩
          rw [hy1, hy2, hy3] at hR
          have HSq2 : Hid (∀ w', Calls Tryz.prog 22 #[ptV p.x p.y, ptV q.x q.y] w' (Ret w' (.agg #[.int .u64 (x1 : Nat), .int .u64 (x2 : Nat), .int .u64 1]))) := fun w' => by
            have h := HSq.out w'
            unfold fV at h
            rw [hx1, hx2] at h
            exact h
          have HX := Lib.hid (And.intro hx1 (And.intro hx2 (And.intro hy1 (And.intro hy2 hy3))))
          have lZ := hZ.lt
          clear hx1 hx2 hy1 hy2 hy3 HSq
          go_wp2_with fail
          refine wp_region_alloc' [0, 1, 2, 3, 4, 5, 6, 7, 8] [9] [10] (fun _ => #[.int .u64 0, .int .u64 0, .int .u64 0]) (by kernel_rfl) (by kernel_rfl) (fun _ _ d _ _ h => by cases d <;> exact h) (by intro i hi w; simp only [List.mem_cons, List.not_mem_nil, or_false] at hi; rcases hi with rfl <;> simp only [List.getD_cons_zero, List.getD_cons_succ, tyOf] <;> kernel_rfl) (fun KN hKN => ?_)
          simp only [List.map_cons, List.map_nil, List.getD_cons_zero, List.getD_cons_succ, bare, gslot, List.getElem?_cons_zero, List.getElem?_cons_succ, Option.bind_some]
          repeat ((try simp only [Act.put, List.setIfInBounds_toArray, List.set_cons_zero, List.set_cons_succ]); first | (refine lexN_quiet (v := ?_) rfl ?_ ?_; rotate_left; focus (intro wq hq; obtain ⟨hcq, hfq⟩ := bcell hq; go_simp; try with_reducible rfl)) | (refine lexN_loud (v := ?_) rfl ?_ ?_; rotate_left; focus (intro wq hq K hK; obtain ⟨hcq, hfq⟩ := bcell hq; go_simp; (first | (go_at_call 22; (with_reducible refine (HSq2.out _).mono ?_); rintro e w1 ⟨rfl, hb1⟩; obtain ⟨hc1, hf1⟩ := bcell hb1; have hz1 := hb1.size; (try simp at hz1))); refine hK.out _ _ ?_ (by repeat (first | with_reducible exact Below.refl _ _ | with_reducible assumption | with_reducible refine al ?_ _ | with_reducible refine Below.drew ?_ | with_reducible refine Below.setCell ?_ (by first | (simp; done) | (simp; omega)) _ | with_reducible refine tr ?_ (by with_reducible assumption))); simp only [Act.put, List.setIfInBounds_toArray, List.set_cons_zero, List.set_cons_succ]; try with_reducible rfl)))
          (try simp only [Act.put, List.setIfInBounds_toArray, List.set_cons_zero, List.set_cons_succ])
          refine lexN_nil (hKN.out _ ?_)
          clear hKN KN
          intro gs wf hwf hgs hds
          simp only [List.map_cons, List.map_nil, List.getD_cons_zero, List.getD_cons_succ, bare, gslot, List.getElem?_cons_zero, List.getElem?_cons_succ, Option.bind_some, List.foldl_cons, List.foldl_nil, ptrV]
          obtain ⟨hg9, HB9⟩ := hgs 9 (by decide)
          simp only [List.getD_cons_zero, List.getD_cons_succ, tyOf] at HB9
          clear hgs hds
          generalize gs 9 = g9 at *
          have cg9 := HB9.cell
          have fg9 := HB9.frozen
          repeat ((try simp only [Act.put, List.setIfInBounds_toArray, List.set_cons_zero, List.set_cons_succ]); first | (refine lexL_loud wantB_none rfl (fun K hK => ?_); go_simp; refine hK.out _ _ (by repeat (first | with_reducible exact Below.refl _ _ | with_reducible assumption | with_reducible refine al ?_ _ | with_reducible refine Below.drew ?_ | with_reducible refine Below.setCell ?_ (by first | (simp; done) | (simp; omega)) _ | with_reducible refine tr ?_ (by with_reducible assumption))) ?_; clear hK K) | (refine lexL_quiet (v := ?_) wantB_none rfl ?_ ?_; rotate_left; focus (intro wq hq; go_simp; try with_reducible rfl)))
          refine lexL_nil ?_
          refine keep_world (R := fun w2 => Below w.heap.size w w2 ∧ Blk w2 g9 40 #[.int .u64 x1, .int .u64 x2, .int .u64 1] ∧ Blk w2 g7 40 #[.int .u64 y1, .int .u64 y2, .int .u64 y3] ∧ Blk w2 w.heap.size 40 #[.int .u64 0, .int .u64 0, .int .u64 0]) ⟨(by repeat (first | with_reducible exact Below.refl _ _ | with_reducible assumption | with_reducible refine al ?_ _ | with_reducible refine Below.drew ?_ | with_reducible refine Below.setCell ?_ (by first | (simp; done) | (simp; omega)) _ | with_reducible refine tr ?_ (by with_reducible assumption))), (((HB9.set_ 0 _).set_ 1 _).set_ 2 _).eq_ (by simp), (by repeat (first | with_reducible assumption | with_reducible exact Blk.new (by simp) rfl | with_reducible refine Blk.alloc ?_ _ | with_reducible refine Blk.drew ?_ | with_reducible refine Blk.far ?_ (by first | (simp; done) | (simp; omega)) _ | with_reducible refine Blk.tr ?_ (by with_reducible assumption))), (by repeat (first | with_reducible assumption | with_reducible exact Blk.new (by simp) rfl | with_reducible refine Blk.alloc ?_ _ | with_reducible refine Blk.drew ?_ | with_reducible refine Blk.far ?_ (by first | (simp; done) | (simp; omega)) _ | with_reducible refine Blk.tr ?_ (by with_reducible assumption)))⟩ ?_
          rintro w2 ⟨hb2, h9, hE0, hE1⟩
          clear cg9 fg9 HB9
          have cg9 := h9.cell
          have fg9 := h9.frozen
          have lg9 := h9.lt
          obtain ⟨hc2, hf2⟩ := bcell hb2
          clear a0 a1 d0 d1
          have cR := hE0.cell
          have fR := hE0.frozen
          have lR2 := hE0.lt
          have hn9 : g9 ≠ g7 := by intro e; subst e; have := hE0; have h9' := h9; omega
          obtain ⟨C, hC⟩ : ∃ C, cmpF (sqP p q) st.d = C := ⟨_, rfl⟩
          have HCm : Hid (∀ w', Calls Tryz.prog 24 #[.agg #[.int .u64 (x1 : Nat), .int .u64 (x2 : Nat), .int .u64 1], .agg #[.int .u64 (y1 : Nat), .int .u64 (y2 : Nat), .int .u64 (y3 : Nat)]] w' (Ret w' (.int .i64 C))) := fun w' => by
            have h := rCmpD_any (sqP p q) st.d FOK1 FOK2 w'
            unfold fV at h
            rw [hC, hN, HX.out.1, HX.out.2.1, HX.out.2.2.1, HX.out.2.2.2.1, HX.out.2.2.2.2] at h
            exact h
          have hC3 : C = -1 ∨ C = 0 ∨ C = 1 := by rw [← hC]; exact cmpF_three _ _
          have hfr : frcells (sqP p q) = #[.int .u64 (x1 : Nat), .int .u64 (x2 : Nat), .int .u64 1] := by
            unfold frcells
            rw [hN, HX.out.1, HX.out.2.1]
            rfl
          by_cases hCw : C = way
          · have hst : stQ l way n k (b + 1) = ⟨k, b, sqP p q⟩ := by
              rw [HST.out, if_pos (.inr (by rw [hC, hCw]; rcases hway with rfl | rfl <;> decide))]
            have HCW := Lib.hid hCw
            clear hC3
            subst hCw
            go_wp2_with (go_at_call 24; (with_reducible refine (HCm.out _).mono ?_); rintro e w5 ⟨rfl, hb5⟩; have h95 : Blk w5 g9 40 #[.int .u64 x1, .int .u64 x2, .int .u64 1] := (by repeat (first | with_reducible assumption | with_reducible exact Blk.new (by simp) rfl | with_reducible refine Blk.alloc ?_ _ | with_reducible refine Blk.drew ?_ | with_reducible refine Blk.far ?_ (by first | (simp; done) | (simp; omega)) _ | with_reducible refine Blk.tr ?_ (by with_reducible assumption))); have c95 := h95.cell; have l95 := h95.lt; have hR5 : Blk w5 g7 40 #[.int .u64 y1, .int .u64 y2, .int .u64 y3] := (by repeat (first | with_reducible assumption | with_reducible exact Blk.new (by simp) rfl | with_reducible refine Blk.alloc ?_ _ | with_reducible refine Blk.drew ?_ | with_reducible refine Blk.far ?_ (by first | (simp; done) | (simp; omega)) _ | with_reducible refine Blk.tr ?_ (by with_reducible assumption))); have hZ5 : Blk w5 w.heap.size 40 #[.int .u64 0, .int .u64 0, .int .u64 0] := (by repeat (first | with_reducible assumption | with_reducible exact Blk.new (by simp) rfl | with_reducible refine Blk.alloc ?_ _ | with_reducible refine Blk.drew ?_ | with_reducible refine Blk.far ?_ (by first | (simp; done) | (simp; omega)) _ | with_reducible refine Blk.tr ?_ (by with_reducible assumption))); have cR5 := hR5.cell; have fR5 := hR5.frozen; have lR5 := hR5.lt; have hz5 := hb5.size; (try simp at hz5))
            refine wp_region_away (g7) [0, 1, 2, 3, 4, 5] (by kernel_rfl) (by kernel_rfl) (fun _ _ d _ _ h => by cases d <;> exact h) ?_
            simp only [List.map_cons, List.map_nil, List.getD_cons_zero, List.getD_cons_succ, bare, gslot, List.getElem?_cons_zero, List.getElem?_cons_succ, Option.bind_some]
            repeat' ((try simp only [Act.put, List.setIfInBounds_toArray, List.set_cons_zero, List.set_cons_succ]); first | (refine lexL_quiet (v := ?_) wantB_none rfl ?_ ?_; rotate_left; focus (intro wq hq; obtain ⟨hcq, hfq⟩ := acell hq; go_simp; try with_reducible rfl)) | (refine lexL_loud wantB_none rfl (fun K hK => ?_); go_simp; ((first | fail | skip) <;> (refine hK.out _ _ (by repeat (first | with_reducible exact Away.refl _ _ | with_reducible assumption | with_reducible refine Away.drew ?_ | with_reducible refine Away.put ?_ _ _ | with_reducible refine Away.alloc ?_ _ | with_reducible refine Away.below ?_ (by with_reducible assumption))) ?_; clear hK K))) | (refine lexL_on ?_ ?_; focus (simp only [List.getElem?_toArray, List.getElem?_cons_succ, List.getElem?_cons_zero, Bool.not_true, Bool.not_false]; done)) | (refine lexL_off ?_ ?_ ?_; (focus (simp only [List.getElem?_toArray, List.getElem?_cons_succ, List.getElem?_cons_zero, Bool.not_true, Bool.not_false]; done)); (focus (exact (by repeat (first | with_reducible exact Away.refl _ _ | with_reducible assumption | with_reducible refine Away.drew ?_ | with_reducible refine Away.put ?_ _ _ | with_reducible refine Away.alloc ?_ _ | with_reducible refine Away.below ?_ (by with_reducible assumption)))))) | (refine lexL_splitS (X := ?_) ?_ ?_ (fun hg => ?_) (fun hg => ?_); rotate_left; (focus (simp only [List.getElem?_toArray, List.getElem?_cons_succ, List.getElem?_cons_zero]; with_reducible rfl)); (focus (exact (by repeat (first | with_reducible exact Away.refl _ _ | with_reducible assumption | with_reducible refine Away.drew ?_ | with_reducible refine Away.put ?_ _ _ | with_reducible refine Away.alloc ?_ _ | with_reducible refine Away.below ?_ (by with_reducible assumption))))); all_goals (try simp only [Bool.not_true, Bool.not_false] at hg)))
            (all_goals try simp only [Act.put, List.setIfInBounds_toArray, List.set_cons_zero, List.set_cons_succ]); all_goals (refine lexL_nil ?_)
            refine PgG.keep_world (R := fun w3 => Blk w3 g7 40 #[.int .u64 x1, .int .u64 x2, .int .u64 1] ∧ Blk w3 w.heap.size 40 #[.int .u64 0, .int .u64 0, .int .u64 0] ∧ Below w.heap.size w w3) ⟨?_, (by repeat (first | with_reducible assumption | with_reducible exact Blk.new (by simp) rfl | with_reducible refine Blk.alloc ?_ _ | with_reducible refine Blk.drew ?_ | with_reducible refine Blk.far ?_ (by first | (simp; done) | (simp; omega)) _ | with_reducible refine Blk.tr ?_ (by with_reducible assumption))), (by repeat (first | with_reducible exact Below.refl _ _ | with_reducible assumption | with_reducible refine al ?_ _ | with_reducible refine Below.drew ?_ | with_reducible refine Below.setCell ?_ (by first | (simp; done) | (simp; omega)) _ | with_reducible refine tr ?_ (by with_reducible assumption)))⟩ ?_
            · exact three_put (x := .int .u64 y1) (y := .int .u64 y2) (z := .int .u64 y3) (by repeat (first | with_reducible assumption | with_reducible exact Blk.new (by simp) rfl | with_reducible refine Blk.alloc ?_ _ | with_reducible refine Blk.drew ?_ | with_reducible refine Blk.far ?_ (by first | (simp; done) | (simp; omega)) _ | with_reducible refine Blk.tr ?_ (by with_reducible assumption)))
            rintro w3 ⟨hR3, hZ3, hb3⟩
            go_wp2
            go_roundw
            case rel => exact ⟨b + 1, by omega, by omega, by go_num, by rw [hst], by rw [hst], by rw [hst]; rw [hfr]; exact hR3, hZ3, hb3⟩
            case measure => simp [intOf]; omega
          · have hst : stQ l way n k (b + 1) = st := by
              rw [HST.out, if_neg ?_]
              rintro (h | h)
              · exact hj0 h
              · rw [hC] at h
                rcases hway with rfl | rfl <;> rcases hC3 with rfl | rfl | rfl <;> first | exact (hCw rfl).elim | exact absurd h (by decide)
            have hfr2 : frcells st.d = #[.int .u64 (y1 : Nat), .int .u64 (y2 : Nat), .int .u64 (y3 : Nat)] := by
              unfold frcells
              rw [HX.out.2.2.1, HX.out.2.2.2.1, HX.out.2.2.2.2]
            go_wp2_with (go_at_call 24; (with_reducible refine (HCm.out _).mono ?_); rintro e w5 ⟨rfl, hb5⟩; obtain ⟨hc5, hf5⟩ := bcell hb5; have hz5 := hb5.size; (try simp at hz5))
            go_roundw
            case rel => exact ⟨b + 1, by omega, by omega, by go_num, by rw [hst], by rw [hst], by rw [hst, hfr2]; exact (by repeat (first | with_reducible assumption | with_reducible exact Blk.new (by simp) rfl | with_reducible refine Blk.alloc ?_ _ | with_reducible refine Blk.drew ?_ | with_reducible refine Blk.far ?_ (by first | (simp; done) | (simp; omega)) _ | with_reducible refine Blk.tr ?_ (by with_reducible assumption))), (by repeat (first | with_reducible assumption | with_reducible exact Blk.new (by simp) rfl | with_reducible refine Blk.alloc ?_ _ | with_reducible refine Blk.drew ?_ | with_reducible refine Blk.far ?_ (by first | (simp; done) | (simp; omega)) _ | with_reducible refine Blk.tr ?_ (by with_reducible assumption))), (by repeat (first | with_reducible exact Below.refl _ _ | with_reducible assumption | with_reducible refine al ?_ _ | with_reducible refine Below.drew ?_ | with_reducible refine Below.setCell ?_ (by first | (simp; done) | (simp; omega)) _ | with_reducible refine tr ?_ (by with_reducible assumption)))⟩
            case measure => simp [intOf]; omega
        · obtain rfl : n = b := by omega
          have es := stQ_end l way n k
          clear hlt2
          go_wp2
          go_roundw
          case rel => exact ⟨k + 1, by omega, by go_num, by rw [es], by rw [es], by rw [← es]; exact hR, hZ, hb⟩
          case measure => simp [intOf]; omega
    · obtain rfl : n = k := by omega
      rw [hfe] at hR ⊢
      clear HOK HL
      obtain ⟨st, hst⟩ : ∃ s, pairS l way = s := ⟨_, rfl⟩
      rw [hst] at hR ⊢
      unfold frcells at hR
      obtain ⟨y1, hy1⟩ : ∃ x, st.d.num / 18446744073709551616 = x := ⟨_, rfl⟩
      obtain ⟨y2, hy2⟩ : ∃ x, st.d.num % 18446744073709551616 = x := ⟨_, rfl⟩
      obtain ⟨y3, hy3⟩ : ∃ x, st.d.den = x := ⟨_, rfl⟩
      rw [hy1, hy2, hy3] at hR
      have hfV : fV st.d = .agg #[.int .u64 (y1 : Nat), .int .u64 (y2 : Nat), .int .u64 (y3 : Nat)] := by
        unfold fV
        rw [hy1, hy2, hy3]
      clear hy1 hy2 hy3
      have cR := hR.cell
      have fR := hR.frozen
      have lR := hR.lt
      have cZ := hZ.cell
      have fZ := hZ.frozen
      have lZ := hZ.lt
      go_wp2_with fail
      refine wp_region_away (w.heap.size) [0, 1, 2, 3, 4, 5, 6, 7] (by kernel_rfl) (by kernel_rfl) (fun _ _ d _ _ h => by cases d <;> exact h) ?_
      simp only [List.map_cons, List.map_nil, List.getD_cons_zero, List.getD_cons_succ, bare, gslot, List.getElem?_cons_zero, List.getElem?_cons_succ, Option.bind_some]
      repeat' ((try simp only [Act.put, List.setIfInBounds_toArray, List.set_cons_zero, List.set_cons_succ]); first | (refine lexL_quiet (v := ?_) wantB_none rfl ?_ ?_; rotate_left; focus (intro wq hq; obtain ⟨hcq, hfq⟩ := acell hq; go_simp; try with_reducible rfl)) | (refine lexL_loud wantB_none rfl (fun K hK => ?_); go_simp; ((first | fail | skip) <;> (refine hK.out _ _ (by repeat (first | with_reducible exact Away.refl _ _ | with_reducible assumption | with_reducible refine Away.drew ?_ | with_reducible refine Away.put ?_ _ _ | with_reducible refine Away.alloc ?_ _ | with_reducible refine Away.below ?_ (by with_reducible assumption))) ?_; clear hK K))) | (refine lexL_on ?_ ?_; focus (simp only [List.getElem?_toArray, List.getElem?_cons_succ, List.getElem?_cons_zero, Bool.not_true, Bool.not_false]; done)) | (refine lexL_off ?_ ?_ ?_; (focus (simp only [List.getElem?_toArray, List.getElem?_cons_succ, List.getElem?_cons_zero, Bool.not_true, Bool.not_false]; done)); (focus (exact (by repeat (first | with_reducible exact Away.refl _ _ | with_reducible assumption | with_reducible refine Away.drew ?_ | with_reducible refine Away.put ?_ _ _ | with_reducible refine Away.alloc ?_ _ | with_reducible refine Away.below ?_ (by with_reducible assumption)))))) | (refine lexL_splitS (X := ?_) ?_ ?_ (fun hg => ?_) (fun hg => ?_); rotate_left; (focus (simp only [List.getElem?_toArray, List.getElem?_cons_succ, List.getElem?_cons_zero]; with_reducible rfl)); (focus (exact (by repeat (first | with_reducible exact Away.refl _ _ | with_reducible assumption | with_reducible refine Away.drew ?_ | with_reducible refine Away.put ?_ _ _ | with_reducible refine Away.alloc ?_ _ | with_reducible refine Away.below ?_ (by with_reducible assumption))))); all_goals (try simp only [Bool.not_true, Bool.not_false] at hg)))
      (all_goals try simp only [Act.put, List.setIfInBounds_toArray, List.set_cons_zero, List.set_cons_succ]); all_goals (refine lexL_nil ?_)
      go_wp2_with fail
      refine post_gen2 (R := fun w2 => Blk w2 w.heap.size 40 #[.int .u64 y1, .int .u64 y2, .int .u64 y3] ∧ Below w.heap.size w w2) ⟨?_, (by repeat (first | with_reducible exact Below.refl _ _ | with_reducible assumption | with_reducible refine al ?_ _ | with_reducible refine Below.drew ?_ | with_reducible refine Below.setCell ?_ (by first | (simp; done) | (simp; omega)) _ | with_reducible refine tr ?_ (by with_reducible assumption)))⟩ ?_
      · exact three_put (x := .int .u64 0) (y := .int .u64 0) (z := .int .u64 0) (by repeat (first | with_reducible assumption | with_reducible exact Blk.new (by simp) rfl | with_reducible refine Blk.alloc ?_ _ | with_reducible refine Blk.drew ?_ | with_reducible refine Blk.far ?_ (by first | (simp; done) | (simp; omega)) _ | with_reducible refine Blk.tr ?_ (by with_reducible assumption)))
      rintro w2 ⟨HR, hb2⟩
      have r0 := HR.cell 0
      have r1 := HR.cell 1
      have r2 := HR.cell 2
      simp only [List.getElem?_toArray, List.getElem?_cons_zero, List.getElem?_cons_succ] at r0 r1 r2
      exact bodyPost_ret (v := .tuple #[.int .i64 (st.i : Nat), .int .i64 (st.j : Nat), fV st.d, .int .i64 0, .int .i64 0]) (by rw [hfV]; simp [results, Tryz.results29, go_sem, r0, r1, r2]) rfl ⟨st.i, st.j, st.d, rfl, fun h => absurd rfl h, fun _ => hst.symm, hb2⟩
end Go.Proofs.YtjdgibpjlhpanaaGreatDoor
