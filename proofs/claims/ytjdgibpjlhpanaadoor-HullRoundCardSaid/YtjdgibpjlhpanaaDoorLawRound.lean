/-
  The walk of the statement HullRound.
-/
import Derived.Test.YtjdgibpjlhpanaaDoorHulH
import Derived.Test.YtjdgibpjlhpanaaDoorHulK
import Derived.Test.YtjdgibpjlhpanaaDoorPlainHull
set_option linter.unusedSimpArgs false
set_option linter.unusedVariables false
namespace Pg
structure RoundS (l H : List Pt) : Prop where
  turn : 3 ≤ H.length → ∀ i, i < H.length → orient (pt H i) (pt H ((i + 1) % H.length)) (pt H ((i + 2) % H.length)) = 1
  left : 3 ≤ H.length → ∀ i, i < H.length → ∀ k, k < l.length → 0 ≤ orient (pt H i) (pt H ((i + 1) % H.length)) (pt l k)
  met : ∀ i, i < H.length → ∃ k, k < l.length ∧ pt l k = pt H i
  one : H.length = 1 → ∀ k, k < l.length → pt l k = pt H 0
  two : H.length = 2 → ∀ k, k < l.length → onS (pt H 0) (pt H 1) (pt l k) = true
  diff : ∀ i, i < H.length → ∀ k, k < i → pt H k ≠ pt H i
  self : hullS H = H
theorem round_of {l : List Pt} (hl : 0 < l.length) (hok : ∀ q ∈ l, okPt q = true) : RoundS l (hullS l) := by
  have hne : l ≠ [] := by intro e; rw [e] at hl; simp at hl
  have hI := hullS_is hne hok
  have hpos := hI.pos
  have hsub := hI.sub
  have hokH : ∀ q ∈ hullS l, okPt q = true := fun q hq => hok q (hsub q hq)
  refine ⟨fun h3 i hi => (hI.poly (by omega)).turn hokH h3 hi, fun h3 i hi k hk => (hI.poly (by omega)).leftO hokH hi (ptIn hk) (hok _ (ptIn hk)), fun i hi => inPt (hsub _ (ptIn hi)), ?_, ?_, fun i hi k hk e => ?_, ?_⟩
  · intro h1 k hk
    rcases hI with ⟨p, e, hp, hq⟩ | ⟨t, t', ht, h2, e⟩
    · rw [hq _ (ptIn hk), e]; rfl
    · have := (ht.poly h2).1.two
      rw [← e] at this
      omega
  · intro h2 k hk
    generalize hullS l = H at *
    match H, h2 with
    | [a, b], _ => exact hull_two hI (hokH a (by simp)) (hokH b (by simp)) (ptIn hk) (hok _ (ptIn hk))
  · have := pt_inj hI.nodup (show k < (hullS l).length by omega) hi e
    omega
  · exact (hullS_is (by intro e; rw [e] at hpos; simp at hpos) hokH).unique hI.self
end Pg
namespace Go.Proofs.YtjdgibpjlhpanaaDoor
open Go.RowKit Pg
theorem round_convex {l : List Pt} (hl : 0 < l.length) (hok : ∀ q ∈ l, okPt q = true) (h3 : 3 ≤ (hullS l).length) (h64 : (hullS l).length ≤ 64) : convexS (hullS l) = true := by
  have hne : l ≠ [] := by intro e; rw [e] at hl; simp at hl
  have hI := hullS_is hne hok
  have hokH : ∀ q ∈ hullS l, okPt q = true := fun q hq => hok q (hI.sub q hq)
  have hP := hI.poly (by omega)
  have hR := hP.ring hokH h3 h64
  unfold convexS
  rw [if_pos hR]
  have : turnAny (hullS l) (-1) (hullS l).length = false := by
    unfold turnAny
    rw [List.any_eq_false]
    intro i hi
    rw [List.mem_range] at hi
    rw [hP.turn hokH h3 hi]
    decide
  rw [this]
  simp

def MetB (l H : List Pt) (i j : Nat) (mb : Bool) : Prop := mb = true ↔ ∃ x, x < j ∧ pt l x = pt H i
theorem met0 {l H : List Pt} {i : Nat} : MetB l H i 0 false := ⟨fun h => (by cases h), fun ⟨x, hx, _⟩ => absurd hx (by omega)⟩
theorem metA {l H : List Pt} {i j : Nat} (h : MetB l H i j true) : MetB l H i (j + 1) true :=
  ⟨fun _ => (by obtain ⟨x, hx, e⟩ := h.1 rfl; exact ⟨x, by omega, e⟩), fun _ => rfl⟩
theorem metBt {l H : List Pt} {i j : Nat} (h : pt l j = pt H i) : MetB l H i (j + 1) true :=
  ⟨fun _ => ⟨j, by omega, h⟩, fun _ => rfl⟩
theorem metC {l H : List Pt} {i j : Nat} (h : MetB l H i j false) (hn : ¬ pt l j = pt H i) : MetB l H i (j + 1) false :=
  ⟨fun h => (by cases h), fun ⟨x, hx, ex⟩ => (by
    rcases Nat.lt_or_ge x j with h' | h'
    · exact h.2 ⟨x, h', ex⟩
    · obtain rfl : x = j := by omega
      exact absurd ex hn)⟩

set_option maxHeartbeats 4000000 in
set_option maxRecDepth 20000 in
theorem hullRound_walk (B n c : Nat) (A : Option Addr) (l : List Pt) (w : World) (hl : PtsAt w B A n l) (hB : B ≤ w.heap.size) (hnc : n ≤ c) (hT : ErrT w) : Calls Tryd.prog 5 #[.slice A n c] w (Ret w (.bool true)) := by
  have HT := Lib.hid hT
  clear hT
  have HAW := Lib.hid (fun W (hW : Below w.heap.size w W) => awake21_true W (HT.out.tr hW))
  have HSM := Lib.hid (fun W => small_any A n c W)
  by_cases h100 : n ≤ 100
  case neg =>
    rw [decide_eq_false h100] at HSM
    clear hl
    go_enter Tryd.func5, Tryd.ntmps5
    go_wp2_with (first | (go_at_call 14; refine (HSM.out _).mono ?_; rintro e w1 ⟨rfl, hb1⟩; obtain ⟨hc1, hf1⟩ := bcell hb1; have hz1 := hb1.size; (try simp at hz1)) | (go_at_call 16; (with_reducible refine (HAW.out _ (by repeat (first | with_reducible exact Below.refl _ _ | with_reducible assumption | with_reducible refine al ?_ _ | with_reducible refine Below.drew ?_ | with_reducible refine Below.setCell ?_ (by first | (simp; done) | (simp; omega)) _ | with_reducible refine tr ?_ (by with_reducible assumption)))).mono ?_); rintro e w2 ⟨rfl, hb2⟩))
    go_ret
    exact ⟨rfl, (by repeat (first | with_reducible exact Below.refl _ _ | with_reducible assumption | with_reducible refine al ?_ _ | with_reducible refine Below.drew ?_ | with_reducible refine Below.setCell ?_ (by first | (simp; done) | (simp; omega)) _ | with_reducible refine tr ?_ (by with_reducible assumption)))⟩
  rw [decide_eq_true h100] at HSM
  have HH1 := Lib.hid (fun W (hW : Below w.heap.size w W) => hull_any B n c A l W (hl.tr hW hB) (Nat.le_trans hB hW.size) (by omega))
  by_cases hck : (hullCk l 1).1 = 0
  case neg =>
    clear hl
    go_enter Tryd.func5, Tryd.ntmps5
    go_wp2_with (first | (go_at_call 14; refine (HSM.out _).mono ?_; rintro e w1 ⟨rfl, hb1⟩; obtain ⟨hc1, hf1⟩ := bcell hb1; have hz1 := hb1.size; (try simp at hz1)) | (go_at_call 17; (with_reducible refine (HH1.out _ (by repeat (first | with_reducible exact Below.refl _ _ | with_reducible assumption | with_reducible refine al ?_ _ | with_reducible refine Below.drew ?_ | with_reducible refine Below.setCell ?_ (by first | (simp; done) | (simp; omega)) _ | with_reducible refine tr ?_ (by with_reducible assumption)))).mono ?_); rintro e w5 ⟨s1, v1, rfl, hs1, _, hE1, hb5⟩; obtain ⟨t1, u1, rfl⟩ := errW_some hE1 hck; obtain rfl := hs1 hck) | (go_at_call 16; (with_reducible refine (HAW.out _ (by repeat (first | with_reducible exact Below.refl _ _ | with_reducible assumption | with_reducible refine al ?_ _ | with_reducible refine Below.drew ?_ | with_reducible refine Below.setCell ?_ (by first | (simp; done) | (simp; omega)) _ | with_reducible refine tr ?_ (by with_reducible assumption)))).mono ?_); rintro e w2 ⟨rfl, hb2⟩))
    go_ret
    exact ⟨rfl, (by repeat (first | with_reducible exact Below.refl _ _ | with_reducible assumption | with_reducible refine al ?_ _ | with_reducible refine Below.drew ?_ | with_reducible refine Below.setCell ?_ (by first | (simp; done) | (simp; omega)) _ | with_reducible refine tr ?_ (by with_reducible assumption)))⟩
  obtain ⟨hl1, _, hok⟩ := hck_all hck
  have hln := hl.1
  have hHp := hull_pos (show 0 < l.length by omega) hok
  have hHle := hull_le (show 0 < l.length by omega) hok
  have HS := Lib.hid (round_of (show 0 < l.length by omega) hok)
  have HCX := Lib.hid (round_convex (show 0 < l.length by omega) hok)
  have HHok := Lib.hid (fun q hq => hok q ((hullS_is (by intro e; rw [e] at hl1; simp at hl1) hok).sub q hq))
  obtain ⟨H, hH⟩ : ∃ H, hullS l = H := ⟨_, rfl⟩
  rw [hH] at hHp hHle HS HCX HHok
  obtain ⟨na, hna⟩ : ∃ m, H.length = m := ⟨_, rfl⟩
  obtain ⟨b, off, rfl, hab, _, _⟩ := hl.at_ (show 0 < n by omega)
  have HL := Lib.hid hl
  clear hl
  go_enter Tryd.func5, Tryd.ntmps5
  go_wp2_with (first | (go_at_call 14; refine (HSM.out _).mono ?_; rintro e w1 ⟨rfl, hb1⟩; obtain ⟨hc1, hf1⟩ := bcell hb1; have hz1 := hb1.size; (try simp at hz1)) | (go_at_call 17; (with_reducible refine (HH1.out _ (by repeat (first | with_reducible exact Below.refl _ _ | with_reducible assumption | with_reducible refine al ?_ _ | with_reducible refine Below.drew ?_ | with_reducible refine Below.setCell ?_ (by first | (simp; done) | (simp; omega)) _ | with_reducible refine tr ?_ (by with_reducible assumption)))).mono ?_); rintro e w5 ⟨s1, v1, rfl, _, hs1, hE1, hb5⟩; rw [hck] at hE1; obtain rfl := errW_zero hE1; have hs1' := hs1 hck; rw [hH] at hs1'; clear hs1 hE1 HH1; obtain ⟨g1, c1, rfl⟩ := own_pos2 hs1' hHp; have P1 := own_pts hs1'; have hb05 : Below w.heap.size w w5 := (by repeat (first | with_reducible exact Below.refl _ _ | with_reducible assumption | with_reducible refine al ?_ _ | with_reducible refine Below.drew ?_ | with_reducible refine Below.setCell ?_ (by first | (simp; done) | (simp; omega)) _ | with_reducible refine tr ?_ (by with_reducible assumption))); clear hs1'; simp only [hna] at P1 hHp hHle ⊢))
  have PL : PtsAt w5 B (some ⟨b, off, none⟩) n l := HL.out.tr hb05 hB
  have hz05 : w.heap.size ≤ w5.heap.size := hb05.size
  have hBw5 : B ≤ w5.heap.size := by omega
  clear hb1 hc1 hf1 hb5 HSM hck
  go_loopw [6] (fun vi wr => ∃ k : Nat, k ≤ na ∧ vi = .int .i64 k ∧ (na < 3 → k = 0) ∧ Below w5.heap.size w5 wr) (fun vi _ => na - (intOf vi).toNat)
  case atStart => exact ⟨0, by omega, rfl, fun _ => rfl, Below.refl _ _⟩
  case round =>
    obtain ⟨k, hk, rfl, hk3, hb⟩ := hrel
    by_cases hlt : k < na ∧ 3 ≤ na
    · obtain ⟨hlt, h3⟩ := hlt
      obtain ⟨a0, a1⟩ := pts_at (P1.tr hb (Nat.le_refl _)) hlt
      obtain ⟨m1, hm1, hwr1, htm1, hml1⟩ := step_of hlt (show na ≤ 1000000 by omega)
      obtain ⟨m2, hm2, hwr2, htm2, hml2⟩ := step2_of hlt (show na ≤ 1000000 by omega)
      obtain ⟨a2, a3⟩ := pts_at (P1.tr hb (Nat.le_refl _)) hml1
      obtain ⟨a4, a5⟩ := pts_at (P1.tr hb (Nat.le_refl _)) hml2
      simp only [Nat.zero_add] at a0 a1 a2 a3 a4 a5
      have hgb : g1 < w5.heap.size := by
        obtain ⟨b', o', e, h', _⟩ := P1.2 (by omega)
        cases e
        exact h'
      have hbs := hb.size
      have hbg : g1 < wr.heap.size := by omega
      have hbg1 : g1 < wr.heap.size + 1 := by omega
      have hbg2 : g1 < wr.heap.size + 1 + 1 := by omega
      have hbn1 : g1 ≠ wr.heap.size := by omega
      have hbn2 : g1 ≠ wr.heap.size + 1 := by omega
      have hk0 : (k : Int) < (na : Int) := by omega
      have hk3' : (0 : Int) ≤ (k : Int) + 1 := by omega
      have hk4 : (0 : Int) ≤ (k : Int) + 2 := by omega
      have hn0 : ¬ na = 0 := by omega
      have hn3 : (2 : Int) < (na : Int) := by omega
      have hml01 : (m1 : Int) < (na : Int) := by omega
      have hml02 : (m2 : Int) < (na : Int) := by omega
      have HO : Hid (∀ W, Calls Tryd.prog 21 #[ptV (pt H k).x (pt H k).y, ptV (pt H m1).x (pt H m1).y, ptV (pt H m2).x (pt H m2).y] W (Ret W (.int .i64 1))) := fun W => by
        have h := rorient_any (pt H k).x (pt H k).y (pt H m1).x (pt H m1).y (pt H m2).x (pt H m2).y W
        have e := HS.out.turn (by omega) k (by omega)
        rw [hna, hm1, hm2] at e
        rw [show orient ⟨(pt H k).x, (pt H k).y⟩ ⟨(pt H m1).x, (pt H m1).y⟩ ⟨(pt H m2).x, (pt H m2).y⟩ = 1 from e] at h
        exact h
      have HLf := Lib.hid (HS.out.left (by omega) k (by omega))
      rw [hna, hm1] at HLf
      have hb5r : Below w.heap.size w wr := hb05.trans (hb.mono hz05)
      clear hm1 hm2
      generalize pt H k = p at *
      generalize pt H m1 = q at *
      generalize pt H m2 = r at *
      obtain ⟨px, py⟩ := p
      obtain ⟨qx, qy⟩ := q
      obtain ⟨rx, ry⟩ := r
      simp only at a0 a1 a2 a3 a4 a5 HO
      go_wp2_with fail
      refine wp_region_belowI (by kernel_rfl) (by kernel_rfl) (fun _ _ d _ _ h => by cases d <;> exact h) ?_
      simp only [List.map_cons, List.map_nil, List.getD_cons_zero, List.getD_cons_succ, bare, gslot, List.getElem?_cons_zero, List.getElem?_cons_succ, Option.bind_some]
      repeat' ((try simp only [Act.put, List.setIfInBounds_toArray, List.set_cons_zero, List.set_cons_succ]); first | (refine lexL_quiet (v := ?_) wantB_none rfl ?_ ?_; rotate_left; focus (intro wq hq; obtain ⟨hcq, hfq⟩ := bcell hq; go_simp; try with_reducible rfl)) | (refine lexL_loud wantB_none rfl (fun K hK => ?_); go_simp; ((first | (go_at_call 21; (with_reducible refine (HO.out _).mono ?_); rintro e w9 ⟨rfl, hb9⟩) | skip) <;> (refine hK.out _ _ (by repeat (first | with_reducible exact Below.refl _ _ | with_reducible assumption | with_reducible refine al ?_ _ | with_reducible refine Below.drew ?_ | with_reducible refine Below.setCell ?_ (by first | (simp; done) | (simp; omega)) _ | with_reducible refine tr ?_ (by with_reducible assumption))) ?_; clear hK K))) | (refine lexL_on ?_ ?_; focus (simp only [List.getElem?_toArray, List.getElem?_cons_succ, List.getElem?_cons_zero, Bool.not_true, Bool.not_false]; done)) | (refine lexL_off ?_ ?_ ?_; (focus (simp only [List.getElem?_toArray, List.getElem?_cons_succ, List.getElem?_cons_zero, Bool.not_true, Bool.not_false]; done)); (focus (exact (by repeat (first | with_reducible exact Below.refl _ _ | with_reducible assumption | with_reducible refine al ?_ _ | with_reducible refine Below.drew ?_ | with_reducible refine Below.setCell ?_ (by first | (simp; done) | (simp; omega)) _ | with_reducible refine tr ?_ (by with_reducible assumption)))))) | (refine lexL_splitS (X := ?_) ?_ ?_ (fun hg => ?_) (fun hg => ?_); rotate_left; (focus (simp only [List.getElem?_toArray, List.getElem?_cons_succ, List.getElem?_cons_zero]; with_reducible rfl)); (focus (exact (by repeat (first | with_reducible exact Below.refl _ _ | with_reducible assumption | with_reducible refine al ?_ _ | with_reducible refine Below.drew ?_ | with_reducible refine Below.setCell ?_ (by first | (simp; done) | (simp; omega)) _ | with_reducible refine tr ?_ (by with_reducible assumption))))); all_goals (try simp only [Bool.not_true, Bool.not_false] at hg)))
      (all_goals try simp only [Act.put, List.setIfInBounds_toArray, List.set_cons_zero, List.set_cons_succ]); all_goals (refine lexL_nil ?_)
      have hA9 : Blk w9 wr.heap.size 23 #[.int .i64 px, .int .i64 py] := (by repeat (first | with_reducible assumption | with_reducible exact Blk.new (by simp) rfl | with_reducible refine Blk.alloc ?_ _ | with_reducible refine Blk.drew ?_ | with_reducible refine Blk.far ?_ (by first | (simp; done) | (simp; omega)) _ | with_reducible refine Blk.tr ?_ (by with_reducible assumption)))
      have hB9 : Blk w9 (wr.heap.size + 1) 23 #[.int .i64 qx, .int .i64 qy] := (by repeat (first | with_reducible assumption | with_reducible exact Blk.new (by simp) rfl | with_reducible refine Blk.alloc ?_ _ | with_reducible refine Blk.drew ?_ | with_reducible refine Blk.far ?_ (by first | (simp; done) | (simp; omega)) _ | with_reducible refine Blk.tr ?_ (by with_reducible assumption)))
      have hb59 : Below w5.heap.size w5 w9 := (by repeat (first | with_reducible exact Below.refl _ _ | with_reducible assumption | with_reducible refine al ?_ _ | with_reducible refine Below.drew ?_ | with_reducible refine Below.setCell ?_ (by first | (simp; done) | (simp; omega)) _ | with_reducible refine tr ?_ (by with_reducible assumption)))
      have hb09 : Below w.heap.size w w9 := (by repeat (first | with_reducible exact Below.refl _ _ | with_reducible assumption | with_reducible refine al ?_ _ | with_reducible refine Below.drew ?_ | with_reducible refine Below.setCell ?_ (by first | (simp; done) | (simp; omega)) _ | with_reducible refine tr ?_ (by with_reducible assumption)))
      clear hb9 a0 a1 a2 a3 a4 a5
      obtain ⟨GA, eA⟩ : ∃ G, wr.heap.size = G := ⟨_, rfl⟩
      rw [eA] at hA9 hB9 ⊢
      clear eA
      go_wp2
      go_loopw [9] (fun vj w6 => ∃ j : Nat, j ≤ n ∧ vj = .int .i64 j ∧ Below w9.heap.size w9 w6) (fun vj _ => n - (intOf vj).toNat)
      case atStart => exact ⟨0, by omega, rfl, Below.refl _ _⟩
      case round =>
        obtain ⟨j, hj, rfl, hb6⟩ := hrel
        by_cases hlt2 : j < n
        · obtain ⟨d0, d1⟩ := pts_at ((PL.tr hb59 hBw5).tr hb6 (Nat.le_trans hBw5 hb59.size)) hlt2
          have hj0 : (j : Int) < (n : Int) := by omega
          obtain ⟨o, ho⟩ : ∃ o, orient ⟨px, py⟩ ⟨qx, qy⟩ (pt l j) = o := ⟨_, rfl⟩
          have hoo : 0 ≤ o := by rw [← ho]; exact HLf.out j (by omega)
          have hoo2 : ¬ o < 0 := by omega
          have HO2 : Hid (∀ W, Calls Tryd.prog 21 #[ptV px py, ptV qx qy, ptV (pt l j).x (pt l j).y] W (Ret W (.int .i64 o))) := fun W => by
            have h := rorient_any px py qx qy (pt l j).x (pt l j).y W
            rw [show orient ⟨px, py⟩ ⟨qx, qy⟩ ⟨(pt l j).x, (pt l j).y⟩ = o from ho] at h
            exact h
          have hA6 := hA9.tr hb6
          have hB6 := hB9.tr hb6
          have cA := hA6.cell
          have fA := hA6.frozen
          have lA := hA6.lt
          have cB := hB6.cell
          have fB := hB6.frozen
          have lB := hB6.lt
          have hbw : b < wr.heap.size := by have := hb59.size; have := hb6.size; omega
          have hb06 : Below w.heap.size w wr := hb09.trans (hb6.mono hb09.size)
          clear ho
          go_wp2_with fail
          refine wp_region_belowI (by kernel_rfl) (by kernel_rfl) (fun _ _ d _ _ h => by cases d <;> exact h) ?_
          simp only [List.map_cons, List.map_nil, List.getD_cons_zero, List.getD_cons_succ, bare, gslot, List.getElem?_cons_zero, List.getElem?_cons_succ, Option.bind_some]
          repeat' ((try simp only [Act.put, List.setIfInBounds_toArray, List.set_cons_zero, List.set_cons_succ]); first | (refine lexL_quiet (v := ?_) wantB_none rfl ?_ ?_; rotate_left; focus (intro wq hq; obtain ⟨hcq, hfq⟩ := bcell hq; go_simp; try with_reducible rfl)) | (refine lexL_loud wantB_none rfl (fun K hK => ?_); go_simp; ((first | (go_at_call 21; (with_reducible refine (HO2.out _).mono ?_); rintro e w10 ⟨rfl, hb10⟩) | skip) <;> (refine hK.out _ _ (by repeat (first | with_reducible exact Below.refl _ _ | with_reducible assumption | with_reducible refine al ?_ _ | with_reducible refine Below.drew ?_ | with_reducible refine Below.setCell ?_ (by first | (simp; done) | (simp; omega)) _ | with_reducible refine tr ?_ (by with_reducible assumption))) ?_; clear hK K))) | (refine lexL_on ?_ ?_; focus (simp only [List.getElem?_toArray, List.getElem?_cons_succ, List.getElem?_cons_zero, Bool.not_true, Bool.not_false]; done)) | (refine lexL_off ?_ ?_ ?_; (focus (simp only [List.getElem?_toArray, List.getElem?_cons_succ, List.getElem?_cons_zero, Bool.not_true, Bool.not_false]; done)); (focus (exact (by repeat (first | with_reducible exact Below.refl _ _ | with_reducible assumption | with_reducible refine al ?_ _ | with_reducible refine Below.drew ?_ | with_reducible refine Below.setCell ?_ (by first | (simp; done) | (simp; omega)) _ | with_reducible refine tr ?_ (by with_reducible assumption)))))) | (refine lexL_splitS (X := ?_) ?_ ?_ (fun hg => ?_) (fun hg => ?_); rotate_left; (focus (simp only [List.getElem?_toArray, List.getElem?_cons_succ, List.getElem?_cons_zero]; with_reducible rfl)); (focus (exact (by repeat (first | with_reducible exact Below.refl _ _ | with_reducible assumption | with_reducible refine al ?_ _ | with_reducible refine Below.drew ?_ | with_reducible refine Below.setCell ?_ (by first | (simp; done) | (simp; omega)) _ | with_reducible refine tr ?_ (by with_reducible assumption))))); all_goals (try simp only [Bool.not_true, Bool.not_false] at hg)))
          (all_goals try simp only [Act.put, List.setIfInBounds_toArray, List.set_cons_zero, List.set_cons_succ]); all_goals (refine lexL_nil ?_)
          have hb610 : Below w9.heap.size w9 w10 := (by repeat (first | with_reducible exact Below.refl _ _ | with_reducible assumption | with_reducible refine al ?_ _ | with_reducible refine Below.drew ?_ | with_reducible refine Below.setCell ?_ (by first | (simp; done) | (simp; omega)) _ | with_reducible refine tr ?_ (by with_reducible assumption)))
          go_wp2
          go_roundw
          case rel => exact ⟨j + 1, by omega, by go_num, hb610⟩
          case measure => simp [intOf]; omega
        · have hb56 : Below w5.heap.size w5 wr := hb59.trans (hb6.mono hb59.size)
          obtain rfl : j = n := by omega
          go_wp2
          go_roundw
          case rel => exact ⟨k + 1, by omega, by go_num, fun h => absurd h (by omega), hb56⟩
          case measure => simp [intOf]; omega
    · have hex : k = na ∨ (k = 0 ∧ 0 < na ∧ na < 3) := by omega
      have hb5r : Below w.heap.size w wr := hb05.trans (hb.mono hz05)
      have P2 := P1.tr hb (Nat.le_refl _)
      have hgb : g1 < w5.heap.size := by
        obtain ⟨b', o', e, h', _⟩ := P1.2 (by omega)
        cases e
        exact h'
      have PL2 := PL.tr hb hBw5
      have hcase : 3 ≤ na ∧ k = na ∨ na = 1 ∧ k = 0 ∨ na = 2 ∧ k = 0 := by omega
      have hi1 : 1 ≤ na := by omega
      rcases hcase with ⟨h3, rfl⟩ | ⟨h1, hk0⟩ | ⟨h1, hk0⟩
      case inl =>
        have q0 : (2 : Int) < (k : Int) := by omega
        have q1 : ¬ (k : Int) = 1 := by omega
        have q2 : ¬ (k : Int) = 2 := by omega
        have q1b : (((k : Nat) : Int) == 1) = false := by rw [beq_eq_false_iff_ne]; omega
        have q2b : (((k : Nat) : Int) == 2) = false := by rw [beq_eq_false_iff_ne]; omega
        clear hlt hex hk3
        go_wp2
        go_loopw [10] (fun vi w6 => ∃ i : Nat, i ≤ k ∧ vi = .int .i64 i ∧ Below w5.heap.size w5 w6) (fun vi _ => k - (intOf vi).toNat)
        case atStart => exact ⟨0, by omega, rfl, hb⟩
        case round =>
          clear hb P2 PL2 hb5r
          obtain ⟨i, hi, rfl, hb6⟩ := hrel
          have hb06 : Below w.heap.size w wr := hb05.trans (hb6.mono hz05)
          have hw56 := hb6.size
          by_cases hlt : i < k
          · have hi0 : (i : Int) < (k : Int) := by omega
            have hMet := Lib.hid (HS.out.met i (by omega))
            have hDif := Lib.hid (HS.out.diff i (by omega))
            go_wp2
            go_loopw [11, 12] (fun vm vk w7 => ∃ (mb : Bool) (j : Nat), j ≤ n ∧ vk = .int .i64 j ∧ vm = .bool mb ∧ MetB l H i j mb ∧ Below w5.heap.size w5 w7) (fun _ vk _ => n - (intOf vk).toNat)
            case atStart => exact ⟨false, 0, by omega, rfl, rfl, met0, hb6⟩
            case round =>
              obtain ⟨mb, j, hj, rfl, rfl, hmb, hb7⟩ := hrel
              have hb57 : Below w5.heap.size w5 wr := hb7
              by_cases hlt2 : j < n
              · obtain ⟨d0, d1⟩ := pts_at (PL.tr hb57 hBw5) hlt2
                obtain ⟨a0, a1⟩ := pts_at (P1.tr hb57 (Nat.le_refl _)) hlt
                simp only [Nat.zero_add] at a0 a1
                have hj0 : (j : Int) < (n : Int) := by omega
                have hw57 := hb57.size
                have hbg : g1 < wr.heap.size := by omega
                have hbw : b < wr.heap.size := by omega
                have hcs : (mb = true) ∨ (mb = false ∧ pt l j = pt H i) ∨ (mb = false ∧ ¬ (pt l j).x = (pt H i).x) ∨ (mb = false ∧ (pt l j).x = (pt H i).x ∧ ¬ (pt l j).y = (pt H i).y) := by
                  cases mb
                  · by_cases ex : (pt l j).x = (pt H i).x
                    · by_cases ey : (pt l j).y = (pt H i).y
                      · exact .inr (.inl ⟨rfl, Pt.ext' ex ey⟩)
                      · exact .inr (.inr (.inr ⟨rfl, ex, ey⟩))
                    · exact .inr (.inr (.inl ⟨rfl, ex⟩))
                  · exact .inl rfl
                rcases hcs with rfl | ⟨rfl, e⟩ | ⟨rfl, e⟩ | ⟨rfl, e, e'⟩
                case' inl => have HNX := metA hmb
                case' inr.inl =>
                  have HNX := metBt e
                  rw [← e] at a0 a1
                  clear e
                case' inr.inr.inl => have HNX := metC hmb (fun h => e (congrArg Pt.x h))
                case' inr.inr.inr => have HNX := metC hmb (fun h => e' (congrArg Pt.y h))
                all_goals
                  go_wp2_with fail
                  refine wp_region_belowI (by kernel_rfl) (by kernel_rfl) (fun _ _ d _ _ h => by cases d <;> exact h) ?_
                  simp only [List.map_cons, List.map_nil, List.getD_cons_zero, List.getD_cons_succ, bare, gslot, List.getElem?_cons_zero, List.getElem?_cons_succ, Option.bind_some]
                  repeat' ((try simp only [Act.put, List.setIfInBounds_toArray, List.set_cons_zero, List.set_cons_succ]); first | (refine lexL_on ?_ ?_; focus (simp only [List.getElem?_toArray, List.getElem?_cons_succ, List.getElem?_cons_zero, Bool.not_true, Bool.not_false]; done)) | (refine lexL_off ?_ ?_ ?_; (focus (simp only [List.getElem?_toArray, List.getElem?_cons_succ, List.getElem?_cons_zero, Bool.not_true, Bool.not_false]; done)); (focus (exact (by repeat (first | with_reducible exact Below.refl _ _ | with_reducible assumption | with_reducible refine al ?_ _ | with_reducible refine Below.drew ?_ | with_reducible refine Below.setCell ?_ (by first | (simp; done) | (simp; omega)) _ | with_reducible refine tr ?_ (by with_reducible assumption)))))) | (refine lexL_splitS (X := ?_) ?_ ?_ (fun hg => ?_) (fun hg => ?_); rotate_left; (focus (simp only [List.getElem?_toArray, List.getElem?_cons_succ, List.getElem?_cons_zero]; with_reducible rfl)); (focus (exact (by repeat (first | with_reducible exact Below.refl _ _ | with_reducible assumption | with_reducible refine al ?_ _ | with_reducible refine Below.drew ?_ | with_reducible refine Below.setCell ?_ (by first | (simp; done) | (simp; omega)) _ | with_reducible refine tr ?_ (by with_reducible assumption))))); all_goals (try simp only [Bool.not_true, Bool.not_false] at hg)) | (refine lexL_quiet (v := ?_) wantB_none rfl ?_ ?_; rotate_left; focus (intro wq hq; obtain ⟨hcq, hfq⟩ := bcell hq; go_simp; try with_reducible rfl)) | (refine lexL_loud wantB_none rfl (fun K hK => ?_); go_simp; ((first |  fail | skip) <;> (refine hK.out _ _ (by repeat (first | with_reducible exact Below.refl _ _ | with_reducible assumption | with_reducible refine al ?_ _ | with_reducible refine Below.drew ?_ | with_reducible refine Below.setCell ?_ (by first | (simp; done) | (simp; omega)) _ | with_reducible refine tr ?_ (by with_reducible assumption))) ?_; clear hK K))))
                  (all_goals try simp only [Act.put, List.setIfInBounds_toArray, List.set_cons_zero, List.set_cons_succ]); all_goals (refine lexL_nil ?_)
                  go_wp2_with fail
                  refine PgG.keep_world (R := fun w9 => Below wr.heap.size wr w9) (by repeat (first | with_reducible exact Below.refl _ _ | with_reducible assumption | with_reducible refine al ?_ _ | with_reducible refine Below.drew ?_ | with_reducible refine Below.setCell ?_ (by first | (simp; done) | (simp; omega)) _ | with_reducible refine tr ?_ (by with_reducible assumption))) ?_
                  intro w9 hb9
                  try clear e'
                  try clear e
                  have hb59 : Below w5.heap.size w5 w9 := hb57.trans (hb9.mono hw57)
                  clear d0 d1 a0 a1
                  obtain ⟨d0, d1⟩ := pts_at (PL.tr hb59 hBw5) hlt2
                  have hw59 := hb59.size
                  have hbg9 : g1 < w9.heap.size := by omega
                  have hbw9 : b < w9.heap.size := by omega
                  refine wp_region_belowI (by kernel_rfl) (by kernel_rfl) (fun _ _ d _ _ h => by cases d <;> exact h) ?_
                  simp only [List.map_cons, List.map_nil, List.getD_cons_zero, List.getD_cons_succ, bare, gslot, List.getElem?_cons_zero, List.getElem?_cons_succ, Option.bind_some]
                  repeat' ((try simp only [Act.put, List.setIfInBounds_toArray, List.set_cons_zero, List.set_cons_succ]); first | (refine lexL_on ?_ ?_; focus (simp only [List.getElem?_toArray, List.getElem?_cons_succ, List.getElem?_cons_zero, Bool.not_true, Bool.not_false]; done)) | (refine lexL_off ?_ ?_ ?_; (focus (simp only [List.getElem?_toArray, List.getElem?_cons_succ, List.getElem?_cons_zero, Bool.not_true, Bool.not_false]; done)); (focus (exact (by repeat (first | with_reducible exact Below.refl _ _ | with_reducible assumption | with_reducible refine al ?_ _ | with_reducible refine Below.drew ?_ | with_reducible refine Below.setCell ?_ (by first | (simp; done) | (simp; omega)) _ | with_reducible refine tr ?_ (by with_reducible assumption)))))) | (refine lexL_splitS (X := ?_) ?_ ?_ (fun hg => ?_) (fun hg => ?_); rotate_left; (focus (simp only [List.getElem?_toArray, List.getElem?_cons_succ, List.getElem?_cons_zero]; with_reducible rfl)); (focus (exact (by repeat (first | with_reducible exact Below.refl _ _ | with_reducible assumption | with_reducible refine al ?_ _ | with_reducible refine Below.drew ?_ | with_reducible refine Below.setCell ?_ (by first | (simp; done) | (simp; omega)) _ | with_reducible refine tr ?_ (by with_reducible assumption))))); all_goals (try simp only [Bool.not_true, Bool.not_false] at hg)) | (refine lexL_quiet (v := ?_) wantB_none rfl ?_ ?_; rotate_left; focus (intro wq hq; obtain ⟨hcq, hfq⟩ := bcell hq; go_simp; try with_reducible rfl)) | (refine lexL_loud wantB_none rfl (fun K hK => ?_); go_simp; ((first |  fail | skip) <;> (refine hK.out _ _ (by repeat (first | with_reducible exact Below.refl _ _ | with_reducible assumption | with_reducible refine al ?_ _ | with_reducible refine Below.drew ?_ | with_reducible refine Below.setCell ?_ (by first | (simp; done) | (simp; omega)) _ | with_reducible refine tr ?_ (by with_reducible assumption))) ?_; clear hK K))))
                  (all_goals try simp only [Act.put, List.setIfInBounds_toArray, List.set_cons_zero, List.set_cons_succ]); all_goals (refine lexL_nil ?_)
                  go_wp2
                  go_roundw
                  case measure => simp [intOf]; omega
                  case rel => exact ⟨_, j + 1, by omega, by go_num, rfl, HNX, (by repeat (first | with_reducible exact Below.refl _ _ | with_reducible assumption | with_reducible refine al ?_ _ | with_reducible refine Below.drew ?_ | with_reducible refine Below.setCell ?_ (by first | (simp; done) | (simp; omega)) _ | with_reducible refine tr ?_ (by with_reducible assumption)))⟩
              · obtain rfl : j = n := by omega
                obtain rfl : mb = true := hmb.2 (by obtain ⟨x, hx, e⟩ := hMet.out; exact ⟨x, by omega, e⟩)
                clear hlt2 hmb
                go_wp2
                go_loopw [13] (fun vk w8 => ∃ k : Nat, k ≤ i ∧ vk = .int .i64 k ∧ Below w5.heap.size w5 w8) (fun vk _ => i - (intOf vk).toNat)
                case atStart => exact ⟨0, by omega, rfl, hb57⟩
                case round =>
                  obtain ⟨k2, hk2, rfl, hb8⟩ := hrel
                  have hb58 : Below w5.heap.size w5 wr := hb8
                  by_cases hlt3 : k2 < i
                  · obtain ⟨a0, a1⟩ := pts_at (P1.tr hb58 (Nat.le_refl _)) hlt
                    obtain ⟨d0, d1⟩ := pts_at (P1.tr hb58 (Nat.le_refl _)) (show k2 < k by omega)
                    simp only [Nat.zero_add] at a0 a1 d0 d1
                    have hk20 : (k2 : Int) < (i : Int) := by omega
                    have hk21 : (k2 : Int) < (k : Int) := by omega
                    have hw58 := hb58.size
                    have hbg : g1 < wr.heap.size := by omega
                    have hne := hDif.out k2 hlt3
                    have hne2 : ¬ ((pt H k2).x = (pt H i).x ∧ (pt H k2).y = (pt H i).y) := fun h => hne (Pt.ext' h.1 h.2)
                    have k1 : ¬ (pt H k2).x = (pt H i).x ∨ ((pt H k2).x = (pt H i).x ∧ ¬ (pt H k2).y = (pt H i).y) := by omega
                    clear hne hne2
                    rcases k1 with k1 | ⟨k0, k1⟩
                    all_goals
                      go_wp2_with fail
                      refine wp_region_belowI (by kernel_rfl) (by kernel_rfl) (fun _ _ d _ _ h => by cases d <;> exact h) ?_
                      simp only [List.map_cons, List.map_nil, List.getD_cons_zero, List.getD_cons_succ, bare, gslot, List.getElem?_cons_zero, List.getElem?_cons_succ, Option.bind_some]
                      repeat' ((try simp only [Act.put, List.setIfInBounds_toArray, List.set_cons_zero, List.set_cons_succ]); first | (refine lexL_quiet (v := ?_) wantB_none rfl ?_ ?_; rotate_left; focus (intro wq hq; obtain ⟨hcq, hfq⟩ := bcell hq; go_simp; try with_reducible rfl)) | (refine lexL_loud wantB_none rfl (fun K hK => ?_); go_simp; ((first | fail | skip) <;> (refine hK.out _ _ (by repeat (first | with_reducible exact Below.refl _ _ | with_reducible assumption | with_reducible refine al ?_ _ | with_reducible refine Below.drew ?_ | with_reducible refine Below.setCell ?_ (by first | (simp; done) | (simp; omega)) _ | with_reducible refine tr ?_ (by with_reducible assumption))) ?_; clear hK K))) | (refine lexL_on ?_ ?_; focus (simp only [List.getElem?_toArray, List.getElem?_cons_succ, List.getElem?_cons_zero, Bool.not_true, Bool.not_false]; done)) | (refine lexL_off ?_ ?_ ?_; (focus (simp only [List.getElem?_toArray, List.getElem?_cons_succ, List.getElem?_cons_zero, Bool.not_true, Bool.not_false]; done)); (focus (exact (by repeat (first | with_reducible exact Below.refl _ _ | with_reducible assumption | with_reducible refine al ?_ _ | with_reducible refine Below.drew ?_ | with_reducible refine Below.setCell ?_ (by first | (simp; done) | (simp; omega)) _ | with_reducible refine tr ?_ (by with_reducible assumption)))))) | (refine lexL_splitS (X := ?_) ?_ ?_ (fun hg => ?_) (fun hg => ?_); rotate_left; (focus (simp only [List.getElem?_toArray, List.getElem?_cons_succ, List.getElem?_cons_zero]; with_reducible rfl)); (focus (exact (by repeat (first | with_reducible exact Below.refl _ _ | with_reducible assumption | with_reducible refine al ?_ _ | with_reducible refine Below.drew ?_ | with_reducible refine Below.setCell ?_ (by first | (simp; done) | (simp; omega)) _ | with_reducible refine tr ?_ (by with_reducible assumption))))); all_goals (try simp only [Bool.not_true, Bool.not_false] at hg)))
                      (all_goals try simp only [Act.put, List.setIfInBounds_toArray, List.set_cons_zero, List.set_cons_succ]); all_goals (refine lexL_nil ?_)
                      go_wp2
                      go_roundw
                      case rel => exact ⟨k2 + 1, by omega, by go_num, (by repeat (first | with_reducible exact Below.refl _ _ | with_reducible assumption | with_reducible refine al ?_ _ | with_reducible refine Below.drew ?_ | with_reducible refine Below.setCell ?_ (by first | (simp; done) | (simp; omega)) _ | with_reducible refine tr ?_ (by with_reducible assumption)))⟩
                      case measure => simp [intOf]; omega
                  · obtain rfl : k2 = i := by omega
                    clear hlt3
                    go_wp2
                    go_roundw
                    case rel => exact ⟨k2 + 1, by omega, by go_num, hb58⟩
                    case measure => simp [intOf]; omega
          · have hPH := P1.tr hb6 (Nat.le_refl _)
            have hHH := hull_any w5.heap.size k c1 _ H wr hPH hw56 (by omega)
            rw [hck_good (by omega) (by omega) HHok.out, HS.out.self] at hHH
            have HHH := Lib.hid hHH
            obtain rfl : k = i := by omega
            clear hlt hHH
            by_cases h64 : 64 < k
            · have h641 : (64 : Int) < (k : Int) := by omega
              have h642 : ¬ (k : Int) < 3 := by omega
              go_wp2_with (first | (go_at_call 17; (with_reducible refine HHH.out.mono ?_); rintro e w7 ⟨s2, v2, rfl, _, hs2, hE2, hb7⟩; obtain rfl := errW_zero hE2; have hs2' := hs2 rfl; clear hs2 hE2; simp only [hna] at hs2'; obtain ⟨g2, c2, rfl⟩ := own_pos2 hs2' (by omega); have P3 := own_pts hs2'; have hPH7 := hPH.tr hb7 hw56; have HPt : Hid (Calls Tryd.prog 20 #[.slice (some ⟨g2, 0, none⟩) k c2, .slice (some ⟨g1, 0, none⟩) k c1] w7 (Ret w7 (.bool true))) := (by have h := rpoints_any w7.heap.size k c2 k c1 _ _ H H w7 P3 (hPH7.more (Nat.le_trans hw56 hb7.size)) (Nat.le_refl _) (by omega); rw [ptsEq_refl] at h; exact h)) | (go_at_call 20; (with_reducible refine HPt.out.mono ?_); rintro e w8 ⟨rfl, hb8⟩) | (go_at_call 16; (with_reducible refine (HAW.out _ (by repeat (first | with_reducible exact Below.refl _ _ | with_reducible assumption | with_reducible refine al ?_ _ | with_reducible refine Below.drew ?_ | with_reducible refine Below.setCell ?_ (by first | (simp; done) | (simp; omega)) _ | with_reducible refine tr ?_ (by with_reducible assumption)))).mono ?_); rintro e w9 ⟨rfl, hb9⟩))
              go_ret
              exact ⟨rfl, (by repeat (first | with_reducible exact Below.refl _ _ | with_reducible assumption | with_reducible refine al ?_ _ | with_reducible refine Below.drew ?_ | with_reducible refine Below.setCell ?_ (by first | (simp; done) | (simp; omega)) _ | with_reducible refine tr ?_ (by with_reducible assumption)))⟩
            · have h641 : ¬ (64 : Int) < (k : Int) := by omega
              have h642 : ¬ (k : Int) < 3 := by omega
              have HX := Lib.hid (HCX.out (by omega) (by omega))
              go_wp2_with (first | (go_at_call 17; (with_reducible refine HHH.out.mono ?_); rintro e w7 ⟨s2, v2, rfl, _, hs2, hE2, hb7⟩; obtain rfl := errW_zero hE2; have hs2' := hs2 rfl; clear hs2 hE2; simp only [hna] at hs2'; obtain ⟨g2, c2, rfl⟩ := own_pos2 hs2' (by omega); have P3 := own_pts hs2'; have hPH7 := hPH.tr hb7 hw56; have HPt : Hid (Calls Tryd.prog 20 #[.slice (some ⟨g2, 0, none⟩) k c2, .slice (some ⟨g1, 0, none⟩) k c1] w7 (Ret w7 (.bool true))) := (by have h := rpoints_any w7.heap.size k c2 k c1 _ _ H H w7 P3 (hPH7.more (Nat.le_trans hw56 hb7.size)) (Nat.le_refl _) (by omega); rw [ptsEq_refl] at h; exact h)) | (go_at_call 20; (with_reducible refine HPt.out.mono ?_); rintro e w8 ⟨rfl, hb8⟩; have HCv : Hid (Calls Tryd.prog 23 #[.slice (some ⟨g1, 0, none⟩) k c1] w8 (Ret w8 (.bool true))) := (by have h := convex_any w5.heap.size k c1 _ H w8 (hPH7.tr hb8 (Nat.le_trans hw56 hb7.size)) (Nat.le_trans hw56 (Nat.le_trans hb7.size hb8.size)) (by omega); rw [HX.out] at h; exact h)) | (go_at_call 23; (with_reducible refine HCv.out.mono ?_); rintro e w10 ⟨rfl, hb10⟩) | (go_at_call 16; (with_reducible refine (HAW.out _ (by repeat (first | with_reducible exact Below.refl _ _ | with_reducible assumption | with_reducible refine al ?_ _ | with_reducible refine Below.drew ?_ | with_reducible refine Below.setCell ?_ (by first | (simp; done) | (simp; omega)) _ | with_reducible refine tr ?_ (by with_reducible assumption)))).mono ?_); rintro e w9 ⟨rfl, hb9⟩))
              go_ret
              exact ⟨rfl, (by repeat (first | with_reducible exact Below.refl _ _ | with_reducible assumption | with_reducible refine al ?_ _ | with_reducible refine Below.drew ?_ | with_reducible refine Below.setCell ?_ (by first | (simp; done) | (simp; omega)) _ | with_reducible refine tr ?_ (by with_reducible assumption)))⟩
      case inr.inl =>
        have qk : (k : Int) < (na : Int) := by omega
        have q0 : ¬ (2 : Int) < (na : Int) := by omega
        have q1b : (((na : Nat) : Int) == 1) = true := by rw [beq_iff_eq]; omega
        have q2b : (((na : Nat) : Int) == 2) = false := by rw [beq_eq_false_iff_ne]; omega
        have q3 : (na : Int) < 3 := by omega
        have q4 : (0 : Int) < (na : Int) := by omega
        have q5 : 0 < na := by omega
        have H1 := Lib.hid h1
        clear hlt hex hk3 h1
        go_wp2
        go_loopw [10] (fun vi w6 => ∃ i : Nat, i ≤ na ∧ vi = .int .i64 i ∧ Below w5.heap.size w5 w6) (fun vi _ => na - (intOf vi).toNat)
        case atStart => exact ⟨0, by omega, rfl, hb⟩
        case round =>
          clear hb P2 PL2 hb5r
          obtain ⟨i, hi, rfl, hb6⟩ := hrel
          have hb06 : Below w.heap.size w wr := hb05.trans (hb6.mono hz05)
          have hw56 := hb6.size
          by_cases hlt : i < na
          · have hi0 : (i : Int) < (na : Int) := by omega
            have hMet := Lib.hid (HS.out.met i (by omega))
            have hDif := Lib.hid (HS.out.diff i (by omega))
            go_wp2
            go_loopw [11, 12] (fun vm vk w7 => ∃ (mb : Bool) (j : Nat), j ≤ n ∧ vk = .int .i64 j ∧ vm = .bool mb ∧ MetB l H i j mb ∧ Below w5.heap.size w5 w7) (fun _ vk _ => n - (intOf vk).toNat)
            case atStart => exact ⟨false, 0, by omega, rfl, rfl, met0, hb6⟩
            case round =>
              obtain ⟨mb, j, hj, rfl, rfl, hmb, hb7⟩ := hrel
              have hb57 : Below w5.heap.size w5 wr := hb7
              by_cases hlt2 : j < n
              · obtain ⟨d0, d1⟩ := pts_at (PL.tr hb57 hBw5) hlt2
                obtain ⟨a0, a1⟩ := pts_at (P1.tr hb57 (Nat.le_refl _)) hlt
                simp only [Nat.zero_add] at a0 a1
                have hj0 : (j : Int) < (n : Int) := by omega
                have hw57 := hb57.size
                have hbg : g1 < wr.heap.size := by omega
                have hbw : b < wr.heap.size := by omega
                have hcs : (mb = true) ∨ (mb = false ∧ pt l j = pt H i) ∨ (mb = false ∧ ¬ (pt l j).x = (pt H i).x) ∨ (mb = false ∧ (pt l j).x = (pt H i).x ∧ ¬ (pt l j).y = (pt H i).y) := by
                  cases mb
                  · by_cases ex : (pt l j).x = (pt H i).x
                    · by_cases ey : (pt l j).y = (pt H i).y
                      · exact .inr (.inl ⟨rfl, Pt.ext' ex ey⟩)
                      · exact .inr (.inr (.inr ⟨rfl, ex, ey⟩))
                    · exact .inr (.inr (.inl ⟨rfl, ex⟩))
                  · exact .inl rfl
                rcases hcs with rfl | ⟨rfl, e⟩ | ⟨rfl, e⟩ | ⟨rfl, e, e'⟩
                case' inl => have HNX := metA hmb
                case' inr.inl =>
                  have HNX := metBt e
                  rw [← e] at a0 a1
                  clear e
                case' inr.inr.inl => have HNX := metC hmb (fun h => e (congrArg Pt.x h))
                case' inr.inr.inr => have HNX := metC hmb (fun h => e' (congrArg Pt.y h))
                all_goals
                  go_wp2_with fail
                  refine wp_region_belowI (by kernel_rfl) (by kernel_rfl) (fun _ _ d _ _ h => by cases d <;> exact h) ?_
                  simp only [List.map_cons, List.map_nil, List.getD_cons_zero, List.getD_cons_succ, bare, gslot, List.getElem?_cons_zero, List.getElem?_cons_succ, Option.bind_some]
                  repeat' ((try simp only [Act.put, List.setIfInBounds_toArray, List.set_cons_zero, List.set_cons_succ]); first | (refine lexL_on ?_ ?_; focus (simp only [List.getElem?_toArray, List.getElem?_cons_succ, List.getElem?_cons_zero, Bool.not_true, Bool.not_false]; done)) | (refine lexL_off ?_ ?_ ?_; (focus (simp only [List.getElem?_toArray, List.getElem?_cons_succ, List.getElem?_cons_zero, Bool.not_true, Bool.not_false]; done)); (focus (exact (by repeat (first | with_reducible exact Below.refl _ _ | with_reducible assumption | with_reducible refine al ?_ _ | with_reducible refine Below.drew ?_ | with_reducible refine Below.setCell ?_ (by first | (simp; done) | (simp; omega)) _ | with_reducible refine tr ?_ (by with_reducible assumption)))))) | (refine lexL_splitS (X := ?_) ?_ ?_ (fun hg => ?_) (fun hg => ?_); rotate_left; (focus (simp only [List.getElem?_toArray, List.getElem?_cons_succ, List.getElem?_cons_zero]; with_reducible rfl)); (focus (exact (by repeat (first | with_reducible exact Below.refl _ _ | with_reducible assumption | with_reducible refine al ?_ _ | with_reducible refine Below.drew ?_ | with_reducible refine Below.setCell ?_ (by first | (simp; done) | (simp; omega)) _ | with_reducible refine tr ?_ (by with_reducible assumption))))); all_goals (try simp only [Bool.not_true, Bool.not_false] at hg)) | (refine lexL_quiet (v := ?_) wantB_none rfl ?_ ?_; rotate_left; focus (intro wq hq; obtain ⟨hcq, hfq⟩ := bcell hq; go_simp; try with_reducible rfl)) | (refine lexL_loud wantB_none rfl (fun K hK => ?_); go_simp; ((first |  fail | skip) <;> (refine hK.out _ _ (by repeat (first | with_reducible exact Below.refl _ _ | with_reducible assumption | with_reducible refine al ?_ _ | with_reducible refine Below.drew ?_ | with_reducible refine Below.setCell ?_ (by first | (simp; done) | (simp; omega)) _ | with_reducible refine tr ?_ (by with_reducible assumption))) ?_; clear hK K))))
                  (all_goals try simp only [Act.put, List.setIfInBounds_toArray, List.set_cons_zero, List.set_cons_succ]); all_goals (refine lexL_nil ?_)
                  go_wp2_with fail
                  refine PgG.keep_world (R := fun w9 => Below wr.heap.size wr w9) (by repeat (first | with_reducible exact Below.refl _ _ | with_reducible assumption | with_reducible refine al ?_ _ | with_reducible refine Below.drew ?_ | with_reducible refine Below.setCell ?_ (by first | (simp; done) | (simp; omega)) _ | with_reducible refine tr ?_ (by with_reducible assumption))) ?_
                  intro w9 hb9
                  try clear e'
                  try clear e
                  have hb59 : Below w5.heap.size w5 w9 := hb57.trans (hb9.mono hw57)
                  clear d0 d1 a0 a1
                  obtain ⟨d0, d1⟩ := pts_at (PL.tr hb59 hBw5) hlt2
                  have hw59 := hb59.size
                  have hbg9 : g1 < w9.heap.size := by omega
                  have hbw9 : b < w9.heap.size := by omega
                  have hZ : pt l j = pt H 0 := HS.out.one (by have := H1.out; omega) j (by omega)
                  obtain ⟨z0, z1⟩ := pts_at (P1.tr hb59 (Nat.le_refl _)) (show 0 < na by omega)
                  simp only [Nat.zero_add, Nat.zero_mul] at z0 z1
                  rw [← hZ] at z0 z1
                  clear hZ
                  refine wp_region_belowI (by kernel_rfl) (by kernel_rfl) (fun _ _ d _ _ h => by cases d <;> exact h) ?_
                  simp only [List.map_cons, List.map_nil, List.getD_cons_zero, List.getD_cons_succ, bare, gslot, List.getElem?_cons_zero, List.getElem?_cons_succ, Option.bind_some]
                  repeat' ((try simp only [Act.put, List.setIfInBounds_toArray, List.set_cons_zero, List.set_cons_succ]); first | (refine lexL_on ?_ ?_; focus (simp only [List.getElem?_toArray, List.getElem?_cons_succ, List.getElem?_cons_zero, Bool.not_true, Bool.not_false]; done)) | (refine lexL_off ?_ ?_ ?_; (focus (simp only [List.getElem?_toArray, List.getElem?_cons_succ, List.getElem?_cons_zero, Bool.not_true, Bool.not_false]; done)); (focus (exact (by repeat (first | with_reducible exact Below.refl _ _ | with_reducible assumption | with_reducible refine al ?_ _ | with_reducible refine Below.drew ?_ | with_reducible refine Below.setCell ?_ (by first | (simp; done) | (simp; omega)) _ | with_reducible refine tr ?_ (by with_reducible assumption)))))) | (refine lexL_splitS (X := ?_) ?_ ?_ (fun hg => ?_) (fun hg => ?_); rotate_left; (focus (simp only [List.getElem?_toArray, List.getElem?_cons_succ, List.getElem?_cons_zero]; with_reducible rfl)); (focus (exact (by repeat (first | with_reducible exact Below.refl _ _ | with_reducible assumption | with_reducible refine al ?_ _ | with_reducible refine Below.drew ?_ | with_reducible refine Below.setCell ?_ (by first | (simp; done) | (simp; omega)) _ | with_reducible refine tr ?_ (by with_reducible assumption))))); all_goals (try simp only [Bool.not_true, Bool.not_false] at hg)) | (refine lexL_quiet (v := ?_) wantB_none rfl ?_ ?_; rotate_left; focus (intro wq hq; obtain ⟨hcq, hfq⟩ := bcell hq; go_simp; try with_reducible rfl)) | (refine lexL_loud wantB_none rfl (fun K hK => ?_); go_simp; ((first |  fail | skip) <;> (refine hK.out _ _ (by repeat (first | with_reducible exact Below.refl _ _ | with_reducible assumption | with_reducible refine al ?_ _ | with_reducible refine Below.drew ?_ | with_reducible refine Below.setCell ?_ (by first | (simp; done) | (simp; omega)) _ | with_reducible refine tr ?_ (by with_reducible assumption))) ?_; clear hK K))))
                  (all_goals try simp only [Act.put, List.setIfInBounds_toArray, List.set_cons_zero, List.set_cons_succ]); all_goals (refine lexL_nil ?_)
                  go_wp2
                  go_roundw
                  case measure => simp [intOf]; omega
                  case rel => exact ⟨_, j + 1, by omega, by go_num, rfl, HNX, (by repeat (first | with_reducible exact Below.refl _ _ | with_reducible assumption | with_reducible refine al ?_ _ | with_reducible refine Below.drew ?_ | with_reducible refine Below.setCell ?_ (by first | (simp; done) | (simp; omega)) _ | with_reducible refine tr ?_ (by with_reducible assumption)))⟩
              · obtain rfl : j = n := by omega
                obtain rfl : mb = true := hmb.2 (by obtain ⟨x, hx, e⟩ := hMet.out; exact ⟨x, by omega, e⟩)
                clear hlt2 hmb
                go_wp2
                go_loopw [13] (fun vk w8 => ∃ k : Nat, k ≤ i ∧ vk = .int .i64 k ∧ Below w5.heap.size w5 w8) (fun vk _ => i - (intOf vk).toNat)
                case atStart => exact ⟨0, by omega, rfl, hb57⟩
                case round =>
                  obtain ⟨k2, hk2, rfl, hb8⟩ := hrel
                  have hb58 : Below w5.heap.size w5 wr := hb8
                  by_cases hlt3 : k2 < i
                  · obtain ⟨a0, a1⟩ := pts_at (P1.tr hb58 (Nat.le_refl _)) hlt
                    obtain ⟨d0, d1⟩ := pts_at (P1.tr hb58 (Nat.le_refl _)) (show k2 < na by omega)
                    simp only [Nat.zero_add] at a0 a1 d0 d1
                    have hk20 : (k2 : Int) < (i : Int) := by omega
                    have hk21 : (k2 : Int) < (na : Int) := by omega
                    have hw58 := hb58.size
                    have hbg : g1 < wr.heap.size := by omega
                    have hne := hDif.out k2 hlt3
                    have hne2 : ¬ ((pt H k2).x = (pt H i).x ∧ (pt H k2).y = (pt H i).y) := fun h => hne (Pt.ext' h.1 h.2)
                    have k1 : ¬ (pt H k2).x = (pt H i).x ∨ ((pt H k2).x = (pt H i).x ∧ ¬ (pt H k2).y = (pt H i).y) := by omega
                    clear hne hne2
                    rcases k1 with k1 | ⟨k0, k1⟩
                    all_goals
                      go_wp2_with fail
                      refine wp_region_belowI (by kernel_rfl) (by kernel_rfl) (fun _ _ d _ _ h => by cases d <;> exact h) ?_
                      simp only [List.map_cons, List.map_nil, List.getD_cons_zero, List.getD_cons_succ, bare, gslot, List.getElem?_cons_zero, List.getElem?_cons_succ, Option.bind_some]
                      repeat' ((try simp only [Act.put, List.setIfInBounds_toArray, List.set_cons_zero, List.set_cons_succ]); first | (refine lexL_quiet (v := ?_) wantB_none rfl ?_ ?_; rotate_left; focus (intro wq hq; obtain ⟨hcq, hfq⟩ := bcell hq; go_simp; try with_reducible rfl)) | (refine lexL_loud wantB_none rfl (fun K hK => ?_); go_simp; ((first | fail | skip) <;> (refine hK.out _ _ (by repeat (first | with_reducible exact Below.refl _ _ | with_reducible assumption | with_reducible refine al ?_ _ | with_reducible refine Below.drew ?_ | with_reducible refine Below.setCell ?_ (by first | (simp; done) | (simp; omega)) _ | with_reducible refine tr ?_ (by with_reducible assumption))) ?_; clear hK K))) | (refine lexL_on ?_ ?_; focus (simp only [List.getElem?_toArray, List.getElem?_cons_succ, List.getElem?_cons_zero, Bool.not_true, Bool.not_false]; done)) | (refine lexL_off ?_ ?_ ?_; (focus (simp only [List.getElem?_toArray, List.getElem?_cons_succ, List.getElem?_cons_zero, Bool.not_true, Bool.not_false]; done)); (focus (exact (by repeat (first | with_reducible exact Below.refl _ _ | with_reducible assumption | with_reducible refine al ?_ _ | with_reducible refine Below.drew ?_ | with_reducible refine Below.setCell ?_ (by first | (simp; done) | (simp; omega)) _ | with_reducible refine tr ?_ (by with_reducible assumption)))))) | (refine lexL_splitS (X := ?_) ?_ ?_ (fun hg => ?_) (fun hg => ?_); rotate_left; (focus (simp only [List.getElem?_toArray, List.getElem?_cons_succ, List.getElem?_cons_zero]; with_reducible rfl)); (focus (exact (by repeat (first | with_reducible exact Below.refl _ _ | with_reducible assumption | with_reducible refine al ?_ _ | with_reducible refine Below.drew ?_ | with_reducible refine Below.setCell ?_ (by first | (simp; done) | (simp; omega)) _ | with_reducible refine tr ?_ (by with_reducible assumption))))); all_goals (try simp only [Bool.not_true, Bool.not_false] at hg)))
                      (all_goals try simp only [Act.put, List.setIfInBounds_toArray, List.set_cons_zero, List.set_cons_succ]); all_goals (refine lexL_nil ?_)
                      go_wp2
                      go_roundw
                      case rel => exact ⟨k2 + 1, by omega, by go_num, (by repeat (first | with_reducible exact Below.refl _ _ | with_reducible assumption | with_reducible refine al ?_ _ | with_reducible refine Below.drew ?_ | with_reducible refine Below.setCell ?_ (by first | (simp; done) | (simp; omega)) _ | with_reducible refine tr ?_ (by with_reducible assumption)))⟩
                      case measure => simp [intOf]; omega
                  · obtain rfl : k2 = i := by omega
                    clear hlt3
                    go_wp2
                    go_roundw
                    case rel => exact ⟨k2 + 1, by omega, by go_num, hb58⟩
                    case measure => simp [intOf]; omega
          · have hPH := P1.tr hb6 (Nat.le_refl _)
            have hHH := hull_any w5.heap.size na c1 _ H wr hPH hw56 (by omega)
            rw [hck_good (by omega) (by omega) HHok.out, HS.out.self] at hHH
            have HHH := Lib.hid hHH
            obtain rfl : na = i := by omega
            clear hlt hHH
            go_wp2_with (first | (go_at_call 17; (with_reducible refine HHH.out.mono ?_); rintro e w7 ⟨s2, v2, rfl, _, hs2, hE2, hb7⟩; obtain rfl := errW_zero hE2; have hs2' := hs2 rfl; clear hs2 hE2; simp only [hna] at hs2'; obtain ⟨g2, c2, rfl⟩ := own_pos2 hs2' (by omega); have P3 := own_pts hs2'; have hPH7 := hPH.tr hb7 hw56; have HPt : Hid (Calls Tryd.prog 20 #[.slice (some ⟨g2, 0, none⟩) na c2, .slice (some ⟨g1, 0, none⟩) na c1] w7 (Ret w7 (.bool true))) := (by have h := rpoints_any w7.heap.size na c2 na c1 _ _ H H w7 P3 (hPH7.more (Nat.le_trans hw56 hb7.size)) (Nat.le_refl _) (by omega); rw [ptsEq_refl] at h; exact h)) | (go_at_call 20; (with_reducible refine HPt.out.mono ?_); rintro e w8 ⟨rfl, hb8⟩) | (go_at_call 16; (with_reducible refine (HAW.out _ (by repeat (first | with_reducible exact Below.refl _ _ | with_reducible assumption | with_reducible refine al ?_ _ | with_reducible refine Below.drew ?_ | with_reducible refine Below.setCell ?_ (by first | (simp; done) | (simp; omega)) _ | with_reducible refine tr ?_ (by with_reducible assumption)))).mono ?_); rintro e w9 ⟨rfl, hb9⟩))
            go_ret
            exact ⟨rfl, (by repeat (first | with_reducible exact Below.refl _ _ | with_reducible assumption | with_reducible refine al ?_ _ | with_reducible refine Below.drew ?_ | with_reducible refine Below.setCell ?_ (by first | (simp; done) | (simp; omega)) _ | with_reducible refine tr ?_ (by with_reducible assumption)))⟩
      case inr.inr =>
        have qk : (k : Int) < (na : Int) := by omega
        have q0 : ¬ (2 : Int) < (na : Int) := by omega
        have q1b : (((na : Nat) : Int) == 1) = false := by rw [beq_eq_false_iff_ne]; omega
        have q2b : (((na : Nat) : Int) == 2) = true := by rw [beq_iff_eq]; omega
        have q3 : (na : Int) < 3 := by omega
        have q4 : (0 : Int) < (na : Int) := by omega
        have q5 : 0 < na := by omega
        have q6 : (1 : Int) < (na : Int) := by omega
        have q7 : 1 < na := by omega
        have H1 := Lib.hid h1
        clear hlt hex hk3 h1
        go_wp2
        go_loopw [10] (fun vi w6 => ∃ i : Nat, i ≤ na ∧ vi = .int .i64 i ∧ Below w5.heap.size w5 w6) (fun vi _ => na - (intOf vi).toNat)
        case atStart => exact ⟨0, by omega, rfl, hb⟩
        case round =>
          clear hb P2 PL2 hb5r
          obtain ⟨i, hi, rfl, hb6⟩ := hrel
          have hb06 : Below w.heap.size w wr := hb05.trans (hb6.mono hz05)
          have hw56 := hb6.size
          by_cases hlt : i < na
          · have hi0 : (i : Int) < (na : Int) := by omega
            have hMet := Lib.hid (HS.out.met i (by omega))
            have hDif := Lib.hid (HS.out.diff i (by omega))
            go_wp2
            go_loopw [11, 12] (fun vm vk w7 => ∃ (mb : Bool) (j : Nat), j ≤ n ∧ vk = .int .i64 j ∧ vm = .bool mb ∧ MetB l H i j mb ∧ Below w5.heap.size w5 w7) (fun _ vk _ => n - (intOf vk).toNat)
            case atStart => exact ⟨false, 0, by omega, rfl, rfl, met0, hb6⟩
            case round =>
              obtain ⟨mb, j, hj, rfl, rfl, hmb, hb7⟩ := hrel
              have hb57 : Below w5.heap.size w5 wr := hb7
              by_cases hlt2 : j < n
              · obtain ⟨d0, d1⟩ := pts_at (PL.tr hb57 hBw5) hlt2
                obtain ⟨a0, a1⟩ := pts_at (P1.tr hb57 (Nat.le_refl _)) hlt
                simp only [Nat.zero_add] at a0 a1
                have hj0 : (j : Int) < (n : Int) := by omega
                have hw57 := hb57.size
                have hbg : g1 < wr.heap.size := by omega
                have hbw : b < wr.heap.size := by omega
                have hcs : (mb = true) ∨ (mb = false ∧ pt l j = pt H i) ∨ (mb = false ∧ ¬ (pt l j).x = (pt H i).x) ∨ (mb = false ∧ (pt l j).x = (pt H i).x ∧ ¬ (pt l j).y = (pt H i).y) := by
                  cases mb
                  · by_cases ex : (pt l j).x = (pt H i).x
                    · by_cases ey : (pt l j).y = (pt H i).y
                      · exact .inr (.inl ⟨rfl, Pt.ext' ex ey⟩)
                      · exact .inr (.inr (.inr ⟨rfl, ex, ey⟩))
                    · exact .inr (.inr (.inl ⟨rfl, ex⟩))
                  · exact .inl rfl
                rcases hcs with rfl | ⟨rfl, e⟩ | ⟨rfl, e⟩ | ⟨rfl, e, e'⟩
                case' inl => have HNX := metA hmb
                case' inr.inl =>
                  have HNX := metBt e
                  rw [← e] at a0 a1
                  clear e
                case' inr.inr.inl => have HNX := metC hmb (fun h => e (congrArg Pt.x h))
                case' inr.inr.inr => have HNX := metC hmb (fun h => e' (congrArg Pt.y h))
                all_goals
                  go_wp2_with fail
                  refine wp_region_belowI (by kernel_rfl) (by kernel_rfl) (fun _ _ d _ _ h => by cases d <;> exact h) ?_
                  simp only [List.map_cons, List.map_nil, List.getD_cons_zero, List.getD_cons_succ, bare, gslot, List.getElem?_cons_zero, List.getElem?_cons_succ, Option.bind_some]
                  repeat' ((try simp only [Act.put, List.setIfInBounds_toArray, List.set_cons_zero, List.set_cons_succ]); first | (refine lexL_on ?_ ?_; focus (simp only [List.getElem?_toArray, List.getElem?_cons_succ, List.getElem?_cons_zero, Bool.not_true, Bool.not_false]; done)) | (refine lexL_off ?_ ?_ ?_; (focus (simp only [List.getElem?_toArray, List.getElem?_cons_succ, List.getElem?_cons_zero, Bool.not_true, Bool.not_false]; done)); (focus (exact (by repeat (first | with_reducible exact Below.refl _ _ | with_reducible assumption | with_reducible refine al ?_ _ | with_reducible refine Below.drew ?_ | with_reducible refine Below.setCell ?_ (by first | (simp; done) | (simp; omega)) _ | with_reducible refine tr ?_ (by with_reducible assumption)))))) | (refine lexL_splitS (X := ?_) ?_ ?_ (fun hg => ?_) (fun hg => ?_); rotate_left; (focus (simp only [List.getElem?_toArray, List.getElem?_cons_succ, List.getElem?_cons_zero]; with_reducible rfl)); (focus (exact (by repeat (first | with_reducible exact Below.refl _ _ | with_reducible assumption | with_reducible refine al ?_ _ | with_reducible refine Below.drew ?_ | with_reducible refine Below.setCell ?_ (by first | (simp; done) | (simp; omega)) _ | with_reducible refine tr ?_ (by with_reducible assumption))))); all_goals (try simp only [Bool.not_true, Bool.not_false] at hg)) | (refine lexL_quiet (v := ?_) wantB_none rfl ?_ ?_; rotate_left; focus (intro wq hq; obtain ⟨hcq, hfq⟩ := bcell hq; go_simp; try with_reducible rfl)) | (refine lexL_loud wantB_none rfl (fun K hK => ?_); go_simp; ((first |  fail | skip) <;> (refine hK.out _ _ (by repeat (first | with_reducible exact Below.refl _ _ | with_reducible assumption | with_reducible refine al ?_ _ | with_reducible refine Below.drew ?_ | with_reducible refine Below.setCell ?_ (by first | (simp; done) | (simp; omega)) _ | with_reducible refine tr ?_ (by with_reducible assumption))) ?_; clear hK K))))
                  (all_goals try simp only [Act.put, List.setIfInBounds_toArray, List.set_cons_zero, List.set_cons_succ]); all_goals (refine lexL_nil ?_)
                  go_wp2_with fail
                  refine PgG.keep_world (R := fun w9 => Below wr.heap.size wr w9) (by repeat (first | with_reducible exact Below.refl _ _ | with_reducible assumption | with_reducible refine al ?_ _ | with_reducible refine Below.drew ?_ | with_reducible refine Below.setCell ?_ (by first | (simp; done) | (simp; omega)) _ | with_reducible refine tr ?_ (by with_reducible assumption))) ?_
                  intro w9 hb9
                  try clear e'
                  try clear e
                  have hb59 : Below w5.heap.size w5 w9 := hb57.trans (hb9.mono hw57)
                  clear d0 d1 a0 a1
                  obtain ⟨d0, d1⟩ := pts_at (PL.tr hb59 hBw5) hlt2
                  have hw59 := hb59.size
                  have hbg9 : g1 < w9.heap.size := by omega
                  have hbw9 : b < w9.heap.size := by omega
                  obtain ⟨z0, z1⟩ := pts_at (P1.tr hb59 (Nat.le_refl _)) (show 0 < na by omega)
                  obtain ⟨y0, y1⟩ := pts_at (P1.tr hb59 (Nat.le_refl _)) (show 1 < na by omega)
                  simp only [Nat.zero_add, Nat.zero_mul, Nat.one_mul] at z0 z1 y0 y1
                  have HOn : Hid (∀ W, Calls Tryd.prog 22 #[ptV (pt H 0).x (pt H 0).y, ptV (pt H 1).x (pt H 1).y, ptV (pt l j).x (pt l j).y] W (Ret W (.bool true))) := fun W => by
                    have h := ron_any (pt H 0).x (pt H 0).y (pt H 1).x (pt H 1).y (pt l j).x (pt l j).y W
                    rw [show onS ⟨(pt H 0).x, (pt H 0).y⟩ ⟨(pt H 1).x, (pt H 1).y⟩ ⟨(pt l j).x, (pt l j).y⟩ = true from HS.out.two (by have := H1.out; omega) j (by omega)] at h
                    exact h
                  refine wp_region_belowI (by kernel_rfl) (by kernel_rfl) (fun _ _ d _ _ h => by cases d <;> exact h) ?_
                  simp only [List.map_cons, List.map_nil, List.getD_cons_zero, List.getD_cons_succ, bare, gslot, List.getElem?_cons_zero, List.getElem?_cons_succ, Option.bind_some]
                  repeat' ((try simp only [Act.put, List.setIfInBounds_toArray, List.set_cons_zero, List.set_cons_succ]); first | (refine lexL_on ?_ ?_; focus (simp only [List.getElem?_toArray, List.getElem?_cons_succ, List.getElem?_cons_zero, Bool.not_true, Bool.not_false]; done)) | (refine lexL_off ?_ ?_ ?_; (focus (simp only [List.getElem?_toArray, List.getElem?_cons_succ, List.getElem?_cons_zero, Bool.not_true, Bool.not_false]; done)); (focus (exact (by repeat (first | with_reducible exact Below.refl _ _ | with_reducible assumption | with_reducible refine al ?_ _ | with_reducible refine Below.drew ?_ | with_reducible refine Below.setCell ?_ (by first | (simp; done) | (simp; omega)) _ | with_reducible refine tr ?_ (by with_reducible assumption)))))) | (refine lexL_splitS (X := ?_) ?_ ?_ (fun hg => ?_) (fun hg => ?_); rotate_left; (focus (simp only [List.getElem?_toArray, List.getElem?_cons_succ, List.getElem?_cons_zero]; with_reducible rfl)); (focus (exact (by repeat (first | with_reducible exact Below.refl _ _ | with_reducible assumption | with_reducible refine al ?_ _ | with_reducible refine Below.drew ?_ | with_reducible refine Below.setCell ?_ (by first | (simp; done) | (simp; omega)) _ | with_reducible refine tr ?_ (by with_reducible assumption))))); all_goals (try simp only [Bool.not_true, Bool.not_false] at hg)) | (refine lexL_quiet (v := ?_) wantB_none rfl ?_ ?_; rotate_left; focus (intro wq hq; obtain ⟨hcq, hfq⟩ := bcell hq; go_simp; try with_reducible rfl)) | (refine lexL_loud wantB_none rfl (fun K hK => ?_); go_simp; ((first |  (go_at_call 22; go_must (with_reducible refine (HOn.out _).mono ?_); rintro e w10 ⟨rfl, hb10⟩; obtain ⟨hc10, hf10⟩ := bcell hb10; have hz10 := hb10.size; (try simp at hz10)) | skip) <;> (refine hK.out _ _ (by repeat (first | with_reducible exact Below.refl _ _ | with_reducible assumption | with_reducible refine al ?_ _ | with_reducible refine Below.drew ?_ | with_reducible refine Below.setCell ?_ (by first | (simp; done) | (simp; omega)) _ | with_reducible refine tr ?_ (by with_reducible assumption))) ?_; clear hK K))))
                  (all_goals try simp only [Act.put, List.setIfInBounds_toArray, List.set_cons_zero, List.set_cons_succ]); all_goals (refine lexL_nil ?_)
                  go_wp2
                  go_roundw
                  case measure => simp [intOf]; omega
                  case rel => exact ⟨_, j + 1, by omega, by go_num, rfl, HNX, (by repeat (first | with_reducible exact Below.refl _ _ | with_reducible assumption | with_reducible refine al ?_ _ | with_reducible refine Below.drew ?_ | with_reducible refine Below.setCell ?_ (by first | (simp; done) | (simp; omega)) _ | with_reducible refine tr ?_ (by with_reducible assumption)))⟩
              · obtain rfl : j = n := by omega
                obtain rfl : mb = true := hmb.2 (by obtain ⟨x, hx, e⟩ := hMet.out; exact ⟨x, by omega, e⟩)
                clear hlt2 hmb
                go_wp2
                go_loopw [13] (fun vk w8 => ∃ k : Nat, k ≤ i ∧ vk = .int .i64 k ∧ Below w5.heap.size w5 w8) (fun vk _ => i - (intOf vk).toNat)
                case atStart => exact ⟨0, by omega, rfl, hb57⟩
                case round =>
                  obtain ⟨k2, hk2, rfl, hb8⟩ := hrel
                  have hb58 : Below w5.heap.size w5 wr := hb8
                  by_cases hlt3 : k2 < i
                  · obtain ⟨a0, a1⟩ := pts_at (P1.tr hb58 (Nat.le_refl _)) hlt
                    obtain ⟨d0, d1⟩ := pts_at (P1.tr hb58 (Nat.le_refl _)) (show k2 < na by omega)
                    simp only [Nat.zero_add] at a0 a1 d0 d1
                    have hk20 : (k2 : Int) < (i : Int) := by omega
                    have hk21 : (k2 : Int) < (na : Int) := by omega
                    have hw58 := hb58.size
                    have hbg : g1 < wr.heap.size := by omega
                    have hne := hDif.out k2 hlt3
                    have hne2 : ¬ ((pt H k2).x = (pt H i).x ∧ (pt H k2).y = (pt H i).y) := fun h => hne (Pt.ext' h.1 h.2)
                    have k1 : ¬ (pt H k2).x = (pt H i).x ∨ ((pt H k2).x = (pt H i).x ∧ ¬ (pt H k2).y = (pt H i).y) := by omega
                    clear hne hne2
                    rcases k1 with k1 | ⟨k0, k1⟩
                    all_goals
                      go_wp2_with fail
                      refine wp_region_belowI (by kernel_rfl) (by kernel_rfl) (fun _ _ d _ _ h => by cases d <;> exact h) ?_
                      simp only [List.map_cons, List.map_nil, List.getD_cons_zero, List.getD_cons_succ, bare, gslot, List.getElem?_cons_zero, List.getElem?_cons_succ, Option.bind_some]
                      repeat' ((try simp only [Act.put, List.setIfInBounds_toArray, List.set_cons_zero, List.set_cons_succ]); first | (refine lexL_quiet (v := ?_) wantB_none rfl ?_ ?_; rotate_left; focus (intro wq hq; obtain ⟨hcq, hfq⟩ := bcell hq; go_simp; try with_reducible rfl)) | (refine lexL_loud wantB_none rfl (fun K hK => ?_); go_simp; ((first | fail | skip) <;> (refine hK.out _ _ (by repeat (first | with_reducible exact Below.refl _ _ | with_reducible assumption | with_reducible refine al ?_ _ | with_reducible refine Below.drew ?_ | with_reducible refine Below.setCell ?_ (by first | (simp; done) | (simp; omega)) _ | with_reducible refine tr ?_ (by with_reducible assumption))) ?_; clear hK K))) | (refine lexL_on ?_ ?_; focus (simp only [List.getElem?_toArray, List.getElem?_cons_succ, List.getElem?_cons_zero, Bool.not_true, Bool.not_false]; done)) | (refine lexL_off ?_ ?_ ?_; (focus (simp only [List.getElem?_toArray, List.getElem?_cons_succ, List.getElem?_cons_zero, Bool.not_true, Bool.not_false]; done)); (focus (exact (by repeat (first | with_reducible exact Below.refl _ _ | with_reducible assumption | with_reducible refine al ?_ _ | with_reducible refine Below.drew ?_ | with_reducible refine Below.setCell ?_ (by first | (simp; done) | (simp; omega)) _ | with_reducible refine tr ?_ (by with_reducible assumption)))))) | (refine lexL_splitS (X := ?_) ?_ ?_ (fun hg => ?_) (fun hg => ?_); rotate_left; (focus (simp only [List.getElem?_toArray, List.getElem?_cons_succ, List.getElem?_cons_zero]; with_reducible rfl)); (focus (exact (by repeat (first | with_reducible exact Below.refl _ _ | with_reducible assumption | with_reducible refine al ?_ _ | with_reducible refine Below.drew ?_ | with_reducible refine Below.setCell ?_ (by first | (simp; done) | (simp; omega)) _ | with_reducible refine tr ?_ (by with_reducible assumption))))); all_goals (try simp only [Bool.not_true, Bool.not_false] at hg)))
                      (all_goals try simp only [Act.put, List.setIfInBounds_toArray, List.set_cons_zero, List.set_cons_succ]); all_goals (refine lexL_nil ?_)
                      go_wp2
                      go_roundw
                      case rel => exact ⟨k2 + 1, by omega, by go_num, (by repeat (first | with_reducible exact Below.refl _ _ | with_reducible assumption | with_reducible refine al ?_ _ | with_reducible refine Below.drew ?_ | with_reducible refine Below.setCell ?_ (by first | (simp; done) | (simp; omega)) _ | with_reducible refine tr ?_ (by with_reducible assumption)))⟩
                      case measure => simp [intOf]; omega
                  · obtain rfl : k2 = i := by omega
                    clear hlt3
                    go_wp2
                    go_roundw
                    case rel => exact ⟨k2 + 1, by omega, by go_num, hb58⟩
                    case measure => simp [intOf]; omega
          · have hPH := P1.tr hb6 (Nat.le_refl _)
            have hHH := hull_any w5.heap.size na c1 _ H wr hPH hw56 (by omega)
            rw [hck_good (by omega) (by omega) HHok.out, HS.out.self] at hHH
            have HHH := Lib.hid hHH
            obtain rfl : na = i := by omega
            clear hlt hHH
            go_wp2_with (first | (go_at_call 17; (with_reducible refine HHH.out.mono ?_); rintro e w7 ⟨s2, v2, rfl, _, hs2, hE2, hb7⟩; obtain rfl := errW_zero hE2; have hs2' := hs2 rfl; clear hs2 hE2; simp only [hna] at hs2'; obtain ⟨g2, c2, rfl⟩ := own_pos2 hs2' (by omega); have P3 := own_pts hs2'; have hPH7 := hPH.tr hb7 hw56; have HPt : Hid (Calls Tryd.prog 20 #[.slice (some ⟨g2, 0, none⟩) na c2, .slice (some ⟨g1, 0, none⟩) na c1] w7 (Ret w7 (.bool true))) := (by have h := rpoints_any w7.heap.size na c2 na c1 _ _ H H w7 P3 (hPH7.more (Nat.le_trans hw56 hb7.size)) (Nat.le_refl _) (by omega); rw [ptsEq_refl] at h; exact h)) | (go_at_call 20; (with_reducible refine HPt.out.mono ?_); rintro e w8 ⟨rfl, hb8⟩) | (go_at_call 16; (with_reducible refine (HAW.out _ (by repeat (first | with_reducible exact Below.refl _ _ | with_reducible assumption | with_reducible refine al ?_ _ | with_reducible refine Below.drew ?_ | with_reducible refine Below.setCell ?_ (by first | (simp; done) | (simp; omega)) _ | with_reducible refine tr ?_ (by with_reducible assumption)))).mono ?_); rintro e w9 ⟨rfl, hb9⟩))
            go_ret
            exact ⟨rfl, (by repeat (first | with_reducible exact Below.refl _ _ | with_reducible assumption | with_reducible refine al ?_ _ | with_reducible refine Below.drew ?_ | with_reducible refine Below.setCell ?_ (by first | (simp; done) | (simp; omega)) _ | with_reducible refine tr ?_ (by with_reducible assumption)))⟩
end Go.Proofs.YtjdgibpjlhpanaaDoor
