/-
  The walk of the statement RelMatches.
-/
import Derived.Test.YtknidfiokmghjaaGreatDoorLawChecks
import Derived.Test.YtknidfiokmghjaaGreatDoorRefEH
set_option linter.unusedSimpArgs false
set_option linter.unusedVariables false
namespace Go.Proofs.YtknidfiokmghjaaGreatDoor
open Go.RowKit Pg

theorem Blk.ne {w : World} {g g' : Nat} {t t' : TypeId} {cs cs' : Array Value} (h : Blk w g t cs) (h' : Blk w g' t' cs') (ht : t ≠ t') : g ≠ g' := by
  intro e
  subst e
  have h2 := (Option.some.inj (h.symm.trans h'))
  injection h2 with h3 h4
  exact ht h4
theorem ErrC.far {w : World} {v : Value} {k r : Nat} {t : TypeId} {cs : Array Value} (h : ErrC w v k) (hr : Blk w r t cs) (ht : 93 ≠ t) (i : Nat) (x : Value) : ErrC (w.setCell ⟨r, i, none⟩ x) v k := by
  rcases h with h | h | ⟨h0, g, s, id, e, hB⟩
  · exact .inl h
  · exact .inr (.inl h)
  · exact .inr (.inr ⟨h0, g, s, id, e, hB.far (p := ⟨r, i, none⟩) (Blk.ne hB hr ht) x⟩)
theorem ErrW.far {w : World} {v : Value} {k r : Nat} {s : ByteArray} {id : Int} {t : TypeId} {cs : Array Value} (h : ErrW w v k s id) (hr : Blk w r t cs) (ht : 93 ≠ t) (i : Nat) (x : Value) : ErrW (w.setCell ⟨r, i, none⟩ x) v k s id := by
  rcases h with h | ⟨h0, g, inner, e, hB, hi⟩
  · exact .inl h
  · exact .inr ⟨h0, g, inner, e, hB.far (p := ⟨r, i, none⟩) (Blk.ne hB hr ht) x, hi.far hr ht i x⟩
theorem ErrW.put4 {w : World} {v : Value} {k r : Nat} {s : ByteArray} {id : Int} {t : TypeId} {cs : Array Value} (h : ErrW w v k s id) (hr : Blk w r t cs) (ht : 93 ≠ t) (x y z u : Value) :
    ErrW ((((w.setCell ⟨r, 0, none⟩ x).setCell ⟨r, 1, none⟩ y).setCell ⟨r, 2, none⟩ z).setCell ⟨r, 3, none⟩ u) v k s id :=
  (((h.far hr ht 0 x).far (hr.set_ 0 x) ht 1 y).far ((hr.set_ 0 x).set_ 1 y) ht 2 z).far (((hr.set_ 0 x).set_ 1 y).set_ 2 z) ht 3 u

set_option maxHeartbeats 2000000 in
set_option maxRecDepth 20000 in
theorem Bounds_bad (B n c : Nat) (k : Int) (A : Option Addr) (l : List Pt) (w : World) (hl : PtsAt w B A n l) (hB : B ≤ w.heap.size) (hn : n ≤ 1000000) (ho : ckOb ⟨k, l⟩ ≠ 0) :
    Calls Tryz.prog 24 #[obV k A n c] w fun e w' => ∃ v, e = .returned (.tuple #[bxW bzero, v]) ∧ ErrW w' v (ckOb ⟨k, l⟩) ⟨#[111, 98, 106, 101, 99, 116]⟩ k ∧ Below w.heap.size w w' := by
  obtain ⟨m, hm⟩ : ∃ m : Nat, ckOb ⟨k, l⟩ = m := ⟨_, rfl⟩
  rw [hm] at ho ⊢
  have HF := Lib.hid hm
  clear hm
  go_enter Tryz.func24, Tryz.ntmps24
  go_wp2_with (go_at_call 35; refine (Check_any B n c k A l _ (hl.tr (by repeat (first | with_reducible exact Below.refl _ _ | with_reducible assumption | with_reducible refine al ?_ _ | with_reducible refine Below.drew ?_ | with_reducible refine Below.setCell ?_ (by first | (simp; done) | (simp; omega)) _ | with_reducible refine tr ?_ (by with_reducible assumption))) hB) (Nat.le_trans hB (Below.size (B := w.heap.size) (w := w) (by repeat (first | with_reducible exact Below.refl _ _ | with_reducible assumption | with_reducible refine al ?_ _ | with_reducible refine Below.drew ?_ | with_reducible refine Below.setCell ?_ (by first | (simp; done) | (simp; omega)) _ | with_reducible refine tr ?_ (by with_reducible assumption))))) hn).mono ?_; rw [HF.out]; rintro e wa ⟨va, rfl, hva, hba⟩; obtain ⟨t, u, rfl⟩ : ∃ t u, va = .iface t u := (by rcases hva with ⟨h, _⟩ | ⟨_, g, i, h, _⟩; exact absurd h ho; exact ⟨_, _, h⟩); obtain ⟨hca, hfa⟩ := bcell hba; have hza := hba.size; (try simp at hza); have hy0 : w.heap.size < wa.heap.size := (by omega); have hy1 : w.heap.size + 1 < wa.heap.size := (by omega))
  refine post_gen2 (R := fun w2 => Blk w2 (w.heap.size + 1) 29 #[.int .i64 0, .int .i64 0, .int .i64 0, .int .i64 0] ∧ ErrW w2 (.iface t u) m ⟨#[111, 98, 106, 101, 99, 116]⟩ k ∧ Below w.heap.size w w2) ⟨?_, ?_, (by repeat (first | with_reducible exact Below.refl _ _ | with_reducible assumption | with_reducible refine al ?_ _ | with_reducible refine Below.drew ?_ | with_reducible refine Below.setCell ?_ (by first | (simp; done) | (simp; omega)) _ | with_reducible refine tr ?_ (by with_reducible assumption)))⟩ ?_
  · repeat (first | with_reducible exact box_put (x := .int .i64 0) (y := .int .i64 0) (z := .int .i64 0) (u := .int .i64 0) (by repeat (first | with_reducible assumption | with_reducible exact Blk.new (by simp) rfl | with_reducible refine Blk.alloc ?_ _ | with_reducible refine Blk.drew ?_ | with_reducible refine Blk.far ?_ (by simp; omega) _ | with_reducible refine Blk.tr ?_ (by with_reducible assumption))) | (with_reducible refine Blk.new ?_ rfl; focus (simp; done)) | with_reducible refine Blk.alloc ?_ _ | with_reducible refine Blk.drew ?_)
  · exact hva.put4 (r := w.heap.size + 1) (t := 29) (cs := #[.int .i64 0, .int .i64 0, .int .i64 0, .int .i64 0]) (by repeat (first | with_reducible assumption | with_reducible exact Blk.new (by simp) rfl | with_reducible refine Blk.alloc ?_ _ | with_reducible refine Blk.drew ?_ | with_reducible refine Blk.far ?_ (by simp; omega) _ | with_reducible refine Blk.tr ?_ (by with_reducible assumption))) (by decide) _ _ _ _
  rintro w2 ⟨HR, hE, hb2⟩
  have r0 := HR.cell 0
  have r1 := HR.cell 1
  have r2 := HR.cell 2
  have r3 := HR.cell 3
  simp only [List.getElem?_toArray, List.getElem?_cons_zero, List.getElem?_cons_succ] at r0 r1 r2 r3
  exact bodyPost_ret (v := .tuple #[bxW bzero, .iface t u]) (by simp [results, Tryz.results24, go_sem, r0, r1, r2, r3, bzero]) rfl ⟨_, rfl, hE, hb2⟩

set_option maxHeartbeats 8000000 in
set_option maxRecDepth 20000 in
theorem relMatches_walk (B n c n' c' : Nat) (k k' : Int) (bq : Bx) (p : Pt) (A A' : Option Addr) (l l' : List Pt) (w : World) (hl : PtsAt w B A n l) (hl' : PtsAt w B A' n' l') (hB : B ≤ w.heap.size) (hT : ErrT w) :
    Calls Tryz.prog 6 #[obV k A n c, quV k' bq A' n' c', ptV p.x p.y] w (Ret w (.bool true)) := by
  have HT := Lib.hid hT
  clear hT
  have HS := Lib.hid (fun w => small_any k k' A A' n c n' c' bq w)
  by_cases hs : n ≤ 70 ∧ n' ≤ 70
  case neg =>
    have e : (decide (n ≤ 70) && decide (n' ≤ 70)) = false := by
      rw [Bool.and_eq_false_iff, decide_eq_false_iff_not, decide_eq_false_iff_not]
      omega
    rw [e] at HS
    clear hs e
    go_enter Tryz.func6, Tryz.ntmps6
    go_wp2_with (first | (go_at_call 9; refine (HS.out _).mono ?_; rintro e w1 ⟨rfl, hb1⟩; obtain ⟨hc1, hf1⟩ := bcell hb1; have hz1 := hb1.size; (try simp at hz1); have hy0 : w.heap.size < w1.heap.size := (by omega); have hy1 : w.heap.size + 1 < w1.heap.size := (by omega); have hy2 : w.heap.size + 1 + 1 < w1.heap.size := (by omega)) | (go_at_call 10; refine (awake_true _ (HT.out.tr (by repeat (first | with_reducible exact Below.refl _ _ | with_reducible assumption | with_reducible refine al ?_ _ | with_reducible refine Below.drew ?_ | with_reducible refine Below.setCell ?_ (by first | (simp; done) | (simp; omega)) _ | with_reducible refine tr ?_ (by with_reducible assumption))))).mono ?_; rintro e w1 ⟨rfl, hb1⟩; obtain ⟨hc1, hf1⟩ := bcell hb1; have hz1 := hb1.size; (try simp at hz1); have hy0 : w.heap.size < w1.heap.size := (by omega); have hy1 : w.heap.size + 1 < w1.heap.size := (by omega); have hy2 : w.heap.size + 1 + 1 < w1.heap.size := (by omega)))
    go_ret
    exact ⟨rfl, (by repeat (first | with_reducible exact Below.refl _ _ | with_reducible assumption | with_reducible refine al ?_ _ | with_reducible refine Below.drew ?_ | with_reducible refine Below.setCell ?_ (by first | (simp; done) | (simp; omega)) _ | with_reducible refine tr ?_ (by with_reducible assumption)))⟩
  have e : (decide (n ≤ 70) && decide (n' ≤ 70)) = true := by simp [hs]
  rw [e] at HS
  have hn : n ≤ 1000000 := by omega
  have hn' : n' ≤ 1000000 := by omega
  clear hs e
  obtain ⟨t, ht⟩ : ∃ t : Bool, matchS ⟨k, l⟩ ⟨k', bq, l'⟩ = t := ⟨_, rfl⟩
  obtain ⟨d1, d0, dd, ed⟩ := fcs_ex (distF ⟨k, l⟩ p)
  have hk15 := ckOb_le ⟨k, l⟩
  obtain ⟨m, hm⟩ : ∃ m : Nat, ckOb ⟨k, l⟩ = m := ⟨_, rfl⟩
  have HAB : ∃ X : Bx, (∀ w', Below w.heap.size w w' → Calls Tryz.prog 24 #[.agg #[.int .i64 k, .slice A n c]] w' fun e w2 => ∃ v, e = .returned (.tuple #[.agg #[.int .i64 X.lo.x, .int .i64 X.lo.y, .int .i64 X.hi.x, .int .i64 X.hi.y], v]) ∧ ErrW w2 v m ⟨#[111, 98, 106, 101, 99, 116]⟩ k ∧ Below w'.heap.size w' w2)
      ∧ ∀ w', Below w.heap.size w w' → Calls Tryz.prog 25 #[.agg #[.int .i64 k, .slice A n c]] w' (Ret w' (.tuple #[.agg #[.int .i64 X.lo.x, .int .i64 X.lo.y, .int .i64 X.hi.x, .int .i64 X.hi.y], .int .i64 m])) := by
    by_cases ho : ckOb ⟨k, l⟩ = 0
    · refine ⟨boundsS ⟨k, l⟩, fun w' hb => ?_, fun w' hb => ?_⟩
      · refine (Bounds_ok B n c k A l w' (hl.tr hb hB) (Nat.le_trans hB hb.size) hn ho).mono ?_
        rintro e w2 ⟨rfl, hb2⟩
        exact ⟨_, rfl, .inl ⟨by rw [← hm, ho], rfl⟩, hb2⟩
      · have h := rBounds_ok B n c k A l w' (hl.tr hb hB) (Nat.le_trans hB hb.size) hn ho
        rw [← hm, ho]
        exact h
    · refine ⟨bzero, fun w' hb => ?_, fun w' hb => ?_⟩
      · have h := Bounds_bad B n c k A l w' (hl.tr hb hB) (Nat.le_trans hB hb.size) hn ho
        rw [hm] at h
        exact h
      · have h := rBounds_bad B n c k A l w' (hl.tr hb hB) (Nat.le_trans hB hb.size) hn ho
        rw [hm] at h
        exact h
  obtain ⟨X, HA0, HB0⟩ := HAB
  rw [hm] at hk15
  have HA := Lib.hid HA0
  have HBd := Lib.hid HB0
  have H1 : Hid (∀ w', Below w.heap.size w w' → Calls Tryz.prog 17 #[.agg #[.int .i64 k, .slice A n c], .agg #[.int .i64 k', .int .i64 bq.lo.x, .int .i64 bq.lo.y, .int .i64 bq.hi.x, .int .i64 bq.hi.y, .slice A' n' c']] w' (Ret w' (.bool t))) := fun w' hb => by
    have h := match_any B n c n' c' k k' bq A A' l l' w' (hl.tr hb hB) (hl'.tr hb hB) (Nat.le_trans hB hb.size) hn hn'
    rw [ht] at h
    exact h
  have H2 : Hid (∀ w', Below w.heap.size w w' → Calls Tryz.prog 27 #[.agg #[.int .i64 k, .slice A n c], .agg #[.int .i64 k', .int .i64 bq.lo.x, .int .i64 bq.lo.y, .int .i64 bq.hi.x, .int .i64 bq.hi.y, .slice A' n' c']] w' (Ret w' (.bool t))) := fun w' hb => by
    have h := rMatch_any B n c n' c' k k' bq A A' l l' w' (hl.tr hb hB) (hl'.tr hb hB) (Nat.le_trans hB hb.size) hn hn'
    rw [ht] at h
    exact h
  have H3 : Hid (∀ w', Below w.heap.size w w' → Calls Tryz.prog 18 #[.agg #[.int .i64 k, .slice A n c], .agg #[.int .i64 p.x, .int .i64 p.y]] w' (Ret w' (.agg #[.int .u64 d1, .int .u64 d0, .int .u64 dd]))) := fun w' hb => by
    have h := relDist_any B n c k A l p.x p.y w' (hl.tr hb hB) (Nat.le_trans hB hb.size) hn
    rw [fV_fcs, show (⟨p.x, p.y⟩ : Pt) = p from rfl, ed] at h
    exact h
  have H4 : Hid (∀ w', Below w.heap.size w w' → Calls Tryz.prog 28 #[.agg #[.int .i64 k, .slice A n c], .agg #[.int .i64 p.x, .int .i64 p.y]] w' (Ret w' (.agg #[.int .u64 d1, .int .u64 d0, .int .u64 dd]))) := fun w' hb => by
    have h := rDist_any B n c k A l p.x p.y w' (hl.tr hb hB) (Nat.le_trans hB hb.size) hn
    rw [fV_fcs, show (⟨p.x, p.y⟩ : Pt) = p from rfl, ed] at h
    exact h
  clear ht ed hm HA0 HB0 hl hl'
  obtain ⟨x0, ex0⟩ : ∃ z, X.lo.x = z := ⟨_, rfl⟩
  obtain ⟨x1, ex1⟩ : ∃ z, X.lo.y = z := ⟨_, rfl⟩
  obtain ⟨x2, ex2⟩ : ∃ z, X.hi.x = z := ⟨_, rfl⟩
  obtain ⟨x3, ex3⟩ : ∃ z, X.hi.y = z := ⟨_, rfl⟩
  rw [ex0, ex1, ex2, ex3] at HA HBd
  clear ex0 ex1 ex2 ex3
  go_enter Tryz.func6, Tryz.ntmps6
  go_wp2_with (first | (go_at_call 9; refine (HS.out _).mono ?_; rintro e ws ⟨rfl, hbs⟩; obtain ⟨hcs, hfs⟩ := bcell hbs; have hzs := hbs.size; (try simp at hzs); have hys0 : w.heap.size < ws.heap.size := (by omega); have hys1 : w.heap.size + 1 < ws.heap.size := (by omega); have hys2 : w.heap.size + 1 + 1 < ws.heap.size := (by omega)) | (go_at_call 24; (with_reducible refine (HA.out _ ?_).mono ?_); exact (by repeat (first | with_reducible exact Below.refl _ _ | with_reducible assumption | with_reducible refine al ?_ _ | with_reducible refine Below.drew ?_ | with_reducible refine Below.setCell ?_ (by first | (simp; done) | (simp; omega)) _ | with_reducible refine tr ?_ (by with_reducible assumption))); rintro e wa ⟨v, rfl, hva, hba⟩; obtain ⟨hca, hfa⟩ := bcell hba; have hza := hba.size; (try simp at hza); have hya0 : w.heap.size < wa.heap.size := (by omega); have hya1 : w.heap.size + 1 < wa.heap.size := (by omega); have hya2 : w.heap.size + 1 + 1 < wa.heap.size := (by omega)) | (go_at_call 25; (with_reducible refine (HBd.out _ ?_).mono ?_); exact (by repeat (first | with_reducible exact Below.refl _ _ | with_reducible assumption | with_reducible refine al ?_ _ | with_reducible refine Below.drew ?_ | with_reducible refine Below.setCell ?_ (by first | (simp; done) | (simp; omega)) _ | with_reducible refine tr ?_ (by with_reducible assumption))); rintro e wb ⟨rfl, hbb⟩; obtain ⟨hcb, hfb⟩ := bcell hbb; have hzb := hbb.size; (try simp at hzb); have hyb0 : w.heap.size < wb.heap.size := (by omega); have hyb1 : w.heap.size + 1 < wb.heap.size := (by omega); have hyb2 : w.heap.size + 1 + 1 < wb.heap.size := (by omega); have hyba : wa.heap.size < wb.heap.size := (by omega)))
  refine wp_gen2 (fun w2 => (Below w.heap.size w w2 ∧ ErrW w2 v m ⟨#[111, 98, 106, 101, 99, 116]⟩ k) ∧ Blk w2 w.heap.size 24 #[.int .i64 k, .slice A n c] ∧ Blk w2 (w.heap.size + 1) 31 #[.int .i64 k', .int .i64 bq.lo.x, .int .i64 bq.lo.y, .int .i64 bq.hi.x, .int .i64 bq.hi.y, .slice A' n' c'] ∧ Blk w2 (w.heap.size + 1 + 1) 27 #[.int .i64 p.x, .int .i64 p.y] ∧ Blk w2 wa.heap.size 29 #[.int .i64 x0, .int .i64 x1, .int .i64 x2, .int .i64 x3] ∧ Blk w2 wb.heap.size 29 #[.int .i64 x0, .int .i64 x1, .int .i64 x2, .int .i64 x3]) ⟨⟨(by repeat (first | with_reducible exact Below.refl _ _ | with_reducible assumption | with_reducible refine al ?_ _ | with_reducible refine Below.drew ?_ | with_reducible refine Below.setCell ?_ (by first | (simp; done) | (simp; omega)) _ | with_reducible refine tr ?_ (by with_reducible assumption))), hva.tr (Below.mono (B := wa.heap.size) (by repeat (first | with_reducible exact Below.refl _ _ | with_reducible assumption | with_reducible refine al ?_ _ | with_reducible refine Below.drew ?_ | with_reducible refine Below.setCell ?_ (by first | (simp; done) | (simp; omega)) _ | with_reducible refine tr ?_ (by with_reducible assumption))) (Nat.le_refl _))⟩, (by repeat (first | with_reducible assumption | with_reducible exact Blk.new (by simp) rfl | with_reducible refine Blk.alloc ?_ _ | with_reducible refine Blk.drew ?_ | with_reducible refine Blk.far ?_ (by simp; omega) _ | with_reducible refine Blk.tr ?_ (by with_reducible assumption))), (by repeat (first | with_reducible assumption | with_reducible exact Blk.new (by simp) rfl | with_reducible refine Blk.alloc ?_ _ | with_reducible refine Blk.drew ?_ | with_reducible refine Blk.far ?_ (by simp; omega) _ | with_reducible refine Blk.tr ?_ (by with_reducible assumption))), (by repeat (first | with_reducible assumption | with_reducible exact Blk.new (by simp) rfl | with_reducible refine Blk.alloc ?_ _ | with_reducible refine Blk.drew ?_ | with_reducible refine Blk.far ?_ (by simp; omega) _ | with_reducible refine Blk.tr ?_ (by with_reducible assumption))), (by repeat (first | with_reducible assumption | with_reducible exact Blk.new (by simp) rfl | with_reducible refine Blk.alloc ?_ _ | with_reducible refine Blk.drew ?_ | with_reducible refine Blk.far ?_ (by simp; omega) _ | with_reducible refine Blk.tr ?_ (by with_reducible assumption))), (by repeat (first | with_reducible assumption | with_reducible exact Blk.new (by simp) rfl | with_reducible refine Blk.alloc ?_ _ | with_reducible refine Blk.drew ?_ | with_reducible refine Blk.far ?_ (by simp; omega) _ | with_reducible refine Blk.tr ?_ (by with_reducible assumption)))⟩ ?_
  clear hbs hcs hfs hzs hys0 hys1 hys2 hba hca hfa hva hbb hcb hfb HS HA HBd
  rintro w2 ⟨⟨hb, hE⟩, b1, b2, b3, b4, b5⟩
  obtain ⟨G, eG⟩ : ∃ G, wa.heap.size = G := ⟨_, rfl⟩
  obtain ⟨G', eG'⟩ : ∃ G, wb.heap.size = G := ⟨_, rfl⟩
  simp only [eG, eG'] at *
  have HE := Lib.hid hE
  have cc1 := b1.cell
  have cc2 := b2.cell
  have cc3 := b3.cell
  have cc4 := b4.cell
  have cc5 := b5.cell
  have ll1 := b1.lt
  have ll2 := b2.lt
  have ll3 := b3.lt
  have ll4 := b4.lt
  have ll5 := b5.lt
  clear hE
  refine wp_region_below [0, 1, 2, 3, 4, 6, 5, 7, 8, 9, 10, 11, 13, 14, 12, 15, 16, 17, 18, 19, 20, 22, 23, 21, 24, 25, 26, 27, 28, 29, 30] (by kernel_rfl) (by kernel_rfl) (fun _ _ d _ _ h => by cases d <;> exact h) ?_
  simp only [List.map_cons, List.map_nil, List.getD_cons_zero, List.getD_cons_succ, bare, gslot, List.getElem?_cons_zero, List.getElem?_cons_succ, Option.bind_some]
  repeat' ((try simp only [Act.put, List.setIfInBounds_toArray, List.set_cons_zero, List.set_cons_succ]); first | (refine lexL_quiet (v := ?_) wantB_none rfl ?_ ?_; rotate_left; focus (intro wq hq; obtain ⟨hcq, hfq⟩ := bcell hq; go_simp; try with_reducible rfl)) | (refine lexL_loud wantB_none rfl (fun K hK => ?_); go_simp; ((first | (go_at_call 26; refine (code_any v m _ (IsErr.ofW (HE.out.tr (Below.mono (B := w2.heap.size) (by repeat (first | with_reducible exact Below.refl _ _ | with_reducible assumption | with_reducible refine al ?_ _ | with_reducible refine Below.drew ?_ | with_reducible refine Below.setCell ?_ (by first | (simp; done) | (simp; omega)) _ | with_reducible refine tr ?_ (by with_reducible assumption))) (Nat.le_refl _))) hk15)).mono ?_; rintro e w5 ⟨rfl, rfl⟩) | (go_at_call 17; (with_reducible refine (H1.out _ ?_).mono ?_); exact (by repeat (first | with_reducible exact Below.refl _ _ | with_reducible assumption | with_reducible refine al ?_ _ | with_reducible refine Below.drew ?_ | with_reducible refine Below.setCell ?_ (by first | (simp; done) | (simp; omega)) _ | with_reducible refine tr ?_ (by with_reducible assumption))); rintro e w5 ⟨rfl, hb5⟩; obtain ⟨hc5, hf5⟩ := bcell hb5; have hz5 := hb5.size; (try simp at hz5); have q0 : w.heap.size < w5.heap.size := (by omega); have q1 : w.heap.size + 1 < w5.heap.size := (by omega); have q2 : w.heap.size + 1 + 1 < w5.heap.size := (by omega); have q3 : G < w5.heap.size := (by omega); have q4 : G' < w5.heap.size := (by omega)) | (go_at_call 27; (with_reducible refine (H2.out _ ?_).mono ?_); exact (by repeat (first | with_reducible exact Below.refl _ _ | with_reducible assumption | with_reducible refine al ?_ _ | with_reducible refine Below.drew ?_ | with_reducible refine Below.setCell ?_ (by first | (simp; done) | (simp; omega)) _ | with_reducible refine tr ?_ (by with_reducible assumption))); rintro e w5 ⟨rfl, hb5⟩; obtain ⟨hc5, hf5⟩ := bcell hb5; have hz5 := hb5.size; (try simp at hz5); have q0 : w.heap.size < w5.heap.size := (by omega); have q1 : w.heap.size + 1 < w5.heap.size := (by omega); have q2 : w.heap.size + 1 + 1 < w5.heap.size := (by omega); have q3 : G < w5.heap.size := (by omega); have q4 : G' < w5.heap.size := (by omega)) | (go_at_call 18; (with_reducible refine (H3.out _ ?_).mono ?_); exact (by repeat (first | with_reducible exact Below.refl _ _ | with_reducible assumption | with_reducible refine al ?_ _ | with_reducible refine Below.drew ?_ | with_reducible refine Below.setCell ?_ (by first | (simp; done) | (simp; omega)) _ | with_reducible refine tr ?_ (by with_reducible assumption))); rintro e w5 ⟨rfl, hb5⟩; obtain ⟨hc5, hf5⟩ := bcell hb5; have hz5 := hb5.size; (try simp at hz5); have q0 : w.heap.size < w5.heap.size := (by omega); have q1 : w.heap.size + 1 < w5.heap.size := (by omega); have q2 : w.heap.size + 1 + 1 < w5.heap.size := (by omega); have q3 : G < w5.heap.size := (by omega); have q4 : G' < w5.heap.size := (by omega)) | (go_at_call 28; (with_reducible refine (H4.out _ ?_).mono ?_); exact (by repeat (first | with_reducible exact Below.refl _ _ | with_reducible assumption | with_reducible refine al ?_ _ | with_reducible refine Below.drew ?_ | with_reducible refine Below.setCell ?_ (by first | (simp; done) | (simp; omega)) _ | with_reducible refine tr ?_ (by with_reducible assumption))); rintro e w5 ⟨rfl, hb5⟩; obtain ⟨hc5, hf5⟩ := bcell hb5; have hz5 := hb5.size; (try simp at hz5); have q0 : w.heap.size < w5.heap.size := (by omega); have q1 : w.heap.size + 1 < w5.heap.size := (by omega); have q2 : w.heap.size + 1 + 1 < w5.heap.size := (by omega); have q3 : G < w5.heap.size := (by omega); have q4 : G' < w5.heap.size := (by omega)) | (go_at_call 10; refine (awake_true _ (HT.out.tr (by repeat (first | with_reducible exact Below.refl _ _ | with_reducible assumption | with_reducible refine al ?_ _ | with_reducible refine Below.drew ?_ | with_reducible refine Below.setCell ?_ (by first | (simp; done) | (simp; omega)) _ | with_reducible refine tr ?_ (by with_reducible assumption))))).mono ?_; rintro e w5 ⟨rfl, hb5⟩; obtain ⟨hc5, hf5⟩ := bcell hb5; have hz5 := hb5.size; (try simp at hz5); have q0 : w.heap.size < w5.heap.size := (by omega); have q1 : w.heap.size + 1 < w5.heap.size := (by omega); have q2 : w.heap.size + 1 + 1 < w5.heap.size := (by omega); have q3 : G < w5.heap.size := (by omega); have q4 : G' < w5.heap.size := (by omega)) | skip) <;> (refine hK.out _ _ (by repeat (first | with_reducible exact Below.refl _ _ | with_reducible assumption | with_reducible refine al ?_ _ | with_reducible refine Below.drew ?_ | with_reducible refine Below.setCell ?_ (by first | (simp; done) | (simp; omega)) _ | with_reducible refine tr ?_ (by with_reducible assumption))) ?_; clear hK K))) | (refine lexL_on ?_ ?_; focus (simp only [List.getElem?_toArray, List.getElem?_cons_succ, List.getElem?_cons_zero, Bool.not_true, Bool.not_false]; done)) | (refine lexL_off ?_ ?_ ?_; (focus (simp only [List.getElem?_toArray, List.getElem?_cons_succ, List.getElem?_cons_zero, Bool.not_true, Bool.not_false]; done)); (focus (exact (by repeat (first | with_reducible exact Below.refl _ _ | with_reducible assumption | with_reducible refine al ?_ _ | with_reducible refine Below.drew ?_ | with_reducible refine Below.setCell ?_ (by first | (simp; done) | (simp; omega)) _ | with_reducible refine tr ?_ (by with_reducible assumption)))))) | (refine lexL_splitS (X := ?_) ?_ ?_ (fun hg => ?_) (fun hg => ?_); rotate_left; (focus (simp only [List.getElem?_toArray, List.getElem?_cons_succ, List.getElem?_cons_zero]; with_reducible rfl)); (focus (exact (by repeat (first | with_reducible exact Below.refl _ _ | with_reducible assumption | with_reducible refine al ?_ _ | with_reducible refine Below.drew ?_ | with_reducible refine Below.setCell ?_ (by first | (simp; done) | (simp; omega)) _ | with_reducible refine tr ?_ (by with_reducible assumption))))); all_goals (try simp only [Bool.not_true, Bool.not_false] at hg)))
  (all_goals try simp only [Act.put, List.setIfInBounds_toArray, List.set_cons_zero, List.set_cons_succ]); all_goals (refine lexL_nil ?_)
  go_wp2
  go_ret
  exact ⟨rfl, (by repeat (first | with_reducible exact Below.refl _ _ | with_reducible assumption | with_reducible refine al ?_ _ | with_reducible refine Below.drew ?_ | with_reducible refine Below.setCell ?_ (by first | (simp; done) | (simp; omega)) _ | with_reducible refine tr ?_ (by with_reducible assumption)))⟩
end Go.Proofs.YtknidfiokmghjaaGreatDoor
