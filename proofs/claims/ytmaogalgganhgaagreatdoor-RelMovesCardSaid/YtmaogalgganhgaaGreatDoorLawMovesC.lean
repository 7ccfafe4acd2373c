/-
  The walk of the statement RelMoves, where nothing stops it.
-/
import Derived.Test.YtmaogalgganhgaaGreatDoorLawChecks
import Derived.Test.YtmaogalgganhgaaGreatDoorMoveA
import Derived.Test.YtmaogalgganhgaaGreatDoorRef4
set_option linter.unusedSimpArgs false
set_option linter.unusedVariables false
namespace Go.Proofs.YtmaogalgganhgaaGreatDoor
open Go.RowKit Pg

theorem own_set {w : World} {base : Nat} {e : TypeId} {size : Nat} {v : Value} {n : Nat} {xs : List Value} (h : w.ownsRow base e size v n xs) {p : Addr} (hp : p.block < base) (u : Value) : (w.setCell p u).ownsRow base e size v n xs := by
  obtain ⟨h1, h2 | ⟨g, cap, cur, hv, hg, hh, r⟩⟩ := h
  · exact ⟨h1, .inl h2⟩
  · exact ⟨h1, .inr ⟨g, cap, cur, hv, hg, (Below.heap_setCell w p u g (by omega)).trans hh, r⟩⟩

theorem upW_eq {d : Int} {p : Pt} (hp : okPt p = true) (h1 : -2147483648 ≤ d) (h2 : d ≤ 2147483648) : upW d p = upP d p := by
  obtain ⟨_, h3⟩ := (okPt_iff p).1 hp
  have e : IntKind.i64.wrap (p.y + d) = p.y + d := by rw [IntKind.wrap_i64]; omega
  unfold upW upP
  rw [e]
theorem map_upW {d : Int} {l : List Pt} (hl : l.all okPt = true) (h1 : -2147483648 ≤ d) (h2 : d ≤ 2147483648) : l.map (upW d) = l.map (upP d) :=
  List.map_congr_left fun p hp => upW_eq (List.all_eq_true.1 hl p hp) h1 h2
theorem ck_allO {k : Int} {l : List Pt} (h : ckOb ⟨k, l⟩ = 0) (h2 : k ≠ 2) : l.all okPt = true := by
  obtain ⟨l1, l3⟩ := box_lens h
  simp only at l1 l3
  rcases ck_kinds h with ⟨hb, ho⟩ | ⟨h4, hb, hr⟩
  · simp only [isBox, decide_eq_true_eq] at hb
    obtain ⟨⟨o1, o2⟩, _⟩ := (Pg.okBx_iff _).1 ho
    rcases hb with rfl | hb | rfl
    · obtain ⟨p, rfl⟩ := List.length_eq_one_iff.1 (l1 rfl)
      simp [obBox, pt] at o1
      simp [o1]
    · exact absurd hb h2
    · have h3 := l3 rfl
      match l, h3 with
      | [p, q], _ =>
        simp [obBox, pt] at o1 o2
        simp [o1, o2]
  · exact (ring_lens hr).2.2
theorem match_upW {k k' d : Int} {l l' : List Pt} {b : Bx} (h1 : -2147483648 ≤ d) (h2 : d ≤ 2147483648) (hk : k ≠ 2) (ho : ckOb ⟨k, l⟩ = 0) (ho' : ckOb ⟨k, l.map (upW d)⟩ = 0) (hq : ckQu ⟨k', b, l'⟩ = 0)
    (hq' : ckQu ⟨k', ⟨upW d b.lo, upW d b.hi⟩, l'.map (upW d)⟩ = 0) : matchS ⟨k, l.map (upW d)⟩ ⟨k', ⟨upW d b.lo, upW d b.hi⟩, l'.map (upW d)⟩ = matchS ⟨k, l⟩ ⟨k', b, l'⟩ := by
  rw [map_upW (ck_allO ho hk) h1 h2] at ho' ⊢
  have hb2 : ∀ c : Bx, ckBox c = 0 → (⟨upW d c.lo, upW d c.hi⟩ : Bx) = upB d c := fun c hc => by
    obtain ⟨⟨o1, o2⟩, _⟩ := (Pg.okBx_iff _).1 (okBx_ck.2 hc)
    rw [upW_eq o1 h1 h2, upW_eq o2 h1 h2]
    rfl
  by_cases k1 : k' = 1
  · subst k1
    have hb : ckBox b = 0 := by simpa [ckQu] using hq
    have hb' : ckBox ⟨upW d b.lo, upW d b.hi⟩ = 0 := by simpa [ckQu] using hq'
    rw [hb2 b hb] at hb' ⊢
    have := match_up (o := ⟨k, l⟩) (y := d) (k := 1) (b := b) (l := []) ho hk ho' (by simpa [ckQu] using hb) (by simpa [ckQu] using hb')
    rw [match_meets ho hb, match_meets (o := upO d ⟨k, l⟩) ho' hb'] at this
    rw [match_meets ho hb, match_meets ho' hb']
    exact this
  by_cases k2 : k' = 2
  · subst k2
    have hb : ckBox b = 0 := by simpa [ckQu] using hq
    have hb' : ckBox ⟨upW d b.lo, upW d b.hi⟩ = 0 := by simpa [ckQu] using hq'
    rw [hb2 b hb] at hb' ⊢
    have := match_up (o := ⟨k, l⟩) (y := d) (k := 2) (b := b) (l := []) ho hk ho' (by simpa [ckQu] using hb) (by simpa [ckQu] using hb')
    rw [match_in ho hb, match_in (o := upO d ⟨k, l⟩) ho' hb'] at this
    rw [match_in ho hb, match_in ho' hb']
    exact this
  by_cases k3 : k' = 3
  · subst k3
    have hb : okPt b.lo = true := by
      unfold ckQu at hq
      simp only [show ¬ ((3 : Int) = 1 ∨ (3 : Int) = 2) by decide, ↓reduceIte] at hq
      split at hq
      · assumption
      · omega
    have hb' : okPt (upW d b.lo) = true := by
      unfold ckQu at hq'
      simp only [show ¬ ((3 : Int) = 1 ∨ (3 : Int) = 2) by decide, ↓reduceIte] at hq'
      split at hq'
      · assumption
      · omega
    have e := upW_eq hb h1 h2
    have := match_up (o := ⟨k, l⟩) (y := d) (k := 3) (b := ⟨b.lo, b.lo⟩) (l := []) ho hk ho' (by simp [ckQu, hb]) (by rw [e] at hb'; simp [ckQu, upB, hb'])
    rw [match_has (r := ⟨b.lo, b.lo⟩) ho hb, match_has (o := upO d ⟨k, l⟩) (r := upB d ⟨b.lo, b.lo⟩) ho' (by rw [e] at hb'; exact hb')] at this
    rw [match_has ho hb, match_has (r := ⟨upW d b.lo, upW d b.hi⟩) (o := ⟨k, l.map (upP d)⟩) ho' hb']
    simp only [e]
    exact this
  by_cases k4 : k' = 4
  · subst k4
    have hl : ckRing l' = 0 := by simpa [ckQu] using hq
    have hl' : ckRing (l'.map (upW d)) = 0 := by simpa [ckQu] using hq'
    rw [map_upW (ring_lens hl).2.2 h1 h2] at hl' ⊢
    have := match_up (o := ⟨k, l⟩) (y := d) (k := 4) (b := bzero) (l := l') ho hk ho' (by simpa [ckQu] using hl) (by simpa [ckQu] using hl')
    rw [match_cross ho hl, match_cross (o := upO d ⟨k, l⟩) ho' hl'] at this
    rw [match_cross ho hl, match_cross ho' hl']
    exact this
  · exfalso
    simp [ckQu, k1, k2, k3, k4] at hq
theorem dist_upW {k d : Int} {l : List Pt} {p : Pt} (h1 : -2147483648 ≤ d) (h2 : d ≤ 2147483648) (hk : k ≠ 2) (ho : ckOb ⟨k, l⟩ = 0) (ho' : ckOb ⟨k, l.map (upW d)⟩ = 0) (hp : okPt p = true) (hp' : okPt (upW d p) = true) :
    distF ⟨k, l.map (upW d)⟩ (upW d p) = distF ⟨k, l⟩ p := by
  rw [map_upW (ck_allO ho hk) h1 h2] at ho' ⊢
  rw [upW_eq hp h1 h2] at hp' ⊢
  exact dist_up (o := ⟨k, l⟩) ho hk ho' hp hp'

set_option maxHeartbeats 16000000 in
set_option maxRecDepth 20000 in
theorem relMoves_core (B n c n' c' : Nat) (k k' px py d : Int) (bq : Bx) (A A' : Option Addr) (l l' : List Pt) (w : World) (hl : PtsAt w B A n l) (hl' : PtsAt w B A' n' l') (hB : B ≤ w.heap.size) (hT : ErrT w) (hn1 : 1 ≤ n) (hn : n ≤ 64) (hn' : n' ≤ 64)
    (HMy : Hid (∀ w', Below w.heap.size w w' → Calls Tryz.prog 8 #[.agg #[.int .i64 k, .slice A n c]] w' (Ret w' (.bool true))))
    (HQ : Hid (∀ w', Below w.heap.size w w' → Calls Tryz.prog 9 #[.agg #[.int .i64 k', .int .i64 bq.lo.x, .int .i64 bq.lo.y, .int .i64 bq.hi.x, .int .i64 bq.hi.y, .slice A' n' c']] w' (Ret w' (.int .i64 0))))
    (HPt : Hid (∀ w', Below w.heap.size w w' → Calls Tryz.prog 10 #[.agg #[.int .i64 px, .int .i64 py]] w' (Ret w' (.bool true))))
    (hk2 : ¬ k = 2) (hd1 : ¬ d < -2147483648) (hd2 : ¬ 2147483648 < d) (ho : ckOb ⟨k, l⟩ = 0) (hq0 : ckQu ⟨k', bq, l'⟩ = 0) (hp0 : okPt ⟨px, py⟩ = true) :
    Calls Tryz.prog 3 #[.agg #[.int .i64 k, .slice A n c], .agg #[.int .i64 k', .int .i64 bq.lo.x, .int .i64 bq.lo.y, .int .i64 bq.hi.x, .int .i64 bq.hi.y, .slice A' n' c'], .agg #[.int .i64 px, .int .i64 py], .int .i64 d] w (Ret w (.bool true)) := by
  have HT := Lib.hid hT
  have HO := Lib.hid (And.intro ho (And.intro hq0 hp0))
  clear hT ho hq0 hp0
  have hn0 : ¬ (64 : Int) < (n' : Int) := by omega
  have e1 : (k == 2) = false := by rw [beq_eq_false_iff_ne]; exact hk2
  have e2 : decide ((64 : Int) < (n' : Int)) = false := decide_eq_false hn0
  have e3 : decide (d < -2147483648) = false := decide_eq_false hd1
  have e4 : decide (2147483648 < d) = false := decide_eq_false hd2
  obtain ⟨i0, hi, iz0, iz1, iz2⟩ := info_parts Tryz.infoPoint
  go_enter Tryz.func3, Tryz.ntmps3
  go_wp2_with (first | (go_at_call 8; (with_reducible refine (HMy.out _ ?_).mono ?_); exact (by repeat (first | with_reducible exact Below.refl _ _ | with_reducible assumption | with_reducible refine al ?_ _ | with_reducible refine Below.drew ?_ | with_reducible refine Below.setCell ?_ (by first | (simp; done) | (simp; omega)) _ | with_reducible refine tr ?_ (by with_reducible assumption))); rintro e wy ⟨rfl, hby⟩; obtain ⟨hcy, hfy⟩ := bcell hby; have hzy := hby.size; (try simp at hzy); have hyy0 : w.heap.size < wy.heap.size := (by omega); have hyy1 : w.heap.size + 1 < wy.heap.size := (by omega); have hyy2 : w.heap.size + 1 + 1 < wy.heap.size := (by omega); have hyy3 : w.heap.size + 1 + 1 + 1 < wy.heap.size := (by omega)) | (go_at_call 9; (with_reducible refine (HQ.out _ ?_).mono ?_); exact (by repeat (first | with_reducible exact Below.refl _ _ | with_reducible assumption | with_reducible refine al ?_ _ | with_reducible refine Below.drew ?_ | with_reducible refine Below.setCell ?_ (by first | (simp; done) | (simp; omega)) _ | with_reducible refine tr ?_ (by with_reducible assumption))); rintro e wq ⟨rfl, hbq⟩; obtain ⟨hcq, hfq⟩ := bcell hbq; have hzq := hbq.size; (try simp at hzq); have hyq0 : w.heap.size < wq.heap.size := (by omega); have hyq1 : w.heap.size + 1 < wq.heap.size := (by omega); have hyq2 : w.heap.size + 1 + 1 < wq.heap.size := (by omega); have hyq3 : w.heap.size + 1 + 1 + 1 < wq.heap.size := (by omega)) | (go_at_call 10; (with_reducible refine (HPt.out _ ?_).mono ?_); exact (by repeat (first | with_reducible exact Below.refl _ _ | with_reducible assumption | with_reducible refine al ?_ _ | with_reducible refine Below.drew ?_ | with_reducible refine Below.setCell ?_ (by first | (simp; done) | (simp; omega)) _ | with_reducible refine tr ?_ (by with_reducible assumption))); rintro e wp ⟨rfl, hbp⟩; obtain ⟨hcp, hfp⟩ := bcell hbp; have hzp := hbp.size; (try simp at hzp); have hyp0 : w.heap.size < wp.heap.size := (by omega); have hyp1 : w.heap.size + 1 < wp.heap.size := (by omega); have hyp2 : w.heap.size + 1 + 1 < wp.heap.size := (by omega); have hyp3 : w.heap.size + 1 + 1 + 1 < wp.heap.size := (by omega)))
  refine wp_gen2 (fun w2 => Below w.heap.size w w2 ∧ Blk w2 w.heap.size 24 #[.int .i64 k, .slice A n c] ∧ Blk w2 (w.heap.size + 1) 30 #[.int .i64 k', .int .i64 bq.lo.x, .int .i64 bq.lo.y, .int .i64 bq.hi.x, .int .i64 bq.hi.y, .slice A' n' c'] ∧ Blk w2 (w.heap.size + 1 + 1) 26 #[.int .i64 px, .int .i64 py] ∧ Blk w2 (w.heap.size + 1 + 1 + 1) 3 #[.int .i64 d] ∧ Blk w2 wp.heap.size 24 #[.int .i64 k, .slice none 0 0]) ⟨(by repeat (first | with_reducible exact Below.refl _ _ | with_reducible assumption | with_reducible refine al ?_ _ | with_reducible refine Below.drew ?_ | with_reducible refine Below.setCell ?_ (by first | (simp; done) | (simp; omega)) _ | with_reducible refine tr ?_ (by with_reducible assumption))), (by repeat (first | with_reducible assumption | with_reducible exact Blk.new (by simp) rfl | with_reducible refine Blk.alloc ?_ _ | with_reducible refine Blk.drew ?_ | with_reducible refine Blk.far ?_ (by simp; omega) _ | with_reducible refine Blk.tr ?_ (by with_reducible assumption))), (by repeat (first | with_reducible assumption | with_reducible exact Blk.new (by simp) rfl | with_reducible refine Blk.alloc ?_ _ | with_reducible refine Blk.drew ?_ | with_reducible refine Blk.far ?_ (by simp; omega) _ | with_reducible refine Blk.tr ?_ (by with_reducible assumption))), (by repeat (first | with_reducible assumption | with_reducible exact Blk.new (by simp) rfl | with_reducible refine Blk.alloc ?_ _ | with_reducible refine Blk.drew ?_ | with_reducible refine Blk.far ?_ (by simp; omega) _ | with_reducible refine Blk.tr ?_ (by with_reducible assumption))), (by repeat (first | with_reducible assumption | with_reducible exact Blk.new (by simp) rfl | with_reducible refine Blk.alloc ?_ _ | with_reducible refine Blk.drew ?_ | with_reducible refine Blk.far ?_ (by simp; omega) _ | with_reducible refine Blk.tr ?_ (by with_reducible assumption))), (by repeat (first | with_reducible assumption | with_reducible exact Blk.new (by simp) rfl | with_reducible refine Blk.alloc ?_ _ | with_reducible refine Blk.drew ?_ | with_reducible refine Blk.far ?_ (by simp; omega) _ | with_reducible refine Blk.tr ?_ (by with_reducible assumption)))⟩ ?_
  have hG : Hid (w.heap.size + 1 + 1 + 1 < wp.heap.size) := by unfold Hid; omega
  clear hby hcy hfy hzy hyy0 hyy1 hyy2 hyy3 hbq hcq hfq hzq hyq0 hyq1 hyq2 hyq3 hbp hcp hfp hzp hyp0 hyp1 hyp2 hyp3 HMy HQ HPt
  generalize wp.heap.size = G at *
  rintro w0 ⟨hb0, hO, hQu, hP, hY, hM⟩
  go_loopw [11] (fun i wr => ∃ k1 : Nat, k1 ≤ n ∧ i = .int .i64 k1 ∧ (∃ s, Blk wr G 24 #[.int .i64 k, s] ∧ wr.ownsRow (G + 1) 26 2 s k1 (pcells ((l.map (upW d)).take k1))) ∧ Blk wr w.heap.size 24 #[.int .i64 k, .slice A n c] ∧ Blk wr (w.heap.size + 1) 30 #[.int .i64 k', .int .i64 bq.lo.x, .int .i64 bq.lo.y, .int .i64 bq.hi.x, .int .i64 bq.hi.y, .slice A' n' c'] ∧ Blk wr (w.heap.size + 1 + 1) 26 #[.int .i64 px, .int .i64 py] ∧ Blk wr (w.heap.size + 1 + 1 + 1) 3 #[.int .i64 d] ∧ Below w.heap.size w wr) (fun i _ => n - (intOf i).toNat)
  case atStart => exact ⟨0, Nat.zero_le _, rfl, ⟨_, hM, World.ownsRow_nil _ _ _ _⟩, hO, hQu, hP, hY, hb0⟩
  case round =>
    clear hb0 hO hQu hP hY hM
    obtain ⟨k1, hk, rfl, ⟨s, hM, hown⟩, hO, hQu, hP, hY, hb⟩ := hrel
    have lO := hO.lt
    have lY := hY.lt
    have lM := hM.lt
    have cO := hO.cell
    have cM := hM.cell
    have fM := hM.frozen
    have hGG := hG.out
    by_cases hlt : k1 < n
    · obtain ⟨b, off, rfl, hab, c0, c1⟩ := (hl.below (hb.mono hB)).at_ hlt
      have hbs := hb.size
      have hbw : b < wr.heap.size := by omega
      have hbw9 : b < G + 1 := by omega
      have hw9 : w.heap.size < G + 1 := by omega
      have hk0 : (k1 : Int) < (n : Int) := by omega
      have hkl : k1 < l.length := by rw [hl.1]; exact hlt
      obtain ⟨z, ez⟩ : ∃ z, IntKind.i64.wrap ((pt l k1).y + d) = z := ⟨_, rfl⟩
      have HU : Hid (∀ w' : World, Blk w' (w.heap.size + 1 + 1 + 1) 3 #[.int .i64 d] → Calls Tryz.prog 12 #[.agg #[.int .i64 (pt l k1).x, .int .i64 (pt l k1).y], .pointer (some ⟨w.heap.size + 1 + 1 + 1, 0, none⟩)] w' (Ret w' (.agg #[.int .i64 (pt l k1).x, .int .i64 z]))) := fun w' h => by
        have := up_any (pt l k1).x (pt l k1).y d _ w' h
        rw [ez] at this
        exact this
      have HE : Hid (pcells ((l.map (upW d)).take (k1 + 1)) = pcells ((l.map (upW d)).take k1) ++ [.int .i64 (pt l k1).x, .int .i64 z]) := by
        unfold Hid
        rw [List.take_add_one, List.getElem?_map, pt_of hkl]
        simp only [Option.map_some, Option.toList_some]
        rw [pcells_snoc]
        simp only [upW, ez]
      clear ez
      go_wp2_with fail
      refine wp_region_keepS (G + 1) [] [0, 1, 2, 3, 4, 5, 6, 7, 8, 9, 10, 11] (by kernel_rfl) (by kernel_rfl) (by kernel_rfl) (fun _ _ d _ _ h => by cases d <;> exact h) ?_
      simp only [List.map_cons, List.map_nil, List.getD_cons_zero, List.getD_cons_succ, List.dropLast_cons_cons, List.dropLast_singleton, List.getLast?_cons_cons, List.getLast?_singleton, Option.getD_some, bare, gslot, List.getElem?_cons_zero, List.getElem?_cons_succ, Option.bind_some]
      repeat' ((try simp only [Act.put, List.setIfInBounds_toArray, List.set_cons_zero, List.set_cons_succ]); first | (refine lexL_quiet (v := ?_) wantB_none rfl ?_ ?_; rotate_left; focus (intro wq hq; obtain ⟨hcq, hfq⟩ := kcell hq; go_simp; try with_reducible rfl)) | (refine lexL_loud wantB_none rfl (fun K hK => ?_); (refine wp_append_own _ _ _ 22 rfl (G + 1) 26 i0 (.agg #[.int .i64 0, .int .i64 0]) 2 16 Tryz.underlying22 hi iz0 iz1 iz2 rfl (by decide) _ _ _ rfl (hown5.alloc _) ⟨w5.heap.size, 0, none⟩ 1 1 [.int .i64 (pt l k1).x, .int .i64 z] rfl rfl ?_ ?_ ?_ ?_ ?_ ?_); (focus (exact two_at2)); (focus (exact two_one2)); (focus (unfold maxLen; omega)); (focus omega); (focus (simp; omega)); intro v' w2 hown' hgrow _; have hlt' := hown.lt; have hb2 : Below w.heap.size w w2 := (Below.grown (w := (w5.alloc (.cells #[.int .i64 (pt l k1).x, .int .i64 z] 26))) (by repeat (first | with_reducible exact Below.refl _ _ | with_reducible assumption | with_reducible refine al ?_ _ | with_reducible refine Below.drew ?_ | with_reducible refine Below.setCell ?_ (by first | (simp; done) | (simp; omega)) _ | with_reducible refine tr ?_ (by with_reducible assumption))) hgrow (by simp; omega) (fun j e => by have := (hlt' j e).1; omega)); have hk3 : Keep (G + 1) [] wr w2 := (Keep.grown (w := (w5.alloc (.cells #[.int .i64 (pt l k1).x, .int .i64 z] 26))) (Keep.alloc (Keep.below (Keep.drew (Keep.refl _ _ _)) hb5) _) hgrow (fun j e => ⟨(hlt' j e).1, by simp⟩)); refine hK.out _ _ (by repeat (first | with_reducible exact Keep.refl _ _ _ | with_reducible assumption | with_reducible refine Keep.drew ?_ | with_reducible refine Keep.alloc ?_ _ | with_reducible refine Keep.below ?_ (by with_reducible assumption))) ?_; clear hK K) | (refine lexL_loud wantB_none rfl (fun K hK => ?_); go_simp; ((first | (go_at_call 12; (with_reducible refine (HU.out _ ?_).mono ?_); exact (by repeat (first | with_reducible assumption | with_reducible exact Blk.new (by simp) rfl | with_reducible refine Blk.alloc ?_ _ | with_reducible refine Blk.drew ?_ | with_reducible refine Blk.far ?_ (by simp; omega) _ | with_reducible refine Blk.tr ?_ (by with_reducible assumption))); rintro e w5 ⟨rfl, hb5⟩; obtain ⟨hc5, hf5⟩ := bcell hb5; have hz5 := hb5.size; (try simp at hz5); have hown5 := own_below (owns_drew hown) hb5)  | skip) <;> (refine hK.out _ _ (by repeat (first | with_reducible exact Keep.refl _ _ _ | with_reducible assumption | with_reducible refine Keep.drew ?_ | with_reducible refine Keep.alloc ?_ _ | with_reducible refine Keep.below ?_ (by with_reducible assumption))) ?_; clear hK K))) | (refine lexL_on ?_ ?_; focus (simp only [List.getElem?_toArray, List.getElem?_cons_succ, List.getElem?_cons_zero, Bool.not_true, Bool.not_false]; done)) | (refine lexL_off ?_ ?_ ?_; (focus (simp only [List.getElem?_toArray, List.getElem?_cons_succ, List.getElem?_cons_zero, Bool.not_true, Bool.not_false]; done)); (focus (exact (by repeat (first | with_reducible exact Keep.refl _ _ _ | with_reducible assumption | with_reducible refine Keep.drew ?_ | with_reducible refine Keep.alloc ?_ _ | with_reducible refine Keep.below ?_ (by with_reducible assumption)))))) | (refine lexL_splitS (X := ?_) ?_ ?_ (fun hg => ?_) (fun hg => ?_); rotate_left; (focus (simp only [List.getElem?_toArray, List.getElem?_cons_succ, List.getElem?_cons_zero]; with_reducible rfl)); (focus (exact (by repeat (first | with_reducible exact Keep.refl _ _ _ | with_reducible assumption | with_reducible refine Keep.drew ?_ | with_reducible refine Keep.alloc ?_ _ | with_reducible refine Keep.below ?_ (by with_reducible assumption))))); all_goals (try simp only [Bool.not_true, Bool.not_false] at hg)))
      (all_goals try simp only [Act.put, List.setIfInBounds_toArray, List.set_cons_zero, List.set_cons_succ]); all_goals (refine lexL_nil ?_)
      have hM2 := keep_blk hk3 hM (.inl (by omega))
      have hO2 := keep_blk hk3 hO (.inl (by omega))
      have hQ2 := keep_blk hk3 hQu (.inl (by omega))
      have hP2 := keep_blk hk3 hP (.inl (by omega))
      have hY2 := keep_blk hk3 hY (.inl (by omega))
      have hown2 : w2.ownsRow (G + 1) 26 2 v' (k1 + 1) (pcells ((l.map (upW d)).take (k1 + 1))) := by rw [HE.out]; exact hown'
      obtain ⟨A2, c2, ev, _⟩ := pts_of_own hown2 (by rw [List.length_take, List.length_map]; omega)
      subst ev
      have hown3 := own_set hown2 (p := ⟨G, 1, none⟩) (Nat.lt_succ_self G) (.slice A2 (k1 + 1) c2)
      have hM3 : Blk (w2.setCell ⟨G, 1, none⟩ (.slice A2 (k1 + 1) c2)) G 24 #[.int .i64 k, .slice A2 (k1 + 1) c2] := (hM2.set_ 1 _).eq_ (by simp)
      clear hown' hgrow hown hown5 hO hM hQu hP hY hk3 hlt' hb5 hc5 hf5 hz5 c0 c1 cO cM fM HE HU hown2
      have cM := hM2.cell
      have fM := hM2.frozen
      have lM2 := hM2.lt
      unfold pop
      simp only
      go_simp
      go_wp2
      go_roundw
      case rel => exact ⟨k1 + 1, by omega, by go_num, ⟨_, hM3, hown3⟩, hO2.far (p := ⟨G, 1, none⟩) (by simp; omega) _, hQ2.far (p := ⟨G, 1, none⟩) (by simp; omega) _, hP2.far (p := ⟨G, 1, none⟩) (by simp; omega) _, hY2.far (p := ⟨G, 1, none⟩) (by simp; omega) _, (by repeat (first | with_reducible exact Below.refl _ _ | with_reducible assumption | with_reducible refine al ?_ _ | with_reducible refine Below.drew ?_ | with_reducible refine Below.setCell ?_ (by first | (simp; done) | (simp; omega)) _ | with_reducible refine tr ?_ (by with_reducible assumption)))⟩
      case measure => simp [intOf]; omega
    · have hkn : k1 = n := by omega
      subst hkn
      rw [List.take_of_length_le (by rw [List.length_map, hl.1]; exact Nat.le_refl _)] at hown
      obtain ⟨hL, h0 | ⟨rb, cap, cur, rfl, hge, hRow0, hcap, hmax, hcs, hxs⟩⟩ := hown
      · omega
      have hRow : Blk wr rb 26 cur := hRow0
      have hOwn : Hid (∀ w' : World, Blk w' rb 26 cur → w'.ownsRow (G + 1) 26 2 (.slice (some ⟨rb, 0, none⟩) k1 cap) k1 (pcells (l.map (upW d)))) := fun w' h => ⟨hL, .inr ⟨rb, cap, cur, rfl, hge, h, hcap, hmax, hcs, hxs⟩⟩
      have lRow := hRow.lt
      clear hRow0 hL hcap hmax hcs hxs
      obtain ⟨z1, ez1⟩ : ∃ z, IntKind.i64.wrap (bq.lo.y + d) = z := ⟨_, rfl⟩
      obtain ⟨z2, ez2⟩ : ∃ z, IntKind.i64.wrap (bq.hi.y + d) = z := ⟨_, rfl⟩
      have HZ := Lib.hid (And.intro ez1 ez2)
      have HU1 : Hid (∀ w' : World, Blk w' (w.heap.size + 1 + 1 + 1) 3 #[.int .i64 d] → Calls Tryz.prog 12 #[.agg #[.int .i64 bq.lo.x, .int .i64 bq.lo.y], .pointer (some ⟨w.heap.size + 1 + 1 + 1, 0, none⟩)] w' (Ret w' (.agg #[.int .i64 bq.lo.x, .int .i64 z1]))) := fun w' h => by
        have := up_any bq.lo.x bq.lo.y d _ w' h
        rw [ez1] at this
        exact this
      have HU2 : Hid (∀ w' : World, Blk w' (w.heap.size + 1 + 1 + 1) 3 #[.int .i64 d] → Calls Tryz.prog 12 #[.agg #[.int .i64 bq.hi.x, .int .i64 bq.hi.y], .pointer (some ⟨w.heap.size + 1 + 1 + 1, 0, none⟩)] w' (Ret w' (.agg #[.int .i64 bq.hi.x, .int .i64 z2]))) := fun w' h => by
        have := up_any bq.hi.x bq.hi.y d _ w' h
        rw [ez2] at this
        exact this
      have cQ := hQu.cell
      have lQ := hQu.lt
      have lP := hP.lt
      have hbs := hb.size
      go_wp2_with fail
      refine wp_region_alloc' [0, 1, 2, 3, 4, 5, 6, 7, 8, 9, 10, 11, 12, 13] [14] [15] (fun _ => #[.int .i64 0, .int .i64 0, .int .i64 0, .int .i64 0, .int .i64 0, .slice none 0 0]) (by kernel_rfl) (by kernel_rfl) (fun _ _ d _ _ h => by cases d <;> exact h) (by intro i hi w; simp only [List.mem_cons, List.not_mem_nil, or_false] at hi; rcases hi with rfl <;> simp only [List.getD_cons_zero, List.getD_cons_succ, tyOf] <;> kernel_rfl) (fun KN hKN => ?_)
      simp only [List.map_cons, List.map_nil, List.getD_cons_zero, List.getD_cons_succ, bare, gslot, List.getElem?_cons_zero, List.getElem?_cons_succ, Option.bind_some]
      repeat ((try simp only [Act.put, List.setIfInBounds_toArray, List.set_cons_zero, List.set_cons_succ]); first | (refine lexN_quiet (v := ?_) rfl ?_ ?_; rotate_left; focus (intro wq hq; obtain ⟨hcq, hfq⟩ := bcell hq; go_simp; try with_reducible rfl)) | (refine lexN_loud (v := ?_) rfl ?_ ?_; rotate_left; focus (intro wq hq K hK; obtain ⟨hcq, hfq⟩ := bcell hq; go_simp; (first | (go_at_call 12; (with_reducible refine (HU1.out _ ?_).mono ?_); exact (by repeat (first | with_reducible assumption | with_reducible exact Blk.new (by simp) rfl | with_reducible refine Blk.alloc ?_ _ | with_reducible refine Blk.drew ?_ | with_reducible refine Blk.far ?_ (by simp; omega) _ | with_reducible refine Blk.tr ?_ (by with_reducible assumption))); rintro e w1 ⟨rfl, hb1⟩; obtain ⟨hc1, hf1⟩ := bcell hb1; have hz1 := hb1.size; (try simp at hz1)) | (go_at_call 12; (with_reducible refine (HU2.out _ ?_).mono ?_); exact (by repeat (first | with_reducible assumption | with_reducible exact Blk.new (by simp) rfl | with_reducible refine Blk.alloc ?_ _ | with_reducible refine Blk.drew ?_ | with_reducible refine Blk.far ?_ (by simp; omega) _ | with_reducible refine Blk.tr ?_ (by with_reducible assumption))); rintro e w1 ⟨rfl, hb1⟩; obtain ⟨hc1, hf1⟩ := bcell hb1; have hz1 := hb1.size; (try simp at hz1))); refine hK.out _ _ ?_ (by repeat (first | with_reducible exact Below.refl _ _ | with_reducible assumption | with_reducible refine al ?_ _ | with_reducible refine Below.drew ?_ | with_reducible refine Below.setCell ?_ (by first | (simp; done) | (simp; omega)) _ | with_reducible refine tr ?_ (by with_reducible assumption))); simp only [Act.put, List.setIfInBounds_toArray, List.set_cons_zero, List.set_cons_succ]; try with_reducible rfl)))
      (try simp only [Act.put, List.setIfInBounds_toArray, List.set_cons_zero, List.set_cons_succ])
      refine lexN_nil (hKN.out _ ?_)
      clear hKN KN
      intro gs wf hwf hgs hds
      simp only [List.map_cons, List.map_nil, List.getD_cons_zero, List.getD_cons_succ, bare, gslot, List.getElem?_cons_zero, List.getElem?_cons_succ, Option.bind_some, List.foldl_cons, List.foldl_nil, ptrV]
      obtain ⟨hg14, HB14⟩ := hgs 14 (by decide)
      simp only [List.getD_cons_zero, List.getD_cons_succ, tyOf] at HB14
      clear hgs hds
      generalize gs 14 = g14 at *
      have cg14 := HB14.cell
      have fg14 := HB14.frozen
      repeat ((try simp only [Act.put, List.setIfInBounds_toArray, List.set_cons_zero, List.set_cons_succ]); first | (refine lexL_loud wantB_none rfl (fun K hK => ?_); go_simp; refine hK.out _ _ (by repeat (first | with_reducible exact Below.refl _ _ | with_reducible assumption | with_reducible refine al ?_ _ | with_reducible refine Below.drew ?_ | with_reducible refine Below.setCell ?_ (by first | (simp; done) | (simp; omega)) _ | with_reducible refine tr ?_ (by with_reducible assumption))) ?_; clear hK K) | (refine lexL_quiet (v := ?_) wantB_none rfl ?_ ?_; rotate_left; focus (intro wq hq; go_simp; try with_reducible rfl)))
      refine lexL_nil ?_
      refine keep_world (R := fun w2 => Below w.heap.size w w2 ∧ Blk w2 g14 30 #[.int .i64 k', .int .i64 bq.lo.x, .int .i64 z1, .int .i64 bq.hi.x, .int .i64 z2, .slice none 0 0] ∧ Blk w2 w.heap.size 24 #[.int .i64 k, .slice A k1 c] ∧ Blk w2 (w.heap.size + 1) 30 #[.int .i64 k', .int .i64 bq.lo.x, .int .i64 bq.lo.y, .int .i64 bq.hi.x, .int .i64 bq.hi.y, .slice A' n' c'] ∧ Blk w2 (w.heap.size + 1 + 1) 26 #[.int .i64 px, .int .i64 py] ∧ Blk w2 (w.heap.size + 1 + 1 + 1) 3 #[.int .i64 d] ∧ Blk w2 G 24 #[.int .i64 k, .slice (some ⟨rb, 0, none⟩) k1 cap] ∧ Blk w2 rb 26 cur) ⟨(by repeat (first | with_reducible exact Below.refl _ _ | with_reducible assumption | with_reducible refine al ?_ _ | with_reducible refine Below.drew ?_ | with_reducible refine Below.setCell ?_ (by first | (simp; done) | (simp; omega)) _ | with_reducible refine tr ?_ (by with_reducible assumption))), ((((((HB14.set_ 0 _).set_ 1 _).set_ 2 _).set_ 3 _).set_ 4 _).set_ 5 _).eq_ (by simp), (by repeat (first | with_reducible assumption | with_reducible exact Blk.new (by simp) rfl | with_reducible refine Blk.alloc ?_ _ | with_reducible refine Blk.drew ?_ | with_reducible refine Blk.far ?_ (by simp; omega) _ | with_reducible refine Blk.tr ?_ (by with_reducible assumption))), (by repeat (first | with_reducible assumption | with_reducible exact Blk.new (by simp) rfl | with_reducible refine Blk.alloc ?_ _ | with_reducible refine Blk.drew ?_ | with_reducible refine Blk.far ?_ (by simp; omega) _ | with_reducible refine Blk.tr ?_ (by with_reducible assumption))), (by repeat (first | with_reducible assumption | with_reducible exact Blk.new (by simp) rfl | with_reducible refine Blk.alloc ?_ _ | with_reducible refine Blk.drew ?_ | with_reducible refine Blk.far ?_ (by simp; omega) _ | with_reducible refine Blk.tr ?_ (by with_reducible assumption))), (by repeat (first | with_reducible assumption | with_reducible exact Blk.new (by simp) rfl | with_reducible refine Blk.alloc ?_ _ | with_reducible refine Blk.drew ?_ | with_reducible refine Blk.far ?_ (by simp; omega) _ | with_reducible refine Blk.tr ?_ (by with_reducible assumption))), (by repeat (first | with_reducible assumption | with_reducible exact Blk.new (by simp) rfl | with_reducible refine Blk.alloc ?_ _ | with_reducible refine Blk.drew ?_ | with_reducible refine Blk.far ?_ (by simp; omega) _ | with_reducible refine Blk.tr ?_ (by with_reducible assumption))), (by repeat (first | with_reducible assumption | with_reducible exact Blk.new (by simp) rfl | with_reducible refine Blk.alloc ?_ _ | with_reducible refine Blk.drew ?_ | with_reducible refine Blk.far ?_ (by simp; omega) _ | with_reducible refine Blk.tr ?_ (by with_reducible assumption)))⟩ ?_
      rintro w2 ⟨hb2, h14, hE0, hE1, hE2, hE3, hE4, hE5⟩
      clear cg14 fg14 HB14
      have cg14 := h14.cell
      have fg14 := h14.frozen
      have lg14 := h14.lt
      obtain ⟨hc2, hf2⟩ := bcell hb2
      have gfs : Hid (w.heap.size + 1 + 1 + 1 < G ∧ G < rb ∧ rb < g14) := by have := hG.out; unfold Hid; omega
      clear hb hO hQu hP hY hM cQ lQ lP hbs lO lY lM cO cM fM hGG hRow lRow hwf hc2 hf2 cg14 fg14 lg14 HU1 HU2 ez1 ez2 hg14 hge hlt hk
      go_wp2_with fail
      go_loopw [13] (fun i wr => ∃ k2 : Nat, k2 ≤ n' ∧ i = .int .i64 k2 ∧ (∃ s, Blk wr g14 30 #[.int .i64 k', .int .i64 bq.lo.x, .int .i64 z1, .int .i64 bq.hi.x, .int .i64 z2, s] ∧ wr.ownsRow (g14 + 1) 26 2 s k2 (pcells ((l'.map (upW d)).take k2))) ∧ Blk wr w.heap.size 24 #[.int .i64 k, .slice A k1 c] ∧ Blk wr (w.heap.size + 1) 30 #[.int .i64 k', .int .i64 bq.lo.x, .int .i64 bq.lo.y, .int .i64 bq.hi.x, .int .i64 bq.hi.y, .slice A' n' c'] ∧ Blk wr (w.heap.size + 1 + 1) 26 #[.int .i64 px, .int .i64 py] ∧ Blk wr (w.heap.size + 1 + 1 + 1) 3 #[.int .i64 d] ∧ Blk wr G 24 #[.int .i64 k, .slice (some ⟨rb, 0, none⟩) k1 cap] ∧ Blk wr rb 26 cur ∧ Below w.heap.size w wr) (fun i _ => n' - (intOf i).toNat)
      case atStart => exact ⟨0, Nat.zero_le _, rfl, ⟨_, h14, World.ownsRow_nil _ _ _ _⟩, hE0, hE1, hE2, hE3, hE4, hE5, hb2⟩
      case round =>
        clear hb2 h14 hE0 hE1 hE2 hE3 hE4 hE5
        obtain ⟨k2, hk, rfl, ⟨s, hM, hown⟩, hO, hQu, hP, hY, hMo, hRo, hb⟩ := hrel
        have lO := hQu.lt
        have lY := hY.lt
        have lM := hM.lt
        have cO := hQu.cell
        have cM := hM.cell
        have fM := hM.frozen
        have gg := gfs.out
        by_cases hlt : k2 < n'
        · obtain ⟨b, off, rfl, hab, c0, c1⟩ := (hl'.below (hb.mono hB)).at_ hlt
          have hbs := hb.size
          have hbw : b < wr.heap.size := by omega
          have hbw9 : b < g14 + 1 := by omega
          have hw9 : w.heap.size + 1 < g14 + 1 := by omega
          have hk0 : (k2 : Int) < (n' : Int) := by omega
          have hkl : k2 < l'.length := by rw [hl'.1]; exact hlt
          obtain ⟨z, ez⟩ : ∃ z, IntKind.i64.wrap ((pt l' k2).y + d) = z := ⟨_, rfl⟩
          have HU : Hid (∀ w' : World, Blk w' (w.heap.size + 1 + 1 + 1) 3 #[.int .i64 d] → Calls Tryz.prog 12 #[.agg #[.int .i64 (pt l' k2).x, .int .i64 (pt l' k2).y], .pointer (some ⟨w.heap.size + 1 + 1 + 1, 0, none⟩)] w' (Ret w' (.agg #[.int .i64 (pt l' k2).x, .int .i64 z]))) := fun w' h => by
            have := up_any (pt l' k2).x (pt l' k2).y d _ w' h
            rw [ez] at this
            exact this
          have HE : Hid (pcells ((l'.map (upW d)).take (k2 + 1)) = pcells ((l'.map (upW d)).take k2) ++ [.int .i64 (pt l' k2).x, .int .i64 z]) := by
            unfold Hid
            rw [List.take_add_one, List.getElem?_map, pt_of hkl]
            simp only [Option.map_some, Option.toList_some]
            rw [pcells_snoc]
            simp only [upW, ez]
          clear ez
          go_wp2_with fail
          refine wp_region_keepS (g14 + 1) [] [0, 1, 2, 3, 4, 5, 6, 7, 8, 9, 10, 11] (by kernel_rfl) (by kernel_rfl) (by kernel_rfl) (fun _ _ d _ _ h => by cases d <;> exact h) ?_
          simp only [List.map_cons, List.map_nil, List.getD_cons_zero, List.getD_cons_succ, List.dropLast_cons_cons, List.dropLast_singleton, List.getLast?_cons_cons, List.getLast?_singleton, Option.getD_some, bare, gslot, List.getElem?_cons_zero, List.getElem?_cons_succ, Option.bind_some]
          repeat' ((try simp only [Act.put, List.setIfInBounds_toArray, List.set_cons_zero, List.set_cons_succ]); first | (refine lexL_quiet (v := ?_) wantB_none rfl ?_ ?_; rotate_left; focus (intro wq hq; obtain ⟨hcq, hfq⟩ := kcell hq; go_simp; try with_reducible rfl)) | (refine lexL_loud wantB_none rfl (fun K hK => ?_); (refine wp_append_own _ _ _ 22 rfl (g14 + 1) 26 i0 (.agg #[.int .i64 0, .int .i64 0]) 2 16 Tryz.underlying22 hi iz0 iz1 iz2 rfl (by decide) _ _ _ rfl (hown5.alloc _) ⟨w5.heap.size, 0, none⟩ 1 1 [.int .i64 (pt l' k2).x, .int .i64 z] rfl rfl ?_ ?_ ?_ ?_ ?_ ?_); (focus (exact two_at2)); (focus (exact two_one2)); (focus (unfold maxLen; omega)); (focus omega); (focus (simp; omega)); intro v' w2 hown' hgrow _; have hlt' := hown.lt; have hb2 : Below w.heap.size w w2 := (Below.grown (w := (w5.alloc (.cells #[.int .i64 (pt l' k2).x, .int .i64 z] 26))) (by repeat (first | with_reducible exact Below.refl _ _ | with_reducible assumption | with_reducible refine al ?_ _ | with_reducible refine Below.drew ?_ | with_reducible refine Below.setCell ?_ (by first | (simp; done) | (simp; omega)) _ | with_reducible refine tr ?_ (by with_reducible assumption))) hgrow (by simp; omega) (fun j e => by have := (hlt' j e).1; omega)); have hk3 : Keep (g14 + 1) [] wr w2 := (Keep.grown (w := (w5.alloc (.cells #[.int .i64 (pt l' k2).x, .int .i64 z] 26))) (Keep.alloc (Keep.below (Keep.drew (Keep.refl _ _ _)) hb5) _) hgrow (fun j e => ⟨(hlt' j e).1, by simp⟩)); refine hK.out _ _ (by repeat (first | with_reducible exact Keep.refl _ _ _ | with_reducible assumption | with_reducible refine Keep.drew ?_ | with_reducible refine Keep.alloc ?_ _ | with_reducible refine Keep.below ?_ (by with_reducible assumption))) ?_; clear hK K) | (refine lexL_loud wantB_none rfl (fun K hK => ?_); go_simp; ((first | (go_at_call 12; (with_reducible refine (HU.out _ ?_).mono ?_); exact (by repeat (first | with_reducible assumption | with_reducible exact Blk.new (by simp) rfl | with_reducible refine Blk.alloc ?_ _ | with_reducible refine Blk.drew ?_ | with_reducible refine Blk.far ?_ (by simp; omega) _ | with_reducible refine Blk.tr ?_ (by with_reducible assumption))); rintro e w5 ⟨rfl, hb5⟩; obtain ⟨hc5, hf5⟩ := bcell hb5; have hz5 := hb5.size; (try simp at hz5); have hown5 := own_below (owns_drew hown) hb5)  | skip) <;> (refine hK.out _ _ (by repeat (first | with_reducible exact Keep.refl _ _ _ | with_reducible assumption | with_reducible refine Keep.drew ?_ | with_reducible refine Keep.alloc ?_ _ | with_reducible refine Keep.below ?_ (by with_reducible assumption))) ?_; clear hK K))) | (refine lexL_on ?_ ?_; focus (simp only [List.getElem?_toArray, List.getElem?_cons_succ, List.getElem?_cons_zero, Bool.not_true, Bool.not_false]; done)) | (refine lexL_off ?_ ?_ ?_; (focus (simp only [List.getElem?_toArray, List.getElem?_cons_succ, List.getElem?_cons_zero, Bool.not_true, Bool.not_false]; done)); (focus (exact (by repeat (first | with_reducible exact Keep.refl _ _ _ | with_reducible assumption | with_reducible refine Keep.drew ?_ | with_reducible refine Keep.alloc ?_ _ | with_reducible refine Keep.below ?_ (by with_reducible assumption)))))) | (refine lexL_splitS (X := ?_) ?_ ?_ (fun hg => ?_) (fun hg => ?_); rotate_left; (focus (simp only [List.getElem?_toArray, List.getElem?_cons_succ, List.getElem?_cons_zero]; with_reducible rfl)); (focus (exact (by repeat (first | with_reducible exact Keep.refl _ _ _ | with_reducible assumption | with_reducible refine Keep.drew ?_ | with_reducible refine Keep.alloc ?_ _ | with_reducible refine Keep.below ?_ (by with_reducible assumption))))); all_goals (try simp only [Bool.not_true, Bool.not_false] at hg)))
          (all_goals try simp only [Act.put, List.setIfInBounds_toArray, List.set_cons_zero, List.set_cons_succ]); all_goals (refine lexL_nil ?_)
          have hM2 := keep_blk hk3 hM (.inl (by omega))
          have hO2 := keep_blk hk3 hO (.inl (by omega))
          have hQ2 := keep_blk hk3 hQu (.inl (by omega))
          have hP2 := keep_blk hk3 hP (.inl (by omega))
          have hY2 := keep_blk hk3 hY (.inl (by omega))
          have hMo2 := keep_blk hk3 hMo (.inl (by omega))
          have hRo2 := keep_blk hk3 hRo (.inl (by omega))
          have hown2 : w2.ownsRow (g14 + 1) 26 2 v' (k2 + 1) (pcells ((l'.map (upW d)).take (k2 + 1))) := by rw [HE.out]; exact hown'
          obtain ⟨A2, c2, ev, _⟩ := pts_of_own hown2 (by rw [List.length_take, List.length_map]; omega)
          subst ev
          have hown3 := own_set hown2 (p := ⟨g14, 5, none⟩) (Nat.lt_succ_self g14) (.slice A2 (k2 + 1) c2)
          have hM3 := hM2.set_ 5 (.slice A2 (k2 + 1) c2)
          clear hown' hgrow hown hown5 hO hM hQu hP hY hMo hRo hk3 hlt' hb5 hc5 hf5 hz5 c0 c1 cO cM fM HE HU hown2
          have cM := hM2.cell
          have fM := hM2.frozen
          have lM2 := hM2.lt
          unfold pop
          simp only
          go_simp
          go_wp2
          go_roundw
          case rel => exact ⟨k2 + 1, by omega, by go_num, ⟨_, hM3.eq_ (by simp), hown3⟩, hO2.far (p := ⟨g14, 5, none⟩) (by simp; omega) _, hQ2.far (p := ⟨g14, 5, none⟩) (by simp; omega) _, hP2.far (p := ⟨g14, 5, none⟩) (by simp; omega) _, hY2.far (p := ⟨g14, 5, none⟩) (by simp; omega) _, hMo2.far (p := ⟨g14, 5, none⟩) (by simp; omega) _, hRo2.far (p := ⟨g14, 5, none⟩) (by simp; omega) _, (by repeat (first | with_reducible exact Below.refl _ _ | with_reducible assumption | with_reducible refine al ?_ _ | with_reducible refine Below.drew ?_ | with_reducible refine Below.setCell ?_ (by first | (simp; done) | (simp; omega)) _ | with_reducible refine tr ?_ (by with_reducible assumption)))⟩
          case measure => simp [intOf]; omega
        · have hkn : k2 = n' := by omega
          subst hkn
          rw [List.take_of_length_le (by rw [List.length_map, hl'.1]; exact Nat.le_refl _)] at hown
          obtain ⟨A2, c2, ev, hRp⟩ := pts_of_own hown (by rw [List.length_map]; exact hl'.1)
          subst ev
          obtain ⟨A1, c1, ev1, hMp⟩ := pts_of_own (hOwn.out _ hRo) (by rw [List.length_map]; exact hl.1)
          injection ev1 with ea eb ec
          subst ea ec
          have hbs := hb.size
          have hn6 : k1 ≤ 1000000 := by omega
          have hn6' : k2 ≤ 1000000 := by omega
          obtain ⟨z3, ez3⟩ : ∃ z, IntKind.i64.wrap (py + d) = z := ⟨_, rfl⟩
          have ez3' : upW d ⟨px, py⟩ = ⟨px, z3⟩ := by simp only [upW, ez3]
          obtain ⟨cm, hcm⟩ : ∃ m : Nat, ckOb ⟨k, l.map (upW d)⟩ = m := ⟨_, rfl⟩
          obtain ⟨cq, hcq⟩ : ∃ m : Nat, ckQu ⟨k', ⟨⟨bq.lo.x, z1⟩, ⟨bq.hi.x, z2⟩⟩, l'.map (upW d)⟩ = m := ⟨_, rfl⟩
          obtain ⟨cp, hcp⟩ : ∃ b : Bool, okPt ⟨px, z3⟩ = b := ⟨_, rfl⟩
          have HC1 : Hid (∀ w', Below wr.heap.size wr w' → Calls Tryz.prog 13 #[.agg #[.int .i64 k, .slice (some ⟨rb, 0, none⟩) k1 cap]] w' (Ret w' (.int .i64 cm))) := fun w' h => by
            have := rcheck_any _ k1 cap k _ _ w' (hMp.tr h (Nat.le_refl _)) h.size hn6
            rw [← ckOb_eq, hcm] at this
            exact this
          have HC2 : Hid (∀ w', Below wr.heap.size wr w' → Calls Tryz.prog 9 #[.agg #[.int .i64 k', .int .i64 bq.lo.x, .int .i64 z1, .int .i64 bq.hi.x, .int .i64 z2, .slice A2 k2 c2]] w' (Ret w' (.int .i64 cq))) := fun w' h => by
            have := rquery_any _ k2 c2 k' ⟨⟨bq.lo.x, z1⟩, ⟨bq.hi.x, z2⟩⟩ _ _ w' (hRp.tr h (Nat.le_refl _)) h.size hn6'
            rw [← ckQu_eq, hcq] at this
            exact this
          have HU : Hid (∀ w' : World, Blk w' (w.heap.size + 1 + 1 + 1) 3 #[.int .i64 d] → Calls Tryz.prog 12 #[.agg #[.int .i64 px, .int .i64 py], .pointer (some ⟨w.heap.size + 1 + 1 + 1, 0, none⟩)] w' (Ret w' (.agg #[.int .i64 px, .int .i64 z3]))) := fun w' h => by
            have := up_any px py d _ w' h
            rw [ez3] at this
            exact this
          have HC3 : Hid (∀ w', Calls Tryz.prog 10 #[.agg #[.int .i64 px, .int .i64 z3]] w' (Ret w' (.bool cp))) := fun w' => by
            have := rpoint_any px z3 w'
            rw [hcp] at this
            exact this
          have g1 := hO.lt
          have g2 := hQu.lt
          have g3 := hP.lt
          have g4 := hY.lt
          have g5 := hMo.lt
          have g6 := hM.lt
          have cP := hP.cell
          have cQ := hQu.cell
          have cMo := hMo.cell
          have cOb := hO.cell
          clear cO lO lY lM fM hOwn hRo hown hk gfs ez3
          by_cases hcm0 : cm = 0
          case neg =>
            have hne : ((cm : Int) != 0) = true := by rw [bne_iff_ne]; omega
            clear hcm hcq hcp hcm0
            go_wp2_with (first | (go_at_call 13; (with_reducible refine (HC1.out _ ?_).mono ?_); exact (by repeat (first | with_reducible exact Below.refl _ _ | with_reducible assumption | with_reducible refine al ?_ _ | with_reducible refine Below.drew ?_ | with_reducible refine Below.setCell ?_ (by first | (simp; done) | (simp; omega)) _ | with_reducible refine tr ?_ (by with_reducible assumption))); rintro e w5 ⟨rfl, hb5⟩; obtain ⟨hc5, hf5⟩ := bcell hb5; have hz5 := hb5.size; (try simp at hz5); have q50 : w.heap.size < w5.heap.size := (by omega); have q51 : w.heap.size + 1 < w5.heap.size := (by omega); have q52 : w.heap.size + 1 + 1 < w5.heap.size := (by omega); have q53 : w.heap.size + 1 + 1 + 1 < w5.heap.size := (by omega); have q54 : G < w5.heap.size := (by omega); have q55 : g14 < w5.heap.size := (by omega)) | (go_at_call 11; refine (awake_true _ (HT.out.tr (by repeat (first | with_reducible exact Below.refl _ _ | with_reducible assumption | with_reducible refine al ?_ _ | with_reducible refine Below.drew ?_ | with_reducible refine Below.setCell ?_ (by first | (simp; done) | (simp; omega)) _ | with_reducible refine tr ?_ (by with_reducible assumption))))).mono ?_; rintro e w9 ⟨rfl, hb9⟩))
            go_ret
            exact ⟨rfl, (by repeat (first | with_reducible exact Below.refl _ _ | with_reducible assumption | with_reducible refine al ?_ _ | with_reducible refine Below.drew ?_ | with_reducible refine Below.setCell ?_ (by first | (simp; done) | (simp; omega)) _ | with_reducible refine tr ?_ (by with_reducible assumption)))⟩
          by_cases hcq0 : cq = 0
          case neg =>
            have hne : ((cq : Int) != 0) = true := by rw [bne_iff_ne]; omega
            subst hcm0
            clear hcm hcq hcp hcq0
            go_wp2_with (first | (go_at_call 13; (with_reducible refine (HC1.out _ ?_).mono ?_); exact (by repeat (first | with_reducible exact Below.refl _ _ | with_reducible assumption | with_reducible refine al ?_ _ | with_reducible refine Below.drew ?_ | with_reducible refine Below.setCell ?_ (by first | (simp; done) | (simp; omega)) _ | with_reducible refine tr ?_ (by with_reducible assumption))); rintro e w5 ⟨rfl, hb5⟩; obtain ⟨hc5, hf5⟩ := bcell hb5; have hz5 := hb5.size; (try simp at hz5); have q50 : w.heap.size < w5.heap.size := (by omega); have q51 : w.heap.size + 1 < w5.heap.size := (by omega); have q52 : w.heap.size + 1 + 1 < w5.heap.size := (by omega); have q53 : w.heap.size + 1 + 1 + 1 < w5.heap.size := (by omega); have q54 : G < w5.heap.size := (by omega); have q55 : g14 < w5.heap.size := (by omega)) | (go_at_call 9; (with_reducible refine (HC2.out _ ?_).mono ?_); exact (by repeat (first | with_reducible exact Below.refl _ _ | with_reducible assumption | with_reducible refine al ?_ _ | with_reducible refine Below.drew ?_ | with_reducible refine Below.setCell ?_ (by first | (simp; done) | (simp; omega)) _ | with_reducible refine tr ?_ (by with_reducible assumption))); rintro e w6 ⟨rfl, hb6⟩; obtain ⟨hc6, hf6⟩ := bcell hb6; have hz6 := hb6.size; (try simp at hz6); have q60 : w.heap.size < w6.heap.size := (by omega); have q61 : w.heap.size + 1 < w6.heap.size := (by omega); have q62 : w.heap.size + 1 + 1 < w6.heap.size := (by omega); have q63 : w.heap.size + 1 + 1 + 1 < w6.heap.size := (by omega); have q64 : G < w6.heap.size := (by omega); have q65 : g14 < w6.heap.size := (by omega)) | (go_at_call 11; refine (awake_true _ (HT.out.tr (by repeat (first | with_reducible exact Below.refl _ _ | with_reducible assumption | with_reducible refine al ?_ _ | with_reducible refine Below.drew ?_ | with_reducible refine Below.setCell ?_ (by first | (simp; done) | (simp; omega)) _ | with_reducible refine tr ?_ (by with_reducible assumption))))).mono ?_; rintro e w9 ⟨rfl, hb9⟩))
            go_ret
            exact ⟨rfl, (by repeat (first | with_reducible exact Below.refl _ _ | with_reducible assumption | with_reducible refine al ?_ _ | with_reducible refine Below.drew ?_ | with_reducible refine Below.setCell ?_ (by first | (simp; done) | (simp; omega)) _ | with_reducible refine tr ?_ (by with_reducible assumption)))⟩
          subst hcm0 hcq0
          cases cp
          case false =>
            clear hcm hcq hcp
            go_wp2_with (first | (go_at_call 13; (with_reducible refine (HC1.out _ ?_).mono ?_); exact (by repeat (first | with_reducible exact Below.refl _ _ | with_reducible assumption | with_reducible refine al ?_ _ | with_reducible refine Below.drew ?_ | with_reducible refine Below.setCell ?_ (by first | (simp; done) | (simp; omega)) _ | with_reducible refine tr ?_ (by with_reducible assumption))); rintro e w5 ⟨rfl, hb5⟩; obtain ⟨hc5, hf5⟩ := bcell hb5; have hz5 := hb5.size; (try simp at hz5); have q50 : w.heap.size < w5.heap.size := (by omega); have q51 : w.heap.size + 1 < w5.heap.size := (by omega); have q52 : w.heap.size + 1 + 1 < w5.heap.size := (by omega); have q53 : w.heap.size + 1 + 1 + 1 < w5.heap.size := (by omega); have q54 : G < w5.heap.size := (by omega); have q55 : g14 < w5.heap.size := (by omega)) | (go_at_call 9; (with_reducible refine (HC2.out _ ?_).mono ?_); exact (by repeat (first | with_reducible exact Below.refl _ _ | with_reducible assumption | with_reducible refine al ?_ _ | with_reducible refine Below.drew ?_ | with_reducible refine Below.setCell ?_ (by first | (simp; done) | (simp; omega)) _ | with_reducible refine tr ?_ (by with_reducible assumption))); rintro e w6 ⟨rfl, hb6⟩; obtain ⟨hc6, hf6⟩ := bcell hb6; have hz6 := hb6.size; (try simp at hz6); have q60 : w.heap.size < w6.heap.size := (by omega); have q61 : w.heap.size + 1 < w6.heap.size := (by omega); have q62 : w.heap.size + 1 + 1 < w6.heap.size := (by omega); have q63 : w.heap.size + 1 + 1 + 1 < w6.heap.size := (by omega); have q64 : G < w6.heap.size := (by omega); have q65 : g14 < w6.heap.size := (by omega)) | (go_at_call 12; (with_reducible refine (HU.out _ ?_).mono ?_); exact (by repeat (first | with_reducible assumption | with_reducible exact Blk.new (by simp) rfl | with_reducible refine Blk.alloc ?_ _ | with_reducible refine Blk.drew ?_ | with_reducible refine Blk.far ?_ (by simp; omega) _ | with_reducible refine Blk.tr ?_ (by with_reducible assumption))); rintro e w7 ⟨rfl, hb7⟩; obtain ⟨hc7, hf7⟩ := bcell hb7; have hz7 := hb7.size; (try simp at hz7); have q70 : w.heap.size < w7.heap.size := (by omega); have q71 : w.heap.size + 1 < w7.heap.size := (by omega); have q72 : w.heap.size + 1 + 1 < w7.heap.size := (by omega); have q73 : w.heap.size + 1 + 1 + 1 < w7.heap.size := (by omega); have q74 : G < w7.heap.size := (by omega); have q75 : g14 < w7.heap.size := (by omega)) | (go_at_call 10; (with_reducible refine (HC3.out _).mono ?_); rintro e w8 ⟨rfl, hb8⟩; obtain ⟨hc8, hf8⟩ := bcell hb8; have hz8 := hb8.size; (try simp at hz8); have q80 : w.heap.size < w8.heap.size := (by omega); have q81 : w.heap.size + 1 < w8.heap.size := (by omega); have q82 : w.heap.size + 1 + 1 < w8.heap.size := (by omega); have q83 : w.heap.size + 1 + 1 + 1 < w8.heap.size := (by omega); have q84 : G < w8.heap.size := (by omega); have q85 : g14 < w8.heap.size := (by omega)) | (go_at_call 11; refine (awake_true _ (HT.out.tr (by repeat (first | with_reducible exact Below.refl _ _ | with_reducible assumption | with_reducible refine al ?_ _ | with_reducible refine Below.drew ?_ | with_reducible refine Below.setCell ?_ (by first | (simp; done) | (simp; omega)) _ | with_reducible refine tr ?_ (by with_reducible assumption))))).mono ?_; rintro e w9 ⟨rfl, hb9⟩))
            go_ret
            exact ⟨rfl, (by repeat (first | with_reducible exact Below.refl _ _ | with_reducible assumption | with_reducible refine al ?_ _ | with_reducible refine Below.drew ?_ | with_reducible refine Below.setCell ?_ (by first | (simp; done) | (simp; omega)) _ | with_reducible refine tr ?_ (by with_reducible assumption)))⟩
          obtain ⟨ho, hq0, hp0⟩ := HO.out
          obtain ⟨ez1, ez2⟩ := HZ.out
          have e1 : (⟨⟨bq.lo.x, z1⟩, ⟨bq.hi.x, z2⟩⟩ : Bx) = ⟨upW d bq.lo, upW d bq.hi⟩ := by rw [← ez1, ← ez2]; rfl
          obtain ⟨t, ht⟩ : ∃ t : Bool, matchS ⟨k, l⟩ ⟨k', bq, l'⟩ = t := ⟨_, rfl⟩
          obtain ⟨d1, d0, dd, ed⟩ := fcs_ex (distF ⟨k, l⟩ ⟨px, py⟩)
          have hmm := match_upW (by omega) (by omega) hk2 ho hcm hq0 (by rw [← e1]; exact hcq)
          have hdd := dist_upW (p := ⟨px, py⟩) (by omega) (by omega) hk2 ho hcm hp0 (by rw [ez3']; exact hcp)
          rw [ht, ← e1] at hmm
          rw [ez3'] at hdd
          have hlw := hl.below (hb.mono hB)
          have hlw' := hl'.below (hb.mono hB)
          have hBw : B ≤ wr.heap.size := by omega
          have HM1 : Hid (∀ w', Below wr.heap.size wr w' → Calls Tryz.prog 14 #[.agg #[.int .i64 k, .slice (some ⟨rb, 0, none⟩) k1 cap], .agg #[.int .i64 k', .int .i64 bq.lo.x, .int .i64 z1, .int .i64 bq.hi.x, .int .i64 z2, .slice A2 k2 c2]] w' (Ret w' (.bool t))) := fun w' h => by
            have := match_any _ k1 cap k2 c2 k k' ⟨⟨bq.lo.x, z1⟩, ⟨bq.hi.x, z2⟩⟩ _ _ _ _ w' (hMp.tr h (Nat.le_refl _)) (hRp.tr h (Nat.le_refl _)) h.size hn6 hn6'
            rw [hmm] at this
            exact this
          have HM2 : Hid (∀ w', Below wr.heap.size wr w' → Calls Tryz.prog 14 #[.agg #[.int .i64 k, .slice A k1 c], .agg #[.int .i64 k', .int .i64 bq.lo.x, .int .i64 bq.lo.y, .int .i64 bq.hi.x, .int .i64 bq.hi.y, .slice A' k2 c']] w' (Ret w' (.bool t))) := fun w' h => by
            have := match_any B k1 c k2 c' k k' bq A A' l l' w' (hlw.tr h hBw) (hlw'.tr h hBw) (Nat.le_trans hBw h.size) hn6 hn6'
            rw [ht] at this
            exact this
          have HD1 : Hid (∀ w', Below wr.heap.size wr w' → Calls Tryz.prog 15 #[.agg #[.int .i64 k, .slice (some ⟨rb, 0, none⟩) k1 cap], .agg #[.int .i64 px, .int .i64 z3]] w' (Ret w' (.agg #[.int .u64 d1, .int .u64 d0, .int .u64 dd]))) := fun w' h => by
            have := relDist_any _ k1 cap k _ _ px z3 w' (hMp.tr h (Nat.le_refl _)) h.size hn6
            rw [hdd, fV_fcs, ed] at this
            exact this
          have HD2 : Hid (∀ w', Below wr.heap.size wr w' → Calls Tryz.prog 15 #[.agg #[.int .i64 k, .slice A k1 c], .agg #[.int .i64 px, .int .i64 py]] w' (Ret w' (.agg #[.int .u64 d1, .int .u64 d0, .int .u64 dd]))) := fun w' h => by
            have := relDist_any B k1 c k A l px py w' (hlw.tr h hBw) (Nat.le_trans hBw h.size) hn6
            rw [fV_fcs, ed] at this
            exact this
          clear hcm hcq hcp ho hq0 hp0 ez1 ez2 e1 ht ed hmm hdd hlw hlw' hRp hMp ez3' HO HZ hl hl'
          go_wp2_with (first | (go_at_call 13; (with_reducible refine (HC1.out _ ?_).mono ?_); exact (by repeat (first | with_reducible exact Below.refl _ _ | with_reducible assumption | with_reducible refine al ?_ _ | with_reducible refine Below.drew ?_ | with_reducible refine Below.setCell ?_ (by first | (simp; done) | (simp; omega)) _ | with_reducible refine tr ?_ (by with_reducible assumption))); rintro e w5 ⟨rfl, hb5⟩; obtain ⟨hc5, hf5⟩ := bcell hb5; have hz5 := hb5.size; (try simp at hz5); have q50 : w.heap.size < w5.heap.size := (by omega); have q51 : w.heap.size + 1 < w5.heap.size := (by omega); have q52 : w.heap.size + 1 + 1 < w5.heap.size := (by omega); have q53 : w.heap.size + 1 + 1 + 1 < w5.heap.size := (by omega); have q54 : G < w5.heap.size := (by omega); have q55 : g14 < w5.heap.size := (by omega)) | (go_at_call 9; (with_reducible refine (HC2.out _ ?_).mono ?_); exact (by repeat (first | with_reducible exact Below.refl _ _ | with_reducible assumption | with_reducible refine al ?_ _ | with_reducible refine Below.drew ?_ | with_reducible refine Below.setCell ?_ (by first | (simp; done) | (simp; omega)) _ | with_reducible refine tr ?_ (by with_reducible assumption))); rintro e w6 ⟨rfl, hb6⟩; obtain ⟨hc6, hf6⟩ := bcell hb6; have hz6 := hb6.size; (try simp at hz6); have q60 : w.heap.size < w6.heap.size := (by omega); have q61 : w.heap.size + 1 < w6.heap.size := (by omega); have q62 : w.heap.size + 1 + 1 < w6.heap.size := (by omega); have q63 : w.heap.size + 1 + 1 + 1 < w6.heap.size := (by omega); have q64 : G < w6.heap.size := (by omega); have q65 : g14 < w6.heap.size := (by omega)) | (go_at_call 12; (with_reducible refine (HU.out _ ?_).mono ?_); exact (by repeat (first | with_reducible assumption | with_reducible exact Blk.new (by simp) rfl | with_reducible refine Blk.alloc ?_ _ | with_reducible refine Blk.drew ?_ | with_reducible refine Blk.far ?_ (by simp; omega) _ | with_reducible refine Blk.tr ?_ (by with_reducible assumption))); rintro e w7 ⟨rfl, hb7⟩; obtain ⟨hc7, hf7⟩ := bcell hb7; have hz7 := hb7.size; (try simp at hz7); have q70 : w.heap.size < w7.heap.size := (by omega); have q71 : w.heap.size + 1 < w7.heap.size := (by omega); have q72 : w.heap.size + 1 + 1 < w7.heap.size := (by omega); have q73 : w.heap.size + 1 + 1 + 1 < w7.heap.size := (by omega); have q74 : G < w7.heap.size := (by omega); have q75 : g14 < w7.heap.size := (by omega)) | (go_at_call 10; (with_reducible refine (HC3.out _).mono ?_); rintro e w8 ⟨rfl, hb8⟩; obtain ⟨hc8, hf8⟩ := bcell hb8; have hz8 := hb8.size; (try simp at hz8); have q80 : w.heap.size < w8.heap.size := (by omega); have q81 : w.heap.size + 1 < w8.heap.size := (by omega); have q82 : w.heap.size + 1 + 1 < w8.heap.size := (by omega); have q83 : w.heap.size + 1 + 1 + 1 < w8.heap.size := (by omega); have q84 : G < w8.heap.size := (by omega); have q85 : g14 < w8.heap.size := (by omega)))
          clear HC1 HC2 HC3
          refine wp_region_below [0, 1, 3, 4, 2, 5, 6, 7, 8, 9, 10, 13, 14, 11, 12, 15, 16, 17, 18, 19, 20, 21] (by kernel_rfl) (by kernel_rfl) (fun _ _ d _ _ h => by cases d <;> exact h) ?_
          simp only [List.map_cons, List.map_nil, List.getD_cons_zero, List.getD_cons_succ, bare, gslot, List.getElem?_cons_zero, List.getElem?_cons_succ, Option.bind_some]
          repeat' ((try simp only [Act.put, List.setIfInBounds_toArray, List.set_cons_zero, List.set_cons_succ]); first | (refine lexL_on ?_ ?_; focus (simp only [List.getElem?_toArray, List.getElem?_cons_succ, List.getElem?_cons_zero, Bool.not_true, Bool.not_false]; done)) | (refine lexL_off ?_ ?_ ?_; (focus (simp only [List.getElem?_toArray, List.getElem?_cons_succ, List.getElem?_cons_zero, Bool.not_true, Bool.not_false]; done)); (focus (exact (by repeat (first | with_reducible exact Below.refl _ _ | with_reducible assumption | with_reducible refine al ?_ _ | with_reducible refine Below.drew ?_ | with_reducible refine Below.setCell ?_ (by first | (simp; done) | (simp; omega)) _ | with_reducible refine tr ?_ (by with_reducible assumption)))))) | (refine lexL_splitS (X := ?_) ?_ ?_ (fun hg => ?_) (fun hg => ?_); rotate_left; (focus (simp only [List.getElem?_toArray, List.getElem?_cons_succ, List.getElem?_cons_zero]; with_reducible rfl)); (focus (exact (by repeat (first | with_reducible exact Below.refl _ _ | with_reducible assumption | with_reducible refine al ?_ _ | with_reducible refine Below.drew ?_ | with_reducible refine Below.setCell ?_ (by first | (simp; done) | (simp; omega)) _ | with_reducible refine tr ?_ (by with_reducible assumption))))); all_goals (try simp only [Bool.not_true, Bool.not_false] at hg)) | (refine lexL_quiet (v := ?_) wantB_none rfl ?_ ?_; rotate_left; focus (intro wq hq; obtain ⟨hcq, hfq⟩ := bcell hq; go_simp; try with_reducible rfl)) | (refine lexL_loud wantB_none rfl (fun K hK => ?_); go_simp; ((first |  (go_at_call 14; (with_reducible refine (HM1.out _ ?_).mono ?_); exact (by repeat (first | with_reducible exact Below.refl _ _ | with_reducible assumption | with_reducible refine al ?_ _ | with_reducible refine Below.drew ?_ | with_reducible refine Below.setCell ?_ (by first | (simp; done) | (simp; omega)) _ | with_reducible refine tr ?_ (by with_reducible assumption))); rintro e w5 ⟨rfl, hb5⟩; obtain ⟨hc5, hf5⟩ := bcell hb5; have hz5 := hb5.size; (try simp at hz5); have q50 : w.heap.size < w5.heap.size := (by omega); have q51 : w.heap.size + 1 < w5.heap.size := (by omega); have q52 : w.heap.size + 1 + 1 < w5.heap.size := (by omega); have q53 : w.heap.size + 1 + 1 + 1 < w5.heap.size := (by omega); have q54 : G < w5.heap.size := (by omega); have q55 : g14 < w5.heap.size := (by omega)) | (go_at_call 14; (with_reducible refine (HM2.out _ ?_).mono ?_); exact (by repeat (first | with_reducible exact Below.refl _ _ | with_reducible assumption | with_reducible refine al ?_ _ | with_reducible refine Below.drew ?_ | with_reducible refine Below.setCell ?_ (by first | (simp; done) | (simp; omega)) _ | with_reducible refine tr ?_ (by with_reducible assumption))); rintro e w5 ⟨rfl, hb5⟩; obtain ⟨hc5, hf5⟩ := bcell hb5; have hz5 := hb5.size; (try simp at hz5); have q50 : w.heap.size < w5.heap.size := (by omega); have q51 : w.heap.size + 1 < w5.heap.size := (by omega); have q52 : w.heap.size + 1 + 1 < w5.heap.size := (by omega); have q53 : w.heap.size + 1 + 1 + 1 < w5.heap.size := (by omega); have q54 : G < w5.heap.size := (by omega); have q55 : g14 < w5.heap.size := (by omega)) | (go_at_call 12; (with_reducible refine (HU.out _ ?_).mono ?_); exact (by repeat (first | with_reducible assumption | with_reducible exact Blk.new (by simp) rfl | with_reducible refine Blk.alloc ?_ _ | with_reducible refine Blk.drew ?_ | with_reducible refine Blk.far ?_ (by simp; omega) _ | with_reducible refine Blk.tr ?_ (by with_reducible assumption))); rintro e w5 ⟨rfl, hb5⟩; obtain ⟨hc5, hf5⟩ := bcell hb5; have hz5 := hb5.size; (try simp at hz5); have q50 : w.heap.size < w5.heap.size := (by omega); have q51 : w.heap.size + 1 < w5.heap.size := (by omega); have q52 : w.heap.size + 1 + 1 < w5.heap.size := (by omega); have q53 : w.heap.size + 1 + 1 + 1 < w5.heap.size := (by omega); have q54 : G < w5.heap.size := (by omega); have q55 : g14 < w5.heap.size := (by omega)) | (go_at_call 15; (with_reducible refine (HD1.out _ ?_).mono ?_); exact (by repeat (first | with_reducible exact Below.refl _ _ | with_reducible assumption | with_reducible refine al ?_ _ | with_reducible refine Below.drew ?_ | with_reducible refine Below.setCell ?_ (by first | (simp; done) | (simp; omega)) _ | with_reducible refine tr ?_ (by with_reducible assumption))); rintro e w5 ⟨rfl, hb5⟩; obtain ⟨hc5, hf5⟩ := bcell hb5; have hz5 := hb5.size; (try simp at hz5); have q50 : w.heap.size < w5.heap.size := (by omega); have q51 : w.heap.size + 1 < w5.heap.size := (by omega); have q52 : w.heap.size + 1 + 1 < w5.heap.size := (by omega); have q53 : w.heap.size + 1 + 1 + 1 < w5.heap.size := (by omega); have q54 : G < w5.heap.size := (by omega); have q55 : g14 < w5.heap.size := (by omega)) | (go_at_call 15; (with_reducible refine (HD2.out _ ?_).mono ?_); exact (by repeat (first | with_reducible exact Below.refl _ _ | with_reducible assumption | with_reducible refine al ?_ _ | with_reducible refine Below.drew ?_ | with_reducible refine Below.setCell ?_ (by first | (simp; done) | (simp; omega)) _ | with_reducible refine tr ?_ (by with_reducible assumption))); rintro e w5 ⟨rfl, hb5⟩; obtain ⟨hc5, hf5⟩ := bcell hb5; have hz5 := hb5.size; (try simp at hz5); have q50 : w.heap.size < w5.heap.size := (by omega); have q51 : w.heap.size + 1 < w5.heap.size := (by omega); have q52 : w.heap.size + 1 + 1 < w5.heap.size := (by omega); have q53 : w.heap.size + 1 + 1 + 1 < w5.heap.size := (by omega); have q54 : G < w5.heap.size := (by omega); have q55 : g14 < w5.heap.size := (by omega)) | (go_at_call 11; refine (awake_true _ (HT.out.tr (by repeat (first | with_reducible exact Below.refl _ _ | with_reducible assumption | with_reducible refine al ?_ _ | with_reducible refine Below.drew ?_ | with_reducible refine Below.setCell ?_ (by first | (simp; done) | (simp; omega)) _ | with_reducible refine tr ?_ (by with_reducible assumption))))).mono ?_; rintro e w5 ⟨rfl, hb5⟩; obtain ⟨hc5, hf5⟩ := bcell hb5; have hz5 := hb5.size; (try simp at hz5)) | skip) <;> (refine hK.out _ _ (by repeat (first | with_reducible exact Below.refl _ _ | with_reducible assumption | with_reducible refine al ?_ _ | with_reducible refine Below.drew ?_ | with_reducible refine Below.setCell ?_ (by first | (simp; done) | (simp; omega)) _ | with_reducible refine tr ?_ (by with_reducible assumption))) ?_; clear hK K))))
          (all_goals try simp only [Act.put, List.setIfInBounds_toArray, List.set_cons_zero, List.set_cons_succ]); all_goals (refine lexL_nil ?_)
          go_wp2
          go_ret
          exact ⟨rfl, (by repeat (first | with_reducible exact Below.refl _ _ | with_reducible assumption | with_reducible refine al ?_ _ | with_reducible refine Below.drew ?_ | with_reducible refine Below.setCell ?_ (by first | (simp; done) | (simp; omega)) _ | with_reducible refine tr ?_ (by with_reducible assumption)))⟩
end Go.Proofs.YtmaogalgganhgaaGreatDoor
