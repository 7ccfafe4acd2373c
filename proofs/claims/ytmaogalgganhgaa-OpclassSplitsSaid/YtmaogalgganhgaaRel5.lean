/-
  Contracts of package rel: meets, bounds, Match, Touch.
  Contracts of package rel: bounds, Match.
  Contracts of package rel: Match.
-/
import Derived.Test.YtmaogalgganhgaaRel4
set_option linter.unusedSimpArgs false
set_option linter.unusedVariables false
namespace Go.Proofs.Ytmaogalgganhgaa
open Go.RowKit Pg

/-- what a checked object's length is good for -/
theorem ck_lens {k : Int} {l : List Pt} (h : ckOb ⟨k, l⟩ = 0) : (k = 1 ∨ k = 2 → 1 ≤ l.length) ∧ (k = 3 → 2 ≤ l.length) ∧ l.length ≤ 64 ∧ (isBox ⟨k, l⟩ = false → ckRing l = 0) := by
  by_cases k1 : k = 1
  · subst k1
    have h1 : l.length = 1 := by
      by_cases e : l.length = 1
      · exact e
      · simp [ckOb, e] at h
    exact ⟨fun _ => by omega, fun h => by omega, by omega, fun hb => by simp [isBox] at hb⟩
  by_cases k2 : k = 2
  · subst k2
    have h1 : l.length = 1 := by
      by_cases e : l.length = 1
      · exact e
      · simp [ckOb, e] at h
    exact ⟨fun _ => by omega, fun h => by omega, by omega, fun hb => by simp [isBox] at hb⟩
  by_cases k3 : k = 3
  · subst k3
    have h1 : l.length = 2 := by
      by_cases e : l.length = 2
      · exact e
      · simp [ckOb, e] at h
    exact ⟨fun _ => by omega, fun h => by omega, by omega, fun hb => by simp [isBox] at hb⟩
  by_cases k4 : k = 4
  · subst k4
    have h4 : ckRing l = 0 := by simpa [ckOb] using h
    have := ck_len h4
    exact ⟨fun _ => by omega, fun h => by omega, by omega, fun _ => h4⟩
  · simp [ckOb, k1, k2, k3, k4] at h

end Go.Proofs.Ytmaogalgganhgaa
set_option linter.unusedSimpArgs false
set_option linter.unusedVariables false
namespace Go.Proofs.Ytmaogalgganhgaa
open Go.RowKit Pg
set_option maxHeartbeats 1000000 in
set_option maxRecDepth 20000 in
theorem bounds_ok (B n c : Nat) (k : Int) (A : Option Addr) (l : List Pt) (w : World) (hl : PtsAt w B A n l) (hB : B ≤ w.heap.size) (hck : ckOb ⟨k, l⟩ = 0) :
    Calls Try.prog 44 #[obV k A n c] w (Ret w (bxW (boundsS ⟨k, l⟩))) := by
  obtain ⟨p1, p2, p3, p4⟩ := ck_lens hck
  rw [hl.1] at p1 p2 p3
  cases hx : isBox ⟨k, l⟩
  · have HX := Lib.hid hx
    have HF : Hid (boundsS ⟨k, l⟩ = ringBx l) := by simp [Hid, boundsS, hx]
    have P4 := Lib.hid (p4 hx)
    clear hx p4
    go_enter Try.func44, Try.ntmps44
    go_wp2_with (first | (go_at_call 52; refine (box_any B n c k A l _ (hl.tr (by repeat (first | with_reducible exact Below.refl _ _ | with_reducible assumption | with_reducible refine al ?_ _ | with_reducible refine Below.drew ?_ | with_reducible refine Below.setCell ?_ (by first | (simp; done) | (simp; omega)) _ | with_reducible refine tr ?_ (by with_reducible assumption))) hB) (Nat.le_trans hB (Below.size (B := w.heap.size) (w := w) (by repeat (first | with_reducible exact Below.refl _ _ | with_reducible assumption | with_reducible refine al ?_ _ | with_reducible refine Below.drew ?_ | with_reducible refine Below.setCell ?_ (by first | (simp; done) | (simp; omega)) _ | with_reducible refine tr ?_ (by with_reducible assumption))))) (by assumption) (by assumption)).mono ?_; rw [HX.out]; rintro e wa ⟨rfl, hba⟩; obtain ⟨hca, hfa⟩ := bcell hba; have hza := hba.size; (try simp at hza); have hy0 : w.heap.size < wa.heap.size := (by omega); have hy1 : w.heap.size + 1 < wa.heap.size := (by omega)) | (go_at_call 53; refine (ringBox_ok B n c A l _ (hl.tr (by repeat (first | with_reducible exact Below.refl _ _ | with_reducible assumption | with_reducible refine al ?_ _ | with_reducible refine Below.drew ?_ | with_reducible refine Below.setCell ?_ (by first | (simp; done) | (simp; omega)) _ | with_reducible refine tr ?_ (by with_reducible assumption))) hB) (Nat.le_trans hB (Below.size (B := w.heap.size) (w := w) (by repeat (first | with_reducible exact Below.refl _ _ | with_reducible assumption | with_reducible refine al ?_ _ | with_reducible refine Below.drew ?_ | with_reducible refine Below.setCell ?_ (by first | (simp; done) | (simp; omega)) _ | with_reducible refine tr ?_ (by with_reducible assumption))))) P4.out).mono ?_; rintro e w1 ⟨rfl, hb1⟩; obtain ⟨hc1, hf1⟩ := bcell hb1; have hz1 := hb1.size; (try simp at hz1); have hy2 : w.heap.size < w1.heap.size := (by omega); have hy3 : w.heap.size + 1 < w1.heap.size := (by omega); have hya : wa.heap.size < w1.heap.size := (by omega)))
    have hQ : Blk w1 (w.heap.size + 1) 35 #[.int .i64 0, .int .i64 0, .int .i64 0, .int .i64 0] := (by repeat (first | with_reducible assumption | with_reducible exact Blk.new (by simp) rfl | with_reducible refine Blk.alloc ?_ _ | with_reducible refine Blk.drew ?_ | with_reducible refine Blk.far ?_ (by simp; omega) _ | with_reducible refine Blk.tr ?_ (by with_reducible assumption)))
    have HR := (Blk.set_ (Blk.set_ (Blk.set_ (Blk.set_ (Blk.far (Blk.far (Blk.far (Blk.far hQ (p := ⟨wa.heap.size, 0, none⟩) (by simp; omega) (.int .i64 (ringBx l).lo.x)) (p := ⟨wa.heap.size, 1, none⟩) (by simp; omega) (.int .i64 (ringBx l).lo.y)) (p := ⟨wa.heap.size, 2, none⟩) (by simp; omega) (.int .i64 (ringBx l).hi.x)) (p := ⟨wa.heap.size, 3, none⟩) (by simp; omega) (.int .i64 (ringBx l).hi.y)) 0 (.int .i64 (ringBx l).lo.x)) 1 (.int .i64 (ringBx l).lo.y)) 2 (.int .i64 (ringBx l).hi.x)) 3 (.int .i64 (ringBx l).hi.y))
    have r0 := HR.cell 0
    have r1 := HR.cell 1
    have r2 := HR.cell 2
    have r3 := HR.cell 3
    simp at r0 r1 r2 r3
    exact bodyPost_ret (v := bxW (ringBx l)) (by simp [results, Try.results44, go_sem, r0, r1, r2, r3]) rfl ⟨by rw [HF.out], (by repeat (first | with_reducible exact Below.refl _ _ | with_reducible assumption | with_reducible refine al ?_ _ | with_reducible refine Below.drew ?_ | with_reducible refine Below.setCell ?_ (by first | (simp; done) | (simp; omega)) _ | with_reducible refine tr ?_ (by with_reducible assumption)))⟩
  · have HX := Lib.hid hx
    have HF : Hid (boundsS ⟨k, l⟩ = obBox ⟨k, l⟩) := by simp [Hid, boundsS, hx]
    clear hx p4
    go_enter Try.func44, Try.ntmps44
    go_wp2_with (first | (go_at_call 52; refine (box_any B n c k A l _ (hl.tr (by repeat (first | with_reducible exact Below.refl _ _ | with_reducible assumption | with_reducible refine al ?_ _ | with_reducible refine Below.drew ?_ | with_reducible refine Below.setCell ?_ (by first | (simp; done) | (simp; omega)) _ | with_reducible refine tr ?_ (by with_reducible assumption))) hB) (Nat.le_trans hB (Below.size (B := w.heap.size) (w := w) (by repeat (first | with_reducible exact Below.refl _ _ | with_reducible assumption | with_reducible refine al ?_ _ | with_reducible refine Below.drew ?_ | with_reducible refine Below.setCell ?_ (by first | (simp; done) | (simp; omega)) _ | with_reducible refine tr ?_ (by with_reducible assumption))))) (by assumption) (by assumption)).mono ?_; rw [HX.out]; rintro e wa ⟨rfl, hba⟩; obtain ⟨hca, hfa⟩ := bcell hba; have hza := hba.size; (try simp at hza); have hy0 : w.heap.size < wa.heap.size := (by omega); have hy1 : w.heap.size + 1 < wa.heap.size := (by omega)))
    have hQ : Blk wa (w.heap.size + 1) 35 #[.int .i64 0, .int .i64 0, .int .i64 0, .int .i64 0] := (by repeat (first | with_reducible assumption | with_reducible exact Blk.new (by simp) rfl | with_reducible refine Blk.alloc ?_ _ | with_reducible refine Blk.drew ?_ | with_reducible refine Blk.far ?_ (by simp; omega) _ | with_reducible refine Blk.tr ?_ (by with_reducible assumption)))
    have HR := Blk.alloc (Blk.set_ (Blk.set_ (Blk.set_ (Blk.set_ hQ 0 (.int .i64 (obBox ⟨k, l⟩).lo.x)) 1 (.int .i64 (obBox ⟨k, l⟩).lo.y)) 2 (.int .i64 (obBox ⟨k, l⟩).hi.x)) 3 (.int .i64 (obBox ⟨k, l⟩).hi.y)) (.cells #[.int .i64 (obBox ⟨k, l⟩).lo.x, .int .i64 (obBox ⟨k, l⟩).lo.y, .int .i64 (obBox ⟨k, l⟩).hi.x, .int .i64 (obBox ⟨k, l⟩).hi.y] 35)
    have r0 := HR.cell 0
    have r1 := HR.cell 1
    have r2 := HR.cell 2
    have r3 := HR.cell 3
    simp at r0 r1 r2 r3
    exact bodyPost_ret (v := bxW (obBox ⟨k, l⟩)) (by simp [results, Try.results44, go_sem, r0, r1, r2, r3]) rfl ⟨by rw [HF.out], (by repeat (first | with_reducible exact Below.refl _ _ | with_reducible assumption | with_reducible refine al ?_ _ | with_reducible refine Below.drew ?_ | with_reducible refine Below.setCell ?_ (by first | (simp; done) | (simp; omega)) _ | with_reducible refine tr ?_ (by with_reducible assumption)))⟩
end Go.Proofs.Ytmaogalgganhgaa
set_option linter.unusedSimpArgs false
set_option linter.unusedVariables false
namespace Go.Proofs.Ytmaogalgganhgaa
open Go.RowKit Pg

theorem relcheck_ok (B n c : Nat) (k : Int) (A : Option Addr) (l : List Pt) (w : World) (hl : PtsAt w B A n l) (hB : B ≤ w.heap.size) (hn : n ≤ 1000000) (h : ckOb ⟨k, l⟩ = 0) :
    Calls Try.prog 51 #[obV k A n c] w (Ret w .nilIface) := by
  refine (relcheck_any B n c k A l w hl hB hn).mono ?_
  rintro e w' ⟨v, he, hv, hb⟩
  rw [h] at hv
  exact ⟨by rw [he, hv.zero], hb⟩
theorem relcheck_bad (B n c : Nat) (k : Int) (A : Option Addr) (l : List Pt) (w : World) (hl : PtsAt w B A n l) (hB : B ≤ w.heap.size) (hn : n ≤ 1000000) (h : ckOb ⟨k, l⟩ ≠ 0) :
    Calls Try.prog 51 #[obV k A n c] w fun e w' => ∃ t u, e = .returned (.iface t u) ∧ Below w.heap.size w w' := by
  refine (relcheck_any B n c k A l w hl hB hn).mono ?_
  rintro e w' ⟨v, he, hv, hb⟩
  obtain ⟨t, u, rfl⟩ := hv.succ h
  exact ⟨t, u, he, hb⟩
theorem ptsUp {w : World} {B B' n : Nat} {A : Option Addr} {l : List Pt} (h : PtsAt w B A n l) (hB : B ≤ B') : PtsAt w B' A n l :=
  ⟨h.1, fun hn => by
    obtain ⟨b, off, e, hb, hc⟩ := h.2 hn
    exact ⟨b, off, e, by omega, hc⟩⟩
theorem pts1 {w : World} {g : Nat} {p : Pt} {t : TypeId} (h : Blk w g t #[.int .i64 p.x, .int .i64 p.y]) : PtsAt w w.heap.size (some ⟨g, 0, none⟩) 1 [p] :=
  ⟨rfl, fun _ => ⟨g, 0, rfl, h.lt, fun k q hq => by
    match k, hq with
    | 0, hq =>
      simp at hq
      subst hq
      exact ⟨by rw [h.cell]; rfl, by rw [h.cell]; rfl⟩⟩⟩
theorem pts2 {w : World} {g : Nat} {p q : Pt} {t : TypeId} (h : Blk w g t #[.int .i64 p.x, .int .i64 p.y, .int .i64 q.x, .int .i64 q.y]) : PtsAt w w.heap.size (some ⟨g, 0, none⟩) 2 [p, q] :=
  ⟨rfl, fun _ => ⟨g, 0, rfl, h.lt, fun k r hr => by
    match k, hr with
    | 0, hr =>
      simp at hr
      subst hr
      exact ⟨by rw [h.cell]; rfl, by rw [h.cell]; rfl⟩
    | 1, hr =>
      simp at hr
      subst hr
      exact ⟨by rw [h.cell]; rfl, by rw [h.cell]; rfl⟩⟩⟩

end Go.Proofs.Ytmaogalgganhgaa
