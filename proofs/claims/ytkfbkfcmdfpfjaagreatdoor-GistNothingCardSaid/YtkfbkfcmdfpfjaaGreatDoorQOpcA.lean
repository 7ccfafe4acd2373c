/-
  Contracts of the classes: what is asked for, how much a key grows, how far; and of the reference's.
  Contracts of the reference's classes: what is asked for, how much a key grows.
  Contracts: the union of keys, in the program and in the reference; making a key of an object, or why not.
  Contracts: making a key of an object, or why not, in the program and in the reference.
-/
import Derived.Test.YtkfbkfcmdfpfjaaGreatDoorQEncG
import Derived.Test.YtkfbkfcmdfpfjaaGreatDoorQLex
import Derived.Test.YtkfbkfcmdfpfjaaGreatDoorQPlane
import Derived.Test.YtkfbkfcmdfpfjaaGreatDoorQPlainSplit
import Derived.Test.YtkfbkfcmdfpfjaaGreatDoorQOn
import Derived.Laws.BytesArg
import Derived.Test.YtkfbkfcmdfpfjaaGreatDoorQWide
import Derived.Test.YtkfbkfcmdfpfjaaGreatDoorQSegm
import Derived.StillTailTactics
import Derived.Outline
import Derived.Test.YtkfbkfcmdfpfjaaGreatDoorQUAll
import Derived.Test.YtkfbkfcmdfpfjaaGreatDoorQRel1
import Derived.Shelf.Spec.BitsCarry
import Derived.Test.YtkfbkfcmdfpfjaaGreatDoorQRing
import Derived.Test.YtkfbkfcmdfpfjaaGreatDoorQDist1
import Derived.Test.YtkfbkfcmdfpfjaaGreatDoorQRefSq
import Derived.Test.YtkfbkfcmdfpfjaaGreatDoorQRefRB
import Derived.Test.YtkfbkfcmdfpfjaaGreatDoorQEncD
import Derived.Test.YtkfbkfcmdfpfjaaGreatDoorQEncJ
import Derived.Test.YtkfbkfcmdfpfjaaGreatDoorQErrX
set_option linter.unusedSimpArgs false
set_option linter.unusedVariables false
namespace Go.Proofs.YtkfbkfcmdfpfjaaGreatDoor
open Go.RowKit Pg

/-- may something that is asked for be below a key? -/
def consB (b : Bx) (q : Qu) : Bool := if ckQu q = 0 then (if q.kind = 3 then bhas b q.box.lo else if q.kind = 4 then bmeets b (ringBx q.ring) else bmeets b q.box) else false
def consS (key : List Nat) (q : Qu) : Bool := match unkeyS key with | none => false | some b => consB b q
/-- how far what is below a key may be, at least -/
def farS (k : List Nat) (p : Pt) : Fr := match unkeyS k with | none => fNone | some b => bxF b p
theorem consS_none {l : List Nat} {q : Qu} (h : unkeyS l = none) : consS l q = false := by unfold consS; rw [h]
theorem consS_some {l : List Nat} {q : Qu} {b : Bx} (h : unkeyS l = some b) : consS l q = consB b q := by unfold consS; rw [h]
theorem unkeyV_none {l : List Nat} (h : unkeyS l = none) : unkeyV l = .tuple #[bxV 0 0 0 0, .bool false] := by unfold unkeyV; rw [h]
theorem unkeyV_some {l : List Nat} {b : Bx} (h : unkeyS l = some b) : unkeyV l = .tuple #[bxV b.lo.x b.lo.y b.hi.x b.hi.y, .bool true] := by unfold unkeyV; rw [h]
theorem unkey_ok {l : List Nat} {b : Bx} (h : unkeyS l = some b) : okBx b = true := by
  unfold unkeyS at h
  split at h
  · cases h
  · split at h
    · cases h
    · split at h
      · cases h
      · split at h
        · cases h
        · split at h
          · rename_i h2; injection h with h; subst h; exact h2.2
          · cases h
theorem errW_someP {w : World} {v : Value} {k : Nat} {s : ByteArray} {id : Int} (h : ErrW w v k s id) (hk : k ≠ 0) : ∃ t u, v = .iface t u := by
  rcases h with ⟨h0, _⟩ | ⟨_, g, inner, rfl, _⟩
  · exact absurd h0 hk
  · exact ⟨_, _, rfl⟩
theorem errW_zeroP {w : World} {v : Value} {s : ByteArray} {id : Int} (h : ErrW w v 0 s id) : v = .nilIface := by
  rcases h with ⟨_, h⟩ | ⟨h, _⟩
  · exact h
  · exact absurd rfl h

set_option maxHeartbeats 4000000 in
set_option maxRecDepth 20000 in
theorem Cons_any (cv : Value) (B n c m c2 : Nat) (k : Int) (bq : Bx) (A A2 : Option Addr) (l : List Nat) (r : List Pt) (w : World) (hl : BysAt w B A n l) (h256 : ∀ x ∈ l, x < 256) (hr : PtsAt w B A2 m r) (hB : B ≤ w.heap.size) (hn : n ≤ 1000000) (hnc : n ≤ c) (hm : m ≤ 1000000) :
    Calls Tryz.prog 257 #[.agg #[cv], .slice A n c, quV k bq A2 m c2] w (Ret w (.bool (consS l ⟨k, bq, r⟩))) := by
  have HU := Lib.hid (fun W (hW : Below w.heap.size w W) => unkey_any B n c A l W (hl.tr hW hB) h256 (Nat.le_trans hB hW.size) hn hnc)
  have HQ := Lib.hid (fun W (hW : Below w.heap.size w W) => CheckQuery_any B m c2 k bq A2 r W (hr.tr hW hB) (Nat.le_trans hB hW.size) hm)
  cases hk : unkeyS l with
  | none =>
    rw [consS_none hk]
    rw [unkeyV_none hk] at HU
    clear hl hr HQ hk
    go_enter Tryz.func257, Tryz.ntmps257
    go_wp2_with (go_at_call 263; (with_reducible refine (HU.out _ bel).mono ?_); rintro e w1 ⟨rfl, hb1⟩; obtain ⟨hc1, hf1⟩ := bcell hb1; have hz1 := hb1.size; (try simp at hz1); have hy0 : w.heap.size < w1.heap.size := (by omega); have hy1 : w.heap.size + 1 < w1.heap.size := (by omega))
    go_ret
    exact ⟨rfl, bel⟩
  | some b =>
    rw [consS_some hk]
    rw [unkeyV_some hk] at HU
    unfold consB
    by_cases hq : ckQu ⟨k, bq, r⟩ = 0
    case neg =>
      rw [if_neg hq]
      have HQ' := Lib.hid hq
      clear hl hr hk hq
      go_enter Tryz.func257, Tryz.ntmps257
      go_wp2_with (first | (go_at_call 263; (with_reducible refine (HU.out _ bel).mono ?_); rintro e w1 ⟨rfl, hb1⟩; obtain ⟨hc1, hf1⟩ := bcell hb1; have hz1 := hb1.size; (try simp at hz1); have hy0 : w.heap.size < w1.heap.size := (by omega); have hy1 : w.heap.size + 1 < w1.heap.size := (by omega)) | (go_at_call 46; (with_reducible refine (HQ.out _ bel).mono ?_); rintro e w3 ⟨v, rfl, hE, hb3⟩; obtain ⟨t, u, rfl⟩ := errW_someP hE HQ'.out; clear hE))
      go_ret
      exact ⟨rfl, bel⟩
    rw [if_pos hq]
    rw [hq] at HQ
    simp only
    by_cases k3 : k = 3
    · subst k3
      rw [if_pos rfl]
      have HH := Lib.hid (fun w => has_any b.lo.x b.lo.y b.hi.x b.hi.y bq.lo.x bq.lo.y w)
      rw [show (⟨⟨b.lo.x, b.lo.y⟩, ⟨b.hi.x, b.hi.y⟩⟩ : Bx) = b from rfl, show (⟨bq.lo.x, bq.lo.y⟩ : Pt) = bq.lo from rfl] at HH
      generalize bhas b bq.lo = t at *
      clear hl hr hk hq
      go_enter Tryz.func257, Tryz.ntmps257
      go_wp2_with (first | (go_at_call 263; (with_reducible refine (HU.out _ bel).mono ?_); rintro e w1 ⟨rfl, hb1⟩; obtain ⟨hc1, hf1⟩ := bcell hb1; have hz1 := hb1.size; (try simp at hz1); have hy0 : w.heap.size < w1.heap.size := (by omega); have hy1 : w.heap.size + 1 < w1.heap.size := (by omega)) | (go_at_call 46; (with_reducible refine (HQ.out _ bel).mono ?_); rintro e w3 ⟨v, rfl, hE, hb3⟩; obtain rfl := errW_zeroP hE; clear hE; obtain ⟨hc3, hf3⟩ := bcell hb3; have hz3 := hb3.size; (try simp at hz3); have hy30 : w.heap.size < w3.heap.size := (by omega); have hy31 : w.heap.size + 1 < w3.heap.size := (by omega); have hy32 : w1.heap.size < w3.heap.size := (by omega)) | (go_at_call 145; (with_reducible refine (HH.out _).mono ?_); rintro e w5 ⟨rfl, hb5⟩; obtain ⟨hc5, hf5⟩ := bcell hb5; have hz5 := hb5.size; (try simp at hz5); have hy50 : w.heap.size < w5.heap.size := (by omega); have hy51 : w.heap.size + 1 < w5.heap.size := (by omega)))
      go_ret
      exact ⟨rfl, bel⟩
    rw [if_neg k3]
    have k3' : (k == 3) = false := by rw [beq_eq_false_iff_ne]; exact k3
    by_cases k4 : k = 4
    · subst k4
      rw [if_pos rfl]
      have hck : ckRing r = 0 := by simpa [ckQu] using hq
      have HX := Lib.hid (fun W (hW : Below w.heap.size w W) => ringBox_ok B m c2 A2 r W (hr.tr hW hB) (Nat.le_trans hB hW.size) hck)
      generalize ringBx r = x at *
      have HH := Lib.hid (fun w => meets_any b.lo.x b.lo.y b.hi.x b.hi.y x.lo.x x.lo.y x.hi.x x.hi.y w)
      rw [show (⟨⟨b.lo.x, b.lo.y⟩, ⟨b.hi.x, b.hi.y⟩⟩ : Bx) = b from rfl, show (⟨⟨x.lo.x, x.lo.y⟩, ⟨x.hi.x, x.hi.y⟩⟩ : Bx) = x from rfl] at HH
      generalize bmeets b x = t at *
      clear hl hr hk hq hck k3 k3'
      go_enter Tryz.func257, Tryz.ntmps257
      go_wp2_with (first | (go_at_call 263; (with_reducible refine (HU.out _ bel).mono ?_); rintro e w1 ⟨rfl, hb1⟩; obtain ⟨hc1, hf1⟩ := bcell hb1; have hz1 := hb1.size; (try simp at hz1); have hy0 : w.heap.size < w1.heap.size := (by omega); have hy1 : w.heap.size + 1 < w1.heap.size := (by omega)) | (go_at_call 46; (with_reducible refine (HQ.out _ bel).mono ?_); rintro e w3 ⟨v, rfl, hE, hb3⟩; obtain rfl := errW_zeroP hE; clear hE; obtain ⟨hc3, hf3⟩ := bcell hb3; have hz3 := hb3.size; (try simp at hz3); have hy30 : w.heap.size < w3.heap.size := (by omega); have hy31 : w.heap.size + 1 < w3.heap.size := (by omega); have hy32 : w1.heap.size < w3.heap.size := (by omega)) | (go_at_call 146; (with_reducible refine (HX.out _ bel).mono ?_); rintro e w5 ⟨rfl, hb5⟩; obtain ⟨hc5, hf5⟩ := bcell hb5; have hz5 := hb5.size; (try simp at hz5); have hy50 : w.heap.size < w5.heap.size := (by omega); have hy51 : w.heap.size + 1 < w5.heap.size := (by omega); have hy52 : w1.heap.size < w5.heap.size := (by omega)) | (go_at_call 142; (with_reducible refine (HH.out _).mono ?_); rintro e w6 ⟨rfl, hb6⟩; obtain ⟨hc6, hf6⟩ := bcell hb6; have hz6 := hb6.size; (try simp at hz6); have hy60 : w.heap.size < w6.heap.size := (by omega); have hy61 : w.heap.size + 1 < w6.heap.size := (by omega)))
      go_ret
      exact ⟨rfl, bel⟩
    rw [if_neg k4]
    have k4' : (k == 4) = false := by rw [beq_eq_false_iff_ne]; exact k4
    have HH := Lib.hid (fun w => meets_any b.lo.x b.lo.y b.hi.x b.hi.y bq.lo.x bq.lo.y bq.hi.x bq.hi.y w)
    rw [show (⟨⟨b.lo.x, b.lo.y⟩, ⟨b.hi.x, b.hi.y⟩⟩ : Bx) = b from rfl, show (⟨⟨bq.lo.x, bq.lo.y⟩, ⟨bq.hi.x, bq.hi.y⟩⟩ : Bx) = bq from rfl] at HH
    generalize bmeets b bq = t at *
    clear hl hr hk hq k3 k4
    go_enter Tryz.func257, Tryz.ntmps257
    go_wp2_with (first | (go_at_call 263; (with_reducible refine (HU.out _ bel).mono ?_); rintro e w1 ⟨rfl, hb1⟩; obtain ⟨hc1, hf1⟩ := bcell hb1; have hz1 := hb1.size; (try simp at hz1); have hy0 : w.heap.size < w1.heap.size := (by omega); have hy1 : w.heap.size + 1 < w1.heap.size := (by omega)) | (go_at_call 46; (with_reducible refine (HQ.out _ bel).mono ?_); rintro e w3 ⟨v, rfl, hE, hb3⟩; obtain rfl := errW_zeroP hE; clear hE; obtain ⟨hc3, hf3⟩ := bcell hb3; have hz3 := hb3.size; (try simp at hz3); have hy30 : w.heap.size < w3.heap.size := (by omega); have hy31 : w.heap.size + 1 < w3.heap.size := (by omega); have hy32 : w1.heap.size < w3.heap.size := (by omega)) | (go_at_call 142; (with_reducible refine (HH.out _).mono ?_); rintro e w6 ⟨rfl, hb6⟩; obtain ⟨hc6, hf6⟩ := bcell hb6; have hz6 := hb6.size; (try simp at hz6); have hy60 : w.heap.size < w6.heap.size := (by omega); have hy61 : w.heap.size + 1 < w6.heap.size := (by omega)))
    go_ret
    exact ⟨rfl, bel⟩

set_option maxHeartbeats 4000000 in
set_option maxRecDepth 20000 in
theorem kDist_any (cv : Value) (B n c : Nat) (x y : Int) (A : Option Addr) (l : List Nat) (w : World) (hl : BysAt w B A n l) (h256 : ∀ x ∈ l, x < 256) (hB : B ≤ w.heap.size) (hn : n ≤ 1000000) (hnc : n ≤ c) :
    Calls Tryz.prog 258 #[.agg #[cv], .slice A n c, ptV x y] w (Ret w (fV (farS l ⟨x, y⟩))) := by
  have HU := Lib.hid (fun W (hW : Below w.heap.size w W) => unkey_any B n c A l W (hl.tr hW hB) h256 (Nat.le_trans hB hW.size) hn hnc)
  rw [fV_fcs]
  unfold farS
  cases hk : unkeyS l with
  | none =>
    rw [unkeyV_none hk] at HU
    simp only [fcs_none]
    clear hl hk
    go_enter Tryz.func258, Tryz.ntmps258
    go_wp2_with (go_at_call 263; (with_reducible refine (HU.out _ bel).mono ?_); rintro e w1 ⟨rfl, hb1⟩; obtain ⟨hc1, hf1⟩ := bcell hb1; have hz1 := hb1.size; (try simp at hz1); have hy0 : w.heap.size < w1.heap.size := (by omega); have hy1 : w.heap.size + 1 < w1.heap.size := (by omega); have hy2 : w.heap.size + 1 + 1 < w1.heap.size := (by omega))
    refine post_gen2 (R := fun w2 => Blk w2 (w.heap.size + 1 + 1) 25 #[.int .u64 0, .int .u64 0, .int .u64 0] ∧ Below w.heap.size w w2) ⟨?_, bel⟩ ?_
    · repeat (first | with_reducible exact three_put (x := .int .u64 0) (y := .int .u64 0) (z := .int .u64 0) blkA | (with_reducible refine Blk.new ?_ rfl; focus (simp; done)) | with_reducible refine Blk.alloc ?_ _ | with_reducible refine Blk.drew ?_)
    rintro w2 ⟨HR, hb2⟩
    have r0 := HR.cell 0
    have r1 := HR.cell 1
    have r2 := HR.cell 2
    simp only [List.getElem?_toArray, List.getElem?_cons_zero, List.getElem?_cons_succ] at r0 r1 r2
    exact bodyPost_ret (v := .agg #[.int .u64 0, .int .u64 0, .int .u64 0]) (by simp [results, Tryz.results258, go_sem, r0, r1, r2]) rfl ⟨rfl, hb2⟩
  | some b =>
    rw [unkeyV_some hk] at HU
    have hb := unkey_ok hk
    have HD := Lib.hid (fun w => pDist_any b.lo.x b.lo.y b.hi.x b.hi.y x y w)
    have e : pdV ⟨⟨b.lo.x, b.lo.y⟩, ⟨b.hi.x, b.hi.y⟩⟩ ⟨x, y⟩ = fV (bxF b ⟨x, y⟩) := by
      unfold pdV bxF
      rw [show (⟨⟨b.lo.x, b.lo.y⟩, ⟨b.hi.x, b.hi.y⟩⟩ : Bx) = b from rfl]
      split
      · rfl
      · rfl
    rw [e, fV_fcs] at HD
    simp only
    obtain ⟨d1, d2, d3, ed⟩ := fcs_ex (bxF b ⟨x, y⟩)
    rw [ed] at HD ⊢
    clear hl hk hb e ed
    go_enter Tryz.func258, Tryz.ntmps258
    go_wp2_with (first | (go_at_call 263; (with_reducible refine (HU.out _ bel).mono ?_); rintro e w1 ⟨rfl, hb1⟩; obtain ⟨hc1, hf1⟩ := bcell hb1; have hz1 := hb1.size; (try simp at hz1); have hy0 : w.heap.size < w1.heap.size := (by omega); have hy1 : w.heap.size + 1 < w1.heap.size := (by omega); have hy2 : w.heap.size + 1 + 1 < w1.heap.size := (by omega)) | (go_at_call 84; (with_reducible refine (HD.out _).mono ?_); rintro e w5 ⟨rfl, hb5⟩; obtain ⟨hc5, hf5⟩ := bcell hb5; have hz5 := hb5.size; (try simp at hz5); have hy50 : w.heap.size < w5.heap.size := (by omega); have hy51 : w.heap.size + 1 < w5.heap.size := (by omega); have hy52 : w.heap.size + 1 + 1 < w5.heap.size := (by omega)))
    refine post_gen2 (R := fun w2 => Blk w2 (w.heap.size + 1 + 1) 25 #[.int .u64 d1, .int .u64 d2, .int .u64 d3] ∧ Below w.heap.size w w2) ⟨?_, bel⟩ ?_
    · repeat (first | with_reducible exact three_put (x := .int .u64 0) (y := .int .u64 0) (z := .int .u64 0) blkA | (with_reducible refine Blk.new ?_ rfl; focus (simp; done)) | with_reducible refine Blk.alloc ?_ _ | with_reducible refine Blk.drew ?_)
    rintro w2 ⟨HR, hb2⟩
    have r0 := HR.cell 0
    have r1 := HR.cell 1
    have r2 := HR.cell 2
    simp only [List.getElem?_toArray, List.getElem?_cons_zero, List.getElem?_cons_succ] at r0 r1 r2
    exact bodyPost_ret (v := .agg #[.int .u64 d1, .int .u64 d2, .int .u64 d3]) (by simp [results, Tryz.results258, go_sem, r0, r1, r2]) rfl ⟨rfl, hb2⟩

end Go.Proofs.YtkfbkfcmdfpfjaaGreatDoor
set_option linter.unusedSimpArgs false
set_option linter.unusedVariables false
namespace Go.Proofs.YtkfbkfcmdfpfjaaGreatDoor
open Go.RowKit Pg

end Go.Proofs.YtkfbkfcmdfpfjaaGreatDoor
set_option linter.unusedSimpArgs false
set_option linter.unusedVariables false
namespace Go.Proofs.YtkfbkfcmdfpfjaaGreatDoor
open Go.RowKit Pg
def boxesK (L : List (List Nat)) : List Bx := L.filterMap unkeyS
/-- the union of keys: none, if no key is one -/
def unionK (L : List (List Nat)) : List Nat := if (union (boxesK L)).2 = 0 then keyL (union (boxesK L)).1 else []
theorem union_all {l : List Bx} (hl : l ≠ []) (h : ∀ b ∈ l, okBx b = true) : (union l).2 = 0 ∧ okBx (union l).1 = true ∧ ∀ b ∈ l, inB (union l).1 b := by
  cases l with
  | nil => exact absurd rfl hl
  | cons a r =>
    obtain ⟨h1, h2, h3, h4⟩ := unionGo_spec (a :: r) a (fun b hb => okBx_ck.1 (h b hb))
    have e : (union (a :: r)).1 = (unionGo a (a :: r)).1 := rfl
    have hA := (Pg.okBx_iff a).1 (h a (by simp))
    have hl : inB ⟨⟨-1073741823, -1073741823⟩, ⟨1073741823, 1073741823⟩⟩ (unionGo a (a :: r)).1 := h4 _ (by rw [Pg.okPt_iff, Pg.okPt_iff] at hA; unfold inB; simp only; omega) (by
      intro c hc
      have hc := (Pg.okBx_iff c).1 (h c hc)
      rw [Pg.okPt_iff, Pg.okPt_iff] at hc
      unfold inB; simp only; omega)
    refine ⟨h1, ?_, h3⟩
    have h3a := h3 a (by simp)
    rw [Pg.okBx_iff, Pg.okPt_iff, Pg.okPt_iff, e]
    unfold inB at hl h3a
    simp only at hl
    omega
theorem boxesK_ok {L : List (List Nat)} {b : Bx} (h : b ∈ boxesK L) : okBx b = true := by
  unfold boxesK at h
  obtain ⟨l, _, h⟩ := List.mem_filterMap.1 h
  exact unkey_ok h
theorem boxesK_len (L : List (List Nat)) : (boxesK L).length ≤ L.length := List.length_filterMap_le _ _
theorem boxesK_none {L : List (List Nat)} {k : Nat} (hk : k < L.length) (h : unkeyS (L.getD k []) = none) : boxesK (L.take (k + 1)) = boxesK (L.take k) := by
  have e : L[k]? = some (L.getD k []) := by rw [List.getD_eq_getElem?_getD, List.getElem?_eq_getElem hk]; rfl
  unfold boxesK
  rw [List.take_add_one, e, List.filterMap_append, Option.toList_some, List.filterMap_cons_none h, List.filterMap_nil, List.append_nil]
theorem boxesK_some {L : List (List Nat)} {k : Nat} {b : Bx} (hk : k < L.length) (h : unkeyS (L.getD k []) = some b) : boxesK (L.take (k + 1)) = boxesK (L.take k) ++ [b] := by
  have e : L[k]? = some (L.getD k []) := by rw [List.getD_eq_getElem?_getD, List.getElem?_eq_getElem hk]; rfl
  unfold boxesK
  rw [List.take_add_one, e, List.filterMap_append, Option.toList_some, List.filterMap_cons_some h, List.filterMap_nil]
theorem boxesK_take_len (L : List (List Nat)) (k : Nat) : (boxesK (L.take k)).length ≤ k := Nat.le_trans (boxesK_len _) (by simp; omega)
set_option maxHeartbeats 4000000 in
set_option maxRecDepth 20000 in
theorem Union_any (cv : Value) (B n c : Nat) (A : Option Addr) (L : List (List Nat)) (w : World) (hl : RbsAt w B A n L) (hB : B ≤ w.heap.size) (hn2 : n ≤ 1000000) (h256 : ∀ l ∈ L, ∀ x ∈ l, x < 256) (hlen : ∀ l ∈ L, l.length ≤ 1000000) :
    Calls Tryz.prog 262 #[.agg #[cv], .slice A n c] w (RetB w (unionK L)) := by
  have hLn := hl.1
  obtain ⟨i0, hi, iz0, iz1, iz2⟩ := info_parts Tryz.infoBox
  go_enter Tryz.func262, Tryz.ntmps262
  go_wp2_with fail
  go_loopw [5, 14] (fun vl vi wr => ∃ (k : Nat), k ≤ n ∧ vi = .int .i64 k ∧ wr.ownsRow w.heap.size 60 4 vl (boxesK (L.take k)).length (bcells (boxesK (L.take k))) ∧ Below w.heap.size w wr) (fun _ vi _ => n - (intOf vi).toNat)
  case atStart => exact ⟨0, by omega, rfl, World.ownsRow_nil _ _ _ _, bel⟩
  case round =>
    obtain ⟨k, hk, rfl, hown, hb⟩ := hrel
    by_cases hlt : k < n
    · obtain ⟨b, off, A', n', c', rfl, hab, hcell, hby, he, hz, hnc⟩ := (hl.below (hb.mono hB)).at_ hlt
      have hmem : L.getD k [] ∈ L := List.mem_of_getElem? he
      have hn' : n' ≤ 1000000 := by rw [← hby.1]; exact hlen _ hmem
      have hBw : B ≤ wr.heap.size := Nat.le_trans hB hb.size
      have HU := Lib.hid (fun w' (h : Below wr.heap.size wr w') => unkey_any B n' c' A' (L.getD k []) w' (hby.tr h hBw) (h256 _ hmem) (Nat.le_trans hBw h.size) hn' hnc)
      have hbw : b < wr.heap.size := by omega
      have hk0 : (k : Int) < (n : Int) := by omega
      have hkl : k < L.length := by omega
      have hbk := boxesK_take_len L k
      cases hu : unkeyS (L.getD k []) with
      | none =>
        rw [unkeyV_none hu] at HU
        have hst := boxesK_none hkl hu
        go_wp2_with (go_at_call 263; (with_reducible refine (HU.out _ bel).mono ?_); rintro e w1 ⟨rfl, hb1⟩; obtain ⟨hc1, hf1⟩ := bcell hb1; have hz1 := hb1.size; (try simp at hz1))
        have hbz : Below wr.heap.size wr w1 := bel
        go_roundw
        case rel => exact ⟨k + 1, by omega, by go_num, by rw [hst]; exact ownB_below hown bel, bel⟩
        case measure => simp [intOf]; omega
      | some p =>
        rw [unkeyV_some hu] at HU
        have hst := boxesK_some hkl hu
        go_wp2_with (first | (go_at_call 263; (with_reducible refine (HU.out _ bel).mono ?_); rintro e w1 ⟨rfl, hb1⟩; obtain ⟨hc1, hf1⟩ := bcell hb1; have hz1 := hb1.size; (try simp at hz1)) | (at_builtin; go_must (refine wpList_append_own _ rfl _ _ 253 rfl w.heap.size 60 i0 (.agg #[.int .i64 0, .int .i64 0, .int .i64 0, .int .i64 0]) 4 32 Tryz.underlying253 hi iz0 iz1 iz2 rfl (by decide) _ _ _ rfl (ownB_below hown bel) ⟨w1.heap.size + 1, 0, none⟩ 1 1 [.int .i64 p.lo.x, .int .i64 p.lo.y, .int .i64 p.hi.x, .int .i64 p.hi.y] rfl rfl ?c1 ?c2 ?c3 ?c4 ?c5 ?_)))
        case c1 =>
          intro j u hj
          match j, hj with
          | 0, hj => simp at hj; subst hj; simp [Addr.add]
          | 1, hj => simp at hj; subst hj; simp [Addr.add]
          | 2, hj => simp at hj; subst hj; simp [Addr.add]
          | 3, hj => simp at hj; subst hj; simp [Addr.add]
        case c2 => intro u hu; simp only [List.mem_cons, List.not_mem_nil, or_false] at hu; rcases hu with rfl | rfl | rfl | rfl <;> rfl
        case c3 => unfold maxLen; omega
        case c4 => omega
        case c5 => have := hb.size; simp; omega
        intro v' w2 hown' hgrow _
        have hlt' := hown.lt
        have hb2 : Below w.heap.size w w2 := Below.grown (w := _) bel hgrow (by have := hb.size; simp; omega) (fun j e => by have := (hlt' j e).1; omega)
        have hown2 : w2.ownsRow w.heap.size 60 4 v' (boxesK (L.take (k + 1))).length (bcells (boxesK (L.take (k + 1)))) := by
          rw [hst, bcells_snoc, List.length_append]
          exact hown'
        clear hown' hgrow hown hlt'
        go_wp2
        go_roundw
        case rel => exact ⟨k + 1, by omega, by go_num, hown2, hb2⟩
        case measure => simp [intOf]; omega
    · obtain rfl : n = k := by omega
      rw [List.take_of_length_le (by omega)] at hown
      have hbl := boxesK_len L
      obtain ⟨A2, c2, rfl, hbx⟩ := bxs_of_own hown rfl
      have HUn := Lib.hid (union_any wr.heap.size _ c2 A2 (boxesK L) wr hbx (Nat.le_refl _) (by unfold maxLen; omega))
      by_cases hne : boxesK L = []
      · have hu0 : unionK L = [] := by unfold unionK; rw [hne]; rfl
        have HU0 := Lib.hid hu0
        rw [hne] at HUn
        rw [hne]
        have HE : errV (union []).2 = .iface 68 (.int .i64 1) := rfl
        rw [HE] at HUn
        simp only [show (union []).1 = bzero from rfl, bzero, List.length_nil] at HUn ⊢
        clear hown hbx hl hu0
        go_wp2_with (go_at_call 168; (with_reducible refine HUn.out.mono ?_); rintro e w1 ⟨rfl, hb1⟩; obtain ⟨hc1, hf1⟩ := bcell hb1; have hz1 := hb1.size; (try simp at hz1))
        go_ret
        refine ⟨_, rfl, ?_, bel⟩
        rw [HU0.out]
        exact World.ownsRow_nil _ _ _ _
      · obtain ⟨hu0, hu1, _⟩ := union_all hne (fun b hb => boxesK_ok hb)
        have hu2 : unionK L = keyL (union (boxesK L)).1 := by unfold unionK; rw [if_pos hu0]
        have HU2 := Lib.hid hu2
        rw [hu0] at HUn
        obtain ⟨x, hx⟩ : ∃ x, (union (boxesK L)).1 = x := ⟨_, rfl⟩
        obtain ⟨N, hN⟩ : ∃ x, (boxesK L).length = x := ⟨_, rfl⟩
        rw [hx] at HUn hu1 HU2
        rw [hN] at HUn ⊢
        have HK := Lib.hid (fun w => key_any x.lo.x x.lo.y x.hi.x x.hi.y (okBx_in hu1) w)
        rw [show (⟨⟨x.lo.x, x.lo.y⟩, ⟨x.hi.x, x.hi.y⟩⟩ : Bx) = x from rfl] at HK
        simp only [show errV 0 = .nilIface from rfl] at HUn
        clear hown hbx hl hu0 hu1 hu2 hx hN hbl
        go_wp2_with (first | (go_at_call 168; (with_reducible refine HUn.out.mono ?_); rintro e w1 ⟨rfl, hb1⟩; obtain ⟨hc1, hf1⟩ := bcell hb1; have hz1 := hb1.size; (try simp at hz1)) | (go_at_call 264; (with_reducible refine (HK.out _).mono ?_); rintro e w6 ⟨s6, rfl, ho6, hb6⟩))
        go_ret
        refine ⟨_, rfl, ?_, bel⟩
        rw [HU2.out]
        exact ownB_base (base' := w.heap.size) ho6 (by have := hb.size; have := hb1.size; (try simp); omega)
end Go.Proofs.YtkfbkfcmdfpfjaaGreatDoor
set_option linter.unusedSimpArgs false
set_option linter.unusedVariables false
namespace Go.Proofs.YtkfbkfcmdfpfjaaGreatDoor
open Go.RowKit Pg
/-- why no key is made: 0: it is -/
def makeS (kind : Int) (o : Ob) : Nat := if o.kind = kind then ckOb o else 5
def makeK (kind : Int) (o : Ob) : List Nat := if makeS kind o = 0 then keyL (boundsS o) else []
abbrev classW : ByteArray := { data := #[99, 108, 97, 115, 115] }
theorem bounds_in {k : Int} {l : List Pt} (h : ckOb ⟨k, l⟩ = 0) : inBx (boundsS ⟨k, l⟩) := okBx_in (bounds_okBx h)

set_option maxHeartbeats 4000000 in
set_option maxRecDepth 20000 in
theorem Make_any (B n c : Nat) (kind k : Int) (A : Option Addr) (l : List Pt) (w : World) (hl : PtsAt w B A n l) (hB : B ≤ w.heap.size) (hn : n ≤ 1000000) :
    Calls Tryz.prog 259 #[.agg #[.int .i64 kind], obV k A n c] w fun e w' => ∃ s v, e = .returned (.tuple #[s, v]) ∧ w'.ownsRow w.heap.size 5 1 s (makeK kind ⟨k, l⟩).length (ycells (makeK kind ⟨k, l⟩)) ∧ ErrX w' v (makeS kind ⟨k, l⟩) classW k ∧ Below w.heap.size w w' := by
  by_cases hk : k = kind
  case neg =>
    have h5 : makeS kind ⟨k, l⟩ = 5 := by unfold makeS; rw [if_neg hk]
    have hm : makeK kind ⟨k, l⟩ = [] := by unfold makeK; rw [h5]; rfl
    rw [h5, hm]
    have hk2 : (k != kind) = true := by rw [bne_iff_ne]; exact hk
    have HN := Lib.hid (fun w => fnewX_any classW k (.iface 68 (.int .i64 5)) 5 w (errY_bare (k := 5)))
    clear hl hm h5 hk
    go_enter Tryz.func259, Tryz.ntmps259
    go_wp2_with (go_at_call 29; (with_reducible refine (HN.out _).mono ?_); rintro e w1 ⟨v1, rfl, hE1, hb1⟩)
    go_ret2
    exact ⟨_, _, rfl, World.ownsRow_nil _ _ _ _, hE1, bel⟩
  case pos =>
    subst hk
    by_cases ho : ckOb ⟨k, l⟩ = 0
    · have h0 : makeS k ⟨k, l⟩ = 0 := by unfold makeS; rw [if_pos rfl, ho]
      have hm : makeK k ⟨k, l⟩ = keyL (boundsS ⟨k, l⟩) := by unfold makeK; rw [if_pos h0]
      rw [hm, h0]
      refine (Make_ok B n c k A l w hl hB hn ho (bounds_in ho)).mono ?_
      rintro e w' ⟨s, rfl, hs, hb⟩
      exact ⟨s, _, rfl, hs, .inl ⟨rfl, rfl⟩, hb⟩
    · obtain ⟨m, hm⟩ : ∃ m, ckOb ⟨k, l⟩ = m := ⟨_, rfl⟩
      have h5 : makeS k ⟨k, l⟩ = m := by unfold makeS; rw [if_pos rfl, hm]
      rw [hm] at ho
      have hmk : makeK k ⟨k, l⟩ = [] := by unfold makeK; rw [h5, if_neg ho]
      rw [hmk, h5]
      have HB := Lib.hid (fun W (hW : Below w.heap.size w W) => Bounds_bad B n c k A l W (hl.tr hW hB) (Nat.le_trans hB hW.size) hn (by rw [hm]; exact ho))
      rw [hm] at HB
      have HO := Lib.hid ho
      clear hl hm h5 hmk ho
      go_enter Tryz.func259, Tryz.ntmps259
      go_wp2_with (first | (go_at_call 97; (with_reducible refine (HB.out _ bel).mono ?_); rintro e w1 ⟨v1, rfl, hE1, hb1⟩; obtain ⟨t1, u1, rfl⟩ := hE1.x.succ HO.out; obtain ⟨hc1, hf1⟩ := bcell hb1; have hz1 := hb1.size; (try simp at hz1); have hy0 : w.heap.size < w1.heap.size := (by omega); have hy1 : w.heap.size + 1 < w1.heap.size := (by omega)) | (go_at_call 29; (with_reducible refine (fnewX_any _ _ _ _ _ (hE1.x.y.keep (fun hB => hB.alloc _))).mono ?_); rintro e w2 ⟨v2, rfl, hE2, hb2⟩))
      go_ret2
      exact ⟨_, _, rfl, World.ownsRow_nil _ _ _ _, hE2, bel⟩
end Go.Proofs.YtkfbkfcmdfpfjaaGreatDoor
