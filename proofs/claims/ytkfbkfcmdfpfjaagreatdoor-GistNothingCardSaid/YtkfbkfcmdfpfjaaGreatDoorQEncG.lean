/-
  The contract of opclass.unkey: which box a key is of.
  Contracts: rows of bytes held against each other; fault.New; the program's Unkey.
-/
import Derived.Test.YtkfbkfcmdfpfjaaGreatDoorQEncD
import Derived.Test.YtkfbkfcmdfpfjaaGreatDoorQEncA
import Derived.Test.YtkfbkfcmdfpfjaaGreatDoorQRel1
import Derived.Test.YtkfbkfcmdfpfjaaGreatDoorQLex
set_option linter.unusedSimpArgs false
set_option linter.unusedVariables false
namespace Go.Proofs.YtkfbkfcmdfpfjaaGreatDoor
open Go.RowKit Pg

/-- k numbers are read -/
def rdS (l : List Nat) (k : Nat) (a b c d : Int) (r : List Nat) : Prop :=
  match k with
  | 0 => r = l
  | 1 => dec l = some (a, r)
  | 2 => ∃ l1, dec l = some (a, l1) ∧ dec l1 = some (b, r)
  | 3 => ∃ l1 l2, dec l = some (a, l1) ∧ dec l1 = some (b, l2) ∧ dec l2 = some (c, r)
  | _ => ∃ l1 l2 l3, dec l = some (a, l1) ∧ dec l1 = some (b, l2) ∧ dec l2 = some (c, l3) ∧ dec l3 = some (d, r)
theorem rdS_none {l r : List Nat} {k : Nat} {a b c d : Int} (hk : k < 4) (h : rdS l k a b c d r) (hd : dec r = none) : unkeyS l = none := by
  have : k = 0 ∨ k = 1 ∨ k = 2 ∨ k = 3 := by omega
  rcases this with rfl | rfl | rfl | rfl
  · simp only [rdS] at h; subst h; unfold unkeyS; rw [hd]
  · simp only [rdS] at h; unfold unkeyS; rw [h]; simp only; rw [hd]
  · obtain ⟨l1, h1, h2⟩ := h; unfold unkeyS; rw [h1]; simp only; rw [h2]; simp only; rw [hd]
  · obtain ⟨l1, l2, h1, h2, h3⟩ := h; unfold unkeyS; rw [h1]; simp only; rw [h2]; simp only; rw [h3]; simp only; rw [hd]
theorem rdS_end {l r : List Nat} {a b c d : Int} (h : rdS l 4 a b c d r) : unkeyS l = if r = [] ∧ okBx ⟨⟨a, b⟩, ⟨c, d⟩⟩ = true then some ⟨⟨a, b⟩, ⟨c, d⟩⟩ else none := by
  obtain ⟨l1, l2, l3, h1, h2, h3, h4⟩ := h
  unfold unkeyS
  rw [h1]; simp only; rw [h2]; simp only; rw [h3]; simp only; rw [h4]
theorem dec_byte {l r : List Nat} {x : Int} (hl : ∀ c ∈ l, c < 256) (h : dec l = some (x, r)) : (∀ c ∈ r, c < 256) ∧ r.length < l.length ∧ r = l.drop (l.length - r.length) ∧ in64 x := by
  obtain ⟨h1, h2⟩ := dec_inv hl h
  have h3 := (sint_len h1).1
  refine ⟨fun c hc => hl c (by rw [h2]; simp [hc]), by rw [h2, List.length_append]; omega, ?_, h1⟩
  rw [h2, List.length_append, Nat.add_sub_cancel]
  simp
/-- what unkey tells -/
def unkeyV (l : List Nat) : Value := match unkeyS l with
  | none => .tuple #[bxV 0 0 0 0, .bool false]
  | some b => .tuple #[bxV b.lo.x b.lo.y b.hi.x b.hi.y, .bool true]
theorem box_putE {W : World} {g : Nat} {t : TypeId} {x y z u a b c d : Value} (h : Blk W g t #[x, y, z, u]) :
    Blk ((((W.setCell ⟨g, 0, none⟩ a).setCell ⟨g, 1, none⟩ b).setCell ⟨g, 2, none⟩ c).setCell ⟨g, 3, none⟩ d) g t #[a, b, c, d] :=
  ((((h.set_ 0 a).set_ 1 b).set_ 2 c).set_ 3 d).eq_ (by simp)

set_option maxHeartbeats 16000000 in
set_option maxRecDepth 20000 in
theorem unkey_any (B n c : Nat) (A : Option Addr) (l : List Nat) (w : World) (hl : BysAt w B A n l) (h256 : ∀ x ∈ l, x < 256) (hB : B ≤ w.heap.size) (hn : n ≤ 1000000) (hnc : n ≤ c) :
    Calls Tryz.prog 263 #[.slice A n c] w (Ret w (unkeyV l)) := by
  obtain ⟨V, hV⟩ : ∃ V, unkeyV l = V := ⟨_, rfl⟩
  rw [hV]
  have HV := Lib.hid hV
  clear hV
  go_enter Tryz.func263, Tryz.ntmps263
  go_wp2
  go_loopw [0, 9] (fun vs vi wr => ∃ (k : Nat) (a b c d : Int) (r : List Nat) (A' : Option Addr) (n' c' : Nat), k ≤ 4 ∧ vi = .int .i64 k ∧ vs = .slice A' n' c' ∧ rdS l k a b c d r ∧ (∀ x ∈ r, x < 256) ∧ BysAt wr B A' n' r ∧ n' ≤ n ∧ n' ≤ c' ∧ Blk wr w.heap.size 60 #[.int .i64 0, .int .i64 0, .int .i64 0, .int .i64 0] ∧ Blk wr (w.heap.size + 1) 319 #[.int .i64 a, .int .i64 b, .int .i64 c, .int .i64 d] ∧ Below w.heap.size w wr) (fun _ vi _ => 4 - (intOf vi).toNat)
  case atStart => exact ⟨0, 0, 0, 0, 0, l, A, n, c, by omega, rfl, rfl, rfl, h256, hl.tr bel hB, Nat.le_refl _, hnc, blkA, blkA, bel⟩
  case round =>
    obtain ⟨k, x, y, z, u, r, A', n', c', hk, rfl, rfl, hrd, hr256, hrl, hnn, hnc', hBx, hAr, hb⟩ := hrel
    have hk5 : k = 0 ∨ k = 1 ∨ k = 2 ∨ k = 3 ∨ k = 4 := by omega
    have hl1 := hBx.lt
    have hl2 := hAr.lt
    have cB := hBx.cell
    have cA := hAr.cell
    have fB := hBx.frozen
    have fA := hAr.frozen
    have hBw : B ≤ wr.heap.size := by omega
    rcases hk5 with rfl | rfl | rfl | rfl | rfl
    · -- number 0
      cases hd : dec r with
      | none =>
        have eV : V = .tuple #[bxV 0 0 0 0, .bool false] := by rw [← HV.out, unkeyV, rdS_none (by omega) hrd hd]
        subst eV
        have HU : Hid (∀ w', Below wr.heap.size wr w' → Calls Tryz.prog 268 #[.slice A' n' c'] w' (Ret w' (.tuple #[.int .i64 0, .int .i64 0, .bool false]))) := fun w' h => by
          have h2 := unsigned_any B n' c' A' r w' (hrl.tr h hBw) hr256 (Nat.le_trans hBw h.size) (by omega)
          rw [decV, hd] at h2
          exact h2
        clear hrl hrd hd hr256
        go_wp2_with (go_at_call 268; (with_reducible refine (HU.out _ ?_).mono ?_); exact bel; rintro e w1 ⟨rfl, hb1⟩; obtain ⟨hc1, hf1⟩ := bcell hb1; have hz1 := hb1.size; (try simp at hz1); have hy1 : w.heap.size < w1.heap.size := (by omega); have hy2 : w.heap.size + 1 < w1.heap.size := (by omega))
        refine post_genE (R := fun w2 => Blk w2 (w.heap.size) 60 #[.int .i64 0, .int .i64 0, .int .i64 0, .int .i64 0] ∧ Below w.heap.size w w2) ⟨?_, bel⟩ ?_
        · exact (box_putE (x := .int .i64 0) (y := .int .i64 0) (z := .int .i64 0) (u := .int .i64 0) blkA)
        rintro w2 ⟨HR, hbR⟩
        have r0 := HR.cell 0
        have r1 := HR.cell 1
        have r2 := HR.cell 2
        have r3 := HR.cell 3
        simp only [List.getElem?_toArray, List.getElem?_cons_zero, List.getElem?_cons_succ] at r0 r1 r2 r3
        exact bodyPost_ret (v := .tuple #[bxV 0 0 0 0, .bool false]) (by simp [results, Tryz.results263, go_sem, r0, r1, r2, r3]) rfl ⟨rfl, hbR⟩
      | some p =>
        obtain ⟨v, r2⟩ := p
        obtain ⟨hb2, hlt2, hdr2, hv2⟩ := dec_byte hr256 hd
        have hn0 : 0 < n' := by have := hrl.1; omega
        obtain ⟨b', off', rfl, hb', _⟩ := hrl.2 hn0
        have HU : Hid (∀ w', Below wr.heap.size wr w' → Calls Tryz.prog 268 #[.slice (some ⟨b', off', none⟩) n' c'] w' (Ret w' (.tuple #[.int .i64 v, .int .i64 ((n' - r2.length : Nat) : Int), .bool true]))) := fun w' h => by
          have h2 := unsigned_any B n' c' _ r w' (hrl.tr h hBw) hr256 (Nat.le_trans hBw h.size) (by omega)
          rw [decV, hd] at h2
          exact h2
        have hfr := hrl.from_ (k := n' - r2.length) (by omega)
        have hrl1 := hrl.1
        rw [← hrl1] at hfr
        rw [← hdr2] at hfr
        rw [hrl1] at hfr
        rw [show n' - (n' - r2.length) = r2.length by omega] at hfr
        obtain ⟨q, hq⟩ : ∃ q, n' - r2.length = q := ⟨_, rfl⟩
        rw [hq] at HU hfr
        have hq1 : 1 ≤ q := by omega
        have hq2 : q ≤ n' := by omega
        have HF0 : c' = q → Hid (BysAt wr B (some ⟨b', off', none⟩) 0 r2) := fun e => ⟨by omega, fun h => by omega⟩
        have HF1 : Hid (BysAt wr B (some ⟨b', off' + q, none⟩) (n' - q) r2) := by
          rw [show n' - q = r2.length by omega]
          exact hfr
        have HN : Hid (rdS l 1 v y z u r2 ∧ (∀ x ∈ r2, x < 256)) := ⟨by subst hrd; exact hd, hb2⟩
        clear hrl hrd hd hr256 hb2 hlt2 hdr2 hv2 hfr hrl1 hq
        by_cases hcq : c' = q
        · have HF := HF0 hcq
          subst hcq
          clear HF0 HF1
          go_wp2_with (go_at_call 268; (with_reducible refine (HU.out _ ?_).mono ?_); exact bel; rintro e w1 ⟨rfl, hb1⟩; obtain ⟨hc1, hf1⟩ := bcell hb1; have hz1 := hb1.size; (try simp at hz1); have hy1 : w.heap.size < w1.heap.size := (by omega); have hy2 : w.heap.size + 1 < w1.heap.size := (by omega))
          have hBx1 := hBx.tr hb1
          have hAr1 := (hAr.tr hb1).set_ 0 (.int .i64 v)
          have hFr1 := HF.out.tr hb1 hBw
          go_roundw
          case rel => exact ⟨1, v, y, z, u, r2, some ⟨b', off', none⟩, 0, 0, by omega, by go_num, by first | rfl | (simp; omega) | (simp; done), HN.out.1, HN.out.2, hFr1.keep (fun p hp => World.cell?_of_block (Below.heap_setCell w1 _ _ _ (by simp; omega))), by omega, by omega, hBx1.far (p := ⟨w.heap.size + 1, 0, none⟩) (by simp) _, hAr1.eq_ (by simp), bel⟩
          case measure => simp [intOf]
        · have HF := HF1
          clear HF0 HF1
          go_wp2_with (go_at_call 268; (with_reducible refine (HU.out _ ?_).mono ?_); exact bel; rintro e w1 ⟨rfl, hb1⟩; obtain ⟨hc1, hf1⟩ := bcell hb1; have hz1 := hb1.size; (try simp at hz1); have hy1 : w.heap.size < w1.heap.size := (by omega); have hy2 : w.heap.size + 1 < w1.heap.size := (by omega))
          have hBx1 := hBx.tr hb1
          have hAr1 := (hAr.tr hb1).set_ 0 (.int .i64 v)
          have hFr1 := HF.out.tr hb1 hBw
          go_roundw
          case rel => exact ⟨1, v, y, z, u, r2, _, _, _, by omega, by go_num, by first | rfl | (simp; omega) | (simp; done), HN.out.1, HN.out.2, hFr1.keep (fun p hp => World.cell?_of_block (Below.heap_setCell w1 _ _ _ (by simp; omega))), by omega, by omega, hBx1.far (p := ⟨w.heap.size + 1, 0, none⟩) (by simp) _, hAr1.eq_ (by simp), bel⟩
          case measure => simp [intOf]
    · -- number 1
      cases hd : dec r with
      | none =>
        have eV : V = .tuple #[bxV 0 0 0 0, .bool false] := by rw [← HV.out, unkeyV, rdS_none (by omega) hrd hd]
        subst eV
        have HU : Hid (∀ w', Below wr.heap.size wr w' → Calls Tryz.prog 268 #[.slice A' n' c'] w' (Ret w' (.tuple #[.int .i64 0, .int .i64 0, .bool false]))) := fun w' h => by
          have h2 := unsigned_any B n' c' A' r w' (hrl.tr h hBw) hr256 (Nat.le_trans hBw h.size) (by omega)
          rw [decV, hd] at h2
          exact h2
        clear hrl hrd hd hr256
        go_wp2_with (go_at_call 268; (with_reducible refine (HU.out _ ?_).mono ?_); exact bel; rintro e w1 ⟨rfl, hb1⟩; obtain ⟨hc1, hf1⟩ := bcell hb1; have hz1 := hb1.size; (try simp at hz1); have hy1 : w.heap.size < w1.heap.size := (by omega); have hy2 : w.heap.size + 1 < w1.heap.size := (by omega))
        refine post_genE (R := fun w2 => Blk w2 (w.heap.size) 60 #[.int .i64 0, .int .i64 0, .int .i64 0, .int .i64 0] ∧ Below w.heap.size w w2) ⟨?_, bel⟩ ?_
        · exact (box_putE (x := .int .i64 0) (y := .int .i64 0) (z := .int .i64 0) (u := .int .i64 0) blkA)
        rintro w2 ⟨HR, hbR⟩
        have r0 := HR.cell 0
        have r1 := HR.cell 1
        have r2 := HR.cell 2
        have r3 := HR.cell 3
        simp only [List.getElem?_toArray, List.getElem?_cons_zero, List.getElem?_cons_succ] at r0 r1 r2 r3
        exact bodyPost_ret (v := .tuple #[bxV 0 0 0 0, .bool false]) (by simp [results, Tryz.results263, go_sem, r0, r1, r2, r3]) rfl ⟨rfl, hbR⟩
      | some p =>
        obtain ⟨v, r2⟩ := p
        obtain ⟨hb2, hlt2, hdr2, hv2⟩ := dec_byte hr256 hd
        have hn0 : 0 < n' := by have := hrl.1; omega
        obtain ⟨b', off', rfl, hb', _⟩ := hrl.2 hn0
        have HU : Hid (∀ w', Below wr.heap.size wr w' → Calls Tryz.prog 268 #[.slice (some ⟨b', off', none⟩) n' c'] w' (Ret w' (.tuple #[.int .i64 v, .int .i64 ((n' - r2.length : Nat) : Int), .bool true]))) := fun w' h => by
          have h2 := unsigned_any B n' c' _ r w' (hrl.tr h hBw) hr256 (Nat.le_trans hBw h.size) (by omega)
          rw [decV, hd] at h2
          exact h2
        have hfr := hrl.from_ (k := n' - r2.length) (by omega)
        have hrl1 := hrl.1
        rw [← hrl1] at hfr
        rw [← hdr2] at hfr
        rw [hrl1] at hfr
        rw [show n' - (n' - r2.length) = r2.length by omega] at hfr
        obtain ⟨q, hq⟩ : ∃ q, n' - r2.length = q := ⟨_, rfl⟩
        rw [hq] at HU hfr
        have hq1 : 1 ≤ q := by omega
        have hq2 : q ≤ n' := by omega
        have HF0 : c' = q → Hid (BysAt wr B (some ⟨b', off', none⟩) 0 r2) := fun e => ⟨by omega, fun h => by omega⟩
        have HF1 : Hid (BysAt wr B (some ⟨b', off' + q, none⟩) (n' - q) r2) := by
          rw [show n' - q = r2.length by omega]
          exact hfr
        have HN : Hid (rdS l 2 x v z u r2 ∧ (∀ x ∈ r2, x < 256)) := ⟨⟨_, hrd, hd⟩, hb2⟩
        clear hrl hrd hd hr256 hb2 hlt2 hdr2 hv2 hfr hrl1 hq
        by_cases hcq : c' = q
        · have HF := HF0 hcq
          subst hcq
          clear HF0 HF1
          go_wp2_with (go_at_call 268; (with_reducible refine (HU.out _ ?_).mono ?_); exact bel; rintro e w1 ⟨rfl, hb1⟩; obtain ⟨hc1, hf1⟩ := bcell hb1; have hz1 := hb1.size; (try simp at hz1); have hy1 : w.heap.size < w1.heap.size := (by omega); have hy2 : w.heap.size + 1 < w1.heap.size := (by omega))
          have hBx1 := hBx.tr hb1
          have hAr1 := (hAr.tr hb1).set_ 1 (.int .i64 v)
          have hFr1 := HF.out.tr hb1 hBw
          go_roundw
          case rel => exact ⟨2, x, v, z, u, r2, some ⟨b', off', none⟩, 0, 0, by omega, by go_num, by first | rfl | (simp; omega) | (simp; done), HN.out.1, HN.out.2, hFr1.keep (fun p hp => World.cell?_of_block (Below.heap_setCell w1 _ _ _ (by simp; omega))), by omega, by omega, hBx1.far (p := ⟨w.heap.size + 1, 1, none⟩) (by simp) _, hAr1.eq_ (by simp), bel⟩
          case measure => simp [intOf]
        · have HF := HF1
          clear HF0 HF1
          go_wp2_with (go_at_call 268; (with_reducible refine (HU.out _ ?_).mono ?_); exact bel; rintro e w1 ⟨rfl, hb1⟩; obtain ⟨hc1, hf1⟩ := bcell hb1; have hz1 := hb1.size; (try simp at hz1); have hy1 : w.heap.size < w1.heap.size := (by omega); have hy2 : w.heap.size + 1 < w1.heap.size := (by omega))
          have hBx1 := hBx.tr hb1
          have hAr1 := (hAr.tr hb1).set_ 1 (.int .i64 v)
          have hFr1 := HF.out.tr hb1 hBw
          go_roundw
          case rel => exact ⟨2, x, v, z, u, r2, _, _, _, by omega, by go_num, by first | rfl | (simp; omega) | (simp; done), HN.out.1, HN.out.2, hFr1.keep (fun p hp => World.cell?_of_block (Below.heap_setCell w1 _ _ _ (by simp; omega))), by omega, by omega, hBx1.far (p := ⟨w.heap.size + 1, 1, none⟩) (by simp) _, hAr1.eq_ (by simp), bel⟩
          case measure => simp [intOf]
    · -- number 2
      cases hd : dec r with
      | none =>
        have eV : V = .tuple #[bxV 0 0 0 0, .bool false] := by rw [← HV.out, unkeyV, rdS_none (by omega) hrd hd]
        subst eV
        have HU : Hid (∀ w', Below wr.heap.size wr w' → Calls Tryz.prog 268 #[.slice A' n' c'] w' (Ret w' (.tuple #[.int .i64 0, .int .i64 0, .bool false]))) := fun w' h => by
          have h2 := unsigned_any B n' c' A' r w' (hrl.tr h hBw) hr256 (Nat.le_trans hBw h.size) (by omega)
          rw [decV, hd] at h2
          exact h2
        clear hrl hrd hd hr256
        go_wp2_with (go_at_call 268; (with_reducible refine (HU.out _ ?_).mono ?_); exact bel; rintro e w1 ⟨rfl, hb1⟩; obtain ⟨hc1, hf1⟩ := bcell hb1; have hz1 := hb1.size; (try simp at hz1); have hy1 : w.heap.size < w1.heap.size := (by omega); have hy2 : w.heap.size + 1 < w1.heap.size := (by omega))
        refine post_genE (R := fun w2 => Blk w2 (w.heap.size) 60 #[.int .i64 0, .int .i64 0, .int .i64 0, .int .i64 0] ∧ Below w.heap.size w w2) ⟨?_, bel⟩ ?_
        · exact (box_putE (x := .int .i64 0) (y := .int .i64 0) (z := .int .i64 0) (u := .int .i64 0) blkA)
        rintro w2 ⟨HR, hbR⟩
        have r0 := HR.cell 0
        have r1 := HR.cell 1
        have r2 := HR.cell 2
        have r3 := HR.cell 3
        simp only [List.getElem?_toArray, List.getElem?_cons_zero, List.getElem?_cons_succ] at r0 r1 r2 r3
        exact bodyPost_ret (v := .tuple #[bxV 0 0 0 0, .bool false]) (by simp [results, Tryz.results263, go_sem, r0, r1, r2, r3]) rfl ⟨rfl, hbR⟩
      | some p =>
        obtain ⟨v, r2⟩ := p
        obtain ⟨hb2, hlt2, hdr2, hv2⟩ := dec_byte hr256 hd
        have hn0 : 0 < n' := by have := hrl.1; omega
        obtain ⟨b', off', rfl, hb', _⟩ := hrl.2 hn0
        have HU : Hid (∀ w', Below wr.heap.size wr w' → Calls Tryz.prog 268 #[.slice (some ⟨b', off', none⟩) n' c'] w' (Ret w' (.tuple #[.int .i64 v, .int .i64 ((n' - r2.length : Nat) : Int), .bool true]))) := fun w' h => by
          have h2 := unsigned_any B n' c' _ r w' (hrl.tr h hBw) hr256 (Nat.le_trans hBw h.size) (by omega)
          rw [decV, hd] at h2
          exact h2
        have hfr := hrl.from_ (k := n' - r2.length) (by omega)
        have hrl1 := hrl.1
        rw [← hrl1] at hfr
        rw [← hdr2] at hfr
        rw [hrl1] at hfr
        rw [show n' - (n' - r2.length) = r2.length by omega] at hfr
        obtain ⟨q, hq⟩ : ∃ q, n' - r2.length = q := ⟨_, rfl⟩
        rw [hq] at HU hfr
        have hq1 : 1 ≤ q := by omega
        have hq2 : q ≤ n' := by omega
        have HF0 : c' = q → Hid (BysAt wr B (some ⟨b', off', none⟩) 0 r2) := fun e => ⟨by omega, fun h => by omega⟩
        have HF1 : Hid (BysAt wr B (some ⟨b', off' + q, none⟩) (n' - q) r2) := by
          rw [show n' - q = r2.length by omega]
          exact hfr
        have HN : Hid (rdS l 3 x y v u r2 ∧ (∀ x ∈ r2, x < 256)) := ⟨(by obtain ⟨l1, h1, h2⟩ := hrd; exact ⟨l1, _, h1, h2, hd⟩), hb2⟩
        clear hrl hrd hd hr256 hb2 hlt2 hdr2 hv2 hfr hrl1 hq
        by_cases hcq : c' = q
        · have HF := HF0 hcq
          subst hcq
          clear HF0 HF1
          go_wp2_with (go_at_call 268; (with_reducible refine (HU.out _ ?_).mono ?_); exact bel; rintro e w1 ⟨rfl, hb1⟩; obtain ⟨hc1, hf1⟩ := bcell hb1; have hz1 := hb1.size; (try simp at hz1); have hy1 : w.heap.size < w1.heap.size := (by omega); have hy2 : w.heap.size + 1 < w1.heap.size := (by omega))
          have hBx1 := hBx.tr hb1
          have hAr1 := (hAr.tr hb1).set_ 2 (.int .i64 v)
          have hFr1 := HF.out.tr hb1 hBw
          go_roundw
          case rel => exact ⟨3, x, y, v, u, r2, some ⟨b', off', none⟩, 0, 0, by omega, by go_num, by first | rfl | (simp; omega) | (simp; done), HN.out.1, HN.out.2, hFr1.keep (fun p hp => World.cell?_of_block (Below.heap_setCell w1 _ _ _ (by simp; omega))), by omega, by omega, hBx1.far (p := ⟨w.heap.size + 1, 2, none⟩) (by simp) _, hAr1.eq_ (by simp), bel⟩
          case measure => simp [intOf]
        · have HF := HF1
          clear HF0 HF1
          go_wp2_with (go_at_call 268; (with_reducible refine (HU.out _ ?_).mono ?_); exact bel; rintro e w1 ⟨rfl, hb1⟩; obtain ⟨hc1, hf1⟩ := bcell hb1; have hz1 := hb1.size; (try simp at hz1); have hy1 : w.heap.size < w1.heap.size := (by omega); have hy2 : w.heap.size + 1 < w1.heap.size := (by omega))
          have hBx1 := hBx.tr hb1
          have hAr1 := (hAr.tr hb1).set_ 2 (.int .i64 v)
          have hFr1 := HF.out.tr hb1 hBw
          go_roundw
          case rel => exact ⟨3, x, y, v, u, r2, _, _, _, by omega, by go_num, by first | rfl | (simp; omega) | (simp; done), HN.out.1, HN.out.2, hFr1.keep (fun p hp => World.cell?_of_block (Below.heap_setCell w1 _ _ _ (by simp; omega))), by omega, by omega, hBx1.far (p := ⟨w.heap.size + 1, 2, none⟩) (by simp) _, hAr1.eq_ (by simp), bel⟩
          case measure => simp [intOf]
    · -- number 3
      cases hd : dec r with
      | none =>
        have eV : V = .tuple #[bxV 0 0 0 0, .bool false] := by rw [← HV.out, unkeyV, rdS_none (by omega) hrd hd]
        subst eV
        have HU : Hid (∀ w', Below wr.heap.size wr w' → Calls Tryz.prog 268 #[.slice A' n' c'] w' (Ret w' (.tuple #[.int .i64 0, .int .i64 0, .bool false]))) := fun w' h => by
          have h2 := unsigned_any B n' c' A' r w' (hrl.tr h hBw) hr256 (Nat.le_trans hBw h.size) (by omega)
          rw [decV, hd] at h2
          exact h2
        clear hrl hrd hd hr256
        go_wp2_with (go_at_call 268; (with_reducible refine (HU.out _ ?_).mono ?_); exact bel; rintro e w1 ⟨rfl, hb1⟩; obtain ⟨hc1, hf1⟩ := bcell hb1; have hz1 := hb1.size; (try simp at hz1); have hy1 : w.heap.size < w1.heap.size := (by omega); have hy2 : w.heap.size + 1 < w1.heap.size := (by omega))
        refine post_genE (R := fun w2 => Blk w2 (w.heap.size) 60 #[.int .i64 0, .int .i64 0, .int .i64 0, .int .i64 0] ∧ Below w.heap.size w w2) ⟨?_, bel⟩ ?_
        · exact (box_putE (x := .int .i64 0) (y := .int .i64 0) (z := .int .i64 0) (u := .int .i64 0) blkA)
        rintro w2 ⟨HR, hbR⟩
        have r0 := HR.cell 0
        have r1 := HR.cell 1
        have r2 := HR.cell 2
        have r3 := HR.cell 3
        simp only [List.getElem?_toArray, List.getElem?_cons_zero, List.getElem?_cons_succ] at r0 r1 r2 r3
        exact bodyPost_ret (v := .tuple #[bxV 0 0 0 0, .bool false]) (by simp [results, Tryz.results263, go_sem, r0, r1, r2, r3]) rfl ⟨rfl, hbR⟩
      | some p =>
        obtain ⟨v, r2⟩ := p
        obtain ⟨hb2, hlt2, hdr2, hv2⟩ := dec_byte hr256 hd
        have hn0 : 0 < n' := by have := hrl.1; omega
        obtain ⟨b', off', rfl, hb', _⟩ := hrl.2 hn0
        have HU : Hid (∀ w', Below wr.heap.size wr w' → Calls Tryz.prog 268 #[.slice (some ⟨b', off', none⟩) n' c'] w' (Ret w' (.tuple #[.int .i64 v, .int .i64 ((n' - r2.length : Nat) : Int), .bool true]))) := fun w' h => by
          have h2 := unsigned_any B n' c' _ r w' (hrl.tr h hBw) hr256 (Nat.le_trans hBw h.size) (by omega)
          rw [decV, hd] at h2
          exact h2
        have hfr := hrl.from_ (k := n' - r2.length) (by omega)
        have hrl1 := hrl.1
        rw [← hrl1] at hfr
        rw [← hdr2] at hfr
        rw [hrl1] at hfr
        rw [show n' - (n' - r2.length) = r2.length by omega] at hfr
        obtain ⟨q, hq⟩ : ∃ q, n' - r2.length = q := ⟨_, rfl⟩
        rw [hq] at HU hfr
        have hq1 : 1 ≤ q := by omega
        have hq2 : q ≤ n' := by omega
        have HF0 : c' = q → Hid (BysAt wr B (some ⟨b', off', none⟩) 0 r2) := fun e => ⟨by omega, fun h => by omega⟩
        have HF1 : Hid (BysAt wr B (some ⟨b', off' + q, none⟩) (n' - q) r2) := by
          rw [show n' - q = r2.length by omega]
          exact hfr
        have HN : Hid (rdS l 4 x y z v r2 ∧ (∀ x ∈ r2, x < 256)) := ⟨(by obtain ⟨l1, l2, h1, h2, h3⟩ := hrd; exact ⟨l1, l2, _, h1, h2, h3, hd⟩), hb2⟩
        clear hrl hrd hd hr256 hb2 hlt2 hdr2 hv2 hfr hrl1 hq
        by_cases hcq : c' = q
        · have HF := HF0 hcq
          subst hcq
          clear HF0 HF1
          go_wp2_with (go_at_call 268; (with_reducible refine (HU.out _ ?_).mono ?_); exact bel; rintro e w1 ⟨rfl, hb1⟩; obtain ⟨hc1, hf1⟩ := bcell hb1; have hz1 := hb1.size; (try simp at hz1); have hy1 : w.heap.size < w1.heap.size := (by omega); have hy2 : w.heap.size + 1 < w1.heap.size := (by omega))
          have hBx1 := hBx.tr hb1
          have hAr1 := (hAr.tr hb1).set_ 3 (.int .i64 v)
          have hFr1 := HF.out.tr hb1 hBw
          go_roundw
          case rel => exact ⟨4, x, y, z, v, r2, some ⟨b', off', none⟩, 0, 0, by omega, by go_num, by first | rfl | (simp; omega) | (simp; done), HN.out.1, HN.out.2, hFr1.keep (fun p hp => World.cell?_of_block (Below.heap_setCell w1 _ _ _ (by simp; omega))), by omega, by omega, hBx1.far (p := ⟨w.heap.size + 1, 3, none⟩) (by simp) _, hAr1.eq_ (by simp), bel⟩
          case measure => simp [intOf]
        · have HF := HF1
          clear HF0 HF1
          go_wp2_with (go_at_call 268; (with_reducible refine (HU.out _ ?_).mono ?_); exact bel; rintro e w1 ⟨rfl, hb1⟩; obtain ⟨hc1, hf1⟩ := bcell hb1; have hz1 := hb1.size; (try simp at hz1); have hy1 : w.heap.size < w1.heap.size := (by omega); have hy2 : w.heap.size + 1 < w1.heap.size := (by omega))
          have hBx1 := hBx.tr hb1
          have hAr1 := (hAr.tr hb1).set_ 3 (.int .i64 v)
          have hFr1 := HF.out.tr hb1 hBw
          go_roundw
          case rel => exact ⟨4, x, y, z, v, r2, _, _, _, by omega, by go_num, by first | rfl | (simp; omega) | (simp; done), HN.out.1, HN.out.2, hFr1.keep (fun p hp => World.cell?_of_block (Below.heap_setCell w1 _ _ _ (by simp; omega))), by omega, by omega, hBx1.far (p := ⟨w.heap.size + 1, 3, none⟩) (by simp) _, hAr1.eq_ (by simp), bel⟩
          case measure => simp [intOf]
    · -- all four
      have hE := rdS_end hrd
      have hrl1 := hrl.1
      by_cases hr0 : r = []
      case neg =>
        have eV : V = .tuple #[bxV 0 0 0 0, .bool false] := by rw [← HV.out, unkeyV, hE, if_neg (fun h => hr0 h.1)]
        subst eV
        have hn0 : 0 < n' := by rw [← hrl1]; exact List.length_pos_iff.2 hr0
        clear hE hrd hrl hr256 hrl1 hr0
        go_wp2
        refine post_genE (R := fun w2 => Blk w2 (w.heap.size) 60 #[.int .i64 0, .int .i64 0, .int .i64 0, .int .i64 0] ∧ Below w.heap.size w w2) ⟨?_, bel⟩ ?_
        · exact (box_putE (x := .int .i64 x) (y := .int .i64 y) (z := .int .i64 z) (u := .int .i64 u) (box_putE (x := .int .i64 0) (y := .int .i64 0) (z := .int .i64 0) (u := .int .i64 0) blkA))
        rintro w2 ⟨HR, hbR⟩
        have r0 := HR.cell 0
        have r1 := HR.cell 1
        have r2 := HR.cell 2
        have r3 := HR.cell 3
        simp only [List.getElem?_toArray, List.getElem?_cons_zero, List.getElem?_cons_succ] at r0 r1 r2 r3
        exact bodyPost_ret (v := .tuple #[bxV 0 0 0 0, .bool false]) (by simp [results, Tryz.results263, go_sem, r0, r1, r2, r3]) rfl ⟨rfl, hbR⟩
      subst hr0
      have hn0 : n' = 0 := by rw [← hrl1]; rfl
      subst hn0
      obtain ⟨ck, hck⟩ : ∃ m : Nat, ckBox ⟨⟨x, y⟩, ⟨z, u⟩⟩ = m := ⟨_, rfl⟩
      cases ck with
      | zero =>
        have eV : V = .tuple #[bxV x y z u, .bool true] := by rw [← HV.out, unkeyV, hE, if_pos ⟨rfl, by simp [okBx, hck]⟩]
        subst eV
        have HK : Hid (∀ w', Calls Tryz.prog 99 #[bxV x y z u] w' (Ret w' (.nilIface))) := fun w' => by
          have h := checkBox_any x y z u w'
          rw [hck] at h
          exact h
        clear hE hrd hrl hr256 hrl1 hck
        go_wp2_with (go_at_call 99; (with_reducible refine (HK.out _).mono ?_); rintro e w1 ⟨rfl, hb1⟩; obtain ⟨hc1, hf1⟩ := bcell hb1; have hz1 := hb1.size; (try simp at hz1); have hy1 : w.heap.size < w1.heap.size := (by omega); have hy2 : w.heap.size + 1 < w1.heap.size := (by omega))
        refine post_genE (R := fun w2 => Blk w2 (w.heap.size) 60 #[.int .i64 x, .int .i64 y, .int .i64 z, .int .i64 u] ∧ Below w.heap.size w w2) ⟨?_, bel⟩ ?_
        · exact (box_putE (x := .int .i64 x) (y := .int .i64 y) (z := .int .i64 z) (u := .int .i64 u) (Blk.tr (box_putE (x := .int .i64 0) (y := .int .i64 0) (z := .int .i64 0) (u := .int .i64 0) blkA) hb1))
        rintro w2 ⟨HR, hbR⟩
        have r0 := HR.cell 0
        have r1 := HR.cell 1
        have r2 := HR.cell 2
        have r3 := HR.cell 3
        simp only [List.getElem?_toArray, List.getElem?_cons_zero, List.getElem?_cons_succ] at r0 r1 r2 r3
        exact bodyPost_ret (v := .tuple #[bxV x y z u, .bool true]) (by simp [results, Tryz.results263, go_sem, r0, r1, r2, r3]) rfl ⟨rfl, hbR⟩
      | succ m =>
        have eV : V = .tuple #[bxV 0 0 0 0, .bool false] := by rw [← HV.out, unkeyV, hE, if_neg (fun h => by have h2 := h.2; simp [okBx, hck] at h2)]
        subst eV
        have HK : Hid (∀ w', Calls Tryz.prog 99 #[bxV x y z u] w' (Ret w' (.iface 68 (.int .i64 ((m + 1 : Nat) : Int))))) := fun w' => by
          have h := checkBox_any x y z u w'
          rw [hck] at h
          exact h
        clear hE hrd hrl hr256 hrl1 hck
        go_wp2_with (go_at_call 99; (with_reducible refine (HK.out _).mono ?_); rintro e w1 ⟨rfl, hb1⟩; obtain ⟨hc1, hf1⟩ := bcell hb1; have hz1 := hb1.size; (try simp at hz1); have hy1 : w.heap.size < w1.heap.size := (by omega); have hy2 : w.heap.size + 1 < w1.heap.size := (by omega))
        refine post_genE (R := fun w2 => Blk w2 (w.heap.size) 60 #[.int .i64 0, .int .i64 0, .int .i64 0, .int .i64 0] ∧ Below w.heap.size w w2) ⟨?_, bel⟩ ?_
        · exact (box_putE (x := .int .i64 x) (y := .int .i64 y) (z := .int .i64 z) (u := .int .i64 u) (Blk.tr (box_putE (x := .int .i64 0) (y := .int .i64 0) (z := .int .i64 0) (u := .int .i64 0) blkA) hb1))
        rintro w2 ⟨HR, hbR⟩
        have r0 := HR.cell 0
        have r1 := HR.cell 1
        have r2 := HR.cell 2
        have r3 := HR.cell 3
        simp only [List.getElem?_toArray, List.getElem?_cons_zero, List.getElem?_cons_succ] at r0 r1 r2 r3
        exact bodyPost_ret (v := .tuple #[bxV 0 0 0 0, .bool false]) (by simp [results, Tryz.results263, go_sem, r0, r1, r2, r3]) rfl ⟨rfl, hbR⟩
end Go.Proofs.YtkfbkfcmdfpfjaaGreatDoor
set_option linter.unusedSimpArgs false
set_option linter.unusedVariables false
namespace Go.Proofs.YtkfbkfcmdfpfjaaGreatDoor
open Go.RowKit Pg

end Go.Proofs.YtkfbkfcmdfpfjaaGreatDoor
