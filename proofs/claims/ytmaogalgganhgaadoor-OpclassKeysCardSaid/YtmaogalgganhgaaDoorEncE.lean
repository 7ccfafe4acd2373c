/-
  Contracts of the keys of boxes: the program's, the reference's.
-/
import Derived.Test.YtmaogalgganhgaaDoorEncB
import Derived.Test.YtmaogalgganhgaaDoorEncD
import Derived.Test.YtmaogalgganhgaaDoorAlloc
import Derived.Test.YtmaogalgganhgaaDoorLexM

set_option linter.unusedSimpArgs false
set_option linter.unusedVariables false
namespace Go.Proofs.YtmaogalgganhgaaDoor
open Go.RowKit Pg

theorem bys_of_own2 {w : World} {base : Nat} {e : TypeId} {v : Value} {n : Nat} {l : List Nat} (h : w.ownsRow base e 1 v n (ycells l)) :
    ∃ A c, v = .slice A n c ∧ BysAt w w.heap.size A n l ∧ l.length = n ∧ (A = none → c = 0) ∧ n ≤ c := by
  obtain ⟨A, c, rfl, h1, h2⟩ := bys_of_own h
  obtain ⟨_, ⟨h3, _⟩ | ⟨g, cap, cur, h3, _, _, h4, _⟩⟩ := h
  · injection h3 with h5 h6 h7
    subst h5 h6 h7
    exact ⟨none, _, rfl, h1, h2, fun _ => rfl, Nat.le_refl _⟩
  · injection h3 with h5 h6 h7
    subst h5 h7
    exact ⟨_, _, rfl, h1, h2, (fun e => by cases e), h4⟩
theorem key_flat (a b c d : Int) : [sint a, sint b, sint c, sint d].flatten = keyL ⟨⟨a, b⟩, ⟨c, d⟩⟩ := by simp [keyL]
/-- four rows of bytes in a block -/
theorem rbs4 {w : World} {g n1 n2 n3 n4 c1 c2 c3 c4 : Nat} {t : TypeId} {A1 A2 A3 A4 : Option Addr} {l1 l2 l3 l4 : List Nat} (h : Blk w g t #[.slice A1 n1 c1, .slice A2 n2 c2, .slice A3 n3 c3, .slice A4 n4 c4])
    (h1 : BysAt w w.heap.size A1 n1 l1) (h2 : BysAt w w.heap.size A2 n2 l2) (h3 : BysAt w w.heap.size A3 n3 l3) (h4 : BysAt w w.heap.size A4 n4 l4) (z1 : A1 = none → c1 = 0) (z2 : A2 = none → c2 = 0) (z3 : A3 = none → c3 = 0) (z4 : A4 = none → c4 = 0) (m1 : n1 ≤ c1) (m2 : n2 ≤ c2) (m3 : n3 ≤ c3) (m4 : n4 ≤ c4) :
    RbsAt w w.heap.size (some ⟨g, 0, none⟩) 4 [l1, l2, l3, l4] := by
  refine ⟨rfl, fun _ => ⟨g, 0, rfl, h.lt, fun k l hl => ?_⟩⟩
  match k, hl with
  | 0, hl => simp at hl; subst hl; exact ⟨A1, n1, c1, by rw [h.cell]; rfl, h1, z1, m1⟩
  | 1, hl => simp at hl; subst hl; exact ⟨A2, n2, c2, by rw [h.cell]; rfl, h2, z2, m2⟩
  | 2, hl => simp at hl; subst hl; exact ⟨A3, n3, c3, by rw [h.cell]; rfl, h3, z3, m3⟩
  | 3, hl => simp at hl; subst hl; exact ⟨A4, n4, c4, by rw [h.cell]; rfl, h4, z4, m4⟩

set_option maxHeartbeats 4000000 in
set_option maxRecDepth 20000 in
theorem key_any (a b c d : Int) (h : inBx ⟨⟨a, b⟩, ⟨c, d⟩⟩) (w : World) : Calls Tryd.prog 11 #[bxV a b c d] w (RetB w (keyL ⟨⟨a, b⟩, ⟨c, d⟩⟩)) := by
  have hlen := (keyL_len h).2
  obtain ⟨ha, hb, hc, hd⟩ := h
  simp only at ha hb hc hd
  rw [← key_flat] at hlen ⊢
  have HL := Lib.hid hlen
  obtain ⟨K, hK⟩ : ∃ K, [sint a, sint b, sint c, sint d].flatten = K := ⟨_, rfl⟩
  rw [hK]
  have HK := Lib.hid hK
  clear hK
  have HA := Lib.hid ha
  have HB := Lib.hid hb
  have HC := Lib.hid hc
  have HD := Lib.hid hd
  clear hlen ha hb hc hd
  go_enter Tryd.func11, Tryd.ntmps11
  go_wp2_with fail
  refine wp_region_below [0, 1, 2, 4, 5, 6, 8, 9, 10, 12, 13, 14, 3, 7, 11, 15, 16, 17, 18] (by kernel_rfl) (by kernel_rfl) (fun _ _ d _ _ h => by cases d <;> exact h) ?_
  simp only [List.map_cons, List.map_nil, List.getD_cons_zero, List.getD_cons_succ, bare, gslot, List.getElem?_cons_zero, List.getElem?_cons_succ, Option.bind_some]
  repeat' ((try simp only [Act.put, List.setIfInBounds_toArray, List.set_cons_zero, List.set_cons_succ]); first | (refine lexL_quiet (v := ?_) wantB_none rfl ?_ ?_; rotate_left; focus (intro wq hq; obtain ⟨hcq, hfq⟩ := bcell hq; go_simp; try with_reducible rfl)) | (refine lexL_loud wantB_none rfl (fun K hK => ?_); go_simp; ((first | (go_at_call 31; (with_reducible refine (signed_any a HA.out _).mono ?_); rintro e w1 ⟨s1, rfl, ho1, hb1⟩; obtain ⟨A1, c1, rfl, hB1, hl1, hn1, hm1⟩ := bys_of_own2 ho1; obtain ⟨hc1, hf1⟩ := bcell hb1; have hz1 := hb1.size; (try simp at hz1); have hy1 : w.heap.size < w1.heap.size := (by omega); clear ho1) | (go_at_call 31; (with_reducible refine (signed_any b HB.out _).mono ?_); rintro e w2 ⟨s2, rfl, ho2, hb2⟩; obtain ⟨A2, c2, rfl, hB2, hl2, hn2, hm2⟩ := bys_of_own2 ho2; obtain ⟨hc2, hf2⟩ := bcell hb2; have hz2 := hb2.size; (try simp at hz2); have hy2 : w.heap.size < w2.heap.size := (by omega); clear ho2) | (go_at_call 31; (with_reducible refine (signed_any c HC.out _).mono ?_); rintro e w3 ⟨s3, rfl, ho3, hb3⟩; obtain ⟨A3, c3, rfl, hB3, hl3, hn3, hm3⟩ := bys_of_own2 ho3; obtain ⟨hc3, hf3⟩ := bcell hb3; have hz3 := hb3.size; (try simp at hz3); have hy3 : w.heap.size < w3.heap.size := (by omega); clear ho3) | (go_at_call 31; (with_reducible refine (signed_any d HD.out _).mono ?_); rintro e w4 ⟨s4, rfl, ho4, hb4⟩; obtain ⟨A4, c4, rfl, hB4, hl4, hn4, hm4⟩ := bys_of_own2 ho4; obtain ⟨hc4, hf4⟩ := bcell hb4; have hz4 := hb4.size; (try simp at hz4); have hy4 : w.heap.size < w4.heap.size := (by omega); clear ho4) | (go_at_call 30; refine (concatB_any _ 4 4 _ [sint a, sint b, sint c, sint d] _ (rbs4 (g := w4.heap.size) (by repeat (first | with_reducible assumption | with_reducible exact Blk.new (by simp) rfl | with_reducible refine Blk.alloc ?_ _ | with_reducible refine Blk.drew ?_ | with_reducible refine Blk.far ?_ (by simp; omega) _ | with_reducible refine Blk.tr ?_ (by with_reducible assumption))) ((hB1.tr (by repeat (first | with_reducible exact Below.refl _ _ | with_reducible assumption | with_reducible refine al ?_ _ | with_reducible refine Below.drew ?_ | with_reducible refine Below.setCell ?_ (by first | (simp; done) | (simp; omega)) _ | with_reducible refine tr ?_ (by with_reducible assumption))) (Nat.le_refl _)).more (by simp; omega)) ((hB2.tr (by repeat (first | with_reducible exact Below.refl _ _ | with_reducible assumption | with_reducible refine al ?_ _ | with_reducible refine Below.drew ?_ | with_reducible refine Below.setCell ?_ (by first | (simp; done) | (simp; omega)) _ | with_reducible refine tr ?_ (by with_reducible assumption))) (Nat.le_refl _)).more (by simp; omega)) ((hB3.tr (by repeat (first | with_reducible exact Below.refl _ _ | with_reducible assumption | with_reducible refine al ?_ _ | with_reducible refine Below.drew ?_ | with_reducible refine Below.setCell ?_ (by first | (simp; done) | (simp; omega)) _ | with_reducible refine tr ?_ (by with_reducible assumption))) (Nat.le_refl _)).more (by simp; omega)) ((hB4.tr (by repeat (first | with_reducible exact Below.refl _ _ | with_reducible assumption | with_reducible refine al ?_ _ | with_reducible refine Below.drew ?_ | with_reducible refine Below.setCell ?_ (by first | (simp; done) | (simp; omega)) _ | with_reducible refine tr ?_ (by with_reducible assumption))) (Nat.le_refl _)).more (by simp)) hn1 hn2 hn3 hn4 hm1 hm2 hm3 hm4) (Nat.le_refl _) (by decide) (Nat.le_trans HL.out (by decide))).mono ?_; rintro e w5 ⟨s5, rfl, ho5, hb5⟩; have hz5 := hb5.size; (try simp at hz5); rw [HK.out] at ho5; have HO := Lib.hid ho5; clear ho5) | skip) <;> (refine hK.out _ _ (by repeat (first | with_reducible exact Below.refl _ _ | with_reducible assumption | with_reducible refine al ?_ _ | with_reducible refine Below.drew ?_ | with_reducible refine Below.setCell ?_ (by first | (simp; done) | (simp; omega)) _ | with_reducible refine tr ?_ (by with_reducible assumption))) ?_; clear hK K))) | (refine lexL_on ?_ ?_; focus (simp only [List.getElem?_toArray, List.getElem?_cons_succ, List.getElem?_cons_zero, Bool.not_true, Bool.not_false]; done)) | (refine lexL_off ?_ ?_ ?_; (focus (simp only [List.getElem?_toArray, List.getElem?_cons_succ, List.getElem?_cons_zero, Bool.not_true, Bool.not_false]; done)); (focus (exact (by repeat (first | with_reducible exact Below.refl _ _ | with_reducible assumption | with_reducible refine al ?_ _ | with_reducible refine Below.drew ?_ | with_reducible refine Below.setCell ?_ (by first | (simp; done) | (simp; omega)) _ | with_reducible refine tr ?_ (by with_reducible assumption)))))) | (refine lexL_splitS (X := ?_) ?_ ?_ (fun hg => ?_) (fun hg => ?_); rotate_left; (focus (simp only [List.getElem?_toArray, List.getElem?_cons_succ, List.getElem?_cons_zero]; with_reducible rfl)); (focus (exact (by repeat (first | with_reducible exact Below.refl _ _ | with_reducible assumption | with_reducible refine al ?_ _ | with_reducible refine Below.drew ?_ | with_reducible refine Below.setCell ?_ (by first | (simp; done) | (simp; omega)) _ | with_reducible refine tr ?_ (by with_reducible assumption))))); all_goals (try simp only [Bool.not_true, Bool.not_false] at hg)))
  (all_goals try simp only [Act.put, List.setIfInBounds_toArray, List.set_cons_zero, List.set_cons_succ]); all_goals (refine lexL_nil ?_)
  go_wp2
  go_ret
  exact ⟨_, rfl, ownB_base HO.out (by (try simp); omega), (by repeat (first | with_reducible exact Below.refl _ _ | with_reducible assumption | with_reducible refine al ?_ _ | with_reducible refine Below.drew ?_ | with_reducible refine Below.setCell ?_ (by first | (simp; done) | (simp; omega)) _ | with_reducible refine tr ?_ (by with_reducible assumption)))⟩

theorem own_pos {w : World} {base n : Nat} {e : TypeId} {v : Value} {l : List Nat} (h : w.ownsRow base e 1 v n (ycells l)) (hn : 0 < n) :
    ∃ g c, v = .slice (some ⟨g, 0, none⟩) n c ∧ (∀ (j : Nat) (u : Value), (ycells l)[j]? = some u → w.cell? ((⟨g, 0, none⟩ : Addr).add j) = some u) ∧ l.length = n ∧ g < w.heap.size := by
  obtain ⟨A, c, rfl, hB, hl⟩ := bys_of_own h
  obtain ⟨b, off, e1, hb, hc⟩ := hB.2 hn
  subst e1
  obtain ⟨_, ⟨h3, _⟩ | ⟨g, cap, cur, h3, _⟩⟩ := h
  · cases h3
  · injection h3 with h4 h5 h6
    injection h4 with h4
    injection h4 with h4 h7
    subst h4 h7
    exact ⟨b, c, rfl, hB.news hn, hl, hb⟩

set_option maxHeartbeats 4000000 in
set_option maxRecDepth 20000 in
theorem rkey_any (a b c d : Int) (h : inBx ⟨⟨a, b⟩, ⟨c, d⟩⟩) (w : World) : Calls Tryd.prog 12 #[bxV a b c d] w (RetB w (keyL ⟨⟨a, b⟩, ⟨c, d⟩⟩)) := by
  obtain ⟨ha, hb, hc, hd⟩ := h
  simp only at ha hb hc hd
  obtain ⟨i0, hi, hz0, hz1, hz2⟩ := info_parts Tryd.infoByte
  have hK : keyL ⟨⟨a, b⟩, ⟨c, d⟩⟩ = sint a ++ sint b ++ sint c ++ sint d := by simp [keyL]
  obtain ⟨K, eK⟩ : ∃ K, keyL ⟨⟨a, b⟩, ⟨c, d⟩⟩ = K := ⟨_, rfl⟩
  rw [eK] at hK ⊢
  clear eK
  obtain ⟨a1, a2⟩ := sint_len ha
  obtain ⟨b1, b2⟩ := sint_len hb
  obtain ⟨c1, c2⟩ := sint_len hc
  obtain ⟨d1, d2⟩ := sint_len hd
  have HA := Lib.hid (rsigned_any a ha)
  have HB := Lib.hid (rsigned_any b hb)
  have HC := Lib.hid (rsigned_any c hc)
  have HD := Lib.hid (rsigned_any d hd)
  clear ha hb hc hd
  generalize sint a = la at *
  generalize sint b = lb at *
  generalize sint c = lc at *
  generalize sint d = ld at *
  have HK := Lib.hid hK
  clear hK
  go_enter Tryd.func12, Tryd.ntmps12
  go_wp2_with fail
  refine wp_genE (fun W0 => Below w.heap.size w W0 ∧ Blk W0 w.heap.size 25 #[.int .i64 a, .int .i64 b, .int .i64 c, .int .i64 d] ∧ W0.heap.size = w.heap.size + 1) ⟨(by repeat (first | with_reducible exact Below.refl _ _ | with_reducible assumption | with_reducible refine al ?_ _ | with_reducible refine Below.drew ?_ | with_reducible refine Below.setCell ?_ (by first | (simp; done) | (simp; omega)) _ | with_reducible refine tr ?_ (by with_reducible assumption))), (by repeat (first | with_reducible assumption | with_reducible exact Blk.new (by simp) rfl | with_reducible refine Blk.alloc ?_ _ | with_reducible refine Blk.drew ?_ | with_reducible refine Blk.far ?_ (by simp; omega) _ | with_reducible refine Blk.tr ?_ (by with_reducible assumption))), by simp⟩ ?_
  rintro W0 ⟨hbW, hX, hs0⟩
  have cX := hX.cell
  refine wp_region_below [0, 1, 2, 4, 5, 6, 3, 7, 8, 9] (by kernel_rfl) (by kernel_rfl) (fun _ _ d _ _ h => by cases d <;> exact h) ?_
  simp only [List.map_cons, List.map_nil, List.getD_cons_zero, List.getD_cons_succ, bare, gslot, List.getElem?_cons_zero, List.getElem?_cons_succ, Option.bind_some]
  repeat' ((try simp only [Act.put, List.setIfInBounds_toArray, List.set_cons_zero, List.set_cons_succ]); first | (refine lexL_quiet (v := ?_) wantB_none rfl ?_ ?_; rotate_left; focus (intro wq hq; obtain ⟨hcq, hfq⟩ := bcell hq; go_simp; try with_reducible rfl)) | (refine lexL_loud wantB_none rfl (fun K hK => ?_); (refine wp_append_own _ _ _ 26 rfl (w.heap.size + 1) 5 i0 (.int .u8 0) 1 1 Tryd.underlying26 hi hz0 (by assumption) (by assumption) rfl (by decide) _ _ _ rfl (ownB_base (ownB_below HO1.out hb2) (by (try simp); omega)) ⟨g2, 0, none⟩ _ _ (ycells lb) rfl (by rw [ycells_len]; omega) HN2.out (ycells_one _) ?_ ?_ ?_ ?_); (focus (unfold maxLen; omega)); (focus omega); (focus omega); intro v3 w3 ho3 hg3 _; have hb3 : Below W0.heap.size W0 w3 := (Below.grown (w := w2) (by repeat (first | with_reducible exact Below.refl _ _ | with_reducible assumption | with_reducible refine al ?_ _ | with_reducible refine Below.drew ?_ | with_reducible refine Below.setCell ?_ (by first | (simp; done) | (simp; omega)) _ | with_reducible refine tr ?_ (by with_reducible assumption))) hg3 (by omega) (fun j e => by have := ((ownB_base (ownB_below HO1.out hb2) (base' := w.heap.size + 1) (by (try simp); omega)).lt j e).1; omega)); have HO3 := Lib.hid ho3; refine hK.out _ _ (by repeat (first | with_reducible exact Below.refl _ _ | with_reducible assumption | with_reducible refine al ?_ _ | with_reducible refine Below.drew ?_ | with_reducible refine Below.setCell ?_ (by first | (simp; done) | (simp; omega)) _ | with_reducible refine tr ?_ (by with_reducible assumption))) ?_; clear hK K) | (refine lexL_loud wantB_none rfl (fun K hK => ?_); go_simp; ((first | (go_at_call 32; (with_reducible refine (HA.out _).mono ?_); rintro e w1 ⟨s1, rfl, ho1, hb1⟩; have HO1 := Lib.hid ho1; clear ho1; obtain ⟨hc1, hf1⟩ := bcell hb1; have hz1 := hb1.size; (try simp at hz1); have hy1 : w.heap.size < w1.heap.size := (by omega)) | (go_at_call 32; (with_reducible refine (HB.out _).mono ?_); rintro e w2 ⟨s2, rfl, ho2, hb2⟩; obtain ⟨g2, e2, rfl, hnw2, hl2, hg2⟩ := own_pos ho2 (by omega); have HN2 := Lib.hid hnw2; clear hnw2 ho2; obtain ⟨hc2, hf2⟩ := bcell hb2; have hz2 := hb2.size; (try simp at hz2); have hy2 : w.heap.size < w2.heap.size := (by omega))  | skip) <;> (refine hK.out _ _ (by repeat (first | with_reducible exact Below.refl _ _ | with_reducible assumption | with_reducible refine al ?_ _ | with_reducible refine Below.drew ?_ | with_reducible refine Below.setCell ?_ (by first | (simp; done) | (simp; omega)) _ | with_reducible refine tr ?_ (by with_reducible assumption))) ?_; clear hK K))) | (refine lexL_on ?_ ?_; focus (simp only [List.getElem?_toArray, List.getElem?_cons_succ, List.getElem?_cons_zero, Bool.not_true, Bool.not_false]; done)) | (refine lexL_off ?_ ?_ ?_; (focus (simp only [List.getElem?_toArray, List.getElem?_cons_succ, List.getElem?_cons_zero, Bool.not_true, Bool.not_false]; done)); (focus (exact (by repeat (first | with_reducible exact Below.refl _ _ | with_reducible assumption | with_reducible refine al ?_ _ | with_reducible refine Below.drew ?_ | with_reducible refine Below.setCell ?_ (by first | (simp; done) | (simp; omega)) _ | with_reducible refine tr ?_ (by with_reducible assumption)))))) | (refine lexL_splitS (X := ?_) ?_ ?_ (fun hg => ?_) (fun hg => ?_); rotate_left; (focus (simp only [List.getElem?_toArray, List.getElem?_cons_succ, List.getElem?_cons_zero]; with_reducible rfl)); (focus (exact (by repeat (first | with_reducible exact Below.refl _ _ | with_reducible assumption | with_reducible refine al ?_ _ | with_reducible refine Below.drew ?_ | with_reducible refine Below.setCell ?_ (by first | (simp; done) | (simp; omega)) _ | with_reducible refine tr ?_ (by with_reducible assumption))))); all_goals (try simp only [Bool.not_true, Bool.not_false] at hg)))
  (all_goals try simp only [Act.put, List.setIfInBounds_toArray, List.set_cons_zero, List.set_cons_succ]); all_goals (refine lexL_nil ?_)
  have hX3 := hX.tr hb3
  have hbw3 : Below w.heap.size w w3 := (by repeat (first | with_reducible exact Below.refl _ _ | with_reducible assumption | with_reducible refine al ?_ _ | with_reducible refine Below.drew ?_ | with_reducible refine Below.setCell ?_ (by first | (simp; done) | (simp; omega)) _ | with_reducible refine tr ?_ (by with_reducible assumption)))
  have hz3 := hb3.size
  have hlt3 := HO3.out.lt
  clear ho3 hg3 hb3 hb2 hb1 HO1 HN2 hc1 hf1 hc2 hf2 hz2 hy1 hy2 hg2 cX hX hbW
  have cX := hX3.cell
  go_wp2_with fail
  refine wp_region_belowB (w.heap.size + 1) [0, 1, 2, 3, 6, 7, 8, 4, 5, 9, 10, 11] (by kernel_rfl) (by kernel_rfl) (fun _ _ d _ _ h => by cases d <;> exact h) ?_
  simp only [List.map_cons, List.map_nil, List.getD_cons_zero, List.getD_cons_succ, bare, gslot, List.getElem?_cons_zero, List.getElem?_cons_succ, Option.bind_some]
  repeat' ((try simp only [Act.put, List.setIfInBounds_toArray, List.set_cons_zero, List.set_cons_succ]); first | (refine lexL_quiet (v := ?_) wantB_none rfl ?_ ?_; rotate_left; focus (intro wq hq; obtain ⟨hcq, hfq⟩ := bcellB hq; go_simp; try with_reducible rfl)) | (refine lexL_loud wantB_none rfl (fun K hK => ?_); (first | ((refine wp_append_own _ _ _ 26 rfl (w.heap.size + 1) 5 i0 (.int .u8 0) 1 1 Tryd.underlying26 hi hz0 (by assumption) (by assumption) rfl (by decide) _ _ _ rfl (ownB_below HO5.out hb6) ⟨g6, 0, none⟩ _ _ (ycells ld) rfl (by rw [ycells_len]; omega) HN6.out (ycells_one _) ?_ ?_ ?_ ?_); (focus (unfold maxLen; omega)); (focus omega); (focus omega); intro v7 w7 ho7 hg7 _; have hbB7 : Below (w.heap.size + 1) w3 w7 := (hbB6.grown hg7 (by omega) (fun j e => ((ownB_below HO5.out hb6).lt j e).1)); have hbw7 : Below w.heap.size w w7 := (hbw3.trans (hbB7.mono (by omega))); have HO7 := Lib.hid ho7) | ((refine wp_append_own _ _ _ 26 rfl (w.heap.size + 1) 5 i0 (.int .u8 0) 1 1 Tryd.underlying26 hi hz0 (by assumption) (by assumption) rfl (by decide) _ _ _ rfl (ownB_below (owns_drew HO3.out) hb4) ⟨g4, 0, none⟩ _ _ (ycells lc) rfl (by rw [ycells_len]; omega) HN4.out (ycells_one _) ?_ ?_ ?_ ?_); (focus (unfold maxLen; omega)); (focus omega); (focus omega); intro v5 w5 ho5 hg5 _; have hbB5 : Below (w.heap.size + 1) w3 w5 := (hbB4.grown hg5 (by omega) (fun j e => ((ownB_below (owns_drew HO3.out) hb4).lt j e).1)); have HO5 := Lib.hid ho5; have hz5 := hbB5.size; clear ho5)); refine hK.out _ _ (by first | with_reducible exact swapB1 | with_reducible exact Below.drew swapB1 | exact (by repeat (first | with_reducible exact Below.refl _ _ | with_reducible assumption | with_reducible refine al ?_ _ | with_reducible refine Below.drew ?_ | with_reducible refine Below.setCell ?_ (by first | (simp; done) | (simp; omega)) _ | with_reducible refine tr ?_ (by with_reducible assumption)))) ?_; clear hK K) | (refine lexL_loud wantB_none rfl (fun K hK => ?_); go_simp; ((first | (go_at_call 32; (with_reducible refine (HC.out _).mono ?_); rintro e w4 ⟨s4, rfl, ho4, hb4⟩; obtain ⟨g4, e4, rfl, hnw4, hl4, hg4⟩ := own_pos ho4 (by omega); have HN4 := Lib.hid hnw4; clear hnw4 ho4; obtain ⟨hc4, hf4⟩ := bcell hb4; have hz4 := hb4.size; (try simp at hz4); have hy4 : w.heap.size < w4.heap.size := (by omega); have hbB4 : Below (w.heap.size + 1) w3 w4 := ((Below.refl _ _).drew.trans (hb4.mono (by (try simp); omega)))) | (go_at_call 32; (with_reducible refine (HD.out _).mono ?_); rintro e w6 ⟨s6, rfl, ho6, hb6⟩; obtain ⟨g6, e6, rfl, hnw6, hl6, hg6⟩ := own_pos ho6 (by omega); have HN6 := Lib.hid hnw6; clear hnw6 ho6; obtain ⟨hc6, hf6⟩ := bcell hb6; have hz6 := hb6.size; (try simp at hz6); have hy6 : w.heap.size < w6.heap.size := (by omega); have hbB6 : Below (w.heap.size + 1) w3 w6 := (hbB5.trans (hb6.mono (by omega))))  | skip) <;> (refine hK.out _ _ (by first | with_reducible exact swapB1 | with_reducible exact Below.drew swapB1 | exact (by repeat (first | with_reducible exact Below.refl _ _ | with_reducible assumption | with_reducible refine al ?_ _ | with_reducible refine Below.drew ?_ | with_reducible refine Below.setCell ?_ (by first | (simp; done) | (simp; omega)) _ | with_reducible refine tr ?_ (by with_reducible assumption)))) ?_; clear hK K))) | (refine lexL_on ?_ ?_; focus (simp only [List.getElem?_toArray, List.getElem?_cons_succ, List.getElem?_cons_zero, Bool.not_true, Bool.not_false]; done)) | (refine lexL_off ?_ ?_ ?_; (focus (simp only [List.getElem?_toArray, List.getElem?_cons_succ, List.getElem?_cons_zero, Bool.not_true, Bool.not_false]; done)); (focus (exact (by first | with_reducible exact swapB1 | with_reducible exact Below.drew swapB1 | exact (by repeat (first | with_reducible exact Below.refl _ _ | with_reducible assumption | with_reducible refine al ?_ _ | with_reducible refine Below.drew ?_ | with_reducible refine Below.setCell ?_ (by first | (simp; done) | (simp; omega)) _ | with_reducible refine tr ?_ (by with_reducible assumption))))))) | (refine lexL_splitS (X := ?_) ?_ ?_ (fun hg => ?_) (fun hg => ?_); rotate_left; (focus (simp only [List.getElem?_toArray, List.getElem?_cons_succ, List.getElem?_cons_zero]; with_reducible rfl)); (focus (exact (by first | with_reducible exact swapB1 | with_reducible exact Below.drew swapB1 | exact (by repeat (first | with_reducible exact Below.refl _ _ | with_reducible assumption | with_reducible refine al ?_ _ | with_reducible refine Below.drew ?_ | with_reducible refine Below.setCell ?_ (by first | (simp; done) | (simp; omega)) _ | with_reducible refine tr ?_ (by with_reducible assumption)))))); all_goals (try simp only [Bool.not_true, Bool.not_false] at hg)))
  (all_goals try simp only [Act.put, List.setIfInBounds_toArray, List.set_cons_zero, List.set_cons_succ]); all_goals (refine lexL_nil ?_)
  go_wp2
  go_ret
  refine ⟨_, rfl, ?_, (by repeat (first | with_reducible exact Below.refl _ _ | with_reducible assumption | with_reducible refine al ?_ _ | with_reducible refine Below.drew ?_ | with_reducible refine Below.setCell ?_ (by first | (simp; done) | (simp; omega)) _ | with_reducible refine tr ?_ (by with_reducible assumption)))⟩
  have h := ownB_base HO7.out (Nat.le_succ w.heap.size)
  rw [HK.out]
  simp only [List.length_append, ycells_app]
  exact h
end Go.Proofs.YtmaogalgganhgaaDoor
