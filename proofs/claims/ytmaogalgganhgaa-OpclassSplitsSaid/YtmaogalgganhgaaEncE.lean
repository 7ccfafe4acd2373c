/-
  Contracts of the keys of boxes: the program's, the reference's.
-/
import Derived.Test.YtmaogalgganhgaaEncB
import Derived.Test.YtmaogalgganhgaaEncD
import Derived.Test.YtmaogalgganhgaaAlloc
import Derived.Test.YtmaogalgganhgaaLexM

set_option linter.unusedSimpArgs false
set_option linter.unusedVariables false
namespace Go.Proofs.Ytmaogalgganhgaa
open Go.RowKit Pg

theorem bys_of_own2 {w : World} {base : Nat} {e : TypeId} {v : Value} {n : Nat} {l : List Nat} (h : w.ownsRow base e 1 v n (ycells l)) :
    ∃ A c, v = .slice A n c ∧ BysAt w w.heap.size A n l ∧ l.length = n ∧ (A = none → c = 0) ∧ n ≤ c := by
  obtain ⟨A, c, rfl, h1, h2⟩ := bys_of_own h
  obtain ⟨_, ⟨h3, _⟩ | ⟨g, cap, cur, h3, _, _, h4, _⟩⟩ := h
  · injection h3 with h5 h6 h7
    subst h5 h6 h7
    exact ⟨none, _, rfl, h1, h2, fun _ => rfl, Nat.le_refl _⟩
  · injection h3 with h5 h6 h7
    subst h5 h7
    exact ⟨_, _, rfl, h1, h2, (fun e => by cases e), h4⟩
theorem key_flat (a b c d : Int) : [sint a, sint b, sint c, sint d].flatten = keyL ⟨⟨a, b⟩, ⟨c, d⟩⟩ := by simp [keyL]
/-- four rows of bytes in a block -/
theorem rbs4 {w : World} {g n1 n2 n3 n4 c1 c2 c3 c4 : Nat} {t : TypeId} {A1 A2 A3 A4 : Option Addr} {l1 l2 l3 l4 : List Nat} (h : Blk w g t #[.slice A1 n1 c1, .slice A2 n2 c2, .slice A3 n3 c3, .slice A4 n4 c4])
    (h1 : BysAt w w.heap.size A1 n1 l1) (h2 : BysAt w w.heap.size A2 n2 l2) (h3 : BysAt w w.heap.size A3 n3 l3) (h4 : BysAt w w.heap.size A4 n4 l4) (z1 : A1 = none → c1 = 0) (z2 : A2 = none → c2 = 0) (z3 : A3 = none → c3 = 0) (z4 : A4 = none → c4 = 0) (m1 : n1 ≤ c1) (m2 : n2 ≤ c2) (m3 : n3 ≤ c3) (m4 : n4 ≤ c4) :
    RbsAt w w.heap.size (some ⟨g, 0, none⟩) 4 [l1, l2, l3, l4] := by
  refine ⟨rfl, fun _ => ⟨g, 0, rfl, h.lt, fun k l hl => ?_⟩⟩
  match k, hl with
  | 0, hl => simp at hl; subst hl; exact ⟨A1, n1, c1, by rw [h.cell]; rfl, h1, z1, m1⟩
  | 1, hl => simp at hl; subst hl; exact ⟨A2, n2, c2, by rw [h.cell]; rfl, h2, z2, m2⟩
  | 2, hl => simp at hl; subst hl; exact ⟨A3, n3, c3, by rw [h.cell]; rfl, h3, z3, m3⟩
  | 3, hl => simp at hl; subst hl; exact ⟨A4, n4, c4, by rw [h.cell]; rfl, h4, z4, m4⟩

set_option maxHeartbeats 4000000 in
set_option maxRecDepth 20000 in
theorem key_any (a b c d : Int) (h : inBx ⟨⟨a, b⟩, ⟨c, d⟩⟩) (w : World) : Calls Try.prog 7 #[bxV a b c d] w (RetB w (keyL ⟨⟨a, b⟩, ⟨c, d⟩⟩)) := by
  have hlen := (keyL_len h).2
  obtain ⟨ha, hb, hc, hd⟩ := h
  simp only at ha hb hc hd
  rw [← key_flat] at hlen ⊢
  have HL := Lib.hid hlen
  obtain ⟨K, hK⟩ : ∃ K, [sint a, sint b, sint c, sint d].flatten = K := ⟨_, rfl⟩
  rw [hK]
  have HK := Lib.hid hK
  clear hK
  have HA := Lib.hid ha
  have HB := Lib.hid hb
  have HC := Lib.hid hc
  have HD := Lib.hid hd
  clear hlen ha hb hc hd
  go_enter Try.func7, Try.ntmps7
  go_wp2_with fail
  refine wp_region_below [0, 1, 2, 4, 5, 6, 8, 9, 10, 12, 13, 14, 3, 7, 11, 15, 16, 17, 18] (by kernel_rfl) (by kernel_rfl) (fun _ _ d _ _ h => by cases d <;> exact h) ?_
  simp only [List.map_cons, List.map_nil, List.getD_cons_zero, List.getD_cons_succ, bare, gslot, List.getElem?_cons_zero, List.getElem?_cons_succ, Option.bind_some]
  repeat' ((try simp only [Act.put, List.setIfInBounds_toArray, List.set_cons_zero, List.set_cons_succ]); first | (refine lexL_quiet (v := ?_) wantB_none rfl ?_ ?_; rotate_left; focus (intro wq hq; obtain ⟨hcq, hfq⟩ := bcell hq; go_simp; try with_reducible rfl)) | (refine lexL_loud wantB_none rfl (fun K hK => ?_); go_simp; ((first | (go_at_call 12; (with_reducible refine (signed_any a HA.out _).mono ?_); rintro e w1 ⟨s1, rfl, ho1, hb1⟩; obtain ⟨A1, c1, rfl, hB1, hl1, hn1, hm1⟩ := bys_of_own2 ho1; obtain ⟨hc1, hf1⟩ := bcell hb1; have hz1 := hb1.size; (try simp at hz1); have hy1 : w.heap.size < w1.heap.size := (by omega); clear ho1) | (go_at_call 12; (with_reducible refine (signed_any b HB.out _).mono ?_); rintro e w2 ⟨s2, rfl, ho2, hb2⟩; obtain ⟨A2, c2, rfl, hB2, hl2, hn2, hm2⟩ := bys_of_own2 ho2; obtain ⟨hc2, hf2⟩ := bcell hb2; have hz2 := hb2.size; (try simp at hz2); have hy2 : w.heap.size < w2.heap.size := (by omega); clear ho2) | (go_at_call 12; (with_reducible refine (signed_any c HC.out _).mono ?_); rintro e w3 ⟨s3, rfl, ho3, hb3⟩; obtain ⟨A3, c3, rfl, hB3, hl3, hn3, hm3⟩ := bys_of_own2 ho3; obtain ⟨hc3, hf3⟩ := bcell hb3; have hz3 := hb3.size; (try simp at hz3); have hy3 : w.heap.size < w3.heap.size := (by omega); clear ho3) | (go_at_call 12; (with_reducible refine (signed_any d HD.out _).mono ?_); rintro e w4 ⟨s4, rfl, ho4, hb4⟩; obtain ⟨A4, c4, rfl, hB4, hl4, hn4, hm4⟩ := bys_of_own2 ho4; obtain ⟨hc4, hf4⟩ := bcell hb4; have hz4 := hb4.size; (try simp at hz4); have hy4 : w.heap.size < w4.heap.size := (by omega); clear ho4) | (go_at_call 11; refine (concatB_any _ 4 4 _ [sint a, sint b, sint c, sint d] _ (rbs4 (g := w4.heap.size) (by repeat (first | with_reducible assumption | with_reducible exact Blk.new (by simp) rfl | with_reducible refine Blk.alloc ?_ _ | with_reducible refine Blk.drew ?_ | with_reducible refine Blk.far ?_ (by simp; omega) _ | with_reducible refine Blk.tr ?_ (by with_reducible assumption))) ((hB1.tr (by repeat (first | with_reducible exact Below.refl _ _ | with_reducible assumption | with_reducible refine al ?_ _ | with_reducible refine Below.drew ?_ | with_reducible refine Below.setCell ?_ (by first | (simp; done) | (simp; omega)) _ | with_reducible refine tr ?_ (by with_reducible assumption))) (Nat.le_refl _)).more (by simp; omega)) ((hB2.tr (by repeat (first | with_reducible exact Below.refl _ _ | with_reducible assumption | with_reducible refine al ?_ _ | with_reducible refine Below.drew ?_ | with_reducible refine Below.setCell ?_ (by first | (simp; done) | (simp; omega)) _ | with_reducible refine tr ?_ (by with_reducible assumption))) (Nat.le_refl _)).more (by simp; omega)) ((hB3.tr (by repeat (first | with_reducible exact Below.refl _ _ | with_reducible assumption | with_reducible refine al ?_ _ | with_reducible refine Below.drew ?_ | with_reducible refine Below.setCell ?_ (by first | (simp; done) | (simp; omega)) _ | with_reducible refine tr ?_ (by with_reducible assumption))) (Nat.le_refl _)).more (by simp; omega)) ((hB4.tr (by repeat (first | with_reducible exact Below.refl _ _ | with_reducible assumption | with_reducible refine al ?_ _ | with_reducible refine Below.drew ?_ | with_reducible refine Below.setCell ?_ (by first | (simp; done) | (simp; omega)) _ | with_reducible refine tr ?_ (by with_reducible assumption))) (Nat.le_refl _)).more (by simp)) hn1 hn2 hn3 hn4 hm1 hm2 hm3 hm4) (Nat.le_refl _) (by decide) (Nat.le_trans HL.out (by decide))).mono ?_; rintro e w5 ⟨s5, rfl, ho5, hb5⟩; have hz5 := hb5.size; (try simp at hz5); rw [HK.out] at ho5; have HO := Lib.hid ho5; clear ho5) | skip) <;> (refine hK.out _ _ (by repeat (first | with_reducible exact Below.refl _ _ | with_reducible assumption | with_reducible refine al ?_ _ | with_reducible refine Below.drew ?_ | with_reducible refine Below.setCell ?_ (by first | (simp; done) | (simp; omega)) _ | with_reducible refine tr ?_ (by with_reducible assumption))) ?_; clear hK K))) | (refine lexL_on ?_ ?_; focus (simp only [List.getElem?_toArray, List.getElem?_cons_succ, List.getElem?_cons_zero, Bool.not_true, Bool.not_false]; done)) | (refine lexL_off ?_ ?_ ?_; (focus (simp only [List.getElem?_toArray, List.getElem?_cons_succ, List.getElem?_cons_zero, Bool.not_true, Bool.not_false]; done)); (focus (exact (by repeat (first | with_reducible exact Below.refl _ _ | with_reducible assumption | with_reducible refine al ?_ _ | with_reducible refine Below.drew ?_ | with_reducible refine Below.setCell ?_ (by first | (simp; done) | (simp; omega)) _ | with_reducible refine tr ?_ (by with_reducible assumption)))))) | (refine lexL_splitS (X := ?_) ?_ ?_ (fun hg => ?_) (fun hg => ?_); rotate_left; (focus (simp only [List.getElem?_toArray, List.getElem?_cons_succ, List.getElem?_cons_zero]; with_reducible rfl)); (focus (exact (by repeat (first | with_reducible exact Below.refl _ _ | with_reducible assumption | with_reducible refine al ?_ _ | with_reducible refine Below.drew ?_ | with_reducible refine Below.setCell ?_ (by first | (simp; done) | (simp; omega)) _ | with_reducible refine tr ?_ (by with_reducible assumption))))); all_goals (try simp only [Bool.not_true, Bool.not_false] at hg)))
  (all_goals try simp only [Act.put, List.setIfInBounds_toArray, List.set_cons_zero, List.set_cons_succ]); all_goals (refine lexL_nil ?_)
  go_wp2
  go_ret
  exact ⟨_, rfl, ownB_base HO.out (by (try simp); omega), (by repeat (first | with_reducible exact Below.refl _ _ | with_reducible assumption | with_reducible refine al ?_ _ | with_reducible refine Below.drew ?_ | with_reducible refine Below.setCell ?_ (by first | (simp; done) | (simp; omega)) _ | with_reducible refine tr ?_ (by with_reducible assumption)))⟩

theorem own_pos {w : World} {base n : Nat} {e : TypeId} {v : Value} {l : List Nat} (h : w.ownsRow base e 1 v n (ycells l)) (hn : 0 < n) :
    ∃ g c, v = .slice (some ⟨g, 0, none⟩) n c ∧ (∀ (j : Nat) (u : Value), (ycells l)[j]? = some u → w.cell? ((⟨g, 0, none⟩ : Addr).add j) = some u) ∧ l.length = n ∧ g < w.heap.size := by
  obtain ⟨A, c, rfl, hB, hl⟩ := bys_of_own h
  obtain ⟨b, off, e1, hb, hc⟩ := hB.2 hn
  subst e1
  obtain ⟨_, ⟨h3, _⟩ | ⟨g, cap, cur, h3, _⟩⟩ := h
  · cases h3
  · injection h3 with h4 h5 h6
    injection h4 with h4
    injection h4 with h4 h7
    subst h4 h7
    exact ⟨b, c, rfl, hB.news hn, hl, hb⟩

end Go.Proofs.Ytmaogalgganhgaa
