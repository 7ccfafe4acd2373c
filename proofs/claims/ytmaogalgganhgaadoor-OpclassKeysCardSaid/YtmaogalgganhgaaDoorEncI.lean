/-
  Contracts: rows of bytes held against each other; fault.New; the program's Unkey.
-/
import Derived.Test.YtmaogalgganhgaaDoorEncG
import Derived.Test.YtmaogalgganhgaaDoorRel2
import Derived.Test.YtmaogalgganhgaaDoorLexT
set_option linter.unusedSimpArgs false
set_option linter.unusedVariables false
namespace Go.Proofs.YtmaogalgganhgaaDoor
open Go.RowKit Pg

theorem take_eq_succ {l m : List Nat} {k : Nat} (hl : k < l.length) (hm : k < m.length) (h : l.take k = m.take k) : l.getD k 0 = m.getD k 0 → l.take (k + 1) = m.take (k + 1) := by
  intro e
  rw [List.take_add_one, List.take_add_one, h]
  rw [List.getD_eq_getElem?_getD, List.getD_eq_getElem?_getD, List.getElem?_eq_getElem hl, List.getElem?_eq_getElem hm] at e
  simp only [Option.getD_some] at e
  rw [List.getElem?_eq_getElem hl, List.getElem?_eq_getElem hm, e]

set_option maxHeartbeats 2000000 in
set_option maxRecDepth 20000 in
theorem bytes_any (B n c n' c' : Nat) (A A' : Option Addr) (l l' : List Nat) (w : World) (hl : BysAt w B A n l) (hl' : BysAt w B A' n' l') (hB : B ≤ w.heap.size) (hn : n ≤ 1000000) :
    Calls Tryd.prog 10 #[.slice A n c, .slice A' n' c'] w (Ret w (.bool (decide (l = l')))) := by
  by_cases hnn : n = n'
  case neg =>
    have e : decide (l = l') = false := by
      rw [decide_eq_false_iff_not]
      intro e
      apply hnn
      rw [← hl.1, ← hl'.1, e]
    rw [e]
    have hni : ¬ (n : Int) = (n' : Int) := by omega
    go_enter Tryd.func10, Tryd.ntmps10
    go_wp2
    go_ret
    exact ⟨rfl, (by repeat (first | with_reducible exact Below.refl _ _ | with_reducible assumption | with_reducible refine al ?_ _ | with_reducible refine Below.drew ?_ | with_reducible refine Below.setCell ?_ (by first | (simp; done) | (simp; omega)) _ | with_reducible refine tr ?_ (by with_reducible assumption)))⟩
  subst hnn
  obtain ⟨X, hX⟩ : ∃ X, decide (l = l') = X := ⟨_, rfl⟩
  rw [hX]
  have HX := Lib.hid hX
  clear hX
  go_enter Tryd.func10, Tryd.ntmps10
  go_wp2
  go_loopw [5] (fun i wr => ∃ k : Nat, k ≤ n ∧ i = .int .i64 k ∧ l.take k = l'.take k ∧ Below w.heap.size w wr) (fun i _ => n - (intOf i).toNat)
  case atStart => exact ⟨0, Nat.zero_le _, rfl, rfl, Below.refl _ _⟩
  case round =>
    obtain ⟨k, hk, rfl, htk, hb⟩ := hrel
    by_cases hlt : k < n
    · obtain ⟨b, off, rfl, hab, c0⟩ := (hl.below (hb.mono hB)).at_ hlt
      obtain ⟨b', off', rfl, hab', c0'⟩ := (hl'.below (hb.mono hB)).at_ hlt
      have k1 : k < l.length := by rw [hl.1]; exact hlt
      have k2 : k < l'.length := by rw [hl'.1]; exact hlt
      have hbs := hb.size
      have hbw : b < wr.heap.size := by omega
      have hbw' : b' < wr.heap.size := by omega
      by_cases he : l.getD k 0 = l'.getD k 0
      · have HE := Lib.hid (take_eq_succ k1 k2 htk he)
        rw [he] at c0
        generalize l'.getD k 0 = q at *
        clear htk k1 k2 he
        go_wp2_with fail
        refine wp_region_belowI (by kernel_rfl) (by kernel_rfl) (fun _ _ d _ _ h => by cases d <;> exact h) ?_
        simp only [List.map_cons, List.map_nil, List.getD_cons_zero, List.getD_cons_succ, bare, gslot, List.getElem?_cons_zero, List.getElem?_cons_succ, Option.bind_some]
        repeat' ((try simp only [Act.put, List.setIfInBounds_toArray, List.set_cons_zero, List.set_cons_succ]); first | (refine lexL_quiet (v := ?_) wantB_none rfl ?_ ?_; rotate_left; focus (intro wq hq; obtain ⟨hcq, hfq⟩ := bcell hq; go_simp; try with_reducible rfl)) | (refine lexL_loud wantB_none rfl (fun K hK => ?_); go_simp; ((first | fail | skip) <;> (refine hK.out _ _ (by repeat (first | with_reducible exact Below.refl _ _ | with_reducible assumption | with_reducible refine al ?_ _ | with_reducible refine Below.drew ?_ | with_reducible refine Below.setCell ?_ (by first | (simp; done) | (simp; omega)) _ | with_reducible refine tr ?_ (by with_reducible assumption))) ?_; clear hK K))) | (refine lexL_on ?_ ?_; focus (simp only [List.getElem?_toArray, List.getElem?_cons_succ, List.getElem?_cons_zero, Bool.not_true, Bool.not_false]; done)) | (refine lexL_off ?_ ?_ ?_; (focus (simp only [List.getElem?_toArray, List.getElem?_cons_succ, List.getElem?_cons_zero, Bool.not_true, Bool.not_false]; done)); (focus (exact (by repeat (first | with_reducible exact Below.refl _ _ | with_reducible assumption | with_reducible refine al ?_ _ | with_reducible refine Below.drew ?_ | with_reducible refine Below.setCell ?_ (by first | (simp; done) | (simp; omega)) _ | with_reducible refine tr ?_ (by with_reducible assumption)))))) | (refine lexL_splitS (X := ?_) ?_ ?_ (fun hg => ?_) (fun hg => ?_); rotate_left; (focus (simp only [List.getElem?_toArray, List.getElem?_cons_succ, List.getElem?_cons_zero]; with_reducible rfl)); (focus (exact (by repeat (first | with_reducible exact Below.refl _ _ | with_reducible assumption | with_reducible refine al ?_ _ | with_reducible refine Below.drew ?_ | with_reducible refine Below.setCell ?_ (by first | (simp; done) | (simp; omega)) _ | with_reducible refine tr ?_ (by with_reducible assumption))))); all_goals (try simp only [Bool.not_true, Bool.not_false] at hg)))
        (all_goals try simp only [Act.put, List.setIfInBounds_toArray, List.set_cons_zero, List.set_cons_succ]); all_goals (refine lexL_nil ?_)
        go_wp2
        go_roundw
        case rel => exact ⟨k + 1, by omega, by go_num, HE.out, (by repeat (first | with_reducible exact Below.refl _ _ | with_reducible assumption | with_reducible refine al ?_ _ | with_reducible refine Below.drew ?_ | with_reducible refine Below.setCell ?_ (by first | (simp; done) | (simp; omega)) _ | with_reducible refine tr ?_ (by with_reducible assumption)))⟩
        case measure => simp [intOf]; omega
      · have eX : X = false := by
          rw [← HX.out, decide_eq_false_iff_not]
          intro e
          exact he (by rw [e])
        subst eX
        generalize l'.getD k 0 = q at *
        generalize l.getD k 0 = p at *
        have hpq : ¬ (p : Int) = (q : Int) := by omega
        clear htk k1 k2 he
        go_wp2_with fail
        refine wp_region_belowI (by kernel_rfl) (by kernel_rfl) (fun _ _ d _ _ h => by cases d <;> exact h) ?_
        simp only [List.map_cons, List.map_nil, List.getD_cons_zero, List.getD_cons_succ, bare, gslot, List.getElem?_cons_zero, List.getElem?_cons_succ, Option.bind_some]
        repeat' ((try simp only [Act.put, List.setIfInBounds_toArray, List.set_cons_zero, List.set_cons_succ]); first | (refine lexL_quiet (v := ?_) wantB_none rfl ?_ ?_; rotate_left; focus (intro wq hq; obtain ⟨hcq, hfq⟩ := bcell hq; go_simp; try with_reducible rfl)) | (refine lexL_loud wantB_none rfl (fun K hK => ?_); go_simp; ((first | fail | skip) <;> (refine hK.out _ _ (by repeat (first | with_reducible exact Below.refl _ _ | with_reducible assumption | with_reducible refine al ?_ _ | with_reducible refine Below.drew ?_ | with_reducible refine Below.setCell ?_ (by first | (simp; done) | (simp; omega)) _ | with_reducible refine tr ?_ (by with_reducible assumption))) ?_; clear hK K))) | (refine lexL_on ?_ ?_; focus (simp only [List.getElem?_toArray, List.getElem?_cons_succ, List.getElem?_cons_zero, Bool.not_true, Bool.not_false]; done)) | (refine lexL_off ?_ ?_ ?_; (focus (simp only [List.getElem?_toArray, List.getElem?_cons_succ, List.getElem?_cons_zero, Bool.not_true, Bool.not_false]; done)); (focus (exact (by repeat (first | with_reducible exact Below.refl _ _ | with_reducible assumption | with_reducible refine al ?_ _ | with_reducible refine Below.drew ?_ | with_reducible refine Below.setCell ?_ (by first | (simp; done) | (simp; omega)) _ | with_reducible refine tr ?_ (by with_reducible assumption)))))) | (refine lexL_splitS (X := ?_) ?_ ?_ (fun hg => ?_) (fun hg => ?_); rotate_left; (focus (simp only [List.getElem?_toArray, List.getElem?_cons_succ, List.getElem?_cons_zero]; with_reducible rfl)); (focus (exact (by repeat (first | with_reducible exact Below.refl _ _ | with_reducible assumption | with_reducible refine al ?_ _ | with_reducible refine Below.drew ?_ | with_reducible refine Below.setCell ?_ (by first | (simp; done) | (simp; omega)) _ | with_reducible refine tr ?_ (by with_reducible assumption))))); all_goals (try simp only [Bool.not_true, Bool.not_false] at hg)))
        (all_goals try simp only [Act.put, List.setIfInBounds_toArray, List.set_cons_zero, List.set_cons_succ]); all_goals (refine lexL_nil ?_)
        go_wp2
        go_ret
        exact ⟨rfl, (by repeat (first | with_reducible exact Below.refl _ _ | with_reducible assumption | with_reducible refine al ?_ _ | with_reducible refine Below.drew ?_ | with_reducible refine Below.setCell ?_ (by first | (simp; done) | (simp; omega)) _ | with_reducible refine tr ?_ (by with_reducible assumption)))⟩
    · obtain rfl : k = n := by omega
      have eX : X = true := by
        rw [← HX.out, decide_eq_true_eq]
        rw [List.take_of_length_le (by rw [hl.1]; exact Nat.le_refl _), List.take_of_length_le (by rw [hl'.1]; exact Nat.le_refl _)] at htk
        exact htk
      subst eX
      clear htk
      go_wp2
      go_ret
      exact ⟨rfl, hb⟩

theorem fnew_any (s : ByteArray) (id : Int) (v : Value) (k : Nat) (w : World) (hv : ErrC w v k) :
    Calls Tryd.prog 26 #[.string s, .int .i64 id, v] w (RetW w k s id) := by
  by_cases hk : k = 0
  · subst hk
    have := hv.zero
    subst this
    go_enter Tryd.func26, Tryd.ntmps26
    go_wp2
    go_ret
    exact ⟨_, rfl, .inl ⟨rfl, rfl⟩, (by repeat (first | with_reducible exact Below.refl _ _ | with_reducible assumption | with_reducible refine al ?_ _ | with_reducible refine Below.drew ?_ | with_reducible refine Below.setCell ?_ (by first | (simp; done) | (simp; omega)) _ | with_reducible refine tr ?_ (by with_reducible assumption)))⟩
  · obtain ⟨t, u, rfl⟩ := hv.succ hk
    go_enter Tryd.func26, Tryd.ntmps26
    go_wp2
    go_ret
    exact ⟨_, rfl, .inr ⟨hk, _, _, rfl, Blk.new rfl rfl, hv.alloc _⟩, (by repeat (first | with_reducible exact Below.refl _ _ | with_reducible assumption | with_reducible refine al ?_ _ | with_reducible refine Below.drew ?_ | with_reducible refine Below.setCell ?_ (by first | (simp; done) | (simp; omega)) _ | with_reducible refine tr ?_ (by with_reducible assumption)))⟩

theorem Blk.neE {w : World} {g g' : Nat} {t t' : TypeId} {cs cs' : Array Value} (h : Blk w g t cs) (h' : Blk w g' t' cs') (ht : t ≠ t') : g ≠ g' := by
  intro e
  subst e
  have h2 := (Option.some.inj (h.symm.trans h'))
  injection h2 with h3 h4
  exact ht h4
theorem ErrC.farE {w : World} {v : Value} {k r : Nat} {t : TypeId} {cs : Array Value} (h : ErrC w v k) (hr : Blk w r t cs) (ht : 68 ≠ t) (i : Nat) (x : Value) : ErrC (w.setCell ⟨r, i, none⟩ x) v k := by
  rcases h with h | h | ⟨h0, g, s, id, e, hB⟩
  · exact .inl h
  · exact .inr (.inl h)
  · exact .inr (.inr ⟨h0, g, s, id, e, hB.far (p := ⟨r, i, none⟩) (Blk.neE hB hr ht) x⟩)
theorem ErrW.farE {w : World} {v : Value} {k r : Nat} {s : ByteArray} {id : Int} {t : TypeId} {cs : Array Value} (h : ErrW w v k s id) (hr : Blk w r t cs) (ht : 68 ≠ t) (i : Nat) (x : Value) : ErrW (w.setCell ⟨r, i, none⟩ x) v k s id := by
  rcases h with h | ⟨h0, g, inner, e, hB, hi⟩
  · exact .inl h
  · exact .inr ⟨h0, g, inner, e, hB.far (p := ⟨r, i, none⟩) (Blk.neE hB hr ht) x, hi.farE hr ht i x⟩
theorem ErrW.put4E {w : World} {v : Value} {k r : Nat} {s : ByteArray} {id : Int} {t : TypeId} {cs : Array Value} (h : ErrW w v k s id) (hr : Blk w r t cs) (ht : 68 ≠ t) (x y z u : Value) :
    ErrW ((((w.setCell ⟨r, 0, none⟩ x).setCell ⟨r, 1, none⟩ y).setCell ⟨r, 2, none⟩ z).setCell ⟨r, 3, none⟩ u) v k s id :=
  (((h.farE hr ht 0 x).farE (hr.set_ 0 x) ht 1 y).farE ((hr.set_ 0 x).set_ 1 y) ht 2 z).farE (((hr.set_ 0 x).set_ 1 y).set_ 2 z) ht 3 u

/-- the word 'key' -/
abbrev keyW : ByteArray := { data := #[107, 101, 121] }
set_option maxHeartbeats 4000000 in
set_option maxRecDepth 20000 in
theorem Unkey_any (B n c : Nat) (A : Option Addr) (l : List Nat) (w : World) (hl : BysAt w B A n l) (h256 : ∀ x ∈ l, x < 256) (hB : B ≤ w.heap.size) (hn : n ≤ 1000000) (hnc : n ≤ c) :
    Calls Tryd.prog 7 #[.slice A n c] w fun e w' => ∃ (b : Bx) (v : Value), e = .returned (.tuple #[bxV b.lo.x b.lo.y b.hi.x b.hi.y, v]) ∧ b = (unkeyS l).getD bzero ∧ ErrW w' v (if (unkeyS l).isSome then 0 else 10) keyW 0 ∧ Below w.heap.size w w' := by
  have HU : Hid (∀ w', Below w.heap.size w w' → Calls Tryd.prog 25 #[.slice A n c] w' (Ret w' (unkeyV l))) := fun w' h => unkey_any B n c A l w' (hl.tr h hB) h256 (Nat.le_trans hB h.size) hn hnc
  unfold unkeyV at HU
  cases hu : unkeyS l with
  | none =>
    rw [hu] at HU
    simp only at HU
    clear hu hl h256
    go_enter Tryd.func7, Tryd.ntmps7
    go_wp2_with (first | (go_at_call 25; (with_reducible refine (HU.out _ ?_).mono ?_); exact (by repeat (first | with_reducible exact Below.refl _ _ | with_reducible assumption | with_reducible refine al ?_ _ | with_reducible refine Below.drew ?_ | with_reducible refine Below.setCell ?_ (by first | (simp; done) | (simp; omega)) _ | with_reducible refine tr ?_ (by with_reducible assumption))); rintro e wu ⟨rfl, hbu⟩; obtain ⟨hcu, hfu⟩ := bcell hbu; have hzu := hbu.size; (try simp at hzu); have hyu0 : w.heap.size < wu.heap.size := (by omega)) | (go_at_call 26; refine (fnew_any _ _ _ 10 _ (.inl rfl)).mono ?_; rintro e w5 ⟨v5, rfl, hv5, hb5⟩; obtain ⟨hc5, hf5⟩ := bcell hb5; have hz5 := hb5.size; (try simp at hz5); have hy5 : w.heap.size < w5.heap.size := (by omega)))
    refine post_genE (R := fun w2 => Blk w2 (w.heap.size) 25 #[.int .i64 0, .int .i64 0, .int .i64 0, .int .i64 0] ∧ ErrW w2 v5 10 keyW 0 ∧ Below w.heap.size w w2) ⟨?_, ?_, (by repeat (first | with_reducible exact Below.refl _ _ | with_reducible assumption | with_reducible refine al ?_ _ | with_reducible refine Below.drew ?_ | with_reducible refine Below.setCell ?_ (by first | (simp; done) | (simp; omega)) _ | with_reducible refine tr ?_ (by with_reducible assumption)))⟩ ?_
    · repeat (first | with_reducible exact box_putE (x := .int .i64 0) (y := .int .i64 0) (z := .int .i64 0) (u := .int .i64 0) (by repeat (first | with_reducible assumption | with_reducible exact Blk.new (by simp) rfl | with_reducible refine Blk.alloc ?_ _ | with_reducible refine Blk.drew ?_ | with_reducible refine Blk.far ?_ (by simp; omega) _ | with_reducible refine Blk.tr ?_ (by with_reducible assumption))) | with_reducible refine Blk.alloc ?_ _ | with_reducible refine Blk.drew ?_)
    · exact ErrW.put4E hv5 (r := w.heap.size) (t := 25) (cs := #[.int .i64 0, .int .i64 0, .int .i64 0, .int .i64 0]) (by repeat (first | with_reducible assumption | with_reducible exact Blk.new (by simp) rfl | with_reducible refine Blk.alloc ?_ _ | with_reducible refine Blk.drew ?_ | with_reducible refine Blk.far ?_ (by simp; omega) _ | with_reducible refine Blk.tr ?_ (by with_reducible assumption))) (by decide) _ _ _ _
    rintro w2 ⟨HR, hE, hbR⟩
    have r0 := HR.cell 0
    have r1 := HR.cell 1
    have r2 := HR.cell 2
    have r3 := HR.cell 3
    simp only [List.getElem?_toArray, List.getElem?_cons_zero, List.getElem?_cons_succ] at r0 r1 r2 r3
    exact bodyPost_ret (v := .tuple #[bxV bzero.lo.x bzero.lo.y bzero.hi.x bzero.hi.y, v5]) (by simp [results, Tryd.results7, go_sem, r0, r1, r2, r3, bzero]) rfl ⟨_, _, rfl, rfl, hE, hbR⟩
  | some b =>
    rw [hu] at HU
    simp only at HU
    clear hu hl h256
    go_enter Tryd.func7, Tryd.ntmps7
    go_wp2_with (go_at_call 25; (with_reducible refine (HU.out _ ?_).mono ?_); exact (by repeat (first | with_reducible exact Below.refl _ _ | with_reducible assumption | with_reducible refine al ?_ _ | with_reducible refine Below.drew ?_ | with_reducible refine Below.setCell ?_ (by first | (simp; done) | (simp; omega)) _ | with_reducible refine tr ?_ (by with_reducible assumption))); rintro e wu ⟨rfl, hbu⟩; obtain ⟨hcu, hfu⟩ := bcell hbu; have hzu := hbu.size; (try simp at hzu); have hyu0 : w.heap.size < wu.heap.size := (by omega))
    refine post_genE (R := fun w2 => Blk w2 (w.heap.size) 25 #[.int .i64 b.lo.x, .int .i64 b.lo.y, .int .i64 b.hi.x, .int .i64 b.hi.y] ∧ ErrW w2 .nilIface 0 keyW 0 ∧ Below w.heap.size w w2) ⟨?_, ?_, (by repeat (first | with_reducible exact Below.refl _ _ | with_reducible assumption | with_reducible refine al ?_ _ | with_reducible refine Below.drew ?_ | with_reducible refine Below.setCell ?_ (by first | (simp; done) | (simp; omega)) _ | with_reducible refine tr ?_ (by with_reducible assumption)))⟩ ?_
    · repeat (first | with_reducible exact box_putE (x := .int .i64 0) (y := .int .i64 0) (z := .int .i64 0) (u := .int .i64 0) (by repeat (first | with_reducible assumption | with_reducible exact Blk.new (by simp) rfl | with_reducible refine Blk.alloc ?_ _ | with_reducible refine Blk.drew ?_ | with_reducible refine Blk.far ?_ (by simp; omega) _ | with_reducible refine Blk.tr ?_ (by with_reducible assumption))) | with_reducible refine Blk.alloc ?_ _ | with_reducible refine Blk.drew ?_)
    · exact .inl ⟨rfl, rfl⟩
    rintro w2 ⟨HR, hE, hbR⟩
    have r0 := HR.cell 0
    have r1 := HR.cell 1
    have r2 := HR.cell 2
    have r3 := HR.cell 3
    simp only [List.getElem?_toArray, List.getElem?_cons_zero, List.getElem?_cons_succ] at r0 r1 r2 r3
    exact bodyPost_ret (v := .tuple #[bxV b.lo.x b.lo.y b.hi.x b.hi.y, .nilIface]) (by simp [results, Tryd.results7, go_sem, r0, r1, r2, r3, bzero]) rfl ⟨_, _, rfl, rfl, hE, hbR⟩
end Go.Proofs.YtmaogalgganhgaaDoor
