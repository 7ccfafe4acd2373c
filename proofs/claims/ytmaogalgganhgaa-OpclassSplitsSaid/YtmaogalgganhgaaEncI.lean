/-
  Contracts: rows of bytes held against each other; fault.New; the program's Unkey.
-/
import Derived.Test.YtmaogalgganhgaaEncG
import Derived.Test.YtmaogalgganhgaaRel2
import Derived.Test.YtmaogalgganhgaaLexT
set_option linter.unusedSimpArgs false
set_option linter.unusedVariables false
namespace Go.Proofs.Ytmaogalgganhgaa
open Go.RowKit Pg

theorem take_eq_succ {l m : List Nat} {k : Nat} (hl : k < l.length) (hm : k < m.length) (h : l.take k = m.take k) : l.getD k 0 = m.getD k 0 → l.take (k + 1) = m.take (k + 1) := by
  intro e
  rw [List.take_add_one, List.take_add_one, h]
  rw [List.getD_eq_getElem?_getD, List.getD_eq_getElem?_getD, List.getElem?_eq_getElem hl, List.getElem?_eq_getElem hm] at e
  simp only [Option.getD_some] at e
  rw [List.getElem?_eq_getElem hl, List.getElem?_eq_getElem hm, e]

set_option maxHeartbeats 2000000 in
set_option maxRecDepth 20000 in
theorem bytes_any (B n c n' c' : Nat) (A A' : Option Addr) (l l' : List Nat) (w : World) (hl : BysAt w B A n l) (hl' : BysAt w B A' n' l') (hB : B ≤ w.heap.size) (hn : n ≤ 1000000) :
    Calls Try.prog 8 #[.slice A n c, .slice A' n' c'] w (Ret w (.bool (decide (l = l')))) := by
  by_cases hnn : n = n'
  case neg =>
    have e : decide (l = l') = false := by
      rw [decide_eq_false_iff_not]
      intro e
      apply hnn
      rw [← hl.1, ← hl'.1, e]
    rw [e]
    have hni : ¬ (n : Int) = (n' : Int) := by omega
    go_enter Try.func8, Try.ntmps8
    go_wp2
    go_ret
    exact ⟨rfl, (by repeat (first | with_reducible exact Below.refl _ _ | with_reducible assumption | with_reducible refine al ?_ _ | with_reducible refine Below.drew ?_ | with_reducible refine Below.setCell ?_ (by first | (simp; done) | (simp; omega)) _ | with_reducible refine tr ?_ (by with_reducible assumption)))⟩
  subst hnn
  obtain ⟨X, hX⟩ : ∃ X, decide (l = l') = X := ⟨_, rfl⟩
  rw [hX]
  have HX := Lib.hid hX
  clear hX
  go_enter Try.func8, Try.ntmps8
  go_wp2
  go_loopw [5] (fun i wr => ∃ k : Nat, k ≤ n ∧ i = .int .i64 k ∧ l.take k = l'.take k ∧ Below w.heap.size w wr) (fun i _ => n - (intOf i).toNat)
  case atStart => exact ⟨0, Nat.zero_le _, rfl, rfl, Below.refl _ _⟩
  case round =>
    obtain ⟨k, hk, rfl, htk, hb⟩ := hrel
    by_cases hlt : k < n
    · obtain ⟨b, off, rfl, hab, c0⟩ := (hl.below (hb.mono hB)).at_ hlt
      obtain ⟨b', off', rfl, hab', c0'⟩ := (hl'.below (hb.mono hB)).at_ hlt
      have k1 : k < l.length := by rw [hl.1]; exact hlt
      have k2 : k < l'.length := by rw [hl'.1]; exact hlt
      have hbs := hb.size
      have hbw : b < wr.heap.size := by omega
      have hbw' : b' < wr.heap.size := by omega
      by_cases he : l.getD k 0 = l'.getD k 0
      · have HE := Lib.hid (take_eq_succ k1 k2 htk he)
        rw [he] at c0
        generalize l'.getD k 0 = q at *
        clear htk k1 k2 he
        go_wp2_with fail
        refine wp_region_belowI (by kernel_rfl) (by kernel_rfl) (fun _ _ d _ _ h => by cases d <;> exact h) ?_
        simp only [List.map_cons, List.map_nil, List.getD_cons_zero, List.getD_cons_succ, bare, gslot, List.getElem?_cons_zero, List.getElem?_cons_succ, Option.bind_some]
        repeat' ((try simp only [Act.put, List.setIfInBounds_toArray, List.set_cons_zero, List.set_cons_succ]); first | (refine lexL_quiet (v := ?_) wantB_none rfl ?_ ?_; rotate_left; focus (intro wq hq; obtain ⟨hcq, hfq⟩ := bcell hq; go_simp; try with_reducible rfl)) | (refine lexL_loud wantB_none rfl (fun K hK => ?_); go_simp; ((first | fail | skip) <;> (refine hK.out _ _ (by repeat (first | with_reducible exact Below.refl _ _ | with_reducible assumption | with_reducible refine al ?_ _ | with_reducible refine Below.drew ?_ | with_reducible refine Below.setCell ?_ (by first | (simp; done) | (simp; omega)) _ | with_reducible refine tr ?_ (by with_reducible assumption))) ?_; clear hK K))) | (refine lexL_on ?_ ?_; focus (simp only [List.getElem?_toArray, List.getElem?_cons_succ, List.getElem?_cons_zero, Bool.not_true, Bool.not_false]; done)) | (refine lexL_off ?_ ?_ ?_; (focus (simp only [List.getElem?_toArray, List.getElem?_cons_succ, List.getElem?_cons_zero, Bool.not_true, Bool.not_false]; done)); (focus (exact (by repeat (first | with_reducible exact Below.refl _ _ | with_reducible assumption | with_reducible refine al ?_ _ | with_reducible refine Below.drew ?_ | with_reducible refine Below.setCell ?_ (by first | (simp; done) | (simp; omega)) _ | with_reducible refine tr ?_ (by with_reducible assumption)))))) | (refine lexL_splitS (X := ?_) ?_ ?_ (fun hg => ?_) (fun hg => ?_); rotate_left; (focus (simp only [List.getElem?_toArray, List.getElem?_cons_succ, List.getElem?_cons_zero]; with_reducible rfl)); (focus (exact (by repeat (first | with_reducible exact Below.refl _ _ | with_reducible assumption | with_reducible refine al ?_ _ | with_reducible refine Below.drew ?_ | with_reducible refine Below.setCell ?_ (by first | (simp; done) | (simp; omega)) _ | with_reducible refine tr ?_ (by with_reducible assumption))))); all_goals (try simp only [Bool.not_true, Bool.not_false] at hg)))
        (all_goals try simp only [Act.put, List.setIfInBounds_toArray, List.set_cons_zero, List.set_cons_succ]); all_goals (refine lexL_nil ?_)
        go_wp2
        go_roundw
        case rel => exact ⟨k + 1, by omega, by go_num, HE.out, (by repeat (first | with_reducible exact Below.refl _ _ | with_reducible assumption | with_reducible refine al ?_ _ | with_reducible refine Below.drew ?_ | with_reducible refine Below.setCell ?_ (by first | (simp; done) | (simp; omega)) _ | with_reducible refine tr ?_ (by with_reducible assumption)))⟩
        case measure => simp [intOf]; omega
      · have eX : X = false := by
          rw [← HX.out, decide_eq_false_iff_not]
          intro e
          exact he (by rw [e])
        subst eX
        generalize l'.getD k 0 = q at *
        generalize l.getD k 0 = p at *
        have hpq : ¬ (p : Int) = (q : Int) := by omega
        clear htk k1 k2 he
        go_wp2_with fail
        refine wp_region_belowI (by kernel_rfl) (by kernel_rfl) (fun _ _ d _ _ h => by cases d <;> exact h) ?_
        simp only [List.map_cons, List.map_nil, List.getD_cons_zero, List.getD_cons_succ, bare, gslot, List.getElem?_cons_zero, List.getElem?_cons_succ, Option.bind_some]
        repeat' ((try simp only [Act.put, List.setIfInBounds_toArray, List.set_cons_zero, List.set_cons_succ]); first | (refine lexL_quiet (v := ?_) wantB_none rfl ?_ ?_; rotate_left; focus (intro wq hq; obtain ⟨hcq, hfq⟩ := bcell hq; go_simp; try with_reducible rfl)) | (refine lexL_loud wantB_none rfl (fun K hK => ?_); go_simp; ((first | fail | skip) <;> (refine hK.out _ _ (by repeat (first | with_reducible exact Below.refl _ _ | with_reducible assumption | with_reducible refine al ?_ _ | with_reducible refine Below.drew ?_ | with_reducible refine Below.setCell ?_ (by first | (simp; done) | (simp; omega)) _ | with_reducible refine tr ?_ (by with_reducible assumption))) ?_; clear hK K))) | (refine lexL_on ?_ ?_; focus (simp only [List.getElem?_toArray, List.getElem?_cons_succ, List.getElem?_cons_zero, Bool.not_true, Bool.not_false]; done)) | (refine lexL_off ?_ ?_ ?_; (focus (simp only [List.getElem?_toArray, List.getElem?_cons_succ, List.getElem?_cons_zero, Bool.not_true, Bool.not_false]; done)); (focus (exact (by repeat (first | with_reducible exact Below.refl _ _ | with_reducible assumption | with_reducible refine al ?_ _ | with_reducible refine Below.drew ?_ | with_reducible refine Below.setCell ?_ (by first | (simp; done) | (simp; omega)) _ | with_reducible refine tr ?_ (by with_reducible assumption)))))) | (refine lexL_splitS (X := ?_) ?_ ?_ (fun hg => ?_) (fun hg => ?_); rotate_left; (focus (simp only [List.getElem?_toArray, List.getElem?_cons_succ, List.getElem?_cons_zero]; with_reducible rfl)); (focus (exact (by repeat (first | with_reducible exact Below.refl _ _ | with_reducible assumption | with_reducible refine al ?_ _ | with_reducible refine Below.drew ?_ | with_reducible refine Below.setCell ?_ (by first | (simp; done) | (simp; omega)) _ | with_reducible refine tr ?_ (by with_reducible assumption))))); all_goals (try simp only [Bool.not_true, Bool.not_false] at hg)))
        (all_goals try simp only [Act.put, List.setIfInBounds_toArray, List.set_cons_zero, List.set_cons_succ]); all_goals (refine lexL_nil ?_)
        go_wp2
        go_ret
        exact ⟨rfl, (by repeat (first | with_reducible exact Below.refl _ _ | with_reducible assumption | with_reducible refine al ?_ _ | with_reducible refine Below.drew ?_ | with_reducible refine Below.setCell ?_ (by first | (simp; done) | (simp; omega)) _ | with_reducible refine tr ?_ (by with_reducible assumption)))⟩
    · obtain rfl : k = n := by omega
      have eX : X = true := by
        rw [← HX.out, decide_eq_true_eq]
        rw [List.take_of_length_le (by rw [hl.1]; exact Nat.le_refl _), List.take_of_length_le (by rw [hl'.1]; exact Nat.le_refl _)] at htk
        exact htk
      subst eX
      clear htk
      go_wp2
      go_ret
      exact ⟨rfl, hb⟩

theorem fnew_any (s : ByteArray) (id : Int) (v : Value) (k : Nat) (w : World) (hv : ErrC w v k) :
    Calls Try.prog 9 #[.string s, .int .i64 id, v] w (RetW w k s id) := by
  by_cases hk : k = 0
  · subst hk
    have := hv.zero
    subst this
    go_enter Try.func9, Try.ntmps9
    go_wp2
    go_ret
    exact ⟨_, rfl, .inl ⟨rfl, rfl⟩, (by repeat (first | with_reducible exact Below.refl _ _ | with_reducible assumption | with_reducible refine al ?_ _ | with_reducible refine Below.drew ?_ | with_reducible refine Below.setCell ?_ (by first | (simp; done) | (simp; omega)) _ | with_reducible refine tr ?_ (by with_reducible assumption)))⟩
  · obtain ⟨t, u, rfl⟩ := hv.succ hk
    go_enter Try.func9, Try.ntmps9
    go_wp2
    go_ret
    exact ⟨_, rfl, .inr ⟨hk, _, _, rfl, Blk.new rfl rfl, hv.alloc _⟩, (by repeat (first | with_reducible exact Below.refl _ _ | with_reducible assumption | with_reducible refine al ?_ _ | with_reducible refine Below.drew ?_ | with_reducible refine Below.setCell ?_ (by first | (simp; done) | (simp; omega)) _ | with_reducible refine tr ?_ (by with_reducible assumption)))⟩

theorem Blk.neE {w : World} {g g' : Nat} {t t' : TypeId} {cs cs' : Array Value} (h : Blk w g t cs) (h' : Blk w g' t' cs') (ht : t ≠ t') : g ≠ g' := by
  intro e
  subst e
  have h2 := (Option.some.inj (h.symm.trans h'))
  injection h2 with h3 h4
  exact ht h4
theorem ErrC.farE {w : World} {v : Value} {k r : Nat} {t : TypeId} {cs : Array Value} (h : ErrC w v k) (hr : Blk w r t cs) (ht : 56 ≠ t) (i : Nat) (x : Value) : ErrC (w.setCell ⟨r, i, none⟩ x) v k := by
  rcases h with h | h | ⟨h0, g, s, id, e, hB⟩
  · exact .inl h
  · exact .inr (.inl h)
  · exact .inr (.inr ⟨h0, g, s, id, e, hB.far (p := ⟨r, i, none⟩) (Blk.neE hB hr ht) x⟩)
theorem ErrW.farE {w : World} {v : Value} {k r : Nat} {s : ByteArray} {id : Int} {t : TypeId} {cs : Array Value} (h : ErrW w v k s id) (hr : Blk w r t cs) (ht : 56 ≠ t) (i : Nat) (x : Value) : ErrW (w.setCell ⟨r, i, none⟩ x) v k s id := by
  rcases h with h | ⟨h0, g, inner, e, hB, hi⟩
  · exact .inl h
  · exact .inr ⟨h0, g, inner, e, hB.far (p := ⟨r, i, none⟩) (Blk.neE hB hr ht) x, hi.farE hr ht i x⟩
theorem ErrW.put4E {w : World} {v : Value} {k r : Nat} {s : ByteArray} {id : Int} {t : TypeId} {cs : Array Value} (h : ErrW w v k s id) (hr : Blk w r t cs) (ht : 56 ≠ t) (x y z u : Value) :
    ErrW ((((w.setCell ⟨r, 0, none⟩ x).setCell ⟨r, 1, none⟩ y).setCell ⟨r, 2, none⟩ z).setCell ⟨r, 3, none⟩ u) v k s id :=
  (((h.farE hr ht 0 x).farE (hr.set_ 0 x) ht 1 y).farE ((hr.set_ 0 x).set_ 1 y) ht 2 z).farE (((hr.set_ 0 x).set_ 1 y).set_ 2 z) ht 3 u

end Go.Proofs.Ytmaogalgganhgaa
