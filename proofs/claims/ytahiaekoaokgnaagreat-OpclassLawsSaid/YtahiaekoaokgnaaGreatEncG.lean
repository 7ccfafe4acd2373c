/-
  The contract of opclass.unkey: which box a key is of.
  Contracts: rows of bytes held against each other; fault.New; the program's Unkey.
-/
import Derived.Test.YtahiaekoaokgnaaGreatEncD
import Derived.Test.YtahiaekoaokgnaaGreatEncA
import Derived.Test.YtahiaekoaokgnaaGreatRel1
import Derived.Test.YtahiaekoaokgnaaGreatLex
set_option linter.unusedSimpArgs false
set_option linter.unusedVariables false
namespace Go.Proofs.YtahiaekoaokgnaaGreat
open Go.RowKit Pg

/-- k numbers are read -/
def rdS (l : List Nat) (k : Nat) (a b c d : Int) (r : List Nat) : Prop :=
  match k with
  | 0 => r = l
  | 1 => dec l = some (a, r)
  | 2 => ∃ l1, dec l = some (a, l1) ∧ dec l1 = some (b, r)
  | 3 => ∃ l1 l2, dec l = some (a, l1) ∧ dec l1 = some (b, l2) ∧ dec l2 = some (c, r)
  | _ => ∃ l1 l2 l3, dec l = some (a, l1) ∧ dec l1 = some (b, l2) ∧ dec l2 = some (c, l3) ∧ dec l3 = some (d, r)
theorem rdS_none {l r : List Nat} {k : Nat} {a b c d : Int} (hk : k < 4) (h : rdS l k a b c d r) (hd : dec r = none) : unkeyS l = none := by
  have : k = 0 ∨ k = 1 ∨ k = 2 ∨ k = 3 := by omega
  rcases this with rfl | rfl | rfl | rfl
  · simp only [rdS] at h; subst h; unfold unkeyS; rw [hd]
  · simp only [rdS] at h; unfold unkeyS; rw [h]; simp only; rw [hd]
  · obtain ⟨l1, h1, h2⟩ := h; unfold unkeyS; rw [h1]; simp only; rw [h2]; simp only; rw [hd]
  · obtain ⟨l1, l2, h1, h2, h3⟩ := h; unfold unkeyS; rw [h1]; simp only; rw [h2]; simp only; rw [h3]; simp only; rw [hd]
theorem rdS_end {l r : List Nat} {a b c d : Int} (h : rdS l 4 a b c d r) : unkeyS l = if r = [] ∧ okBx ⟨⟨a, b⟩, ⟨c, d⟩⟩ = true then some ⟨⟨a, b⟩, ⟨c, d⟩⟩ else none := by
  obtain ⟨l1, l2, l3, h1, h2, h3, h4⟩ := h
  unfold unkeyS
  rw [h1]; simp only; rw [h2]; simp only; rw [h3]; simp only; rw [h4]
theorem dec_byte {l r : List Nat} {x : Int} (hl : ∀ c ∈ l, c < 256) (h : dec l = some (x, r)) : (∀ c ∈ r, c < 256) ∧ r.length < l.length ∧ r = l.drop (l.length - r.length) ∧ in64 x := by
  obtain ⟨h1, h2⟩ := dec_inv hl h
  have h3 := (sint_len h1).1
  refine ⟨fun c hc => hl c (by rw [h2]; simp [hc]), by rw [h2, List.length_append]; omega, ?_, h1⟩
  rw [h2, List.length_append, Nat.add_sub_cancel]
  simp
/-- what unkey tells -/
def unkeyV (l : List Nat) : Value := match unkeyS l with
  | none => .tuple #[bxV 0 0 0 0, .bool false]
  | some b => .tuple #[bxV b.lo.x b.lo.y b.hi.x b.hi.y, .bool true]
theorem box_putE {W : World} {g : Nat} {t : TypeId} {x y z u a b c d : Value} (h : Blk W g t #[x, y, z, u]) :
    Blk ((((W.setCell ⟨g, 0, none⟩ a).setCell ⟨g, 1, none⟩ b).setCell ⟨g, 2, none⟩ c).setCell ⟨g, 3, none⟩ d) g t #[a, b, c, d] :=
  ((((h.set_ 0 a).set_ 1 b).set_ 2 c).set_ 3 d).eq_ (by simp)

end Go.Proofs.YtahiaekoaokgnaaGreat
set_option linter.unusedSimpArgs false
set_option linter.unusedVariables false
namespace Go.Proofs.YtahiaekoaokgnaaGreat
open Go.RowKit Pg

theorem take_eq_succ {l m : List Nat} {k : Nat} (hl : k < l.length) (hm : k < m.length) (h : l.take k = m.take k) : l.getD k 0 = m.getD k 0 → l.take (k + 1) = m.take (k + 1) := by
  intro e
  rw [List.take_add_one, List.take_add_one, h]
  rw [List.getD_eq_getElem?_getD, List.getD_eq_getElem?_getD, List.getElem?_eq_getElem hl, List.getElem?_eq_getElem hm] at e
  simp only [Option.getD_some] at e
  rw [List.getElem?_eq_getElem hl, List.getElem?_eq_getElem hm, e]

set_option maxHeartbeats 2000000 in
set_option maxRecDepth 20000 in
theorem bytes_any (B n c n' c' : Nat) (A A' : Option Addr) (l l' : List Nat) (w : World) (hl : BysAt w B A n l) (hl' : BysAt w B A' n' l') (hB : B ≤ w.heap.size) (hn : n ≤ 1000000) :
    Calls Tryz.prog 17 #[.slice A n c, .slice A' n' c'] w (Ret w (.bool (decide (l = l')))) := by
  by_cases hnn : n = n'
  case neg =>
    have e : decide (l = l') = false := by
      rw [decide_eq_false_iff_not]
      intro e
      apply hnn
      rw [← hl.1, ← hl'.1, e]
    rw [e]
    have hni : ¬ (n : Int) = (n' : Int) := by omega
    go_enter Tryz.func17, Tryz.ntmps17
    go_wp2
    go_ret
    exact ⟨rfl, bel⟩
  subst hnn
  obtain ⟨X, hX⟩ : ∃ X, decide (l = l') = X := ⟨_, rfl⟩
  rw [hX]
  have HX := Lib.hid hX
  clear hX
  go_enter Tryz.func17, Tryz.ntmps17
  go_wp2
  go_loopw [5] (fun i wr => ∃ k : Nat, k ≤ n ∧ i = .int .i64 k ∧ l.take k = l'.take k ∧ Below w.heap.size w wr) (fun i _ => n - (intOf i).toNat)
  case atStart => exact ⟨0, Nat.zero_le _, rfl, rfl, Below.refl _ _⟩
  case round =>
    obtain ⟨k, hk, rfl, htk, hb⟩ := hrel
    by_cases hlt : k < n
    · obtain ⟨b, off, rfl, hab, c0⟩ := (hl.below (hb.mono hB)).at_ hlt
      obtain ⟨b', off', rfl, hab', c0'⟩ := (hl'.below (hb.mono hB)).at_ hlt
      have k1 : k < l.length := by rw [hl.1]; exact hlt
      have k2 : k < l'.length := by rw [hl'.1]; exact hlt
      have hbs := hb.size
      have hbw : b < wr.heap.size := by omega
      have hbw' : b' < wr.heap.size := by omega
      by_cases he : l.getD k 0 = l'.getD k 0
      · have HE := Lib.hid (take_eq_succ k1 k2 htk he)
        rw [he] at c0
        generalize l'.getD k 0 = q at *
        clear htk k1 k2 he
        go_wp2_with fail
        refine wp_region_belowI (by kernel_rfl) (by kernel_rfl) (fun _ _ d _ _ h => by cases d <;> exact h) ?_
        simp only [List.map_cons, List.map_nil, List.getD_cons_zero, List.getD_cons_succ, bare, gslot, List.getElem?_cons_zero, List.getElem?_cons_succ, Option.bind_some]
        repeat' ((try simp only [Act.put, List.setIfInBounds_toArray, List.set_cons_zero, List.set_cons_succ]); first | (refine lexL_quiet (v := ?_) wantB_none rfl ?_ ?_; rotate_left; focus (intro wq hq; obtain ⟨hcq, hfq⟩ := bcell hq; go_simp; try with_reducible rfl)) | (refine lexL_loud wantB_none rfl (fun K hK => ?_); go_simp; ((first | fail | skip) <;> (refine hK.out _ _ bel ?_; clear hK K))) | (refine lexL_on ?_ ?_; focus (simp only [List.getElem?_toArray, List.getElem?_cons_succ, List.getElem?_cons_zero, Bool.not_true, Bool.not_false]; done)) | (refine lexL_off ?_ ?_ ?_; (focus (simp only [List.getElem?_toArray, List.getElem?_cons_succ, List.getElem?_cons_zero, Bool.not_true, Bool.not_false]; done)); (focus (exact bel))) | (refine lexL_splitS (X := ?_) ?_ ?_ (fun hg => ?_) (fun hg => ?_); rotate_left; (focus (simp only [List.getElem?_toArray, List.getElem?_cons_succ, List.getElem?_cons_zero]; with_reducible rfl)); (focus (exact bel)); all_goals (try simp only [Bool.not_true, Bool.not_false] at hg)))
        (all_goals try simp only [Act.put, List.setIfInBounds_toArray, List.set_cons_zero, List.set_cons_succ]); all_goals (refine lexL_nil ?_)
        go_wp2
        go_roundw
        case rel => exact ⟨k + 1, by omega, by go_num, HE.out, bel⟩
        case measure => simp [intOf]; omega
      · have eX : X = false := by
          rw [← HX.out, decide_eq_false_iff_not]
          intro e
          exact he (by rw [e])
        subst eX
        generalize l'.getD k 0 = q at *
        generalize l.getD k 0 = p at *
        have hpq : ¬ (p : Int) = (q : Int) := by omega
        clear htk k1 k2 he
        go_wp2_with fail
        refine wp_region_belowI (by kernel_rfl) (by kernel_rfl) (fun _ _ d _ _ h => by cases d <;> exact h) ?_
        simp only [List.map_cons, List.map_nil, List.getD_cons_zero, List.getD_cons_succ, bare, gslot, List.getElem?_cons_zero, List.getElem?_cons_succ, Option.bind_some]
        repeat' ((try simp only [Act.put, List.setIfInBounds_toArray, List.set_cons_zero, List.set_cons_succ]); first | (refine lexL_quiet (v := ?_) wantB_none rfl ?_ ?_; rotate_left; focus (intro wq hq; obtain ⟨hcq, hfq⟩ := bcell hq; go_simp; try with_reducible rfl)) | (refine lexL_loud wantB_none rfl (fun K hK => ?_); go_simp; ((first | fail | skip) <;> (refine hK.out _ _ bel ?_; clear hK K))) | (refine lexL_on ?_ ?_; focus (simp only [List.getElem?_toArray, List.getElem?_cons_succ, List.getElem?_cons_zero, Bool.not_true, Bool.not_false]; done)) | (refine lexL_off ?_ ?_ ?_; (focus (simp only [List.getElem?_toArray, List.getElem?_cons_succ, List.getElem?_cons_zero, Bool.not_true, Bool.not_false]; done)); (focus (exact bel))) | (refine lexL_splitS (X := ?_) ?_ ?_ (fun hg => ?_) (fun hg => ?_); rotate_left; (focus (simp only [List.getElem?_toArray, List.getElem?_cons_succ, List.getElem?_cons_zero]; with_reducible rfl)); (focus (exact bel)); all_goals (try simp only [Bool.not_true, Bool.not_false] at hg)))
        (all_goals try simp only [Act.put, List.setIfInBounds_toArray, List.set_cons_zero, List.set_cons_succ]); all_goals (refine lexL_nil ?_)
        go_wp2
        go_ret
        exact ⟨rfl, bel⟩
    · obtain rfl : k = n := by omega
      have eX : X = true := by
        rw [← HX.out, decide_eq_true_eq]
        rw [List.take_of_length_le (by rw [hl.1]; exact Nat.le_refl _), List.take_of_length_le (by rw [hl'.1]; exact Nat.le_refl _)] at htk
        exact htk
      subst eX
      clear htk
      go_wp2
      go_ret
      exact ⟨rfl, hb⟩

end Go.Proofs.YtahiaekoaokgnaaGreat
