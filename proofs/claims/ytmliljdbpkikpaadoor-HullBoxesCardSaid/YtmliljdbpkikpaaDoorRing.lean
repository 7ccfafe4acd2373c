/-
  Contracts of package ring: next.
  Contracts of package ring: blame, Check.
  Contracts of package ring: edge, Has.
  The contract of ring.Has.
  The contract of ring.Box at a ring that may be.
-/
import Derived.Test.YtmliljdbpkikpaaDoorMBox
import Derived.Test.YtmliljdbpkikpaaDoorAlloc
import Derived.Test.YtmliljdbpkikpaaDoorWords
import Derived.OwnWalk
set_option linter.unusedSimpArgs false
set_option linter.unusedVariables false
namespace Go.Proofs.YtmliljdbpkikpaaDoor
open Go.RowKit Pg

theorem modC (i n : Nat) : ((i : Int) + 1) % (n : Int) = (((i + 1) % n : Nat) : Int) := by
  rw [Int.natCast_emod]; rfl
theorem mod_t {i k n : Nat} (h : (i + 1) % n = k) : (((i : Int) + 1) % (n : Int) == (k : Int)) = true := by
  rw [modC, h]; simp
theorem mod_f {i k n : Nat} (h : (i + 1) % n ≠ k) : (((i : Int) + 1) % (n : Int) == (k : Int)) = false := by
  rw [modC, beq_eq_false_iff_ne]; omega

end Go.Proofs.YtmliljdbpkikpaaDoor
set_option linter.unusedSimpArgs false
set_option linter.unusedVariables false
namespace Go.Proofs.YtmliljdbpkikpaaDoor
open Go.RowKit Pg
/-- a Fault behind a pointer, as an error -/
def faultV (g : Nat) : Value := .iface 54 (.pointer (some ⟨g, 0, none⟩))
/-- v stands for the error number k, wrapped in one Fault -/
def ErrR (w : World) (v : Value) (k : Nat) : Prop := (k = 0 ∧ v = .nilIface) ∨ (k ≠ 0 ∧ ∃ (g : Nat) (s : ByteArray) (id : Int), v = faultV g ∧ Blk w g 58 #[.string s, .int .i64 id, errV k])
def RetErr (w : World) (k : Nat) : Ending → World → Prop := fun e w' => ∃ v, e = .returned v ∧ ErrR w' v k ∧ Below w.heap.size w w'

theorem range_all {n : Nat} {f : Nat → Bool} (h : ∀ k, k < n → f k = false) : (List.range n).any f = false := any_range_false n f h
def badP (l : List Pt) (i k : Nat) : Bool := decide (k ≠ i) && spoil l i k
theorem spoilAny_t {l : List Pt} {i k : Nat} (hi : i < l.length) (hk : k < l.length) (h : badP l i k = true) : spoilAny l = true :=
  any_range_true _ _ i hi (any_range_true _ _ k hk h)
theorem spoilAny_f {l : List Pt} (h : ∀ i, i < l.length → ∀ k, k < l.length → badP l i k = false) : spoilAny l = false :=
  any_range_false _ _ fun i hi => any_range_false _ _ fun k hk => h i hi k hk

end Go.Proofs.YtmliljdbpkikpaaDoor
set_option linter.unusedSimpArgs false
set_option linter.unusedVariables false
namespace Go.Proofs.YtmliljdbpkikpaaDoor
open Go.RowKit Pg
end Go.Proofs.YtmliljdbpkikpaaDoor
set_option linter.unusedSimpArgs false
set_option linter.unusedVariables false
namespace Go.Proofs.YtmliljdbpkikpaaDoor
open Go.RowKit Pg
theorem sgn_pos (n : Int) : (0 < sgn n) ↔ 0 < n := by
  unfold sgn
  split
  · omega
  · split <;> omega
theorem crossesB_eq (a b p : Pt) : crossesB a b p = if b.y < a.y then decide (b.y ≤ p.y) && decide (p.y < a.y) && decide (0 < orient b a p) else decide (a.y ≤ p.y) && decide (p.y < b.y) && decide (0 < orient a b p) := by
  unfold crossesB orient
  simp only [sgn_pos]

theorem xor3 {A B C : Prop} [Decidable A] [Decidable B] [Decidable C] {p : Bool} (h : A ∧ B ∧ C) : Value.bool (!p) = Value.bool (xor p (decide A && decide B && decide C)) := by
  rw [decide_eq_true h.1, decide_eq_true h.2.1, decide_eq_true h.2.2]; simp
theorem xor0 {A B C : Prop} [Decidable A] [Decidable B] [Decidable C] {p : Bool} (h : ¬ (A ∧ B ∧ C)) : Value.bool p = Value.bool (xor p (decide A && decide B && decide C)) := by
  have : (decide A && decide B && decide C) = false := by
    cases hd : (decide A && decide B && decide C)
    · rfl
    · simp at hd; exact absurd ⟨hd.1.1, hd.1.2, hd.2⟩ h
  rw [this]; simp

end Go.Proofs.YtmliljdbpkikpaaDoor
set_option linter.unusedSimpArgs false
set_option linter.unusedVariables false
namespace Go.Proofs.YtmliljdbpkikpaaDoor
open Go.RowKit Pg
def pbox (p : Pt) : Bx := ⟨p, p⟩
def bcells (l : List Bx) : List Value := l.flatMap fun b => [.int .i64 b.lo.x, .int .i64 b.lo.y, .int .i64 b.hi.x, .int .i64 b.hi.y]
theorem bcells_length (l : List Bx) : (bcells l).length = l.length * 4 := by
  induction l with
  | nil => rfl
  | cons b r ih => simp only [bcells, List.flatMap_cons, List.length_append] at ih ⊢; simp [ih]; omega
theorem bcells_at (l : List Bx) : ∀ (k : Nat) (b : Bx), l[k]? = some b → (bcells l)[k * 4]? = some (.int .i64 b.lo.x) ∧ (bcells l)[k * 4 + 1]? = some (.int .i64 b.lo.y) ∧ (bcells l)[k * 4 + 2]? = some (.int .i64 b.hi.x) ∧ (bcells l)[k * 4 + 3]? = some (.int .i64 b.hi.y) := by
  induction l with
  | nil => intro k b h; simp at h
  | cons c r ih =>
    intro k b h
    cases k with
    | zero =>
      simp at h
      subst h
      simp [bcells]
    | succ k =>
      have := ih k b (by simpa using h)
      simp only [bcells, List.flatMap_cons] at this ⊢
      rw [List.getElem?_append_right (by simp; omega), List.getElem?_append_right (by simp; omega), List.getElem?_append_right (by simp; omega), List.getElem?_append_right (by simp; omega)]
      simp only [List.length_cons, List.length_nil]
      rw [show (k + 1) * 4 - (0 + 1 + 1 + 1 + 1) = k * 4 by omega, show (k + 1) * 4 + 1 - (0 + 1 + 1 + 1 + 1) = k * 4 + 1 by omega, show (k + 1) * 4 + 2 - (0 + 1 + 1 + 1 + 1) = k * 4 + 2 by omega, show (k + 1) * 4 + 3 - (0 + 1 + 1 + 1 + 1) = k * 4 + 3 by omega]
      exact this
theorem bcells_snoc (l : List Bx) (b : Bx) : bcells (l ++ [b]) = bcells l ++ [.int .i64 b.lo.x, .int .i64 b.lo.y, .int .i64 b.hi.x, .int .i64 b.hi.y] := by
  simp [bcells]
/-- an owned row of boxes reads as boxes -/
theorem bxs_of_own {w : World} {base : Nat} {e : TypeId} {v : Value} {n : Nat} {l : List Bx} (h : w.ownsRow base e 4 v n (bcells l)) (hl : l.length = n) :
    ∃ A c, v = .slice A n c ∧ BxsAt w w.heap.size A n l := by
  obtain ⟨h1, ⟨rfl, rfl⟩ | ⟨g, cap, cur, rfl, hg, hh, hc⟩⟩ := h
  · exact ⟨none, 0, rfl, hl, fun h => absurd h (by omega)⟩
  · refine ⟨_, cap, rfl, hl, fun hn => ⟨g, 0, rfl, lt_of_block hh, fun k p hp => ?_⟩⟩
    have hown : w.ownsRow base e 4 (.slice (some ⟨g, 0, none⟩) n cap) n (bcells l) := ⟨h1, .inr ⟨g, cap, cur, rfl, hg, hh, hc⟩⟩
    have hk : k < n := by
      rw [← hl]
      rcases Nat.lt_or_ge k l.length with h | h
      · exact h
      · rw [List.getElem?_eq_none h] at hp; cases hp
    have := bcells_at l k p hp
    simp only [Nat.zero_add]
    rw [hown.cellAt (k * 4) (by omega), hown.cellAt (k * 4 + 1) (by omega), hown.cellAt (k * 4 + 2) (by omega), hown.cellAt (k * 4 + 3) (by omega)]
    exact this

theorem Tryd.infoBox : (Tryd.prog.info? 33).map (fun i => (i.zero, i.size, i.bytes)) = some (some (.agg #[.int .i64 0, .int .i64 0, .int .i64 0, .int .i64 0]), 4, 32) := by kernel_rfl
theorem ck_len {l : List Pt} (h : ckRing l = 0) : 3 ≤ l.length ∧ l.length ≤ 64 := by
  unfold ckRing at h
  split at h
  · cases h
  · omega
theorem ck_all {l : List Pt} (h : ckRing l = 0) : l.all okPt = true := by
  unfold ckRing at h
  split at h
  · cases h
  · split at h
    · assumption
    · cases h
theorem ckBox_pt {p : Pt} (h : okPt p = true) : ckBox (pbox p) = 0 := by
  have h1 : ¬ (pbox p).hi.x < (pbox p).lo.x := by simp [pbox]
  have h2 : ¬ (pbox p).hi.y < (pbox p).lo.y := by simp [pbox]
  simp [ckBox, pbox, h] at *
theorem unionGo_ok {l : List Bx} (h : ∀ b ∈ l, ckBox b = 0) : ∀ u, (unionGo u l).2 = 0 := by
  induction l with
  | nil => intro u; rfl
  | cons b r ih =>
    intro u
    rw [unionGo, if_pos (h b (by simp))]
    exact ih (fun x hx => h x (by simp [hx])) _
theorem ringBx_ok {l : List Pt} (h : ckRing l = 0) : union (l.map fun p => ⟨p, p⟩) = (ringBx l, 0) := by
  refine Prod.ext rfl ?_
  have hl := ck_len h
  cases l with
  | nil => simp at hl
  | cons p r =>
    refine unionGo_ok (l := (p :: r).map fun p => ⟨p, p⟩) (fun b hb => ?_) _
    obtain ⟨q, hq, rfl⟩ := List.mem_map.1 hb
    exact ckBox_pt (List.all_eq_true.1 (ck_all h) q hq)

end Go.Proofs.YtmliljdbpkikpaaDoor
