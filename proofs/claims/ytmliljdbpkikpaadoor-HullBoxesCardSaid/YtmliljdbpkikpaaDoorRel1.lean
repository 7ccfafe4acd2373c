/-
  Contracts of package rel: box, verts, interval.
  Contracts of package rel: check, wrap, Check, query, CheckQuery.
  Contracts of package rel: cut.
  Contracts of package rel: rings.
  Contracts of package rel: meets, bounds, Match, Touch.
  Contracts of package rel: bounds, Match.
  Contracts of package rel: Match.
-/
import Derived.Test.YtmliljdbpkikpaaDoorRing
import Derived.Test.YtmliljdbpkikpaaDoorLex
import Derived.Test.YtmliljdbpkikpaaDoorGeo
set_option linter.unusedSimpArgs false
set_option linter.unusedVariables false
namespace Go.Proofs.YtmliljdbpkikpaaDoor
open Go.RowKit Pg

abbrev obV (k : Int) (A : Option Addr) (n c : Nat) : Value := .agg #[.int .i64 k, .slice A n c]
abbrev bxW (b : Bx) : Value := bxV b.lo.x b.lo.y b.hi.x b.hi.y

end Go.Proofs.YtmliljdbpkikpaaDoor
set_option linter.unusedSimpArgs false
set_option linter.unusedVariables false
namespace Go.Proofs.YtmliljdbpkikpaaDoor
open Go.RowKit Pg
/-- v stands for the error number k: bare, or wrapped in one Fault -/
def ErrC (w : World) (v : Value) (k : Nat) : Prop := v = errV k ∨ ErrR w v k
def RetC (w : World) (k : Nat) : Ending → World → Prop := fun e w' => ∃ v, e = .returned v ∧ ErrC w' v k ∧ Below w.heap.size w w'
/-- the same, wrapped in one Fault more, with these words -/
def ErrW (w : World) (v : Value) (k : Nat) (s : ByteArray) (id : Int) : Prop := (k = 0 ∧ v = .nilIface) ∨ (k ≠ 0 ∧ ∃ (g : Nat) (inner : Value), v = faultV g ∧ Blk w g 58 #[.string s, .int .i64 id, inner] ∧ ErrC w inner k)
def RetW (w : World) (k : Nat) (s : ByteArray) (id : Int) : Ending → World → Prop := fun e w' => ∃ v, e = .returned v ∧ ErrW w' v k s id ∧ Below w.heap.size w w'

theorem ErrR.alloc {w : World} {v : Value} {k : Nat} (h : ErrR w v k) (o : Obj) : ErrR (w.alloc o) v k := by
  rcases h with h | ⟨h0, g, s, id, e, hb⟩
  · exact .inl h
  · exact .inr ⟨h0, g, s, id, e, hb.alloc o⟩
theorem ErrC.alloc {w : World} {v : Value} {k : Nat} (h : ErrC w v k) (o : Obj) : ErrC (w.alloc o) v k := by
  rcases h with h | h
  · exact .inl h
  · exact .inr (h.alloc o)
theorem ErrC.zero {w : World} {v : Value} (h : ErrC w v 0) : v = .nilIface := by
  rcases h with h | ⟨_, h⟩ | ⟨h, _⟩
  · exact h
  · exact h
  · exact absurd rfl h
theorem ErrC.succ {w : World} {v : Value} {k : Nat} (h : ErrC w v k) (hk : k ≠ 0) : ∃ t u, v = .iface t u := by
  rcases h with h | ⟨h, _⟩ | ⟨_, g, s, id, e, hb⟩
  · cases k with
    | zero => exact absurd rfl hk
    | succ k => exact ⟨_, _, h⟩
  · exact absurd h hk
  · exact ⟨_, _, e⟩
theorem errV_ne {k : Nat} (hk : k ≠ 0) : errV k = .iface 60 (.int .i64 k) := by
  cases k with
  | zero => exact absurd rfl hk
  | succ k => rfl

abbrev quV (k : Int) (b : Bx) (A : Option Addr) (n c : Nat) : Value := .agg #[.int .i64 k, .int .i64 b.lo.x, .int .i64 b.lo.y, .int .i64 b.hi.x, .int .i64 b.hi.y, .slice A n c]

end Go.Proofs.YtmliljdbpkikpaaDoor
set_option linter.unusedSimpArgs false
set_option linter.unusedVariables false
namespace Go.Proofs.YtmliljdbpkikpaaDoor
open Go.RowKit Pg
/-- the next corner's cells, at the same block -/
theorem nx_of {w : World} {B n b off k : Nat} {l : List Pt} (hl : PtsAt w B (some ⟨b, off, none⟩) n l) (hk : k < n) :
    w.cell? ⟨b, off + (k + 1) % n * 2, none⟩ = some (.int .i64 (nx l k).x) ∧ w.cell? ⟨b, off + (k + 1) % n * 2 + 1, none⟩ = some (.int .i64 (nx l k).y) := by
  obtain ⟨b', off', e, _, c0, c1⟩ := hl.at_ (k := (k + 1) % n) (Nat.mod_lt _ (by omega))
  injection e with e
  injection e with e1 e2
  subst e1 e2
  rw [nx, hl.1]
  exact ⟨c0, c1⟩

theorem cutS_t {l : List Pt} {b : Bx} {k : Nat} (hk : k < l.length) (h : mbox (pt l k) (nx l k) b = true) : cutS l b = true := by
  unfold cutS
  rw [any_range_true _ (fun j => mbox (pt l j) (nx l j) b) k hk h]
  rfl
/-- the step to the next corner, as the machine reckons it -/
theorem step_of {k n : Nat} (hk : k < n) (hn : n ≤ 1000000) : ∃ m : Nat, (k + 1) % n = m ∧ IntKind.i64.wrap ((k : Int) + 1) = (k : Int) + 1 ∧ ((k : Int) + 1).tmod (n : Int) = (m : Int) ∧ m < n := by
  refine ⟨(k + 1) % n, rfl, IntWalk.i64_in _ (by omega), ?_, Nat.mod_lt _ (by omega)⟩
  rw [Int.tmod_eq_emod_of_nonneg (by omega), Int.natCast_emod]
  rfl

end Go.Proofs.YtmliljdbpkikpaaDoor
set_option linter.unusedSimpArgs false
set_option linter.unusedVariables false
namespace Go.Proofs.YtmliljdbpkikpaaDoor
open Go.RowKit Pg
theorem crossAny_t {a b : List Pt} {i k : Nat} (hi : i < a.length) (hk : k < b.length) (h : meetS (pt a i) (nx a i) (pt b k) (nx b k) = true) : crossAny a b = true :=
  any_range_true _ (fun i => (List.range b.length).any fun k => meetS (pt a i) (nx a i) (pt b k) (nx b k)) i hi (any_range_true _ (fun k => meetS (pt a i) (nx a i) (pt b k) (nx b k)) k hk h)
theorem crossAny_f {a b : List Pt} (h : ∀ i, i < a.length → ∀ k, k < b.length → meetS (pt a i) (nx a i) (pt b k) (nx b k) = false) : crossAny a b = false :=
  any_range_false _ _ fun i hi => any_range_false _ _ fun k hk => h i hi k hk

end Go.Proofs.YtmliljdbpkikpaaDoor
set_option linter.unusedSimpArgs false
set_option linter.unusedVariables false
namespace Go.Proofs.YtmliljdbpkikpaaDoor
open Go.RowKit Pg
/-- what a checked object's length is good for -/
theorem ck_lens {k : Int} {l : List Pt} (h : ckOb ⟨k, l⟩ = 0) : (k = 1 ∨ k = 2 → 1 ≤ l.length) ∧ (k = 3 → 2 ≤ l.length) ∧ l.length ≤ 64 ∧ (isBox ⟨k, l⟩ = false → ckRing l = 0) := by
  by_cases k1 : k = 1
  · subst k1
    have h1 : l.length = 1 := by
      by_cases e : l.length = 1
      · exact e
      · simp [ckOb, e] at h
    exact ⟨fun _ => by omega, fun h => by omega, by omega, fun hb => by simp [isBox] at hb⟩
  by_cases k2 : k = 2
  · subst k2
    have h1 : l.length = 1 := by
      by_cases e : l.length = 1
      · exact e
      · simp [ckOb, e] at h
    exact ⟨fun _ => by omega, fun h => by omega, by omega, fun hb => by simp [isBox] at hb⟩
  by_cases k3 : k = 3
  · subst k3
    have h1 : l.length = 2 := by
      by_cases e : l.length = 2
      · exact e
      · simp [ckOb, e] at h
    exact ⟨fun _ => by omega, fun h => by omega, by omega, fun hb => by simp [isBox] at hb⟩
  by_cases k4 : k = 4
  · subst k4
    have h4 : ckRing l = 0 := by simpa [ckOb] using h
    have := ck_len h4
    exact ⟨fun _ => by omega, fun h => by omega, by omega, fun _ => h4⟩
  · simp [ckOb, k1, k2, k3, k4] at h

end Go.Proofs.YtmliljdbpkikpaaDoor
set_option linter.unusedSimpArgs false
set_option linter.unusedVariables false
namespace Go.Proofs.YtmliljdbpkikpaaDoor
open Go.RowKit Pg
end Go.Proofs.YtmliljdbpkikpaaDoor
set_option linter.unusedSimpArgs false
set_option linter.unusedVariables false
namespace Go.Proofs.YtmliljdbpkikpaaDoor
open Go.RowKit Pg
theorem ptsUp {w : World} {B B' n : Nat} {A : Option Addr} {l : List Pt} (h : PtsAt w B A n l) (hB : B ≤ B') : PtsAt w B' A n l :=
  ⟨h.1, fun hn => by
    obtain ⟨b, off, e, hb, hc⟩ := h.2 hn
    exact ⟨b, off, e, by omega, hc⟩⟩
theorem pts1 {w : World} {g : Nat} {p : Pt} {t : TypeId} (h : Blk w g t #[.int .i64 p.x, .int .i64 p.y]) : PtsAt w w.heap.size (some ⟨g, 0, none⟩) 1 [p] :=
  ⟨rfl, fun _ => ⟨g, 0, rfl, h.lt, fun k q hq => by
    match k, hq with
    | 0, hq =>
      simp at hq
      subst hq
      exact ⟨by rw [h.cell]; rfl, by rw [h.cell]; rfl⟩⟩⟩
theorem pts2 {w : World} {g : Nat} {p q : Pt} {t : TypeId} (h : Blk w g t #[.int .i64 p.x, .int .i64 p.y, .int .i64 q.x, .int .i64 q.y]) : PtsAt w w.heap.size (some ⟨g, 0, none⟩) 2 [p, q] :=
  ⟨rfl, fun _ => ⟨g, 0, rfl, h.lt, fun k r hr => by
    match k, hr with
    | 0, hr =>
      simp at hr
      subst hr
      exact ⟨by rw [h.cell]; rfl, by rw [h.cell]; rfl⟩
    | 1, hr =>
      simp at hr
      subst hr
      exact ⟨by rw [h.cell]; rfl, by rw [h.cell]; rfl⟩⟩⟩

end Go.Proofs.YtmliljdbpkikpaaDoor
