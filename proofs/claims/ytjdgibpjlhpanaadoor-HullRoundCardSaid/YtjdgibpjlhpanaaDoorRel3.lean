/-
  Contracts of package rel: cut.
-/
import Derived.Test.YtjdgibpjlhpanaaDoorRel2
import Derived.Test.YtjdgibpjlhpanaaDoorGeo
set_option linter.unusedSimpArgs false
set_option linter.unusedVariables false
namespace Go.Proofs.YtjdgibpjlhpanaaDoor
open Go.RowKit Pg

/-- the next corner's cells, at the same block -/
theorem nx_of {w : World} {B n b off k : Nat} {l : List Pt} (hl : PtsAt w B (some ⟨b, off, none⟩) n l) (hk : k < n) :
    w.cell? ⟨b, off + (k + 1) % n * 2, none⟩ = some (.int .i64 (nx l k).x) ∧ w.cell? ⟨b, off + (k + 1) % n * 2 + 1, none⟩ = some (.int .i64 (nx l k).y) := by
  obtain ⟨b', off', e, _, c0, c1⟩ := hl.at_ (k := (k + 1) % n) (Nat.mod_lt _ (by omega))
  injection e with e
  injection e with e1 e2
  subst e1 e2
  rw [nx, hl.1]
  exact ⟨c0, c1⟩

theorem cutS_t {l : List Pt} {b : Bx} {k : Nat} (hk : k < l.length) (h : mbox (pt l k) (nx l k) b = true) : cutS l b = true := by
  unfold cutS
  rw [any_range_true _ (fun j => mbox (pt l j) (nx l j) b) k hk h]
  rfl
/-- the step to the next corner, as the machine reckons it -/
theorem step_of {k n : Nat} (hk : k < n) (hn : n ≤ 1000000) : ∃ m : Nat, (k + 1) % n = m ∧ IntKind.i64.wrap ((k : Int) + 1) = (k : Int) + 1 ∧ ((k : Int) + 1).tmod (n : Int) = (m : Int) ∧ m < n := by
  refine ⟨(k + 1) % n, rfl, IntWalk.i64_in _ (by omega), ?_, Nat.mod_lt _ (by omega)⟩
  rw [Int.tmod_eq_emod_of_nonneg (by omega), Int.natCast_emod]
  rfl

end Go.Proofs.YtjdgibpjlhpanaaDoor
