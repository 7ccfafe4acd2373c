/-
  Appending points in a region that draws its order: onto an empty literal, and one more point; as single operations.
-/
import Derived.Test.YtmliljdbpkikpaaGreatDoorHulE
import Derived.Test.YtmliljdbpkikpaaGreatDoorLex
set_option linter.unusedSimpArgs false
set_option linter.unusedVariables false
namespace Go.Proofs.YtmliljdbpkikpaaGreatDoor
open Go.RowKit Pg
theorem Blk.owns0 {w : World} {g B sz : Nat} {t : TypeId} (h : Blk w g t #[]) (hB : B ≤ g) : w.ownsRow B t sz (.slice (some ⟨g, 0, none⟩) 0 0) 0 [] :=
  ⟨by simp, .inr ⟨g, 0, #[], rfl, hB, h, Nat.le_refl _, Nat.zero_le _, by simp, by simp⟩⟩
theorem Blk.grown {w w' : World} {g : Nat} {t : TypeId} {cs : Array Value} {r : Option Nat} (h : Blk w g t cs) (hg : w.grownBy w' r) (hne : some g ≠ r) : Blk w' g t cs :=
  (hg.block g h.lt hne).trans h
/-- blocks of another type than point stay -/
structure KeepT (w w' : World) : Prop where
  blk : ∀ {g : Nat} {t : TypeId} {cs : Array Value}, t ≠ 35 → Blk w g t cs → Blk w' g t cs
theorem keepT_of {w w' : World} {B sz n : Nat} {v : Value} {xs : List Value} (h : w.ownsRow B 35 sz v n xs) (hg : w.grownBy w' v.ownBlock) : KeepT w w' := by
  refine ⟨fun {g t cs} ht hb => Blk.grown hb hg ?_⟩
  obtain ⟨_, ⟨rfl, _⟩ | ⟨g', cap, cur, rfl, _, hh, _⟩⟩ := h
  · simp [Value.ownBlock]
  · simp only [Value.ownBlock]
    intro e
    injection e with e
    subst e
    have h2 := Option.some.inj (hb.symm.trans hh)
    injection h2 with h3 h4
    exact ht h4
/-- onto an empty literal of its own -/
theorem app_lit {o : Oper} {a : Act} {w : World} {K : Act → World → Prop} {Q : Exit → Act → World → Prop} (s x : Operand) (B g b off n c : Nat) (l : List Pt)
    (ho : o.op = .call { callee := .builtin .append, args := #[s, x], argTypes := #[22, 22] })
    (hs : a.eval s = .slice (some ⟨g, 0, none⟩) 0 0) (hg : Blk w g 35 #[]) (hB : B ≤ g)
    (hx : a.eval x = .slice (some ⟨b, off, none⟩) n c) {B' : Nat} (hl : PtsAt w B' (some ⟨b, off, none⟩) n l) (hn0 : 0 < n) (hn : n ≤ 1000000)
    (h : ∀ v' w', w'.ownsRow B 35 2 v' n (ptcells l) → w.grownBy w' (some g) → KeepT w w' → Below B w w' → K (a.put o.dst v') w') : o.wp Tryz.prog a w K Q := by
  obtain ⟨i0, hi, iz0, iz1, iz2⟩ := info_parts Tryz.infoPtH
  refine wp_append_own w s x 22 ho B 35 i0 (.agg #[.int .i64 0, .int .i64 0]) 2 16 Tryz.underlying22 hi iz0 iz1 iz2 rfl (by decide) _ 0 [] hs (Blk.owns0 hg hB) ⟨b, off, none⟩ n c (ptcells l) hx (by rw [ptcells_len, hl.1]) (pts_cells hl hn0) pt_one (by unfold maxLen; omega) (by omega) (by have := hg.lt; omega) ?_
  intro v' w' hown hgr _
  rw [Nat.zero_add, List.nil_append] at hown
  refine h v' w' hown hgr (keepT_of (Blk.owns0 (sz := 2) hg hB) hgr) ((Below.refl _ _).grown hgr (by have := hg.lt; omega) ?_)
  intro k hk
  simp [Value.ownBlock] at hk
  omega
/-- one more point -/
theorem app_one {o : Oper} {a : Act} {w : World} {K : Act → World → Prop} {Q : Exit → Act → World → Prop} (s x : Operand) (B g n : Nat) (l : List Pt) (v : Value) (p : Pt)
    (ho : o.op = .call { callee := .builtin .append, args := #[s, x], argTypes := #[22, 22] })
    (hs : a.eval s = v) (hown : w.ownsRow B 35 2 v n (ptcells l))
    (hx : a.eval x = .slice (some ⟨g, 0, none⟩) 1 1) (hg : Blk w g 35 #[.int .i64 p.x, .int .i64 p.y]) (hB : B ≤ w.heap.size) (hn : n ≤ 1000000)
    (h : ∀ v' w', w'.ownsRow B 35 2 v' (n + 1) (ptcells (l ++ [p])) → KeepT w w' → Below B w w' → K (a.put o.dst v') w') : o.wp Tryz.prog a w K Q := by
  obtain ⟨i0, hi, iz0, iz1, iz2⟩ := info_parts Tryz.infoPtH
  refine wp_append_own w s x 22 ho B 35 i0 (.agg #[.int .i64 0, .int .i64 0]) 2 16 Tryz.underlying22 hi iz0 iz1 iz2 rfl (by decide) _ n _ hs hown ⟨g, 0, none⟩ 1 1 (ptcells [p]) hx rfl ?_ pt_one (by unfold maxLen; omega) (by omega) hB ?_
  · intro j u hj
    have hp : ((⟨g, 0, none⟩ : Addr).add j) = ⟨g, j, none⟩ := by unfold Addr.add; split <;> simp_all
    rw [hp, hg.cell]
    have e : ptcells [p] = [.int .i64 p.x, .int .i64 p.y] := rfl
    rw [e] at hj
    rw [← hj]
    simp
  · intro v' w' hown' hgr _
    have e : ptcells l ++ ptcells [p] = ptcells (l ++ [p]) := by simp [ptcells]
    rw [e] at hown'
    exact h v' w' hown' (keepT_of hown hgr) ((Below.refl _ _).grown hgr hB (fun k hk => (hown.lt k hk).1))
theorem app_xy {o : Oper} {a : Act} {w : World} {K : Act → World → Prop} {Q : Exit → Act → World → Prop} (s x : Operand) (B g n : Nat) (l : List Pt) (v : Value) (px py : Int)
    (ho : o.op = .call { callee := .builtin .append, args := #[s, x], argTypes := #[22, 22] })
    (hs : a.eval s = v) (hown : w.ownsRow B 35 2 v n (ptcells l))
    (hx : a.eval x = .slice (some ⟨g, 0, none⟩) 1 1) (hg : Blk w g 35 #[.int .i64 px, .int .i64 py]) (hB : B ≤ w.heap.size) (hn : n ≤ 1000000)
    (h : ∀ v' w', w'.ownsRow B 35 2 v' (n + 1) (ptcells (l ++ [⟨px, py⟩])) → KeepT w w' → Below B w w' → K (a.put o.dst v') w') : o.wp Tryz.prog a w K Q :=
  app_one s x B g n l v ⟨px, py⟩ ho hs hown hx hg hB hn h
end Go.Proofs.YtmliljdbpkikpaaGreatDoor
