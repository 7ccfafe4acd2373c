/-
  Rows for the walk of OpclassUnions: keys and objects taken, cut and put together; a boxes class at a key.
-/
import Derived.Test.YtahiaekoaokgnaaGreatCovB
import Derived.Test.YtahiaekoaokgnaaGreatPlainCov
import Derived.Test.YtahiaekoaokgnaaGreatEncG
import Derived.Test.YtahiaekoaokgnaaGreatEncJ
set_option linter.unusedSimpArgs false
set_option linter.unusedVariables false
namespace Go.Proofs.YtahiaekoaokgnaaGreat
open Go.RowKit Pg
theorem farS_okU (k : List Nat) (p : Pt) : FrOk (farS k p) := by
  unfold farS
  split
  · exact ⟨by decide, by decide⟩
  · exact bxF_okC _ _
theorem Tryz.infoYsU : (Tryz.prog.info? 35).map (fun i => (i.zero, i.size, i.bytes)) = some (some (.slice none 0 0), 1, 24) := by kernel_rfl
theorem Tryz.infoObU : (Tryz.prog.info? 34).map (fun i => (i.zero, i.size, i.bytes)) = some (some (.agg #[.int .i64 0, .slice none 0 0]), 2, 32) := by kernel_rfl
theorem keys_grown {w w' : World} {base base' n size : Nat} {e : TypeId} {v v' : Value} {L : List (List Nat)} {xs : List Value} (h : KeysAt w base v L) (h' : w.ownsRow base' e size v' n xs) (he : 35 ≠ e) (he2 : 5 ≠ e) (hg : w.grownBy w' v'.ownBlock) : KeysAt w' base v L := by
  obtain ⟨cs, h1, h2⟩ := h
  refine ⟨cs, own_grown h1 h' he hg, fun j u hu => ?_⟩
  obtain ⟨l, hl, ho⟩ := h2 j u hu
  exact ⟨l, hl, own_grown ho h' he2 hg⟩

/-- an own row of objects; their corners lie below B -/
def TakAt (w : World) (base B : Nat) (v : Value) (L : List Ob) : Prop :=
  ∃ cs : List Value, w.ownsRow base 34 2 v L.length cs ∧ ∀ (k : Nat) (o : Ob), L[k]? = some o → ∃ A' m c, cs[k * 2]? = some (.int .i64 o.kind) ∧ cs[k * 2 + 1]? = some (.slice A' m c) ∧ PtsAt w B A' m o.pts
theorem TakAt.nil (w : World) (base B : Nat) : TakAt w base B (.slice none 0 0) [] := ⟨[], World.ownsRow_nil _ _ _ _, fun j u h => by simp at h⟩
theorem TakAt.below {w w' : World} {base B : Nat} {v : Value} {L : List Ob} (h : TakAt w base B v L) (hb : Below w.heap.size w w') (hB : B ≤ w.heap.size) : TakAt w' base B v L := by
  obtain ⟨cs, h1, h2⟩ := h
  refine ⟨cs, own_belowK h1 hb, fun k o ho => ?_⟩
  obtain ⟨A', m, c, q1, q2, q3⟩ := h2 k o ho
  exact ⟨A', m, c, q1, q2, q3.tr hb hB⟩
theorem tak_grown {w w' : World} {base base' B n size : Nat} {e : TypeId} {v v' : Value} {L : List Ob} {xs : List Value} (h : TakAt w base B v L) (h' : w.ownsRow base' e size v' n xs) (he : 34 ≠ e) (hg : w.grownBy w' v'.ownBlock) (hb : Below B w w') : TakAt w' base B v L := by
  obtain ⟨cs, h1, h2⟩ := h
  refine ⟨cs, own_grown h1 h' he hg, fun k o ho => ?_⟩
  obtain ⟨A', m, c, q1, q2, q3⟩ := h2 k o ho
  exact ⟨A', m, c, q1, q2, q3.below hb⟩
theorem tak_append {w w' : World} {base B m c : Nat} {v v' : Value} {L : List Ob} {k : Int} {pts : List Pt} {A' : Option Addr} {cs : List Value} (h1 : w.ownsRow base 34 2 v L.length cs) (h2 : ∀ k o, L[k]? = some o → ∃ A' m c, cs[k * 2]? = some (.int .i64 o.kind) ∧ cs[k * 2 + 1]? = some (.slice A' m c) ∧ PtsAt w B A' m o.pts)
    (hp : PtsAt w B A' m pts) (h3 : w'.ownsRow base 34 2 v' (L.length + 1) (cs ++ [.int .i64 k, .slice A' m c])) (hb : Below B w w') : TakAt w' base B v' (L ++ [⟨k, pts⟩]) := by
  have hcl : cs.length = L.length * 2 := h1.1
  refine ⟨_, by rw [List.length_append, List.length_singleton]; exact h3, fun j o ho => ?_⟩
  rcases Nat.lt_or_ge j L.length with hj | hj
  · rw [List.getElem?_append_left hj] at ho
    obtain ⟨A2, m2, c2, q1, q2, q3⟩ := h2 j o ho
    exact ⟨A2, m2, c2, by rw [List.getElem?_append_left (by omega)]; exact q1, by rw [List.getElem?_append_left (by omega)]; exact q2, q3.below hb⟩
  · rw [List.getElem?_append_right hj] at ho
    have hj0 : j = L.length := by
      rcases Nat.eq_or_lt_of_le hj with h | h
      · exact h.symm
      · rw [List.getElem?_eq_none (by simp; omega)] at ho; cases ho
    subst hj0
    simp at ho
    subst ho
    refine ⟨A', m, c, ?_, ?_, hp.below hb⟩
    · rw [List.getElem?_append_right (by omega), hcl, Nat.sub_self]; rfl
    · rw [List.getElem?_append_right (by omega), hcl, show L.length * 2 + 1 - L.length * 2 = 1 by omega]; rfl
theorem obs_of_tak {w : World} {base B : Nat} {v : Value} {L : List Ob} (h : TakAt w base B v L) (hB : B ≤ w.heap.size) : ∃ A c, v = .slice A L.length c ∧ ObsAt w w.heap.size A L.length L ∧ L.length ≤ c := by
  obtain ⟨cs, h1, h2⟩ := h
  have h1' := h1
  obtain ⟨hlen, ⟨rfl, h0⟩ | ⟨g, cap, cur, rfl, hg, hh, r⟩⟩ := h1
  · rw [h0]
    exact ⟨none, 0, rfl, ⟨h0, fun h => absurd h (by omega)⟩, Nat.le_refl _⟩
  · refine ⟨_, cap, rfl, ⟨rfl, fun hn => ⟨g, 0, rfl, ?_, fun k o ho => ?_⟩⟩, r.1⟩
    · rcases Nat.lt_or_ge g w.heap.size with h | h
      · exact h
      · rw [Array.getElem?_eq_none h] at hh; cases hh
    have hk : k < L.length := by
      rcases Nat.lt_or_ge k L.length with h | h
      · exact h
      · rw [List.getElem?_eq_none h] at ho; cases ho
    obtain ⟨A', m, c, q1, q2, q3⟩ := h2 k o ho
    refine ⟨A', m, c, ?_, ?_, pts_lift q3 hB⟩
    · rw [Nat.zero_add, h1'.cellAt (k * 2) (by omega)]
      exact q1
    · rw [Nat.zero_add, h1'.cellAt (k * 2 + 1) (by omega)]
      exact q2
theorem obs_one {w : World} {B b off n i : Nat} {L : List Ob} {o : Ob} (h : ObsAt w B (some ⟨b, off, none⟩) n L) (ho : L[i]? = some o) : ObsAt w B (some ⟨b, off + i * 2, none⟩) 1 [o] := by
  have hi : i < n := by
    rw [← h.1]
    rcases Nat.lt_or_ge i L.length with h | h
    · exact h
    · rw [List.getElem?_eq_none h] at ho; cases ho
  obtain ⟨b', off', e, hb, hc⟩ := h.2 (by omega)
  injection e with e
  injection e with e1 e2
  subst e1 e2
  refine ⟨rfl, fun _ => ⟨b, off + i * 2, rfl, hb, fun k x hx => ?_⟩⟩
  match k, hx with
  | 0, hx =>
    simp at hx
    subst hx
    obtain ⟨A', m, c, q1, q2, q3⟩ := hc i _ ho
    exact ⟨A', m, c, by simpa using q1, by simpa using q2, q3⟩
  | k + 1, hx => simp at hx

theorem obs_more {w : World} {B B' n : Nat} {A : Option Addr} {l : List Ob} (h : ObsAt w B A n l) (hB : B ≤ B') : ObsAt w B' A n l :=
  ⟨h.1, fun hn => by
    obtain ⟨b, off, e, hb, hc⟩ := h.2 hn
    refine ⟨b, off, e, by omega, fun k o ho => ?_⟩
    obtain ⟨A', m, c, h0, h1, h2⟩ := hc k o ho
    exact ⟨A', m, c, h0, h1, pts_lift h2 hB⟩⟩
theorem qus_more {w : World} {B B' n : Nat} {A : Option Addr} {l : List Qu} (h : QusAt w B A n l) (hB : B ≤ B') : QusAt w B' A n l :=
  ⟨h.1, fun hn => by
    obtain ⟨b, off, e, hb, hc⟩ := h.2 hn
    refine ⟨b, off, e, by omega, fun k o ho => ?_⟩
    obtain ⟨A', m, c, h0, h1, h2, h3, h4, h5, h6⟩ := hc k o ho
    exact ⟨A', m, c, h0, h1, h2, h3, h4, h5, pts_lift h6 hB⟩⟩
end Go.Proofs.YtahiaekoaokgnaaGreat
