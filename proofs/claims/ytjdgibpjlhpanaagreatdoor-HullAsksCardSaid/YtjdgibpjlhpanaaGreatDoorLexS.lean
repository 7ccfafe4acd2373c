/-
  The law for a drawn region whose last operation (a store) waits for all the others: the others are walked by a plan, with the class of worlds that the store would break, and the store behind them, alone.
-/
import Derived.Test.YtjdgibpjlhpanaaGreatDoorLexM
namespace Pg
open Go Go.RowKit

theorem mem_ready {md : Region.Mode} {ops : Array Oper} {L : Array Bool} {i : Nat} :
    i ∈ Region.ready md ops L ↔ L.getD i true = false ∧ ∃ o, ops[i]? = some o ∧ ∀ e ∈ o.after, Region.binds md e = true → L.getD e.on false = true := by
  unfold Region.ready
  rw [List.mem_filter, List.mem_range]
  constructor
  · rintro ⟨h1, h2⟩
    rw [Bool.and_eq_true] at h2
    obtain ⟨h2, h3⟩ := h2
    refine ⟨by simpa using h2, ops[i], by simp [h1], ?_⟩
    rw [Array.getElem?_eq_getElem h1] at h3
    simp only [Option.map_some, Option.getD_some, Array.all_eq_true_iff_forall_mem, Bool.or_eq_true, Bool.not_eq_true'] at h3
    intro e he hb
    rcases h3 e he with h | h
    · rw [hb] at h; cases h
    · exact h
  · rintro ⟨h1, o, ho, h3⟩
    have hi : i < ops.size := by
      rcases Nat.lt_or_ge i ops.size with h | h
      · exact h
      · rw [Array.getElem?_eq_none h] at ho; cases ho
    refine ⟨hi, ?_⟩
    rw [Bool.and_eq_true]
    refine ⟨by simp [h1], ?_⟩
    rw [ho]
    simp only [Option.map_some, Option.getD_some, Array.all_eq_true_iff_forall_mem, Bool.or_eq_true, Bool.not_eq_true']
    intro e he
    by_cases hb : Region.binds md e = true
    · exact .inr (h3 e he hb)
    · exact .inl (by simpa using hb)

theorem getD_set {L : Array Bool} {i j : Nat} {d : Bool} : (L.setIfInBounds i true).getD j d = if i = j ∧ i < L.size then true else L.getD j d := by
  rw [Array.getD_eq_getD_getElem?, Array.getD_eq_getD_getElem?, Array.getElem?_setIfInBounds]
  by_cases h : i = j
  · subst h
    by_cases h2 : i < L.size
    · simp [h2]
    · simp [h2]
  · simp [h]

theorem opwp_mono2 {P : Program} {o : Oper} {a : Act} {w : World} {K K' : Act → World → Prop} {Q1 Q2 : Exit → Act → World → Prop} (h : ∀ a w, K a w → K' a w)
    (h1 : ∀ c a w, Q1 (.panic c) a w → Q2 (.panic c) a w) (h2 : LetsOut Q1 → LetsOut Q2) (hh : o.wp P a w K Q1) : o.wp P a w K' Q2 := by
  unfold Oper.wp at *
  generalize (execOp a.eval o).run P w = r at *
  cases r with
  | ok n w' =>
    cases n <;> simp only [Oper.upon] at hh ⊢ <;>
      first
        | exact h _ _ hh
        | exact Calls.mono hh (fun e w'' he => by cases e <;> first | exact h _ _ he | exact h1 _ _ _ he | exact h2 he)
        | exact Rows.mono hh (fun _ _ he => h _ _ he)
  | halt x w' => cases x <;> simp only [Oper.upon] at hh ⊢ <;> first | exact h1 _ _ _ hh | exact hh

/-- what is to be shown where all but the last operation have come up -/
def pop (P : Program) (st : Oper) (Q : Exit → Act → World → Prop) : Exit → Act → World → Prop
  | .normal, a, w => st.wp P a w (fun a' w' => Q .normal a' w') Q
  | x, a, w => Q x a w

theorem not_stuck {pre : Array Oper} {L : Array Bool} (hL : pre.size ≤ L.size) : ∀ (p : List Nat) (L0 : Array Bool), planOk pre p L0 = true → (∀ j, L0.getD j false = true → L.getD j false = true) →
    (∃ j, j ∈ p ∧ L.getD j true = false) → Region.ready .any pre L ≠ [] := by
  intro p
  induction p with
  | nil => rintro L0 _ _ ⟨j, hj, _⟩; cases hj
  | cons i r ih =>
    rintro L0 hp hsub ⟨j, hj, hun⟩
    simp only [planOk, Bool.and_eq_true] at hp
    obtain ⟨hp1, hp2⟩ := hp
    have hi : i ∈ Region.ready .any pre L0 := by
      split at hp1
      · rw [Bool.and_eq_true] at hp1
        simpa using hp1.2
      · have : Region.ready .any pre L0 = [i] := by simpa using hp1
        rw [this]; simp
    obtain ⟨_, o, ho, he⟩ := mem_ready.1 hi
    have hin : i < pre.size := by
      rcases Nat.lt_or_ge i pre.size with h | h
      · exact h
      · rw [Array.getElem?_eq_none h] at ho; cases ho
    cases hc : L.getD i true with
    | false =>
      intro e
      have : i ∈ Region.ready .any pre L := mem_ready.2 ⟨hc, o, ho, fun x hx hb => hsub _ (he x hx hb)⟩
      rw [e] at this
      cases this
    | true =>
      have hc2 : L.getD i false = true := by
        have hlt : i < L.size := by omega
        rw [Array.getD_eq_getD_getElem?, Array.getElem?_eq_getElem hlt] at hc ⊢
        exact hc
      have hji : j ≠ i := fun e => by subst e; rw [hc] at hun; cases hun
      refine ih _ hp2 (fun k hk => ?_) ⟨j, by rcases List.mem_cons.1 hj with h | h; exact absurd h hji; exact h, hun⟩
      rw [getD_set] at hk
      split at hk
      · rename_i h; rw [← h.1]; exact hc2
      · exact hsub k hk

theorem wpAny_push {P : Program} {Q : Exit → Act → World → Prop} {pre : Array Oper} {st : Oper} {p : List Nat} (hpl : planOk pre p (Array.replicate (pre.size + 1) false) = true) (hcov : ∀ j, j < pre.size → j ∈ p)
    (hin : ∀ e ∈ st.after, e.on < pre.size) (hwait : ∀ j, j < pre.size → ∃ e ∈ st.after, Region.binds .any e = true ∧ e.on = j)
    (hg : st.guard = none) (hd : st.dst = none) : ∀ (fuel : Nat) (L : Array Bool) (a : Act) (w : World), L.size = pre.size + 1 → L.getD pre.size true = false →
      wpAny P .any pre (pop P st Q) fuel L a w → wpAny P .any (pre.push st) Q (fuel + 1) L a w := by
  have hpre : ∀ i, i < pre.size → (pre.push st)[i]? = pre[i]? := fun i hi => by rw [Array.getElem?_push]; split <;> first | omega | rfl
  have hlast : (pre.push st)[pre.size]? = some st := by simp
  have lt_of : ∀ (i : Nat) (o : Oper), pre[i]? = some o → i < pre.size := fun i o ho => by
    rcases Nat.lt_or_ge i pre.size with h | h
    · exact h
    · rw [Array.getElem?_eq_none h] at ho; cases ho
  have hready : ∀ L i, i < pre.size → (i ∈ Region.ready .any (pre.push st) L ↔ i ∈ Region.ready .any pre L) := fun L i hi => by
    rw [mem_ready, mem_ready, hpre i hi]
  have hle : ∀ L i, i ∈ Region.ready .any (pre.push st) L → i ≤ pre.size := fun L i h => by
    obtain ⟨_, o, ho, _⟩ := mem_ready.1 h
    rcases Nat.lt_or_ge pre.size i with h2 | h2
    · rw [Array.getElem?_eq_none (by simp; omega)] at ho; cases ho
    · exact h2
  have hall : ∀ L : Array Bool, L.size = pre.size + 1 → Region.ready .any pre L = [] → ∀ j, j < pre.size → L.getD j true = true := fun L hL hr j hj => by
    cases hc : L.getD j true with
    | true => rfl
    | false => exact absurd hr (not_stuck (by omega) p _ hpl (fun k hk => by rw [Array.getD_eq_getD_getElem?, Array.getElem?_replicate] at hk; split at hk <;> cases hk) ⟨j, hcov j hj, hc⟩)
  have flip : ∀ (L : Array Bool) j, j < L.size → L.getD j true = true → L.getD j false = true := fun L j hj h => by
    rw [Array.getD_eq_getD_getElem?, Array.getElem?_eq_getElem hj] at h ⊢
    exact h
  have hstep : ∀ (fuel : Nat) (L : Array Bool) (a : Act) (w : World), L.size = pre.size + 1 → L.getD pre.size true = false → Region.ready .any pre L = [] → pop P st Q .normal a w → wpAny P .any (pre.push st) Q (fuel + 1) L a w := by
    intro fuel L a w hL hn hr h
    have hA := hall L hL hr
    have hmem : pre.size ∈ Region.ready .any (pre.push st) L := mem_ready.2 ⟨hn, st, hlast, fun e he _ => flip L _ (by have := hin e he; omega) (hA _ (hin e he))⟩
    refine ⟨fun e => (by rw [e] at hmem; cases hmem), fun i hi => ?_⟩
    have hin' : i = pre.size := by
      rcases Nat.lt_or_ge i pre.size with h2 | h2
      · have := (mem_ready.1 hi).1
        rw [hA i h2] at this
        cases this
      · have := hle L i hi
        omega
    subst hin'
    unfold wpOp
    rw [hlast]
    have hw : Region.wanted st (yielded (pre.push st) a.tmps) = true := by unfold Region.wanted; rw [hg]
    simp only [hw, if_true]
    refine .inl (Oper.wp_mono (fun a' w' hq => ?_) h)
    have hr2 : Region.ready .any (pre.push st) (L.setIfInBounds pre.size true) = [] := by
      rcases hh : Region.ready .any (pre.push st) (L.setIfInBounds pre.size true) with _ | ⟨x, r⟩
      · rfl
      · have hx : x ∈ Region.ready .any (pre.push st) (L.setIfInBounds pre.size true) := by rw [hh]; simp
        have h1 := hle _ _ hx
        have h2 := (mem_ready.1 hx).1
        rw [getD_set] at h2
        split at h2
        · cases h2
        · rename_i hc
          rw [hA x (by omega)] at h2
          cases h2
    cases fuel with
    | zero => exact ⟨hr2, hq⟩
    | succ f => exact ⟨fun _ => hq, by rw [hr2]; simp⟩
  intro fuel
  induction fuel with
  | zero => intro L a w hL hn h; exact hstep 0 L a w hL hn h.1 h.2
  | succ fuel ih =>
    intro L a w hL hn h
    by_cases hr : Region.ready .any pre L = []
    · exact hstep _ L a w hL hn hr (h.1 hr)
    refine ⟨fun e => ?_, fun i hi => ?_⟩
    · obtain ⟨x, hx⟩ := List.exists_mem_of_ne_nil _ hr
      obtain ⟨_, o, ho, _⟩ := mem_ready.1 hx
      have := (hready L x (lt_of x o ho)).2 hx
      rw [e] at this
      cases this
    · have hlt : i < pre.size := by
        rcases Nat.lt_or_ge i pre.size with h2 | h2
        · exact h2
        · exfalso
          obtain rfl : i = pre.size := by have := hle L i hi; omega
          obtain ⟨_, o, ho, he⟩ := mem_ready.1 hi
          rw [hlast] at ho
          cases ho
          obtain ⟨x, hx⟩ := List.exists_mem_of_ne_nil _ hr
          obtain ⟨hx1, ox, hox, _⟩ := mem_ready.1 hx
          obtain ⟨e, hee, hb, rfl⟩ := hwait x (lt_of x ox hox)
          have h3 := he e hee hb
          have hlt := lt_of _ ox hox
          rw [Array.getD_eq_getD_getElem?, Array.getElem?_eq_getElem (by omega)] at h3 hx1
          simp only [Option.getD_some] at h3 hx1
          rw [h3] at hx1
          cases hx1
      have hw := h.2 i ((hready L i hlt).1 hi)
      obtain ⟨_, o, ho, _⟩ := mem_ready.1 hi
      rw [hpre i hlt] at ho
      unfold wpOp at hw ⊢
      rw [hpre i hlt]
      rw [ho] at hw ⊢
      simp only at hw ⊢
      have hy : Region.wanted o (yielded (pre.push st) a.tmps) = Region.wanted o (yielded pre a.tmps) := by
        unfold Region.wanted
        cases o.guard with
        | none => rfl
        | some x =>
          have : yielded (pre.push st) a.tmps x.1 = yielded pre a.tmps x.1 := by
            unfold yielded
            rcases Nat.lt_trichotomy x.1 pre.size with h2 | h2 | h2
            · rw [hpre _ h2]
            · rw [h2, hlast, Array.getElem?_eq_none (Nat.le_refl _)]
              simp [hd]
            · rw [Array.getElem?_eq_none (by simp; omega), Array.getElem?_eq_none (by omega)]
          simp only [this]
      rw [hy]
      have hih : ∀ a' w', wpAny P .any pre (pop P st Q) fuel (L.setIfInBounds i true) a' w' → wpAny P .any (pre.push st) Q (fuel + 1) (L.setIfInBounds i true) a' w' := fun a' w' hh =>
        ih _ a' w' (by simpa using hL) (by rw [getD_set, if_neg (by omega)]; exact hn) hh
      split
      · rename_i hwt
        rw [if_pos hwt] at hw
        rcases hw with hw | ⟨h1, h2⟩
        · exact .inl (opwp_mono2 hih (fun _ _ _ h => h) (fun ⟨a, w, h⟩ => ⟨a, w, h⟩) hw)
        · exact .inr ⟨h1, (fun ⟨a, w, h⟩ => ⟨a, w, h⟩) h2⟩
      · rename_i hwt
        rw [if_neg hwt] at hw
        exact hih _ _ hw

/-- the last operation waits for every other, and the plan names every other -/
def lastOk (l : List Oper) (p : List Nat) : Bool :=
  match l.getLast? with
  | none => false
  | some st => (List.range l.dropLast.length).all (fun j => p.contains j && st.after.any (fun e => Region.binds .any e && e.on == j)) && st.after.all (fun e => decide (e.on < l.dropLast.length)) && st.guard.isNone && st.dst.isNone

theorem wp_region_keepS {P : Program} {Q : Exit → Act → World → Prop} (B : Nat) (L : List Nat) (p : List Nat) {l : List Oper} {id : Nat} {a : Act} {w : World} (hm : P.follows .mixedOrders = true)
    (hs : (Region.noSelect l.dropLast.toArray && (decide (p.length ≤ l.dropLast.length) && (planOk l.dropLast.toArray p (Array.replicate (l.dropLast.length + 1) false) && p.all fun i => decide (i < l.dropLast.length)))) = true)
    (hw : lastOk l p = true) (hQ : ∀ c a d v w, Q (.panic c) (a.put d v) w → Q (.panic c) a w)
    (h : lexL P (pop P (l.getLast?.getD default) Q) (fun w' => Keep B L w w') (p.map fun i => (bare (l.dropLast.getD i default), gslot l.dropLast (l.dropLast.getD i default))) a w.drew) : (Code.region id l.toArray true).wp P Q a w := by
  unfold lastOk at hw
  cases hl : l.getLast? with
  | none => rw [hl] at hw; cases hw
  | some st =>
    rw [hl] at hw h
    simp only [Bool.and_eq_true, List.all_eq_true, List.mem_range, Option.isNone_iff_eq_none] at hw
    obtain ⟨⟨⟨h1, h2⟩, h3⟩, h4⟩ := hw
    have hlp : l = l.dropLast ++ [st] := by
      have hne : l ≠ [] := fun e => by rw [e] at hl; cases hl
      have := List.dropLast_concat_getLast hne
      rw [List.getLast?_eq_some_getLast hne] at hl
      rw [← Option.some.inj hl, this]
    have harr : l.toArray = l.dropLast.toArray.push st := by
      conv => lhs; rw [hlp]
      simp
    simp only [Bool.and_eq_true, decide_eq_true_eq] at hs
    obtain ⟨s1, s2, s3, s4⟩ := hs
    rw [harr]
    refine wp_region_any hm ?_
    have hsz : (l.dropLast.toArray.push st).size = l.dropLast.toArray.size + 1 := by simp
    rw [hsz]
    refine wpAny_push (p := p) (by simpa using s3) (fun j hj => ?_) (fun e he => ?_) (fun j hj => ?_) h3 h4 _ _ a _ (by simp) (by simp) ?_
    · have := (h1 j (by simpa using hj)).1
      simpa using this
    · have h5 := h2
      rw [Array.all_eq_true_iff_forall_mem] at h5
      simpa using h5 e he
    · have := (h1 j (by simpa using hj)).2
      obtain ⟨i, hi, hb⟩ := Array.any_eq_true.1 this
      rw [Bool.and_eq_true] at hb
      exact ⟨st.after[i], Array.getElem_mem hi, hb.1, by simpa using hb.2⟩
    · refine wpAny_of_held _ _ _ _ (lexH_sound (Q := pop P st Q) (S := fun w' => Keep B L w w') s1 (fun c a d v w hh => hQ c a d v w hh) p l.dropLast.toArray.size (Array.replicate (l.dropLast.toArray.size + 1) false) a w.drew (by simpa using s2) (by simpa using s3) ((Keep.refl _ _ _).drew) (lexH_of_lexL p a _ (fun i hi => by have := List.all_eq_true.1 s4 i hi; simpa using this) h))
end Pg
