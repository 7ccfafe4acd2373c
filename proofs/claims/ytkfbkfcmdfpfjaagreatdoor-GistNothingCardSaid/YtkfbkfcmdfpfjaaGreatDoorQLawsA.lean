/-
  What opclass.Laws answers, of whatever class: which law is broken first, and where. Definitions only, so far.
  Contracts: slices.Index and slices.Contains of bools; opclass.split of whatever class.
  Toward opclass.Laws of whatever class: a clone of bytes is a row of its own.
-/
import Derived.Test.YtkfbkfcmdfpfjaaGreatDoorQCovA
set_option linter.unusedSimpArgs false
set_option linter.unusedVariables false
namespace Go.Proofs.YtkfbkfcmdfpfjaaGreatDoor
open Go.RowKit Pg
/-- a class: its methods as plain functions; make's first is the error's number, 0 if none -/
structure Cl where
  make : Ob → Nat × List Nat
  cons : List Nat → Qu → Bool
  far : List Nat → Pt → Fr
  un : List (List Nat) → List Nat
  split : List (List Nat) → List Bool
end Go.Proofs.YtkfbkfcmdfpfjaaGreatDoor
set_option linter.unusedSimpArgs false
set_option linter.unusedVariables false
namespace Go.Proofs.YtkfbkfcmdfpfjaaGreatDoor
open Go.RowKit Pg
/-- a list of bools -/
def BosAt (w : World) (B : Nat) (A : Option Addr) (n : Nat) (l : List Bool) : Prop :=
  l.length = n ∧ (0 < n → ∃ b off, A = some ⟨b, off, none⟩ ∧ b < B ∧ ∀ (k : Nat) (x : Bool), l[k]? = some x → w.cell? ⟨b, off + k, none⟩ = some (.bool x))
theorem BosAt.below {w w' : World} {B n : Nat} {A : Option Addr} {l : List Bool} (h : BosAt w B A n l) (hb : Below B w w') : BosAt w' B A n l :=
  ⟨h.1, fun hn => by
    obtain ⟨b, off, e, hb', hc⟩ := h.2 hn
    exact ⟨b, off, e, hb', fun k x hx => (hb.cell (p := ⟨b, off + k, none⟩) hb').trans (hc k x hx)⟩⟩
theorem BosAt.tr {w w' : World} {B n : Nat} {A : Option Addr} {l : List Bool} (h : BosAt w B A n l) (hb : Below w.heap.size w w') (hB : B ≤ w.heap.size) : BosAt w' B A n l := h.below (hb.mono hB)
theorem BosAt.at_ {w : World} {B n : Nat} {A : Option Addr} {l : List Bool} (h : BosAt w B A n l) {k : Nat} (hk : k < n) : ∃ b off x, A = some ⟨b, off, none⟩ ∧ b < B ∧ l[k]? = some x ∧ w.cell? ⟨b, off + k, none⟩ = some (.bool x) := by
  obtain ⟨b, off, e, hb, hc⟩ := h.2 (by omega)
  have hl : k < l.length := by rw [h.1]; exact hk
  exact ⟨b, off, _, e, hb, List.getElem?_eq_getElem hl, hc k _ (List.getElem?_eq_getElem hl)⟩
/-- a class's method Split, at one list of keys: f is its function -/
structure SplAt (rv : Value) (f : Nat) (L : List (List Nat)) (s : List Bool) : Prop where
  enter : ∀ (args : Array Value) (w : World), (callFunc f args).run Tryz.prog w = .ok (.enter f args) w
  len : s.length ≤ 1000000
  calls : ∀ (W : World) (B : Nat) (A : Option Addr) (c : Nat), RbsAt W B A L.length L → B ≤ W.heap.size → Calls Tryz.prog f #[rv, .slice A L.length c] W fun e w' => ∃ A' c', e = .returned (.slice A' s.length c') ∧ BosAt w' w'.heap.size A' s.length s ∧ Below W.heap.size W w'
end Go.Proofs.YtkfbkfcmdfpfjaaGreatDoor
set_option linter.unusedSimpArgs false
set_option linter.unusedVariables false
namespace Go.Proofs.YtkfbkfcmdfpfjaaGreatDoor
open Go.RowKit Pg
set_option maxHeartbeats 2000000 in
set_option maxRecDepth 20000 in
theorem cloneB_own (B n c : Nat) (A : Option Addr) (l : List Nat) (w : World) (hl : BysAt w B A n l) (hB : B ≤ w.heap.size) (hn2 : n ≤ 1000000) (hnc : n ≤ c) (hAn : A = none → c = 0) :
    Calls Tryz.prog 54 #[.slice A n c] w (RetB w l) := by
  obtain ⟨i0, hi, iz0, iz1, iz2⟩ := info_parts Tryz.infoByte
  have q22 : ∀ (w : World) (a : Option Addr) (n c n' c' : Nat), (binOp .eql 95 (.slice a n c) (.slice none n' c')).run Tryz.prog w = .ok (.bool a.isNone) w := fun w a n c n' c' => Lib.run_eql_slice_nil w _ _ a n c n' c' Tryz.underlying95
  cases A with
  | none =>
    have hc0 := hAn rfl
    have hn0 : n = 0 := by omega
    subst hc0 hn0
    have hl0 : l = [] := List.eq_nil_of_length_eq_zero hl.1
    subst hl0
    clear hl
    go_enter Tryz.func54, Tryz.ntmps54
    go_wp2
    go_ret
    exact ⟨_, rfl, World.ownsRow_nil _ _ _ _, bel⟩
  | some ad =>
  have hnews : ∀ (j : Nat) (u : Value), (ycells l)[j]? = some u → w.cell? (ad.add j) = some u := by
    intro j u hj
    rcases Nat.eq_zero_or_pos n with h0 | hn
    · have hl0 : l = [] := List.eq_nil_of_length_eq_zero (hl.1.trans h0)
      subst hl0
      simp [ycells] at hj
    · obtain ⟨b, off, e, _⟩ := hl.2 hn
      injection e with e
      subst e
      exact BysAt.news hl hn j u hj
  have hln := hl.1
  have HN := Lib.hid hnews
  clear hl hnews
  go_enter Tryz.func54, Tryz.ntmps54
  go_wp2_with (at_builtin; refine wpList_append_own _ rfl _ _ 95 rfl w.heap.size 5 i0 (.int .u8 0) 1 1 Tryz.underlying95 hi iz0 iz1 iz2 rfl (by decide) _ _ _ rfl (World.ownsRow_made w #[] 0 (Nat.le_refl _) (Nat.zero_le _) rfl) ad n c (ycells l) rfl ?qc1 ?qc2 ?qc3 ?qc4 ?qc5 ?qc6 ?_)
  case qc1 => simp [ycells, hln]
  case qc2 =>
    intro j u hj
    exact Lib.cell?_alloc_some _ (HN.out j u hj)
  case qc3 => exact ycells_one l
  case qc4 => unfold maxLen; omega
  case qc5 => omega
  case qc6 => simp
  intro v' w1 hown hgrow hnil
  try rw [Nat.zero_add] at hown
  go_wp2
  go_ret
  exact ⟨_, rfl, by rw [hln]; exact hown, ((Below.refl _ w).alloc (Nat.le_refl _) _).grown hgrow (by simp) (by intro k hk; simp [Value.ownBlock] at hk; omega)⟩

/-- a class in memory: its methods do what C says, at keys of bytes of some length -/
structure ClAt (t : TypeId) (rv : Value) (C : Cl) (fM fC fD fU fS : Nat) : Prop where
  mM : ∀ w, (Go.method 467 t rv "Make").run Tryz.prog w = .ok (fM, rv) w
  mC : ∀ w, (Go.method 467 t rv "Consistent").run Tryz.prog w = .ok (fC, rv) w
  mD : ∀ w, (Go.method 467 t rv "Dist").run Tryz.prog w = .ok (fD, rv) w
  mU : ∀ w, (Go.method 467 t rv "Union").run Tryz.prog w = .ok (fU, rv) w
  mS : ∀ w, (Go.method 467 t rv "Split").run Tryz.prog w = .ok (fS, rv) w
  nC : ∀ w, (nilAhead 467 t rv "Consistent").run Tryz.prog w = .ok (some false) w
  nD : ∀ w, (nilAhead 467 t rv "Dist").run Tryz.prog w = .ok (some false) w
  eM : ∀ (args : Array Value) (w : World), (callFunc fM args).run Tryz.prog w = .ok (.enter fM args) w
  eU : ∀ (args : Array Value) (w : World), (callFunc fU args).run Tryz.prog w = .ok (.enter fU args) w
  form : ∀ o, (∀ x ∈ (C.make o).2, x < 256) ∧ (C.make o).2.length ≤ 1000000
  formU : ∀ L, (∀ l ∈ L, ∀ x ∈ l, x < 256) → (∀ l ∈ L, l.length ≤ 1000000) → (∀ x ∈ C.un L, x < 256) ∧ (C.un L).length ≤ 1000000
  make : ∀ (W : World) (B m c : Nat) (k : Int) (A : Option Addr) (l : List Pt), PtsAt W B A m l → B ≤ W.heap.size → m ≤ 1000000 →
    Calls Tryz.prog fM #[rv, obV k A m c] W fun e w' => ∃ s v, e = .returned (.tuple #[s, v]) ∧ w'.ownsRow W.heap.size 5 1 s (C.make ⟨k, l⟩).2.length (ycells (C.make ⟨k, l⟩).2) ∧ ((C.make ⟨k, l⟩).1 = 0 → v = .nilIface) ∧ ((C.make ⟨k, l⟩).1 ≠ 0 → ∃ t u, v = .iface t u) ∧ Below W.heap.size W w'
  cons : ∀ Y, (∀ x ∈ Y, x < 256) → Y.length ≤ 1000000 → ConsAt rv fC Y (C.cons Y)
  far : ∀ Y, (∀ x ∈ Y, x < 256) → Y.length ≤ 1000000 → DistAt rv fD Y (C.far Y)
  un : ∀ (W : World) (B c : Nat) (A : Option Addr) (L : List (List Nat)), RbsAt W B A L.length L → B ≤ W.heap.size → L.length ≤ 1000000 → (∀ l ∈ L, ∀ x ∈ l, x < 256) → (∀ l ∈ L, l.length ≤ 1000000) → Calls Tryz.prog fU #[rv, .slice A L.length c] W (RetB W (C.un L))
  split : ∀ L, L.length ≤ 1000000 → (∀ l ∈ L, ∀ x ∈ l, x < 256) → (∀ l ∈ L, l.length ≤ 1000000) → SplAt rv fS L (C.split L)
end Go.Proofs.YtkfbkfcmdfpfjaaGreatDoor
