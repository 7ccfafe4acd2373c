/-
  What opclass.Laws answers, of whatever class: which law is broken first, and where. Definitions only, so far.
  Contracts: slices.Index and slices.Contains of bools; opclass.split of whatever class.
  Toward opclass.Laws of whatever class: a clone of bytes is a row of its own.
-/
import Derived.Test.YtahiaekoaokgnaaGreatCovA
set_option linter.unusedSimpArgs false
set_option linter.unusedVariables false
namespace Go.Proofs.YtahiaekoaokgnaaGreat
open Go.RowKit Pg
/-- a class: its methods as plain functions; make's first is the error's number, 0 if none -/
structure Cl where
  make : Ob → Nat × List Nat
  cons : List Nat → Qu → Bool
  far : List Nat → Pt → Fr
  un : List (List Nat) → List Nat
  split : List (List Nat) → List Bool
/-- the first element that breaks a law: its law and its place -/
def firstS (f : Ob → Nat) : List Ob → Nat → Option (Nat × Nat)
  | [], _ => none
  | o :: r, i => if f o = 0 then firstS f r (i + 1) else some (f o, i)
def longS (C : Cl) (o : Ob) : Nat := if ckOb o = 0 ∧ (C.make o).1 = 0 ∧ 64 < (C.make o).2.length then 1 else 0
def alone (C : Cl) (q : List Qu) (p : List Pt) (o : Ob) : Nat :=
  if (C.make o).1 ≠ 0 then 0 else if asksS (C.cons (C.make o).2) [o] q = false then 2 else if nearsS (C.far (C.make o).2) [o] p = false then 3 else 0
def takenS (C : Cl) (l : List Ob) : List Ob := l.filter fun o => decide ((C.make o).1 = 0)
def keysS (C : Cl) (l : List Ob) : List (List Nat) := (takenS C l).map fun o => (C.make o).2
def allS (C : Cl) (l : List Ob) (q : List Qu) (p : List Pt) : Bool := decide ((C.un (keysS C l)).length ≤ 64) && (asksS (C.cons (C.un (keysS C l))) (takenS C l) q && nearsS (C.far (C.un (keysS C l))) (takenS C l) p)
def splitOkS (L : List (List Nat)) (s : List Bool) : Bool := decide (s.length = L.length) && (s.contains true && s.contains false)
def lawsS (C : Cl) (l : List Ob) (q : List Qu) (p : List Pt) : Int × Int :=
  match firstS (longS C) l 0 with
  | some (k, i) => (k, i)
  | none => match firstS (alone C q p) l 0 with
    | some (k, i) => (k, i)
    | none =>
      if 0 < (keysS C l).length ∧ allS C l q p = false then (4, 0)
      else if 1 < (keysS C l).length ∧ splitOkS (keysS C l) (C.split (keysS C l)) = false then (5, 0)
      else (0, -1)
theorem firstS_append (f : Ob → Nat) (l m : List Ob) (i : Nat) : firstS f (l ++ m) i = match firstS f l i with | some x => some x | none => firstS f m (i + l.length) := by
  induction l generalizing i with
  | nil => simp [firstS]
  | cons a r ih =>
    simp only [List.cons_append, firstS, List.length_cons]
    split
    · rw [ih, show i + 1 + r.length = i + (r.length + 1) by omega]
    · rfl
end Go.Proofs.YtahiaekoaokgnaaGreat
set_option linter.unusedSimpArgs false
set_option linter.unusedVariables false
namespace Go.Proofs.YtahiaekoaokgnaaGreat
open Go.RowKit Pg
/-- a list of bools -/
def BosAt (w : World) (B : Nat) (A : Option Addr) (n : Nat) (l : List Bool) : Prop :=
  l.length = n ∧ (0 < n → ∃ b off, A = some ⟨b, off, none⟩ ∧ b < B ∧ ∀ (k : Nat) (x : Bool), l[k]? = some x → w.cell? ⟨b, off + k, none⟩ = some (.bool x))
theorem BosAt.below {w w' : World} {B n : Nat} {A : Option Addr} {l : List Bool} (h : BosAt w B A n l) (hb : Below B w w') : BosAt w' B A n l :=
  ⟨h.1, fun hn => by
    obtain ⟨b, off, e, hb', hc⟩ := h.2 hn
    exact ⟨b, off, e, hb', fun k x hx => (hb.cell (p := ⟨b, off + k, none⟩) hb').trans (hc k x hx)⟩⟩
theorem BosAt.tr {w w' : World} {B n : Nat} {A : Option Addr} {l : List Bool} (h : BosAt w B A n l) (hb : Below w.heap.size w w') (hB : B ≤ w.heap.size) : BosAt w' B A n l := h.below (hb.mono hB)
theorem BosAt.at_ {w : World} {B n : Nat} {A : Option Addr} {l : List Bool} (h : BosAt w B A n l) {k : Nat} (hk : k < n) : ∃ b off x, A = some ⟨b, off, none⟩ ∧ b < B ∧ l[k]? = some x ∧ w.cell? ⟨b, off + k, none⟩ = some (.bool x) := by
  obtain ⟨b, off, e, hb, hc⟩ := h.2 (by omega)
  have hl : k < l.length := by rw [h.1]; exact hk
  exact ⟨b, off, _, e, hb, List.getElem?_eq_getElem hl, hc k _ (List.getElem?_eq_getElem hl)⟩
/-- where a bool stands first; -1: nowhere -/
def idxB (v : Bool) : List Bool → Nat → Int
  | [], _ => -1
  | x :: r, i => if v = x then (i : Int) else idxB v r (i + 1)
theorem idxB_drop {v x : Bool} {l : List Bool} {k : Nat} (h : l[k]? = some x) : idxB v (l.drop k) k = if v = x then (k : Int) else idxB v (l.drop (k + 1)) (k + 1) := by
  have hk : k < l.length := by
    rcases Nat.lt_or_ge k l.length with h' | h'
    · exact h'
    · rw [List.getElem?_eq_none h'] at h; cases h
  have e : l.drop k = x :: l.drop (k + 1) := by
    rw [List.drop_eq_getElem_cons hk]
    rw [List.getElem?_eq_getElem hk] at h
    injection h with h
    rw [h]
  rw [e, idxB]
theorem idxB_sign (v : Bool) (l : List Bool) (i : Nat) : decide (0 ≤ idxB v l i) = l.contains v := by
  induction l generalizing i with
  | nil => rfl
  | cons x r ih =>
    unfold idxB
    by_cases h : v = x
    · rw [if_pos h]
      subst h
      simp
    · rw [if_neg h, ih]
      simp [h]

set_option maxHeartbeats 2000000 in
theorem index_bool (B n c : Nat) (A : Option Addr) (l : List Bool) (v : Bool) (w : World) (hl : BosAt w B A n l) (hB : B ≤ w.heap.size) (hn : n ≤ 1000000) :
    Calls Tryz.prog 86 #[.slice A n c, .bool v] w (Ret w (.int .i64 (idxB v l 0))) := by
  have HL := Lib.hid hl
  clear hl
  go_enter Tryz.func86, Tryz.ntmps86
  go_wp2_with fail
  go_loopw [8] (fun vi wr => ∃ k : Nat, k ≤ n ∧ vi = .int .i64 k ∧ idxB v (l.drop k) k = idxB v l 0 ∧ Below w.heap.size w wr) (fun vi _ => n - (intOf vi).toNat)
  case atStart => exact ⟨0, by omega, rfl, rfl, bel⟩
  case round =>
    obtain ⟨k, hk, rfl, he, hb⟩ := hrel
    by_cases hlt : k < n
    case neg =>
      obtain rfl : n = k := by omega
      have HE : Hid (idxB v l 0 = -1) := by
        unfold Hid
        rw [← he, List.drop_of_length_le (by rw [HL.out.1]; omega)]
        rfl
      clear he
      go_wp2_with fail
      go_ret
      exact ⟨by rw [HE.out]; rfl, bel⟩
    have hk1 : (k : Int) < (n : Int) := by omega
    obtain ⟨b, off, x, rfl, hab, hx, hcell⟩ := (HL.out.below (hb.mono hB)).at_ hlt
    have hbw : b < wr.heap.size := by have := hb.size; omega
    rw [idxB_drop hx] at he
    clear hx
    by_cases hvx : v = x
    · rw [if_pos hvx] at he
      have HE := Lib.hid he
      subst hvx
      clear he
      go_wp2_with fail
      go_ret
      exact ⟨by rw [HE.out]; rfl, bel⟩
    · rw [if_neg hvx] at he
      have HE := Lib.hid he
      have hvb : (v == x) = false := by simpa using hvx
      clear he
      go_wp2_with fail
      go_roundw
      case rel => exact ⟨k + 1, by omega, by go_num, HE.out, bel⟩
      case measure => simp [intOf]; omega

theorem contains_bool (B n c : Nat) (A : Option Addr) (l : List Bool) (v : Bool) (w : World) (hl : BosAt w B A n l) (hB : B ≤ w.heap.size) (hn : n ≤ 1000000) :
    Calls Tryz.prog 47 #[.slice A n c, .bool v] w (Ret w (.bool (l.contains v))) := by
  have HI := Lib.hid (fun W (hW : Below w.heap.size w W) => index_bool B n c A l v W (hl.tr hW hB) (Nat.le_trans hB hW.size) hn)
  have hs := idxB_sign v l 0
  generalize idxB v l 0 = r at *
  rw [← hs]
  clear hs hl
  by_cases hr : 0 ≤ r
  · have hd : decide (0 ≤ r) = true := decide_eq_true hr
    rw [hd]
    clear hd
    go_enter Tryz.func47, Tryz.ntmps47
    go_wp2_with (go_at_call 86; (with_reducible refine (HI.out _ bel).mono ?_); rintro e w1 ⟨rfl, hb1⟩)
    go_ret
    exact ⟨by simp [hr], bel⟩
  · have hd : decide (0 ≤ r) = false := decide_eq_false hr
    rw [hd]
    clear hd
    go_enter Tryz.func47, Tryz.ntmps47
    go_wp2_with (go_at_call 86; (with_reducible refine (HI.out _ bel).mono ?_); rintro e w1 ⟨rfl, hb1⟩)
    go_ret
    exact ⟨by simp [hr], bel⟩
theorem bos_more {w : World} {B B' n : Nat} {A : Option Addr} {l : List Bool} (h : BosAt w B A n l) (hB : B ≤ B') : BosAt w B' A n l :=
  ⟨h.1, fun hn => by
    obtain ⟨b, off, e, hb, hc⟩ := h.2 hn
    exact ⟨b, off, e, by omega, hc⟩⟩
/-- a class's method Split, at one list of keys: f is its function -/
structure SplAt (rv : Value) (f : Nat) (L : List (List Nat)) (s : List Bool) : Prop where
  enter : ∀ (args : Array Value) (w : World), (callFunc f args).run Tryz.prog w = .ok (.enter f args) w
  len : s.length ≤ 1000000
  calls : ∀ (W : World) (B : Nat) (A : Option Addr) (c : Nat), RbsAt W B A L.length L → B ≤ W.heap.size → Calls Tryz.prog f #[rv, .slice A L.length c] W fun e w' => ∃ A' c', e = .returned (.slice A' s.length c') ∧ BosAt w' w'.heap.size A' s.length s ∧ Below W.heap.size W w'
set_option maxHeartbeats 2000000 in
theorem opsplit_any (t : TypeId) (rv : Value) (f : Nat) (L : List (List Nat)) (s : List Bool) (hmS : ∀ w, (Go.method 329 t rv "Split").run Tryz.prog w = .ok (f, rv) w) (hS : SplAt rv f L s) (B c : Nat) (A : Option Addr) (w : World) (hl : RbsAt w B A L.length L) (hB : B ≤ w.heap.size) :
    Calls Tryz.prog 23 #[.iface t rv, .slice A L.length c] w (Ret w (.bool (splitOkS L s))) := by
  have HS := Lib.hid (fun W (hW : Below w.heap.size w W) => hS.calls W B A c (hl.tr hW hB) (Nat.le_trans hB hW.size))
  have hEn := hS.enter
  have HC := Lib.hid (fun v A c W (h : BosAt W W.heap.size A s.length s) => contains_bool W.heap.size s.length c A s v W h (Nat.le_refl _) hS.len)
  clear hl hS
  have e : splitOkS L s = (decide (s.length = L.length) && (s.contains true && s.contains false)) := rfl
  rw [e]
  clear e
  by_cases hn : s.length = L.length
  case neg =>
    have hn1 : ¬ (s.length : Int) = (L.length : Int) := by omega
    have hn2 : ((s.length : Int) == (L.length : Int)) = false := by rw [beq_eq_false_iff_ne]; exact hn1
    rw [decide_eq_false hn, Bool.false_and]
    clear hn
    generalize s.length = m at *
    go_enter Tryz.func23, Tryz.ntmps23
    go_wp2_with ((refine (HS.out _ bel).mono ?_); rintro e w1 ⟨A1, c1, rfl, hbo, hb1⟩)
    go_ret
    exact ⟨by simp [hn2], bel⟩
  rw [decide_eq_true hn, Bool.true_and]
  obtain ⟨bt, hbt⟩ : ∃ v, s.contains true = v := ⟨_, rfl⟩
  obtain ⟨bf, hbf⟩ : ∃ v, s.contains false = v := ⟨_, rfl⟩
  have HT := Lib.hid (fun A c W h => HC.out true A c W h)
  have HF := Lib.hid (fun A c W h => HC.out false A c W h)
  rw [hbt] at HT
  rw [hbf] at HF
  rw [hbt, hbf]
  clear hbt hbf HC
  rw [hn] at HS HT HF
  clear hn
  generalize L.length = m at *
  cases bt <;> cases bf
  all_goals (go_enter Tryz.func23, Tryz.ntmps23)
  all_goals (go_wp2_with (first | (go_at_call 47; (with_reducible refine (HT.out _ _ _ (bos_more (hbo.tr bel (Nat.le_refl _)) (Below.size (B := w1.heap.size) bel))).mono ?_); rintro e w2 ⟨rfl, hb2⟩) | (go_at_call 47; (with_reducible refine (HF.out _ _ _ (bos_more (hbo.tr bel (Nat.le_refl _)) (Below.size (B := w1.heap.size) bel))).mono ?_); rintro e w3 ⟨rfl, hb3⟩) | ((refine (HS.out _ bel).mono ?_); rintro e w1 ⟨A1, c1, rfl, hbo, hb1⟩)))
  all_goals go_ret
  all_goals exact ⟨by simp, bel⟩
end Go.Proofs.YtahiaekoaokgnaaGreat
set_option linter.unusedSimpArgs false
set_option linter.unusedVariables false
namespace Go.Proofs.YtahiaekoaokgnaaGreat
open Go.RowKit Pg
set_option maxHeartbeats 2000000 in
set_option maxRecDepth 20000 in
theorem cloneB_own (B n c : Nat) (A : Option Addr) (l : List Nat) (w : World) (hl : BysAt w B A n l) (hB : B ≤ w.heap.size) (hn2 : n ≤ 1000000) (hnc : n ≤ c) (hAn : A = none → c = 0) :
    Calls Tryz.prog 22 #[.slice A n c] w (RetB w l) := by
  obtain ⟨i0, hi, iz0, iz1, iz2⟩ := info_parts Tryz.infoByte
  have q22 : ∀ (w : World) (a : Option Addr) (n c n' c' : Nat), (binOp .eql 35 (.slice a n c) (.slice none n' c')).run Tryz.prog w = .ok (.bool a.isNone) w := fun w a n c n' c' => Lib.run_eql_slice_nil w _ _ a n c n' c' Tryz.underlying35
  cases A with
  | none =>
    have hc0 := hAn rfl
    have hn0 : n = 0 := by omega
    subst hc0 hn0
    have hl0 : l = [] := List.eq_nil_of_length_eq_zero hl.1
    subst hl0
    clear hl
    go_enter Tryz.func22, Tryz.ntmps22
    go_wp2
    go_ret
    exact ⟨_, rfl, World.ownsRow_nil _ _ _ _, bel⟩
  | some ad =>
  have hnews : ∀ (j : Nat) (u : Value), (ycells l)[j]? = some u → w.cell? (ad.add j) = some u := by
    intro j u hj
    rcases Nat.eq_zero_or_pos n with h0 | hn
    · have hl0 : l = [] := List.eq_nil_of_length_eq_zero (hl.1.trans h0)
      subst hl0
      simp [ycells] at hj
    · obtain ⟨b, off, e, _⟩ := hl.2 hn
      injection e with e
      subst e
      exact BysAt.news hl hn j u hj
  have hln := hl.1
  have HN := Lib.hid hnews
  clear hl hnews
  go_enter Tryz.func22, Tryz.ntmps22
  go_wp2_with (at_builtin; refine wpList_append_own _ rfl _ _ 35 rfl w.heap.size 5 i0 (.int .u8 0) 1 1 Tryz.underlying35 hi iz0 iz1 iz2 rfl (by decide) _ _ _ rfl (World.ownsRow_made w #[] 0 (Nat.le_refl _) (Nat.zero_le _) rfl) ad n c (ycells l) rfl ?qc1 ?qc2 ?qc3 ?qc4 ?qc5 ?qc6 ?_)
  case qc1 => simp [ycells, hln]
  case qc2 =>
    intro j u hj
    exact Lib.cell?_alloc_some _ (HN.out j u hj)
  case qc3 => exact ycells_one l
  case qc4 => unfold maxLen; omega
  case qc5 => omega
  case qc6 => simp
  intro v' w1 hown hgrow hnil
  try rw [Nat.zero_add] at hown
  go_wp2
  go_ret
  exact ⟨_, rfl, by rw [hln]; exact hown, ((Below.refl _ w).alloc (Nat.le_refl _) _).grown hgrow (by simp) (by intro k hk; simp [Value.ownBlock] at hk; omega)⟩

/-- a class in memory: its methods do what C says, at keys of bytes of some length -/
structure ClAt (t : TypeId) (rv : Value) (C : Cl) (fM fC fD fU fS : Nat) : Prop where
  mM : ∀ w, (Go.method 329 t rv "Make").run Tryz.prog w = .ok (fM, rv) w
  mC : ∀ w, (Go.method 329 t rv "Consistent").run Tryz.prog w = .ok (fC, rv) w
  mD : ∀ w, (Go.method 329 t rv "Dist").run Tryz.prog w = .ok (fD, rv) w
  mU : ∀ w, (Go.method 329 t rv "Union").run Tryz.prog w = .ok (fU, rv) w
  mS : ∀ w, (Go.method 329 t rv "Split").run Tryz.prog w = .ok (fS, rv) w
  nC : ∀ w, (nilAhead 329 t rv "Consistent").run Tryz.prog w = .ok (some false) w
  nD : ∀ w, (nilAhead 329 t rv "Dist").run Tryz.prog w = .ok (some false) w
  eM : ∀ (args : Array Value) (w : World), (callFunc fM args).run Tryz.prog w = .ok (.enter fM args) w
  eU : ∀ (args : Array Value) (w : World), (callFunc fU args).run Tryz.prog w = .ok (.enter fU args) w
  form : ∀ o, (∀ x ∈ (C.make o).2, x < 256) ∧ (C.make o).2.length ≤ 1000000
  formU : ∀ L, (∀ l ∈ L, ∀ x ∈ l, x < 256) → (∀ l ∈ L, l.length ≤ 1000000) → (∀ x ∈ C.un L, x < 256) ∧ (C.un L).length ≤ 1000000
  make : ∀ (W : World) (B m c : Nat) (k : Int) (A : Option Addr) (l : List Pt), PtsAt W B A m l → B ≤ W.heap.size → m ≤ 1000000 →
    Calls Tryz.prog fM #[rv, obV k A m c] W fun e w' => ∃ s v, e = .returned (.tuple #[s, v]) ∧ w'.ownsRow W.heap.size 5 1 s (C.make ⟨k, l⟩).2.length (ycells (C.make ⟨k, l⟩).2) ∧ ((C.make ⟨k, l⟩).1 = 0 → v = .nilIface) ∧ ((C.make ⟨k, l⟩).1 ≠ 0 → ∃ t u, v = .iface t u) ∧ Below W.heap.size W w'
  cons : ∀ Y, (∀ x ∈ Y, x < 256) → Y.length ≤ 1000000 → ConsAt rv fC Y (C.cons Y)
  far : ∀ Y, (∀ x ∈ Y, x < 256) → Y.length ≤ 1000000 → DistAt rv fD Y (C.far Y)
  un : ∀ (W : World) (B c : Nat) (A : Option Addr) (L : List (List Nat)), RbsAt W B A L.length L → B ≤ W.heap.size → L.length ≤ 1000000 → (∀ l ∈ L, ∀ x ∈ l, x < 256) → (∀ l ∈ L, l.length ≤ 1000000) → Calls Tryz.prog fU #[rv, .slice A L.length c] W (RetB W (C.un L))
  split : ∀ L, L.length ≤ 1000000 → (∀ l ∈ L, ∀ x ∈ l, x < 256) → (∀ l ∈ L, l.length ≤ 1000000) → SplAt rv fS L (C.split L)
end Go.Proofs.YtahiaekoaokgnaaGreat
