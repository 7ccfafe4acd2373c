/-
  Contracts of slices.Grow and slices.Concat at bytes; rows of rows of bytes.
-/
import Derived.Test.YtmaogalgganhgaaEncA
import Derived.Lib.AppendZeros
import Derived.Laws.AppendOwnNone
set_option linter.unusedSimpArgs false
set_option linter.unusedVariables false
namespace Go.Proofs.Ytmaogalgganhgaa
open Go.RowKit Pg

theorem ownB_below {w w' : World} {base : Nat} {e : TypeId} {size : Nat} {v : Value} {n : Nat} {xs : List Value} (h : w.ownsRow base e size v n xs) (hb : Below w.heap.size w w') : w'.ownsRow base e size v n xs := by
  obtain ⟨h1, h2 | ⟨g, cap, cur, hv, hg, hh, r⟩⟩ := h
  · exact ⟨h1, .inl h2⟩
  · exact ⟨h1, .inr ⟨g, cap, cur, hv, hg, (hb.block g (lt_of_block hh)).trans hh, r⟩⟩
theorem ownB_base {w : World} {base base' : Nat} {e : TypeId} {size : Nat} {v : Value} {n : Nat} {xs : List Value} (h : w.ownsRow base e size v n xs) (hb : base' ≤ base) : w.ownsRow base' e size v n xs := by
  obtain ⟨h1, h2 | ⟨g, cap, cur, hv, hg, hh, r⟩⟩ := h
  · exact ⟨h1, .inl h2⟩
  · exact ⟨h1, .inr ⟨g, cap, cur, hv, Nat.le_trans hb hg, hh, r⟩⟩
/-- the slice value with address A and length m reads as the rows of bytes L, all below block B -/
def RbsAt (w : World) (B : Nat) (A : Option Addr) (m : Nat) (L : List (List Nat)) : Prop :=
  L.length = m ∧ (0 < m → ∃ b off, A = some ⟨b, off, none⟩ ∧ b < B ∧ ∀ k l, L[k]? = some l → ∃ A' n c, w.cell? ⟨b, off + k, none⟩ = some (.slice A' n c) ∧ BysAt w B A' n l ∧ (A' = none → c = 0) ∧ n ≤ c)
theorem RbsAt.keep {w w' : World} {B m : Nat} {A : Option Addr} {L : List (List Nat)} (h : RbsAt w B A m L) (hk : ∀ p : Addr, p.block < B → w'.cell? p = w.cell? p) : RbsAt w' B A m L :=
  ⟨h.1, fun hn => by
    obtain ⟨b, off, e, hb, hc⟩ := h.2 hn
    refine ⟨b, off, e, hb, fun k l hl => ?_⟩
    obtain ⟨A', n, c, h1, h2, h3⟩ := hc k l hl
    exact ⟨A', n, c, (hk _ hb).trans h1, h2.keep hk, h3⟩⟩
theorem RbsAt.below {w w' : World} {B m : Nat} {A : Option Addr} {L : List (List Nat)} (h : RbsAt w B A m L) (hb : Below B w w') : RbsAt w' B A m L := h.keep fun _ hp => hb.cell hp
theorem RbsAt.tr {W w1 : World} {B m : Nat} {A : Option Addr} {L : List (List Nat)} (h : RbsAt W B A m L) (hb : Below W.heap.size W w1) (hB : B ≤ W.heap.size) : RbsAt w1 B A m L := h.below (hb.mono hB)
/-- row k -/
theorem RbsAt.at_ {w : World} {B m : Nat} {A : Option Addr} {L : List (List Nat)} (h : RbsAt w B A m L) {k : Nat} (hk : k < m) :
    ∃ b off A' n c, A = some ⟨b, off, none⟩ ∧ b < B ∧ w.cell? ⟨b, off + k, none⟩ = some (.slice A' n c) ∧ BysAt w B A' n (L.getD k []) ∧ L[k]? = some (L.getD k []) ∧ (A' = none → c = 0) ∧ n ≤ c := by
  obtain ⟨b, off, e, hb, hc⟩ := h.2 (by omega)
  have hl : k < L.length := by rw [h.1]; exact hk
  have he : L[k]? = some (L.getD k []) := by rw [List.getD_eq_getElem?_getD, List.getElem?_eq_getElem hl]; rfl
  obtain ⟨A', n, c, h1, h2, h3⟩ := hc k _ he
  exact ⟨b, off, A', n, c, e, hb, h1, h2, he, h3⟩
theorem flat_take {α : Type} {L : List (List α)} {k : Nat} {l : List α} (h : L[k]? = some l) : (L.take (k + 1)).flatten = (L.take k).flatten ++ l := by
  rw [List.take_add_one, h, List.flatten_append]
  simp
theorem flat_le {α : Type} (L : List (List α)) (k : Nat) : (L.take k).flatten.length ≤ L.flatten.length := by
  conv => rhs; rw [← List.take_append_drop k L, List.flatten_append, List.length_append]
  omega
/-- the cells of a row of bytes, at its address -/
theorem BysAt.news {w : World} {B n : Nat} {ad : Addr} {l : List Nat} (h : BysAt w B (some ad) n l) (hn : 0 < n) : ∀ (j : Nat) (u : Value), (ycells l)[j]? = some u → w.cell? (ad.add j) = some u := by
  obtain ⟨b, off, e, hb, hc⟩ := h.2 hn
  injection e with e
  subst e
  intro j u hu
  have hp : (⟨b, off, none⟩ : Addr).add j = ⟨b, off + j, none⟩ := by unfold Addr.add; split <;> simp_all
  unfold ycells at hu
  rw [List.getElem?_map] at hu
  cases hl : l[j]? with
  | none => rw [hl] at hu; cases hu
  | some c =>
    rw [hl] at hu
    simp only [Option.map_some, Option.some.injEq] at hu
    subst hu
    rw [hp]
    exact hc j c hl
theorem ycells_one (l : List Nat) : ∀ u ∈ ycells l, u.oneCell' = true := by
  intro u hu
  unfold ycells at hu
  rw [List.mem_map] at hu
  obtain ⟨c, _, rfl⟩ := hu
  rfl

set_option maxHeartbeats 2000000 in
set_option maxRecDepth 20000 in
theorem growB_any (n : Nat) (hn : n ≤ 1000000) (w : World) : Calls Try.prog 13 #[.slice none 0 0, .int .i64 n] w (fun e w' => ∃ s, e = .returned s ∧ w'.ownsRow w.heap.size 5 1 s 0 [] ∧ Below w.heap.size w w') := by
  obtain ⟨i0, hi, hz0, hz1, hz2⟩ := info_parts Try.infoByte
  by_cases h0 : n = 0
  · subst h0
    go_enter Try.func13, Try.ntmps13
    go_wp2
    go_ret
    exact ⟨_, rfl, World.ownsRow_nil _ _ _ _, (by repeat (first | with_reducible exact Below.refl _ _ | with_reducible assumption | with_reducible refine al ?_ _ | with_reducible refine Below.drew ?_ | with_reducible refine Below.setCell ?_ (by first | (simp; done) | (simp; omega)) _ | with_reducible refine tr ?_ (by with_reducible assumption)))⟩
  · have hG1 : n ≤ grownCap w n 0 5 := grownCap_ge w _ _ _
    have hG2 : grownCap w n 0 5 ≤ maxLen := grownCap_le_maxLen w _ _ _ (by unfold maxLen; omega)
    have hrz : ∀ ty, (Builtin.append_ #[36, 3] ty #[.slice none 0 0, .int .i64 n]).run Try.prog w = .ok (.slice (some ⟨w.heap.size, 0, none⟩) n (grownCap w n 0 5)) (w.drew.alloc (.cells (Builtin.zeroCells (Value.int .u8 0).cells n ++ Builtin.zeroCells (Value.int .u8 0).cells (grownCap w n 0 5 - n)) 5)) := fun ty =>
      Lib.run_append_nil_zeros w _ _ ty _ i0 _ .i64 .i64 Try.underlying36 Try.underlying3 hi hz0 n (by omega) (by rw [hz1]; decide) (by omega) (by rw [hz2]; omega)
    have hsz : (Builtin.zeroCells (Value.int .u8 0).cells n ++ Builtin.zeroCells (Value.int .u8 0).cells (grownCap w n 0 5 - n)).size = grownCap w n 0 5 * 1 := by
      rw [Array.size_append, size_zeroCells, size_zeroCells]
      have : (Value.int .u8 0).cells.size = 1 := rfl
      rw [this]
      omega
    generalize grownCap w n 0 5 = G at *
    generalize Builtin.zeroCells (Value.int .u8 0).cells n ++ Builtin.zeroCells (Value.int .u8 0).cells (G - n) = cs at *
    have hG3 : (G : Int) ≤ 9223372036854775807 := by unfold maxLen at hG2; omega
    have hG4 : (n : Int) ≤ G := by omega
    have hn0 : (0 : Int) < (n : Int) := by omega
    go_enter Try.func13, Try.ntmps13
    go_wp2_with (at_builtin; refine Lib.wpList_append_run _ rfl _ _ _ _ rfl _ _ rfl rfl _ _ (hrz _) ?_)
    all_goals
      go_wp2
      go_ret
      exact ⟨_, rfl, World.ownsRow_made (base := w.heap.size) (e := 5) (size := 1) w.drew cs G (Nat.le_refl _) hG2 hsz, (by repeat (first | with_reducible exact Below.refl _ _ | with_reducible assumption | with_reducible refine al ?_ _ | with_reducible refine Below.drew ?_ | with_reducible refine Below.setCell ?_ (by first | (simp; done) | (simp; omega)) _ | with_reducible refine tr ?_ (by with_reducible assumption)))⟩

set_option maxHeartbeats 4000000 in
set_option maxRecDepth 20000 in
theorem concatB_any (B m c : Nat) (A : Option Addr) (L : List (List Nat)) (w : World) (hl : RbsAt w B A m L) (hB : B ≤ w.heap.size) (hm : m ≤ 1000000) (hL : L.flatten.length ≤ 1000000) :
    Calls Try.prog 11 #[.slice A m c] w (RetB w L.flatten) := by
  obtain ⟨i0, hi, hz0, hz1, hz2⟩ := info_parts Try.infoByte
  go_enter Try.func11, Try.ntmps11
  go_wp2
  go_loopw [3, 11] (fun vs vi wr => ∃ k : Nat, k ≤ m ∧ vi = .int .i64 k ∧ vs = .int .i64 ((L.take k).flatten.length : Nat) ∧ Below w.heap.size w wr) (fun _ vi _ => m - (intOf vi).toNat)
  case atStart => exact ⟨0, Nat.zero_le _, rfl, rfl, Below.refl _ _⟩
  case round =>
    obtain ⟨k, hk, rfl, rfl, hb⟩ := hrel
    by_cases hlt : k < m
    · obtain ⟨b, off, A', n, cc, rfl, hab, hcell, hby, he, hz, hnc⟩ := (hl.below (hb.mono hB)).at_ hlt
      have hf := flat_take he
      have h1 := flat_le L (k + 1)
      rw [hf, List.length_append, hby.1] at h1
      have HF := Lib.hid hf
      have hlen := hby.1
      have HB := Lib.hid hby
      clear hf hby
      generalize hq : (L.take k).flatten.length = q at *
      go_wp2
      go_roundw
      case rel => exact ⟨k + 1, by omega, by go_num, by rw [HF.out, List.length_append, hq, hlen]; go_num, (by repeat (first | with_reducible exact Below.refl _ _ | with_reducible assumption | with_reducible refine al ?_ _ | with_reducible refine Below.drew ?_ | with_reducible refine Below.setCell ?_ (by first | (simp; done) | (simp; omega)) _ | with_reducible refine tr ?_ (by with_reducible assumption)))⟩
      case measure => simp [intOf]; omega
    · obtain rfl : k = m := by omega
      have e : L.take k = L := List.take_of_length_le (by rw [hl.1]; exact Nat.le_refl _)
      rw [e]
      clear e hlt
      obtain ⟨T, hT⟩ : ∃ T, L.flatten.length = T := ⟨_, rfl⟩
      have hT1 : T ≤ 1000000 := by omega
      have HT := Lib.hid hT
      rw [hT]
      clear hT hL
      go_wp2_with (go_at_call 13; refine (growB_any _ hT1 _).mono ?_; rintro e w1 ⟨s, rfl, hown, hb1⟩)
      have hown0 : w1.ownsRow w.heap.size 5 1 s ([] : List Nat).length (ycells []) := ownB_base hown hb.size
      have hbb : Below w.heap.size w w1 := (by repeat (first | with_reducible exact Below.refl _ _ | with_reducible assumption | with_reducible refine al ?_ _ | with_reducible refine Below.drew ?_ | with_reducible refine Below.setCell ?_ (by first | (simp; done) | (simp; omega)) _ | with_reducible refine tr ?_ (by with_reducible assumption)))
      clear hown hb hb1
      go_loopw [6, 27] (fun vs vi wr => ∃ j : Nat, j ≤ k ∧ vi = .int .i64 j ∧ wr.ownsRow w.heap.size 5 1 vs (L.take j).flatten.length (ycells (L.take j).flatten) ∧ Below w.heap.size w wr) (fun _ vi _ => k - (intOf vi).toNat)
      case atStart => exact ⟨0, Nat.zero_le _, rfl, hown0, hbb⟩
      case round =>
        clear hown0 hbb
        obtain ⟨j, hj, rfl, hown, hb⟩ := hrel
        by_cases hlt : j < k
        · obtain ⟨b, off, A', n, cc, rfl, hab, hcell, hby, he, hz, hnc⟩ := (hl.below (hb.mono hB)).at_ hlt
          have hf := flat_take he
          have h1 := flat_le L (j + 1)
          rw [hf, List.length_append, hby.1, HT.out] at h1
          have HF := Lib.hid hf
          have hlen := hby.1
          have hbs := hb.size
          clear he
          by_cases hn : n = 0
          · subst hn
            have hnil : L.getD j [] = [] := List.length_eq_zero_iff.1 hlen
            rw [hnil, List.append_nil] at hf
            have HF2 := Lib.hid hf
            clear hf HF hby
            cases A' with
            | none =>
              have hcc := hz rfl
              subst hcc
              clear hz hlen hnil
              go_wp2_with (at_builtin; refine wpList_append_own_none rfl _ _ 36 rfl w.heap.size 5 i0 1 Try.underlying36 hi _ _ _ rfl hown rfl ?_)
              have HO := Lib.hid hown
              clear hown
              go_wp2
              go_roundw
              case rel => exact ⟨j + 1, by omega, by go_num, by rw [HF2.out]; exact HO.out, (by repeat (first | with_reducible exact Below.refl _ _ | with_reducible assumption | with_reducible refine al ?_ _ | with_reducible refine Below.drew ?_ | with_reducible refine Below.setCell ?_ (by first | (simp; done) | (simp; omega)) _ | with_reducible refine tr ?_ (by with_reducible assumption)))⟩
              case measure => simp [intOf]; omega
            | some ad =>
              clear hz
              generalize (L.take j).flatten = pre at *
              go_wp2_with (at_builtin; refine wpList_append_own _ rfl _ _ 36 rfl w.heap.size 5 i0 (.int .u8 0) 1 1 Try.underlying36 hi hz0 hz1 hz2 rfl (by decide) _ _ _ rfl hown ad 0 cc [] rfl rfl (fun j u hu => by cases hu) (fun u hu => by cases hu) ?c3 ?c4 ?c5 ?_)
              case c3 => unfold maxLen; omega
              case c4 => omega
              case c5 => omega
              intro v' w1 hown' hgrow _
              have hnx1 : Below w.heap.size w w1 := hb.grown hgrow hbs (fun k hk => (hown.lt k hk).1)
              have HO := Lib.hid hown'
              have HL := Lib.hid hlen
              clear hown' hgrow hown hlen hnil
              go_wp2
              go_roundw
              case rel => exact ⟨j + 1, by omega, by go_num, by rw [HF2.out]; have := HO.out; simpa using this, (by repeat (first | with_reducible exact Below.refl _ _ | with_reducible assumption | with_reducible refine al ?_ _ | with_reducible refine Below.drew ?_ | with_reducible refine Below.setCell ?_ (by first | (simp; done) | (simp; omega)) _ | with_reducible refine tr ?_ (by with_reducible assumption)))⟩
              case measure => simp [intOf]; omega
          · obtain ⟨b', off', rfl, hb', hc'⟩ := hby.2 (by omega)
            have hnews := hby.news (by omega)
            generalize (L.take j).flatten = pre at *
            have HNW := Lib.hid hnews
            clear hf hby hc' hz hnews
            go_wp2_with (at_builtin; refine wpList_append_own _ rfl _ _ 36 rfl w.heap.size 5 i0 (.int .u8 0) 1 1 Try.underlying36 hi hz0 hz1 hz2 rfl (by decide) _ _ _ rfl hown ⟨b', off', none⟩ n cc (ycells (L.getD j [])) rfl (by rw [ycells_len, hlen]; omega) HNW.out (ycells_one _) ?c3 ?c4 ?c5 ?_)
            case c3 => unfold maxLen; omega
            case c4 => omega
            case c5 => omega
            intro v' w1 hown' hgrow _
            have hnx1 : Below w.heap.size w w1 := hb.grown hgrow hbs (fun k hk => (hown.lt k hk).1)
            have HO := Lib.hid hown'
            have HL := Lib.hid hlen
            clear hown' hgrow hown hlen
            go_wp2
            go_roundw
            case rel => exact ⟨j + 1, by omega, by go_num, by rw [HF.out, List.length_append, ycells_app, HL.out]; exact HO.out, (by repeat (first | with_reducible exact Below.refl _ _ | with_reducible assumption | with_reducible refine al ?_ _ | with_reducible refine Below.drew ?_ | with_reducible refine Below.setCell ?_ (by first | (simp; done) | (simp; omega)) _ | with_reducible refine tr ?_ (by with_reducible assumption)))⟩
            case measure => simp [intOf]; omega
        · obtain rfl : j = k := by omega
          have e : L.take j = L := List.take_of_length_le (by rw [hl.1]; exact Nat.le_refl _)
          rw [e] at hown
          clear e hlt
          go_wp2
          go_ret
          exact ⟨_, rfl, hown, hb⟩
end Go.Proofs.Ytmaogalgganhgaa
