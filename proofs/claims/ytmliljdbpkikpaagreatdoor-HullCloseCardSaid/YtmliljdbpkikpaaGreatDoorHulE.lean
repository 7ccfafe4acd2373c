/-
  slices.Grow, Concat at points.
  hull.check.
  hull.Hull.
-/
import Derived.Test.YtmliljdbpkikpaaGreatDoorHulA
import Derived.Lib.AppendZeros
import Derived.Lib.SliceRun
import Derived.Laws.AppendOwnNone
import Derived.Test.YtmliljdbpkikpaaGreatDoorRel1
set_option linter.unusedSimpArgs false
set_option linter.unusedVariables false
namespace Go.Proofs.YtmliljdbpkikpaaGreatDoor
open Go.RowKit Pg
theorem ptcells_app (l m : List Pt) : ptcells (l ++ m) = ptcells l ++ ptcells m := by simp [ptcells]
theorem ownB_baseP {w : World} {base base' : Nat} {e : TypeId} {size : Nat} {v : Value} {n : Nat} {xs : List Value} (h : w.ownsRow base e size v n xs) (hb : base' ≤ base) : w.ownsRow base' e size v n xs := by
  obtain ⟨h1, h2 | ⟨g, cap, cur, hv, hg, hh, r⟩⟩ := h
  · exact ⟨h1, .inl h2⟩
  · exact ⟨h1, .inr ⟨g, cap, cur, hv, Nat.le_trans hb hg, hh, r⟩⟩
/-- the slice value with address A and length m reads as the rows of points L, all below block B -/
def RpsAt (w : World) (B : Nat) (A : Option Addr) (m : Nat) (L : List (List Pt)) : Prop :=
  L.length = m ∧ (0 < m → ∃ b off, A = some ⟨b, off, none⟩ ∧ b < B ∧ ∀ k l, L[k]? = some l → ∃ A' n c, w.cell? ⟨b, off + k, none⟩ = some (.slice A' n c) ∧ PtsAt w B A' n l ∧ (A' = none → c = 0) ∧ n ≤ c)
theorem RpsAt.keep {w w' : World} {B m : Nat} {A : Option Addr} {L : List (List Pt)} (h : RpsAt w B A m L) (hk : ∀ p : Addr, p.block < B → w'.cell? p = w.cell? p) : RpsAt w' B A m L :=
  ⟨h.1, fun hn => by
    obtain ⟨b, off, e, hb, hc⟩ := h.2 hn
    refine ⟨b, off, e, hb, fun k l hl => ?_⟩
    obtain ⟨A', n, c, h1, h2, h3⟩ := hc k l hl
    exact ⟨A', n, c, (hk _ hb).trans h1, h2.keep hk, h3⟩⟩
theorem RpsAt.below {w w' : World} {B m : Nat} {A : Option Addr} {L : List (List Pt)} (h : RpsAt w B A m L) (hb : Below B w w') : RpsAt w' B A m L := h.keep fun _ hp => hb.cell hp
theorem RpsAt.tr {W w1 : World} {B m : Nat} {A : Option Addr} {L : List (List Pt)} (h : RpsAt W B A m L) (hb : Below W.heap.size W w1) (hB : B ≤ W.heap.size) : RpsAt w1 B A m L := h.below (hb.mono hB)
/-- row k -/
theorem RpsAt.at_ {w : World} {B m : Nat} {A : Option Addr} {L : List (List Pt)} (h : RpsAt w B A m L) {k : Nat} (hk : k < m) :
    ∃ b off A' n c, A = some ⟨b, off, none⟩ ∧ b < B ∧ w.cell? ⟨b, off + k, none⟩ = some (.slice A' n c) ∧ PtsAt w B A' n (L.getD k []) ∧ L[k]? = some (L.getD k []) ∧ (A' = none → c = 0) ∧ n ≤ c := by
  obtain ⟨b, off, e, hb, hc⟩ := h.2 (by omega)
  have hl : k < L.length := by rw [h.1]; exact hk
  have he : L[k]? = some (L.getD k []) := by rw [List.getD_eq_getElem?_getD, List.getElem?_eq_getElem hl]; rfl
  obtain ⟨A', n, c, h1, h2, h3⟩ := hc k _ he
  exact ⟨b, off, A', n, c, e, hb, h1, h2, he, h3⟩
theorem flat_takeP {α : Type} {L : List (List α)} {k : Nat} {l : List α} (h : L[k]? = some l) : (L.take (k + 1)).flatten = (L.take k).flatten ++ l := by
  rw [List.take_add_one, h, List.flatten_append]
  simp
theorem flat_leP {α : Type} (L : List (List α)) (k : Nat) : (L.take k).flatten.length ≤ L.flatten.length := by
  conv => rhs; rw [← List.take_append_drop k L, List.flatten_append, List.length_append]
  omega
set_option maxHeartbeats 2000000 in
set_option maxRecDepth 20000 in
theorem growP_any (n : Nat) (hn : n ≤ 1000000) (w : World) : Calls Tryz.prog 85 #[.slice none 0 0, .int .i64 n] w (fun e w' => ∃ s, e = .returned s ∧ w'.ownsRow w.heap.size 35 2 s 0 [] ∧ Below w.heap.size w w') := by
  obtain ⟨i0, hi, hz0, hz1, hz2⟩ := info_parts Tryz.infoPtH
  by_cases h0 : n = 0
  · subst h0
    go_enter Tryz.func85, Tryz.ntmps85
    go_wp2
    go_ret
    exact ⟨_, rfl, World.ownsRow_nil _ _ _ _, (by repeat (first | with_reducible exact Below.refl _ _ | with_reducible assumption | with_reducible refine al ?_ _ | with_reducible refine Below.drew ?_ | with_reducible refine Below.setCell ?_ (by first | (simp; done) | (simp; omega)) _ | with_reducible refine tr ?_ (by with_reducible assumption)))⟩
  · have hG1 : n ≤ grownCap w n 0 35 := grownCap_ge w _ _ _
    have hG2 : grownCap w n 0 35 ≤ maxLen := grownCap_le_maxLen w _ _ _ (by unfold maxLen; omega)
    have hrz : ∀ ty, (Builtin.append_ #[22, 3] ty #[.slice none 0 0, .int .i64 n]).run Tryz.prog w = .ok (.slice (some ⟨w.heap.size, 0, none⟩) n (grownCap w n 0 35)) (w.drew.alloc (.cells (Builtin.zeroCells (Value.agg #[.int .i64 0, .int .i64 0]).cells n ++ Builtin.zeroCells (Value.agg #[.int .i64 0, .int .i64 0]).cells (grownCap w n 0 35 - n)) 35)) := fun ty =>
      Lib.run_append_nil_zeros w _ _ ty _ i0 _ .i64 .i64 Tryz.underlying22 Tryz.underlying3 hi hz0 n (by omega) (by rw [hz1]; decide) (by omega) (by rw [hz2]; omega)
    have hsz : (Builtin.zeroCells (Value.agg #[.int .i64 0, .int .i64 0]).cells n ++ Builtin.zeroCells (Value.agg #[.int .i64 0, .int .i64 0]).cells (grownCap w n 0 35 - n)).size = grownCap w n 0 35 * 2 := by
      rw [Array.size_append, size_zeroCells, size_zeroCells]
      have : (Value.agg #[.int .i64 0, .int .i64 0]).cells.size = 2 := rfl
      rw [this]
      omega
    generalize grownCap w n 0 35 = G at *
    generalize Builtin.zeroCells (Value.agg #[.int .i64 0, .int .i64 0]).cells n ++ Builtin.zeroCells (Value.agg #[.int .i64 0, .int .i64 0]).cells (G - n) = cs at *
    have hG3 : (G : Int) ≤ 9223372036854775807 := by unfold maxLen at hG2; omega
    have hG4 : (n : Int) ≤ G := by omega
    have hn0 : (0 : Int) < (n : Int) := by omega
    go_enter Tryz.func85, Tryz.ntmps85
    go_wp2_with (at_builtin; refine Lib.wpList_append_run _ rfl _ _ _ _ rfl _ _ rfl rfl _ _ (hrz _) ?_)
    all_goals
      go_wp2
      go_ret
      exact ⟨_, rfl, World.ownsRow_made (base := w.heap.size) (e := 35) (size := 2) w.drew cs G (Nat.le_refl _) hG2 hsz, (by repeat (first | with_reducible exact Below.refl _ _ | with_reducible assumption | with_reducible refine al ?_ _ | with_reducible refine Below.drew ?_ | with_reducible refine Below.setCell ?_ (by first | (simp; done) | (simp; omega)) _ | with_reducible refine tr ?_ (by with_reducible assumption)))⟩

set_option maxHeartbeats 4000000 in
set_option maxRecDepth 20000 in
theorem concatP_any (B m c : Nat) (A : Option Addr) (L : List (List Pt)) (w : World) (hl : RpsAt w B A m L) (hB : B ≤ w.heap.size) (hm : m ≤ 1000000) (hL : L.flatten.length ≤ 1000000) :
    Calls Tryz.prog 57 #[.slice A m c] w fun e w' => ∃ s, e = .returned s ∧ w'.ownsRow w.heap.size 35 2 s L.flatten.length (ptcells L.flatten) ∧ Below w.heap.size w w' := by
  obtain ⟨i0, hi, hz0, hz1, hz2⟩ := info_parts Tryz.infoPtH
  go_enter Tryz.func57, Tryz.ntmps57
  go_wp2
  go_loopw [3, 11] (fun vs vi wr => ∃ k : Nat, k ≤ m ∧ vi = .int .i64 k ∧ vs = .int .i64 ((L.take k).flatten.length : Nat) ∧ Below w.heap.size w wr) (fun _ vi _ => m - (intOf vi).toNat)
  case atStart => exact ⟨0, Nat.zero_le _, rfl, rfl, Below.refl _ _⟩
  case round =>
    obtain ⟨k, hk, rfl, rfl, hb⟩ := hrel
    by_cases hlt : k < m
    · obtain ⟨b, off, A', n, cc, rfl, hab, hcell, hby, he, hz, hnc⟩ := (hl.below (hb.mono hB)).at_ hlt
      have hf := flat_takeP he
      have h1 := flat_leP L (k + 1)
      rw [hf, List.length_append, hby.1] at h1
      have HF := Lib.hid hf
      have hlen := hby.1
      have HB := Lib.hid hby
      clear hf hby
      generalize hq : (L.take k).flatten.length = q at *
      go_wp2
      go_roundw
      case rel => exact ⟨k + 1, by omega, by go_num, by rw [HF.out, List.length_append, hq, hlen]; go_num, (by repeat (first | with_reducible exact Below.refl _ _ | with_reducible assumption | with_reducible refine al ?_ _ | with_reducible refine Below.drew ?_ | with_reducible refine Below.setCell ?_ (by first | (simp; done) | (simp; omega)) _ | with_reducible refine tr ?_ (by with_reducible assumption)))⟩
      case measure => simp [intOf]; omega
    · obtain rfl : k = m := by omega
      have e : L.take k = L := List.take_of_length_le (by rw [hl.1]; exact Nat.le_refl _)
      rw [e]
      clear e hlt
      obtain ⟨T, hT⟩ : ∃ T, L.flatten.length = T := ⟨_, rfl⟩
      have hT1 : T ≤ 1000000 := by omega
      have HT := Lib.hid hT
      rw [hT]
      clear hT hL
      go_wp2_with (go_at_call 85; refine (growP_any _ hT1 _).mono ?_; rintro e w1 ⟨s, rfl, hown, hb1⟩)
      have hown0 : w1.ownsRow w.heap.size 35 2 s ([] : List Pt).length (ptcells []) := ownB_baseP hown hb.size
      have hbb : Below w.heap.size w w1 := (by repeat (first | with_reducible exact Below.refl _ _ | with_reducible assumption | with_reducible refine al ?_ _ | with_reducible refine Below.drew ?_ | with_reducible refine Below.setCell ?_ (by first | (simp; done) | (simp; omega)) _ | with_reducible refine tr ?_ (by with_reducible assumption)))
      clear hown hb hb1
      go_loopw [6, 27] (fun vs vi wr => ∃ j : Nat, j ≤ k ∧ vi = .int .i64 j ∧ wr.ownsRow w.heap.size 35 2 vs (L.take j).flatten.length (ptcells (L.take j).flatten) ∧ Below w.heap.size w wr) (fun _ vi _ => k - (intOf vi).toNat)
      case atStart => exact ⟨0, Nat.zero_le _, rfl, hown0, hbb⟩
      case round =>
        clear hown0 hbb
        obtain ⟨j, hj, rfl, hown, hb⟩ := hrel
        by_cases hlt : j < k
        · obtain ⟨b, off, A', n, cc, rfl, hab, hcell, hby, he, hz, hnc⟩ := (hl.below (hb.mono hB)).at_ hlt
          have hf := flat_takeP he
          have h1 := flat_leP L (j + 1)
          rw [hf, List.length_append, hby.1, HT.out] at h1
          have HF := Lib.hid hf
          have hlen := hby.1
          have hbs := hb.size
          clear he
          by_cases hn : n = 0
          · subst hn
            have hnil : L.getD j [] = [] := List.length_eq_zero_iff.1 hlen
            rw [hnil, List.append_nil] at hf
            have HF2 := Lib.hid hf
            clear hf HF hby
            cases A' with
            | none =>
              have hcc := hz rfl
              subst hcc
              clear hz hlen hnil
              go_wp2_with (at_builtin; refine wpList_append_own_none rfl _ _ 22 rfl w.heap.size 35 i0 2 Tryz.underlying22 hi _ _ _ rfl hown rfl ?_)
              have HO := Lib.hid hown
              clear hown
              go_wp2
              go_roundw
              case rel => exact ⟨j + 1, by omega, by go_num, by rw [HF2.out]; exact HO.out, (by repeat (first | with_reducible exact Below.refl _ _ | with_reducible assumption | with_reducible refine al ?_ _ | with_reducible refine Below.drew ?_ | with_reducible refine Below.setCell ?_ (by first | (simp; done) | (simp; omega)) _ | with_reducible refine tr ?_ (by with_reducible assumption)))⟩
              case measure => simp [intOf]; omega
            | some ad =>
              clear hz
              generalize (L.take j).flatten = pre at *
              go_wp2_with (at_builtin; refine wpList_append_own _ rfl _ _ 22 rfl w.heap.size 35 i0 (.agg #[.int .i64 0, .int .i64 0]) 2 16 Tryz.underlying22 hi hz0 hz1 hz2 rfl (by decide) _ _ _ rfl hown ad 0 cc [] rfl rfl (fun j u hu => by cases hu) (fun u hu => by cases hu) ?c3 ?c4 ?c5 ?_)
              case c3 => unfold maxLen; omega
              case c4 => omega
              case c5 => omega
              intro v' w1 hown' hgrow _
              have hnx1 : Below w.heap.size w w1 := hb.grown hgrow hbs (fun k hk => (hown.lt k hk).1)
              have HO := Lib.hid hown'
              have HL := Lib.hid hlen
              clear hown' hgrow hown hlen hnil
              go_wp2
              go_roundw
              case rel => exact ⟨j + 1, by omega, by go_num, by rw [HF2.out]; have := HO.out; simpa using this, (by repeat (first | with_reducible exact Below.refl _ _ | with_reducible assumption | with_reducible refine al ?_ _ | with_reducible refine Below.drew ?_ | with_reducible refine Below.setCell ?_ (by first | (simp; done) | (simp; omega)) _ | with_reducible refine tr ?_ (by with_reducible assumption)))⟩
              case measure => simp [intOf]; omega
          · obtain ⟨b', off', rfl, hb', hc'⟩ := hby.2 (by omega)
            have hnews := pts_cells hby (by omega)
            generalize (L.take j).flatten = pre at *
            have HNW := Lib.hid hnews
            clear hf hby hc' hz hnews
            go_wp2_with (at_builtin; refine wpList_append_own _ rfl _ _ 22 rfl w.heap.size 35 i0 (.agg #[.int .i64 0, .int .i64 0]) 2 16 Tryz.underlying22 hi hz0 hz1 hz2 rfl (by decide) _ _ _ rfl hown ⟨b', off', none⟩ n cc (ptcells (L.getD j [])) rfl (by rw [ptcells_len, hlen]) HNW.out (pt_one) ?c3 ?c4 ?c5 ?_)
            case c3 => unfold maxLen; omega
            case c4 => omega
            case c5 => omega
            intro v' w1 hown' hgrow _
            have hnx1 : Below w.heap.size w w1 := hb.grown hgrow hbs (fun k hk => (hown.lt k hk).1)
            have HO := Lib.hid hown'
            have HL := Lib.hid hlen
            clear hown' hgrow hown hlen
            go_wp2
            go_roundw
            case rel => exact ⟨j + 1, by omega, by go_num, by rw [HF.out, List.length_append, ptcells_app, HL.out]; exact HO.out, (by repeat (first | with_reducible exact Below.refl _ _ | with_reducible assumption | with_reducible refine al ?_ _ | with_reducible refine Below.drew ?_ | with_reducible refine Below.setCell ?_ (by first | (simp; done) | (simp; omega)) _ | with_reducible refine tr ?_ (by with_reducible assumption)))⟩
            case measure => simp [intOf]; omega
        · obtain rfl : j = k := by omega
          have e : L.take j = L := List.take_of_length_le (by rw [hl.1]; exact Nat.le_refl _)
          rw [e] at hown
          clear e hlt
          go_wp2
          go_ret
          exact ⟨_, rfl, hown, hb⟩
end Go.Proofs.YtmliljdbpkikpaaGreatDoor
set_option linter.unusedSimpArgs false
set_option linter.unusedVariables false
namespace Pg
open Go Go.RowKit
/-- the word 'hull' -/
abbrev hullW : ByteArray := { data := #[104, 117, 108, 108] }
/-- which point is the first that may not be -/
def firstBad (l : List Pt) : Option Nat := (List.range l.length).find? fun i => !okPt (pt l i)
/-- why points may not be: the code, and what it is of -/
def hullCk (l : List Pt) (least : Nat) : Nat × Int :=
  if l.length < least then (1, l.length) else if 1000 < l.length then (13, l.length) else match firstBad l with | some i => (2, i) | none => (0, 0)
theorem firstBad_some {l : List Pt} {k : Nat} (hk : k < l.length) (h : okPt (pt l k) = false) (hall : ∀ j, j < k → okPt (pt l j) = true) : firstBad l = some k := by
  unfold firstBad
  rw [List.find?_range_eq_some]
  refine ⟨by simp [h], by simpa using hk, fun j hj => by simp [hall j hj]⟩
theorem firstBad_none {l : List Pt} (hall : ∀ j, j < l.length → okPt (pt l j) = true) : firstBad l = none := by
  unfold firstBad
  rw [List.find?_eq_none]
  intro j hj
  simp [hall j (List.mem_range.1 hj)]
end Pg
namespace Go.Proofs.YtmliljdbpkikpaaGreatDoor
open Go.RowKit Pg
theorem fnewH_any (s : ByteArray) (id : Int) (v : Value) (k : Nat) (w : World) (hv : ErrC w v k) :
    Calls Tryz.prog 35 #[.string s, .int .i64 id, v] w (RetW w k s id) := by
  by_cases hk : k = 0
  · subst hk
    have := hv.zero
    subst this
    go_enter Tryz.func35, Tryz.ntmps35
    go_wp2
    go_ret
    exact ⟨_, rfl, .inl ⟨rfl, rfl⟩, (by repeat (first | with_reducible exact Below.refl _ _ | with_reducible assumption | with_reducible refine al ?_ _ | with_reducible refine Below.drew ?_ | with_reducible refine Below.setCell ?_ (by first | (simp; done) | (simp; omega)) _ | with_reducible refine tr ?_ (by with_reducible assumption)))⟩
  · obtain ⟨t, u, rfl⟩ := hv.succ hk
    go_enter Tryz.func35, Tryz.ntmps35
    go_wp2
    go_ret
    exact ⟨_, rfl, .inr ⟨hk, _, _, rfl, Blk.new rfl rfl, hv.alloc _⟩, (by repeat (first | with_reducible exact Below.refl _ _ | with_reducible assumption | with_reducible refine al ?_ _ | with_reducible refine Below.drew ?_ | with_reducible refine Below.setCell ?_ (by first | (simp; done) | (simp; omega)) _ | with_reducible refine tr ?_ (by with_reducible assumption)))⟩

set_option maxHeartbeats 2000000 in
set_option maxRecDepth 20000 in
theorem hcheck_any (B n c least : Nat) (A : Option Addr) (l : List Pt) (w : World) (hl : PtsAt w B A n l) (hB : B ≤ w.heap.size) (hn : n ≤ 1000000) (hls : least ≤ 2) :
    Calls Tryz.prog 48 #[.slice A n c, .int .i64 least] w (RetW w (hullCk l least).1 hullW (hullCk l least).2) := by
  have hln := hl.1
  by_cases h1 : n < least
  · have e : hullCk l least = (1, (n : Int)) := by unfold hullCk; rw [if_pos (by omega), hln]
    have h2 : (n : Int) < (least : Int) := by omega
    rw [e]
    clear hl e
    go_enter Tryz.func48, Tryz.ntmps48
    go_wp2_with (go_at_call 35; refine (fnewH_any _ _ _ 1 _ (.inl rfl)).mono ?_; rintro e w5 ⟨v5, rfl, hv5, hb5⟩)
    go_ret
    exact ⟨_, rfl, hv5, (by repeat (first | with_reducible exact Below.refl _ _ | with_reducible assumption | with_reducible refine al ?_ _ | with_reducible refine Below.drew ?_ | with_reducible refine Below.setCell ?_ (by first | (simp; done) | (simp; omega)) _ | with_reducible refine tr ?_ (by with_reducible assumption)))⟩
  by_cases h2 : 1000 < n
  · have e : hullCk l least = (13, (n : Int)) := by unfold hullCk; rw [if_neg (by omega), if_pos (by omega), hln]
    have h3 : ¬ (n : Int) < (least : Int) := by omega
    have h4 : (1000 : Int) < (n : Int) := by omega
    rw [e]
    clear hl e
    go_enter Tryz.func48, Tryz.ntmps48
    go_wp2_with (go_at_call 35; refine (fnewH_any _ _ _ 13 _ (.inl rfl)).mono ?_; rintro e w5 ⟨v5, rfl, hv5, hb5⟩)
    go_ret
    exact ⟨_, rfl, hv5, (by repeat (first | with_reducible exact Below.refl _ _ | with_reducible assumption | with_reducible refine al ?_ _ | with_reducible refine Below.drew ?_ | with_reducible refine Below.setCell ?_ (by first | (simp; done) | (simp; omega)) _ | with_reducible refine tr ?_ (by with_reducible assumption)))⟩
  have ek : hullCk l least = match firstBad l with | some i => (2, (i : Int)) | none => (0, 0) := by unfold hullCk; rw [if_neg (by omega), if_neg (by omega)]
  have h3 : ¬ (n : Int) < (least : Int) := by omega
  have h4 : ¬ (1000 : Int) < (n : Int) := by omega
  obtain ⟨r, hr⟩ : ∃ r, hullCk l least = r := ⟨_, rfl⟩
  rw [hr] at ek ⊢
  have HE := Lib.hid ek
  have HL := Lib.hid hl
  clear hr ek hl
  go_enter Tryz.func48, Tryz.ntmps48
  go_wp2
  go_loopw [27] (fun vi wr => ∃ k : Nat, k ≤ n ∧ vi = .int .i64 k ∧ (∀ j, j < k → okPt (pt l j) = true) ∧ Below w.heap.size w wr) (fun vi _ => n - (intOf vi).toNat)
  case atStart => exact ⟨0, by omega, rfl, fun j hj => absurd hj (by omega), (by repeat (first | with_reducible exact Below.refl _ _ | with_reducible assumption | with_reducible refine al ?_ _ | with_reducible refine Below.drew ?_ | with_reducible refine Below.setCell ?_ (by first | (simp; done) | (simp; omega)) _ | with_reducible refine tr ?_ (by with_reducible assumption)))⟩
  case round =>
    obtain ⟨k, hk, rfl, hall, hb⟩ := hrel
    by_cases hlt : k < n
    · obtain ⟨b, off, rfl, hab, a0, a1⟩ := (HL.out.below (hb.mono hB)).at_ hlt
      have hk0 : (k : Int) < (n : Int) := by omega
      cases hok : okPt (pt l k)
      · have ef := firstBad_some (by rw [hln]; exact hlt) hok hall
        have er : r = (2, (k : Int)) := by rw [HE.out, ef]
        subst er
        have HC : Hid (∀ w', Calls Tryz.prog 80 #[ptV (pt l k).x (pt l k).y] w' (Ret w' (.iface 80 (.int .i64 2)))) := fun w' => by
          have h := checkPoint_any (pt l k).x (pt l k).y w'
          rw [show (⟨(pt l k).x, (pt l k).y⟩ : Pt) = pt l k from rfl, hok] at h
          exact h
        clear hall ef hok HE
        go_wp2_with (first | (go_at_call 80; (with_reducible refine (HC.out _).mono ?_); rintro e w4 ⟨rfl, hb4⟩; obtain ⟨hc4, hf4⟩ := bcell hb4; have hz4 := hb4.size; (try simp at hz4)) | (go_at_call 35; refine (fnewH_any _ _ _ 2 _ (.inl rfl)).mono ?_; rintro e w5 ⟨v5, rfl, hv5, hb5⟩))
        go_ret
        exact ⟨_, rfl, hv5, (by repeat (first | with_reducible exact Below.refl _ _ | with_reducible assumption | with_reducible refine al ?_ _ | with_reducible refine Below.drew ?_ | with_reducible refine Below.setCell ?_ (by first | (simp; done) | (simp; omega)) _ | with_reducible refine tr ?_ (by with_reducible assumption)))⟩
      · have HC : Hid (∀ w', Calls Tryz.prog 80 #[ptV (pt l k).x (pt l k).y] w' (Ret w' .nilIface)) := fun w' => by
          have h := checkPoint_any (pt l k).x (pt l k).y w'
          rw [show (⟨(pt l k).x, (pt l k).y⟩ : Pt) = pt l k from rfl, hok] at h
          exact h
        have HA := Lib.hid hall
        have HO := Lib.hid hok
        clear hall hok
        go_wp2_with (go_at_call 80; (with_reducible refine (HC.out _).mono ?_); rintro e w4 ⟨rfl, hb4⟩; obtain ⟨hc4, hf4⟩ := bcell hb4; have hz4 := hb4.size; (try simp at hz4))
        go_roundw
        case rel => exact ⟨k + 1, by omega, by go_num, fun j hj => by
          by_cases e : j = k
          · subst e; exact HO.out
          · exact HA.out j (by omega), (by repeat (first | with_reducible exact Below.refl _ _ | with_reducible assumption | with_reducible refine al ?_ _ | with_reducible refine Below.drew ?_ | with_reducible refine Below.setCell ?_ (by first | (simp; done) | (simp; omega)) _ | with_reducible refine tr ?_ (by with_reducible assumption)))⟩
        case measure => simp [intOf]; omega
    · obtain rfl : n = k := by omega
      have ef := firstBad_none (l := l) fun j hj => hall j (by omega)
      have er : r = (0, 0) := by rw [HE.out, ef]
      subst er
      clear hall ef hlt HE
      go_wp2
      go_ret
      exact ⟨_, rfl, .inl ⟨rfl, rfl⟩, hb⟩
end Go.Proofs.YtmliljdbpkikpaaGreatDoor
set_option linter.unusedSimpArgs false
set_option linter.unusedVariables false
namespace Pg
open Go Go.RowKit
/-- the corners around points -/
def hullS (l : List Pt) : List Pt :=
  if (Lib.compact (sortP l)).length = 1 then Lib.compact (sortP l) else (chainS (Lib.compact (sortP l))).dropLast ++ (chainS (Lib.compact (sortP l)).reverse).dropLast
theorem own_frame {w w' : World} {base : Nat} {e : TypeId} {size : Nat} {g n n' cap : Nat} {xs : List Value} (h : w.ownsRow base e size (.slice (some ⟨g, 0, none⟩) n' cap) n xs) (hh : w'.heap[g]? = w.heap[g]?) : w'.ownsRow base e size (.slice (some ⟨g, 0, none⟩) n' cap) n xs := by
  obtain ⟨h1, ⟨h2, _⟩ | ⟨g', cap', cur, hv, hg, hw, r⟩⟩ := h
  · cases h2
  · injection hv with e1 e2 e3
    injection e1 with e1
    injection e1 with e1
    subst e1
    exact ⟨h1, .inr ⟨g, cap', cur, by rw [e2, e3], hg, hh.trans hw, r⟩⟩
theorem chainR_pos {l : List Pt} (h : l ≠ []) : 0 < (chainR l).length := by
  rcases List.eq_nil_or_concat l with h2 | ⟨r, a, rfl⟩
  · exact absurd h2 h
  · rw [List.concat_eq_append, chainR_snoc]; simp
theorem compact_le (l : List Pt) : (Lib.compact l).length ≤ l.length := by
  unfold Lib.compact Lib.compactUpTo
  rw [List.length_map]
  exact Nat.le_trans (List.length_filter_le _ _) (by simp)
theorem compact_ne {l : List Pt} (h : l ≠ []) : Lib.compact l ≠ [] := by
  have hl := List.length_pos_iff.2 h
  unfold Lib.compact Lib.compactUpTo
  refine List.ne_nil_of_mem (a := l.toArray[0]!) (List.mem_map.2 ⟨0, List.mem_filter.2 ⟨List.mem_range.2 hl, ?_⟩, rfl⟩)
  simp [Lib.keeps]
theorem chainS_len (l : List Pt) : (chainS l).length = (chainR l).length := by unfold chainS; simp
end Pg
namespace Go.Proofs.YtmliljdbpkikpaaGreatDoor
open Go.RowKit Pg
theorem own_pts {w : World} {base g n cap : Nat} {t : TypeId} {l : List Pt} (h : w.ownsRow base t 2 (.slice (some ⟨g, 0, none⟩) n cap) n (ptcells l)) : PtsAt w w.heap.size (some ⟨g, 0, none⟩) n l := by
  have hl : l.length = n := by have := h.1; rw [ptcells_len] at this; omega
  refine ⟨hl, fun _ => ⟨g, 0, rfl, (h.lt g rfl).2, fun k p hp => ?_⟩⟩
  have hk : k < n := by
    rcases Nat.lt_or_ge k l.length with h | h
    · omega
    · rw [List.getElem?_eq_none h] at hp; cases hp
  obtain ⟨h1, h2, _⟩ := own_ptat h hk
  rw [Nat.zero_add]
  have e : pt l k = p := by
    have := pt_of (l := l) (k := k) (by omega)
    rw [hp] at this
    exact (Option.some.inj this).symm
  rw [e] at h1 h2
  exact ⟨h1, h2⟩
theorem pts_up {w w' : World} {B B' n : Nat} {A : Option Addr} {l : List Pt} (h : PtsAt w B A n l) (hk : ∀ p : Addr, p.block < B → w'.cell? p = w.cell? p) (hB : B ≤ B') : PtsAt w' B' A n l := by
  refine ⟨h.1, fun hn => ?_⟩
  obtain ⟨b, off, e, hb, hc⟩ := h.2 hn
  exact ⟨b, off, e, by omega, fun k p hp => ⟨(hk _ hb).trans (hc k p hp).1, (hk _ hb).trans (hc k p hp).2⟩⟩
theorem rps_two {W : World} {G B n1 c1 n2 c2 : Nat} {t : TypeId} {a1 a2 : Addr} {l1 l2 : List Pt} (hG : Blk W G t #[.slice (some a1) n1 c1, .slice (some a2) n2 c2]) (h1 : PtsAt W B (some a1) n1 l1) (h2 : PtsAt W B (some a2) n2 l2) (hB : G < B) (m1 : n1 ≤ c1) (m2 : n2 ≤ c2) : RpsAt W B (some ⟨G, 0, none⟩) 2 [l1, l2] := by
  refine ⟨rfl, fun _ => ⟨G, 0, rfl, hB, fun k l hl => ?_⟩⟩
  match k, hl with
  | 0, hl =>
    simp at hl
    subst hl
    exact ⟨some a1, n1, c1, by rw [hG.cell]; rfl, h1, (fun h => by cases h), m1⟩
  | 1, hl =>
    simp at hl
    subst hl
    exact ⟨some a2, n2, c2, by rw [hG.cell]; rfl, h2, (fun h => by cases h), m2⟩
  | k + 2, hl => simp at hl

theorem own_pos2 {w : World} {base m : Nat} {t : TypeId} {v : Value} {n : Nat} {xs : List Value} (h : w.ownsRow base t m v n xs) (hn : 0 < n) : ∃ g c, v = .slice (some ⟨g, 0, none⟩) n c := by
  obtain ⟨_, ⟨_, rfl⟩ | ⟨g, cap, cur, rfl, _⟩⟩ := h
  · omega
  · exact ⟨_, _, rfl⟩
theorem errW_zero {w : World} {v : Value} {s : ByteArray} {id : Int} (h : ErrW w v 0 s id) : v = .nilIface := by
  rcases h with h | ⟨h, _⟩
  · exact h.2
  · exact absurd rfl h
theorem errW_some {w : World} {v : Value} {k : Nat} {s : ByteArray} {id : Int} (h : ErrW w v k s id) (hk : k ≠ 0) : ∃ t u, v = .iface t u := by
  rcases h with h | ⟨_, g, inner, rfl, _⟩
  · exact absurd h.1 hk
  · exact ⟨_, _, rfl⟩

set_option maxHeartbeats 4000000 in
set_option maxRecDepth 20000 in
theorem hull_any (B n c : Nat) (A : Option Addr) (l : List Pt) (w : World) (hl : PtsAt w B A n l) (hB : B ≤ w.heap.size) (hn5 : n ≤ 500000) :
    Calls Tryz.prog 24 #[.slice A n c] w fun e w' => ∃ s v, e = .returned (.tuple #[s, v]) ∧ ((hullCk l 1).1 ≠ 0 → s = .slice none 0 0) ∧ ((hullCk l 1).1 = 0 → w'.ownsRow w.heap.size 35 2 s (hullS l).length (ptcells (hullS l))) ∧ ErrW w' v (hullCk l 1).1 hullW (hullCk l 1).2 ∧ Below w.heap.size w w' := by
  have hn : n ≤ 1000000 := by omega
  have HCK := Lib.hid (hcheck_any B n c 1 A l w hl hB hn (by omega))
  obtain ⟨ck, hck⟩ : ∃ r, hullCk l 1 = r := ⟨_, rfl⟩
  rw [hck] at HCK ⊢
  by_cases h0 : ck.1 = 0
  case neg =>
    obtain ⟨k, i⟩ := ck
    simp only at h0 HCK ⊢
    clear hl hck
    go_enter Tryz.func24, Tryz.ntmps24
    go_wp2_with (go_at_call 48; (refine HCK.out.mono ?_); rintro e w1 ⟨v1, rfl, hE1, hb1⟩; obtain ⟨t1, u1, rfl⟩ := errW_some hE1 h0)
    exact bodyPost_ret (v := .tuple #[.slice none 0 0, .iface t1 u1]) (by simp [results, Tryz.results24, go_sem]) rfl ⟨_, _, rfl, fun _ => rfl, fun h => absurd h h0, hE1, (by repeat (first | with_reducible exact Below.refl _ _ | with_reducible assumption | with_reducible refine al ?_ _ | with_reducible refine Below.drew ?_ | with_reducible refine Below.setCell ?_ (by first | (simp; done) | (simp; omega)) _ | with_reducible refine tr ?_ (by with_reducible assumption)))⟩
  have hnn : 0 < n := by
    rcases Nat.eq_zero_or_pos n with h | h
    · exfalso
      have : hullCk l 1 = (1, ((l.length : Nat) : Int)) := by unfold hullCk; rw [if_pos (by rw [hl.1]; omega)]
      rw [← hck, this] at h0
      cases h0
    · exact h
  obtain ⟨k0, i0⟩ := ck
  simp only at h0
  subst h0
  have HL := Lib.hid hl
  clear hl hck
  obtain ⟨S, hS⟩ : ∃ S, Lib.compact (sortP l) = S := ⟨_, rfl⟩
  obtain ⟨k, hk⟩ : ∃ k, S.length = k := ⟨_, rfl⟩
  have hSn : S ≠ [] := by
    rw [← hS]
    exact compact_ne (by intro h; have := (sortP_perm l).length_eq; rw [h, HL.out.1] at this; simp at this; omega)
  have hkn : k ≤ n := by rw [← hk, ← hS]; exact Nat.le_trans (compact_le _) (by rw [(sortP_perm l).length_eq, HL.out.1]; exact Nat.le_refl _)
  have hH : hullS l = if k = 1 then S else (chainS S).dropLast ++ (chainS S.reverse).dropLast := by unfold hullS; rw [hS, hk]
  have HSS := Lib.hid hS
  have HKK := Lib.hid hk
  have HHH := Lib.hid hH
  clear hS hk hH
  by_cases hk1 : k = 1
  · have hHS : hullS l = S := by rw [HHH.out, if_pos hk1]
    subst hk1
    go_enter Tryz.func24, Tryz.ntmps24
    go_wp2_with (first | (go_at_call 48; (refine HCK.out.mono ?_); rintro e w1 ⟨v1, rfl, hE1, hb1⟩; obtain rfl := errW_zero hE1) | (go_at_call 49; (refine (cloneP_any w1.heap.size n c A l _ (pts_up HL.out (fun p hp => hb1.cell (Nat.lt_of_lt_of_le hp hB)) (Nat.le_trans hB hb1.size)) (Nat.le_refl _) hnn hn).mono ?_); rintro e w2 ⟨g2, c2, rfl, ho2, hb2⟩) | (go_at_call 50; (refine (sortP_any w1.heap.size g2 n c2 l 35 _ hnn hn HL.out.1 ho2).mono ?_); rintro e w3 ⟨rfl, ho3, hb3⟩) | (go_at_call 54; (refine (compactP_any w1.heap.size g2 n c2 (sortP l) _ hnn hn ((sortP_perm l).length_eq.trans HL.out.1) ho3).mono ?_); rw [HSS.out, HKK.out]; rintro e w4 ⟨rfl, ho4, hb4⟩; clear ho2 ho3))
    refine bodyPost_ret (v := .tuple #[.slice (some ⟨g2, 0, none⟩) 1 c2, .nilIface]) (by simp [results, Tryz.results24, go_sem]) rfl ⟨_, _, rfl, fun h => absurd rfl h, fun _ => ?_, .inl ⟨rfl, rfl⟩, ?_⟩
    · rw [hHS, HKK.out]
      exact ownB_baseP ho4 hb1.size
    · exact hb1.trans (((hb2.trans hb3).trans hb4).mono hb1.size)
  · have hHS : hullS l = (chainS S).dropLast ++ (chainS S.reverse).dropLast := by rw [HHH.out, if_neg hk1]
    have hki : ((k : Int) == 1) = false := by rw [beq_eq_false_iff_ne]; omega
    have hk6 : k ≤ 1000000 := by omega
    have hkp : 0 < k := by rw [← HKK.out]; exact List.length_pos_iff.2 hSn
    have p1 := chainR_pos hSn
    have p2 := chainR_pos (l := S.reverse) (by simpa using hSn)
    have u1 := chainR_len S
    have u2 := chainR_len S.reverse
    obtain ⟨a1, ha1⟩ : ∃ a, (chainR S).length = a + 1 := ⟨(chainR S).length - 1, by omega⟩
    obtain ⟨a2, ha2⟩ : ∃ a, (chainR S.reverse).length = a + 1 := ⟨(chainR S.reverse).length - 1, by omega⟩
    have HA1 := Lib.hid ha1
    have HA2 := Lib.hid ha2
    rw [ha1] at u1
    rw [ha2, List.length_reverse] at u2
    rw [HKK.out] at u1 u2
    clear p1 p2 ha1 ha2
    obtain ⟨N1, hN1⟩ : ∃ N, a1 + 1 = N := ⟨_, rfl⟩
    obtain ⟨N2, hN2⟩ : ∃ N, a2 + 1 = N := ⟨_, rfl⟩
    have HN1 := Lib.hid hN1
    have HN2 := Lib.hid hN2
    go_enter Tryz.func24, Tryz.ntmps24
    go_wp2_with (first | (go_at_call 48; (refine HCK.out.mono ?_); rintro e w1 ⟨v1, rfl, hE1, hb1⟩; obtain rfl := errW_zero hE1) | (go_at_call 49; (refine (cloneP_any w1.heap.size n c A l _ (pts_up HL.out (fun p hp => hb1.cell (Nat.lt_of_lt_of_le hp hB)) (Nat.le_trans hB hb1.size)) (Nat.le_refl _) hnn hn).mono ?_); rintro e w2 ⟨g2, c2, rfl, ho2, hb2⟩) | (go_at_call 50; (refine (sortP_any w1.heap.size g2 n c2 l 35 _ hnn hn HL.out.1 ho2).mono ?_); rintro e w3 ⟨rfl, ho3, hb3⟩) | (go_at_call 54; (refine (compactP_any w1.heap.size g2 n c2 (sortP l) _ hnn hn ((sortP_perm l).length_eq.trans HL.out.1) ho3).mono ?_); rw [HSS.out, HKK.out]; rintro e w4 ⟨rfl, ho4, hb4⟩; clear ho2 ho3) | (go_at_call 55; (refine (chain_any w6.heap.size k c2 (some ⟨g2, 0, none⟩) S.reverse _ (own_pts ho6) (Nat.le_refl _) hk6).mono ?_); rintro e w7 ⟨vh, rfl, hhigh, hb7⟩; rw [HA2.out, HN2.out] at hhigh; obtain ⟨gh, chh, rfl⟩ := own_pos2 hhigh (by omega)) | (go_at_call 55; (refine (chain_any w4.heap.size k c2 (some ⟨g2, 0, none⟩) S _ (own_pts ho4) (Nat.le_refl _) hk6).mono ?_); rintro e w5 ⟨vl, rfl, hlow, hb5⟩; rw [HA1.out, HN1.out] at hlow; obtain ⟨gl, cl, rfl⟩ := own_pos2 hlow (by omega)) | (go_at_call 56; (refine (reverseP_any w1.heap.size g2 k c2 S 35 _ hkp hk6 HKK.out (own_belowP ho4 hb5)).mono ?_); rintro e w6 ⟨rfl, ho6, hb6, hfr6⟩))
    have hgl := hlow.lt gl rfl
    have hg2 := ho4.lt g2 rfl
    have hl7 := own_belowP (own_frame hlow (hfr6 gl (by omega) hgl.2)) hb7
    have q1 := own_pts (own_cut hl7 (show a1 ≤ N1 by omega))
    have q2 := own_pts (own_cut hhigh (show a2 ≤ N2 by omega))
    have d1 : (chainS S).take a1 = (chainS S).dropLast := by rw [List.dropLast_eq_take, chainS_len, HA1.out]; rfl
    have d2 : (chainS S.reverse).take a2 = (chainS S.reverse).dropLast := by rw [List.dropLast_eq_take, chainS_len, HA2.out]; rfl
    rw [d1] at q1
    rw [d2] at q2
    have x1 := own_cap hl7
    have x2 := own_cap hhigh
    have hbw : Below w.heap.size w w7 := (((((hb1.trans (((hb2.trans hb3).trans hb4).mono hb1.size)).trans (hb5.mono ?_)).trans (hb6.mono hb1.size))).trans (hb7.mono ?_))
    rotate_left
    · exact Nat.le_trans hb1.size (((hb2.trans hb3).trans hb4).size)
    · exact Nat.le_trans (Nat.le_trans hb1.size (((hb2.trans hb3).trans hb4).size)) (Nat.le_trans hb5.size hb6.size)
    have hlen : ([(chainS S).dropLast, (chainS S.reverse).dropLast] : List (List Pt)).flatten.length ≤ 1000000 := by
      have := q1.1
      have := q2.1
      simp only [List.flatten_cons, List.flatten_nil, List.append_nil, List.length_append]
      omega
    have HLN := Lib.hid hlen
    have Q1 := Lib.hid q1
    have Q2 := Lib.hid q2
    have z1 : (N1 : Int) - 1 = (a1 : Int) := by omega
    have z2 : (N2 : Int) - 1 = (a2 : Int) := by omega
    have z3 : IntKind.i64.wrap (a1 : Int) = a1 := by simp [IntKind.wrap, IntKind.bits, IntKind.signed]; omega
    have z4 : IntKind.i64.wrap (a2 : Int) = a2 := by simp [IntKind.wrap, IntKind.bits, IntKind.signed]; omega
    have z5 : (a1 : Int) ≤ (cl : Int) := by omega
    have z6 : (a2 : Int) ≤ (chh : Int) := by omega
    have z7 : ¬ cl = 0 := by omega
    have z8 : ¬ chh = 0 := by omega
    have y1 : a1 ≤ cl := by omega
    have y2 : a2 ≤ chh := by omega
    have HY := Lib.hid (And.intro y1 y2)
    clear hlow hhigh hl7 ho4 ho6 hfr6 hb1 hb2 hb3 hb4 hb5 hb6 hb7 hE1 q1 q2 x1 x2 hlen hgl hg2 y1 y2
    go_wp2_with fail
    refine wp_region_belowI (by kernel_rfl) (by kernel_rfl) (fun _ _ d _ _ h => by cases d <;> exact h) ?_
    simp only [List.map_cons, List.map_nil, List.getD_cons_zero, List.getD_cons_succ, bare, gslot, List.getElem?_cons_zero, List.getElem?_cons_succ, Option.bind_some]
    repeat' ((try simp only [Act.put, List.setIfInBounds_toArray, List.set_cons_zero, List.set_cons_succ]); first | (refine lexL_quiet (v := ?_) wantB_none rfl ?_ ?_; rotate_left; focus (intro wq hq; obtain ⟨hcq, hfq⟩ := bcell hq; go_simp; try with_reducible rfl)) | (refine lexL_loud wantB_none rfl (fun K hK => ?_); go_simp; ((first | (go_at_call 57; (with_reducible refine (concatP_any _ 2 2 (some ⟨w7.heap.size, 0, none⟩) [(chainS S).dropLast, (chainS S.reverse).dropLast] _ ?_ (Nat.le_refl _) (by decide) HLN.out).mono ?_); (focus (refine rps_two (t := 22) (by repeat (first | with_reducible assumption | with_reducible exact Blk.new (by simp) rfl | with_reducible refine Blk.alloc ?_ _ | with_reducible refine Blk.drew ?_ | with_reducible refine Blk.far ?_ (by first | (simp; done) | (simp; omega)) _ | with_reducible refine Blk.tr ?_ (by with_reducible assumption))) (pts_up Q1.out (fun p hp => Below.cell (B := w7.heap.size) (w := w7) (by repeat (first | with_reducible exact Below.refl _ _ | with_reducible assumption | with_reducible refine al ?_ _ | with_reducible refine Below.drew ?_ | with_reducible refine Below.setCell ?_ (by first | (simp; done) | (simp; omega)) _ | with_reducible refine tr ?_ (by with_reducible assumption))) hp) (Below.size (B := w7.heap.size) (w := w7) (by repeat (first | with_reducible exact Below.refl _ _ | with_reducible assumption | with_reducible refine al ?_ _ | with_reducible refine Below.drew ?_ | with_reducible refine Below.setCell ?_ (by first | (simp; done) | (simp; omega)) _ | with_reducible refine tr ?_ (by with_reducible assumption))))) (pts_up Q2.out (fun p hp => Below.cell (B := w7.heap.size) (w := w7) (by repeat (first | with_reducible exact Below.refl _ _ | with_reducible assumption | with_reducible refine al ?_ _ | with_reducible refine Below.drew ?_ | with_reducible refine Below.setCell ?_ (by first | (simp; done) | (simp; omega)) _ | with_reducible refine tr ?_ (by with_reducible assumption))) hp) (Below.size (B := w7.heap.size) (w := w7) (by repeat (first | with_reducible exact Below.refl _ _ | with_reducible assumption | with_reducible refine al ?_ _ | with_reducible refine Below.drew ?_ | with_reducible refine Below.setCell ?_ (by first | (simp; done) | (simp; omega)) _ | with_reducible refine tr ?_ (by with_reducible assumption))))) ?_ HY.out.1 HY.out.2; (try simp); (try omega))); rintro e w8 ⟨s8, rfl, ho8, hb8⟩) | skip) <;> (refine hK.out _ _ (by repeat (first | with_reducible exact Below.refl _ _ | with_reducible assumption | with_reducible refine al ?_ _ | with_reducible refine Below.drew ?_ | with_reducible refine Below.setCell ?_ (by first | (simp; done) | (simp; omega)) _ | with_reducible refine tr ?_ (by with_reducible assumption))) ?_; clear hK K))) | (refine lexL_on ?_ ?_; focus (simp only [List.getElem?_toArray, List.getElem?_cons_succ, List.getElem?_cons_zero, Bool.not_true, Bool.not_false]; done)) | (refine lexL_off ?_ ?_ ?_; (focus (simp only [List.getElem?_toArray, List.getElem?_cons_succ, List.getElem?_cons_zero, Bool.not_true, Bool.not_false]; done)); (focus (exact (by repeat (first | with_reducible exact Below.refl _ _ | with_reducible assumption | with_reducible refine al ?_ _ | with_reducible refine Below.drew ?_ | with_reducible refine Below.setCell ?_ (by first | (simp; done) | (simp; omega)) _ | with_reducible refine tr ?_ (by with_reducible assumption)))))) | (refine lexL_splitS (X := ?_) ?_ ?_ (fun hg => ?_) (fun hg => ?_); rotate_left; (focus (simp only [List.getElem?_toArray, List.getElem?_cons_succ, List.getElem?_cons_zero]; with_reducible rfl)); (focus (exact (by repeat (first | with_reducible exact Below.refl _ _ | with_reducible assumption | with_reducible refine al ?_ _ | with_reducible refine Below.drew ?_ | with_reducible refine Below.setCell ?_ (by first | (simp; done) | (simp; omega)) _ | with_reducible refine tr ?_ (by with_reducible assumption))))); all_goals (try simp only [Bool.not_true, Bool.not_false] at hg)))
    (all_goals try simp only [Act.put, List.setIfInBounds_toArray, List.set_cons_zero, List.set_cons_succ]); all_goals (refine lexL_nil ?_)
    go_wp2_with fail
    refine bodyPost_ret (v := .tuple #[s8, .nilIface]) (by simp [results, Tryz.results24, go_sem]) rfl ⟨_, _, rfl, fun h => absurd rfl h, fun _ => ?_, .inl ⟨rfl, rfl⟩, (by repeat (first | with_reducible exact Below.refl _ _ | with_reducible assumption | with_reducible refine al ?_ _ | with_reducible refine Below.drew ?_ | with_reducible refine Below.setCell ?_ (by first | (simp; done) | (simp; omega)) _ | with_reducible refine tr ?_ (by with_reducible assumption)))⟩
    rw [hHS]
    have e : ([(chainS S).dropLast, (chainS S.reverse).dropLast] : List (List Pt)).flatten = (chainS S).dropLast ++ (chainS S.reverse).dropLast := by simp
    rw [e] at ho8
    exact ownB_baseP ho8 (Below.size (B := w.heap.size) (w := w) (by repeat (first | with_reducible exact Below.refl _ _ | with_reducible assumption | with_reducible refine al ?_ _ | with_reducible refine Below.drew ?_ | with_reducible refine Below.setCell ?_ (by first | (simp; done) | (simp; omega)) _ | with_reducible refine tr ?_ (by with_reducible assumption))))
end Go.Proofs.YtmliljdbpkikpaaGreatDoor
