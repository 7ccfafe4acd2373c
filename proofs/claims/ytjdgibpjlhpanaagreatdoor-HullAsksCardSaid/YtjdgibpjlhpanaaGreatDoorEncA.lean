/-
  Bytes in memory; contracts of enc.Varint, Signed, and of the reference's.
-/
import Derived.Test.YtjdgibpjlhpanaaGreatDoorPlainEnc
import Derived.Test.YtjdgibpjlhpanaaGreatDoorPlane
import Derived.Test.YtjdgibpjlhpanaaGreatDoorLexS
import Derived.Lib.VarintBits
import Derived.Lib.Zigzag
set_option linter.unusedSimpArgs false
set_option linter.unusedVariables false
namespace Go.Proofs.YtjdgibpjlhpanaaGreatDoor
open Go.RowKit Pg

theorem wp_genE {P : Program} {c : Code} {Q : Exit → Act → World → Prop} {a : Act} {w : World} (R : World → Prop) (h : R w) (k : ∀ w2, R w2 → c.wp P Q a w2) : c.wp P Q a w := k w h
theorem post_genE {P : Program} {f : Func} {Q : Ending → World → Prop} {x : Exit} {a : Act} {w : World} (R : World → Prop) (h : R w) (k : ∀ w2, R w2 → bodyPost P f Q x a w2) : bodyPost P f Q x a w := k w h
theorem calls_genE {P : Program} {f : FuncId} {args : Array Value} {Q : Ending → World → Prop} {w : World} (R : World → Prop) (h : R w) (k : ∀ w2, R w2 → Calls P f args w2 Q) : Calls P f args w Q := k w h
/-- bytes as cells -/
def ycells (l : List Nat) : List Value := l.map fun c : Nat => .int .u8 (c : Int)
/-- the slice value with address A and length n reads as the bytes l, below block B -/
def BysAt (w : World) (B : Nat) (A : Option Addr) (n : Nat) (l : List Nat) : Prop :=
  l.length = n ∧ (0 < n → ∃ b off, A = some ⟨b, off, none⟩ ∧ b < B ∧ ∀ k c : Nat, l[k]? = some c → w.cell? ⟨b, off + k, none⟩ = some (.int .u8 (c : Int)))
theorem BysAt.keep {w w' : World} {B n : Nat} {A : Option Addr} {l : List Nat} (h : BysAt w B A n l) (hk : ∀ p : Addr, p.block < B → w'.cell? p = w.cell? p) : BysAt w' B A n l :=
  ⟨h.1, fun hn => by
    obtain ⟨b, off, e, hb, hc⟩ := h.2 hn
    exact ⟨b, off, e, hb, fun k p hp => (hk _ hb).trans (hc k p hp)⟩⟩
theorem BysAt.below {w w' : World} {B n : Nat} {A : Option Addr} {l : List Nat} (h : BysAt w B A n l) (hb : Below B w w') : BysAt w' B A n l := h.keep fun _ hp => hb.cell hp
theorem BysAt.tr {W w1 : World} {B n : Nat} {A : Option Addr} {l : List Nat} (h : BysAt W B A n l) (hb : Below W.heap.size W w1) (hB : B ≤ W.heap.size) : BysAt w1 B A n l := h.below (hb.mono hB)
theorem BysAt.more {w : World} {B B' n : Nat} {A : Option Addr} {l : List Nat} (h : BysAt w B A n l) (hB : B ≤ B') : BysAt w B' A n l :=
  ⟨h.1, fun hn => by
    obtain ⟨b, off, e, hb, hc⟩ := h.2 hn
    exact ⟨b, off, e, by omega, hc⟩⟩
theorem BysAt.at_ {w : World} {B n : Nat} {A : Option Addr} {l : List Nat} (h : BysAt w B A n l) {k : Nat} (hk : k < n) :
    ∃ b off, A = some ⟨b, off, none⟩ ∧ b < B ∧ w.cell? ⟨b, off + k, none⟩ = some (.int .u8 ((l.getD k 0 : Nat) : Int)) := by
  obtain ⟨b, off, e, hb, hc⟩ := h.2 (by omega)
  have hl : k < l.length := by rw [h.1]; exact hk
  exact ⟨b, off, e, hb, hc k _ (by rw [List.getD_eq_getElem?_getD, List.getElem?_eq_getElem hl]; rfl)⟩
/-- the bytes from k on -/
theorem BysAt.from_ {w : World} {B n : Nat} {b off : Nat} {l : List Nat} (h : BysAt w B (some ⟨b, off, none⟩) n l) {k : Nat} (hk : k ≤ n) : BysAt w B (some ⟨b, off + k, none⟩) (n - k) (l.drop k) := by
  refine ⟨by rw [List.length_drop, h.1], fun hn => ?_⟩
  obtain ⟨b', off', e, hb, hc⟩ := h.2 (by omega)
  injection e with e
  injection e with e1 e2
  subst e1 e2
  refine ⟨b, off + k, rfl, hb, fun j c hj => ?_⟩
  rw [List.getElem?_drop] at hj
  rw [Nat.add_assoc]
  exact hc _ c hj
theorem bys_of_own {w : World} {base : Nat} {e : TypeId} {v : Value} {n : Nat} {l : List Nat} (h : w.ownsRow base e 1 v n (ycells l)) :
    ∃ A c, v = .slice A n c ∧ BysAt w w.heap.size A n l ∧ l.length = n := by
  obtain ⟨h1, h2⟩ := h
  have hl : l.length = n := by simpa [ycells] using h1
  rcases h2 with ⟨rfl, rfl⟩ | ⟨g, cap, cur, rfl, hg, hh, hc⟩
  · exact ⟨none, 0, rfl, ⟨hl, fun h => absurd h (by omega)⟩, hl⟩
  · refine ⟨_, cap, rfl, ⟨hl, fun hn => ⟨g, 0, rfl, lt_of_block hh, fun k p hp => ?_⟩⟩, hl⟩
    have hown : w.ownsRow base e 1 (.slice (some ⟨g, 0, none⟩) n cap) n (ycells l) := ⟨h1, .inr ⟨g, cap, cur, rfl, hg, hh, hc⟩⟩
    have hk : k < n := by
      rw [← hl]
      rcases Nat.lt_or_ge k l.length with h | h
      · exact h
      · rw [List.getElem?_eq_none h] at hp; cases hp
    simp only [Nat.zero_add]
    rw [hown.cellAt k (by omega)]
    simp [ycells, hp]
theorem ycells_snoc (l : List Nat) (c : Nat) : ycells (l ++ [c]) = ycells l ++ [.int .u8 (c : Int)] := by simp [ycells]
theorem ycells_app (l m : List Nat) : ycells (l ++ m) = ycells l ++ ycells m := by simp [ycells]
theorem ycells_len (l : List Nat) : (ycells l).length = l.length := by simp [ycells]
theorem one_at {w : World} {x : Value} {t : TypeId} : ∀ (j : Nat) (v : Value), [x][j]? = some v → (w.alloc (.cells #[x] t)).cell? ((⟨w.heap.size, 0, none⟩ : Addr).add j) = some v := by
  intro j v hj
  match j, hj with
  | 0, hj => simp at hj; subst hj; simp [Addr.add]
theorem one_one {k : IntKind} {x : Int} : ∀ v ∈ [Value.int k x], v.oneCell' = true := by
  intro v hv
  simp only [List.mem_cons, List.not_mem_nil, or_false] at hv
  subst hv; rfl
theorem Tryz.infoByte : (Tryz.prog.info? 5).map (fun i => (i.zero, i.size, i.bytes)) = some (some (.int .u8 0), 1, 1) := by kernel_rfl
/-- the call returns a row of bytes of its own -/
abbrev RetB (w : World) (l : List Nat) : Ending → World → Prop := fun e w' => ∃ s, e = .returned s ∧ w'.ownsRow w.heap.size 5 1 s l.length (ycells l) ∧ Below w.heap.size w w'

set_option maxHeartbeats 2000000 in
set_option maxRecDepth 20000 in
theorem varint_any (v : Nat) (hv : v < 18446744073709551616) (w : World) : Calls Tryz.prog 172 #[.int .u64 (v : Int)] w (RetB w (vint v)) := by
  obtain ⟨i0, hi, hz0, hz1, hz2⟩ := info_parts Tryz.infoByte
  have hlen := vint_len10 hv
  go_enter Tryz.func172, Tryz.ntmps172
  go_wp2
  go_loopw [0, 3] (fun vx vb wr => ∃ (y : Nat) (pre : List Nat), vx = .int .u64 y ∧ y ≤ v ∧ vint v = pre ++ vint y ∧ wr.ownsRow w.heap.size 5 1 vb pre.length (ycells pre) ∧ Below w.heap.size w wr)
    (fun vx _ _ => (intOf vx).toNat)
  case atStart => exact ⟨v, [], rfl, Nat.le_refl _, rfl, World.ownsRow_nil _ _ _ _, Below.refl _ _⟩
  case round =>
    obtain ⟨y, pre, rfl, hy, hsplit, hown1, hnx⟩ := hrel
    have hpl : pre.length + (vint y).length ≤ 10 := by
      have h2 := congrArg List.length hsplit
      rw [List.length_append] at h2
      omega
    have hyp := vint_pos y
    by_cases h128 : 128 ≤ y
    · have hor : bits .or .u8 ((y : Int) % 256) 128 = ((y % 128 + 128 : Nat) : Int) := by
        rw [Lib.u8_or128_any _ (by omega) (by omega)]
        omega
      go_wp2_with (at_builtin; refine wpList_append_own _ rfl _ _ 72 rfl w.heap.size 5 i0 (.int .u8 0) 1 1 Tryz.underlying72 hi hz0 hz1 hz2 rfl (by decide) _ _ _ rfl (hown1.alloc _) ⟨wr.heap.size, 0, none⟩ 1 1 [Value.int .u8 ((y % 128 + 128 : Nat) : Int)] rfl rfl one_at one_one ?c3 ?c4 ?c5 ?_)
      case c3 => unfold maxLen; omega
      case c4 => omega
      case c5 => have := hnx.size; simp; omega
      intro v' w1 hown' hgrow _
      have hnx1 : Below w.heap.size w w1 := (hnx.alloc (by have := hnx.size; omega) _).grown hgrow (by have := hnx.size; simp; omega) (fun k hk => (hown1.lt k hk).1)
      go_wp2
      go_roundw
      case rel =>
        refine ⟨y / 128, pre ++ [y % 128 + 128], by go_num, by omega, by rw [hsplit, vint_big (by omega)]; simp, ?_, hnx1⟩
        have ec : ((y % 128 + 128 : Nat) : Int) = (y : Int) % 128 + 128 := by omega
        rw [ycells_snoc, List.length_append, List.length_singleton, ec]
        exact hown'
      case measure => simp [intOf]; omega
    · have hsm : vint y = [y] := vint_small (by omega)
      go_wp2_with (at_builtin; refine wpList_append_own _ rfl _ _ 72 rfl w.heap.size 5 i0 (.int .u8 0) 1 1 Tryz.underlying72 hi hz0 hz1 hz2 rfl (by decide) _ _ _ rfl (hown1.alloc _) ⟨wr.heap.size, 0, none⟩ 1 1 [Value.int .u8 (y : Int)] rfl rfl one_at one_one ?c3 ?c4 ?c5 ?_)
      case c3 => unfold maxLen; omega
      case c4 => omega
      case c5 => have := hnx.size; simp; omega
      intro v' w1 hown' hgrow _
      have hnx1 : Below w.heap.size w w1 := (hnx.alloc (by have := hnx.size; omega) _).grown hgrow (by have := hnx.size; simp; omega) (fun k hk => (hown1.lt k hk).1)
      go_wp2
      go_ret
      refine ⟨v', rfl, ?_, hnx1⟩
      rw [hsplit, hsm, ycells_snoc, List.length_append, List.length_singleton]
      exact hown'
end Go.Proofs.YtjdgibpjlhpanaaGreatDoor
