/-
  Bytes in memory; contracts of enc.Varint, Signed, and of the reference's.
  Contracts of enc.Signed and of the reference's Varint, Signed.
  Contracts of the two Unvarint.
  Contracts of the two Unsigned.
-/
import Derived.Test.YtmliljdbpkikpaaDoorPlainEnc
import Derived.Test.YtmliljdbpkikpaaDoorPlane
import Derived.Test.YtmliljdbpkikpaaDoorLex
import Derived.Lib.VarintBits
import Derived.Lib.Zigzag
set_option linter.unusedSimpArgs false
set_option linter.unusedVariables false
namespace Go.Proofs.YtmliljdbpkikpaaDoor
open Go.RowKit Pg

theorem wp_genE {P : Program} {c : Code} {Q : Exit → Act → World → Prop} {a : Act} {w : World} (R : World → Prop) (h : R w) (k : ∀ w2, R w2 → c.wp P Q a w2) : c.wp P Q a w := k w h
theorem post_genE {P : Program} {f : Func} {Q : Ending → World → Prop} {x : Exit} {a : Act} {w : World} (R : World → Prop) (h : R w) (k : ∀ w2, R w2 → bodyPost P f Q x a w2) : bodyPost P f Q x a w := k w h
theorem calls_genE {P : Program} {f : FuncId} {args : Array Value} {Q : Ending → World → Prop} {w : World} (R : World → Prop) (h : R w) (k : ∀ w2, R w2 → Calls P f args w2 Q) : Calls P f args w Q := k w h
/-- bytes as cells -/
def ycells (l : List Nat) : List Value := l.map fun c : Nat => .int .u8 (c : Int)
/-- the slice value with address A and length n reads as the bytes l, below block B -/
def BysAt (w : World) (B : Nat) (A : Option Addr) (n : Nat) (l : List Nat) : Prop :=
  l.length = n ∧ (0 < n → ∃ b off, A = some ⟨b, off, none⟩ ∧ b < B ∧ ∀ k c : Nat, l[k]? = some c → w.cell? ⟨b, off + k, none⟩ = some (.int .u8 (c : Int)))
theorem BysAt.keep {w w' : World} {B n : Nat} {A : Option Addr} {l : List Nat} (h : BysAt w B A n l) (hk : ∀ p : Addr, p.block < B → w'.cell? p = w.cell? p) : BysAt w' B A n l :=
  ⟨h.1, fun hn => by
    obtain ⟨b, off, e, hb, hc⟩ := h.2 hn
    exact ⟨b, off, e, hb, fun k p hp => (hk _ hb).trans (hc k p hp)⟩⟩
theorem BysAt.below {w w' : World} {B n : Nat} {A : Option Addr} {l : List Nat} (h : BysAt w B A n l) (hb : Below B w w') : BysAt w' B A n l := h.keep fun _ hp => hb.cell hp
theorem BysAt.tr {W w1 : World} {B n : Nat} {A : Option Addr} {l : List Nat} (h : BysAt W B A n l) (hb : Below W.heap.size W w1) (hB : B ≤ W.heap.size) : BysAt w1 B A n l := h.below (hb.mono hB)
theorem BysAt.more {w : World} {B B' n : Nat} {A : Option Addr} {l : List Nat} (h : BysAt w B A n l) (hB : B ≤ B') : BysAt w B' A n l :=
  ⟨h.1, fun hn => by
    obtain ⟨b, off, e, hb, hc⟩ := h.2 hn
    exact ⟨b, off, e, by omega, hc⟩⟩
theorem BysAt.at_ {w : World} {B n : Nat} {A : Option Addr} {l : List Nat} (h : BysAt w B A n l) {k : Nat} (hk : k < n) :
    ∃ b off, A = some ⟨b, off, none⟩ ∧ b < B ∧ w.cell? ⟨b, off + k, none⟩ = some (.int .u8 ((l.getD k 0 : Nat) : Int)) := by
  obtain ⟨b, off, e, hb, hc⟩ := h.2 (by omega)
  have hl : k < l.length := by rw [h.1]; exact hk
  exact ⟨b, off, e, hb, hc k _ (by rw [List.getD_eq_getElem?_getD, List.getElem?_eq_getElem hl]; rfl)⟩
/-- the bytes from k on -/
theorem BysAt.from_ {w : World} {B n : Nat} {b off : Nat} {l : List Nat} (h : BysAt w B (some ⟨b, off, none⟩) n l) {k : Nat} (hk : k ≤ n) : BysAt w B (some ⟨b, off + k, none⟩) (n - k) (l.drop k) := by
  refine ⟨by rw [List.length_drop, h.1], fun hn => ?_⟩
  obtain ⟨b', off', e, hb, hc⟩ := h.2 (by omega)
  injection e with e
  injection e with e1 e2
  subst e1 e2
  refine ⟨b, off + k, rfl, hb, fun j c hj => ?_⟩
  rw [List.getElem?_drop] at hj
  rw [Nat.add_assoc]
  exact hc _ c hj
theorem bys_of_own {w : World} {base : Nat} {e : TypeId} {v : Value} {n : Nat} {l : List Nat} (h : w.ownsRow base e 1 v n (ycells l)) :
    ∃ A c, v = .slice A n c ∧ BysAt w w.heap.size A n l ∧ l.length = n := by
  obtain ⟨h1, h2⟩ := h
  have hl : l.length = n := by simpa [ycells] using h1
  rcases h2 with ⟨rfl, rfl⟩ | ⟨g, cap, cur, rfl, hg, hh, hc⟩
  · exact ⟨none, 0, rfl, ⟨hl, fun h => absurd h (by omega)⟩, hl⟩
  · refine ⟨_, cap, rfl, ⟨hl, fun hn => ⟨g, 0, rfl, lt_of_block hh, fun k p hp => ?_⟩⟩, hl⟩
    have hown : w.ownsRow base e 1 (.slice (some ⟨g, 0, none⟩) n cap) n (ycells l) := ⟨h1, .inr ⟨g, cap, cur, rfl, hg, hh, hc⟩⟩
    have hk : k < n := by
      rw [← hl]
      rcases Nat.lt_or_ge k l.length with h | h
      · exact h
      · rw [List.getElem?_eq_none h] at hp; cases hp
    simp only [Nat.zero_add]
    rw [hown.cellAt k (by omega)]
    simp [ycells, hp]
theorem ycells_snoc (l : List Nat) (c : Nat) : ycells (l ++ [c]) = ycells l ++ [.int .u8 (c : Int)] := by simp [ycells]
theorem ycells_app (l m : List Nat) : ycells (l ++ m) = ycells l ++ ycells m := by simp [ycells]
theorem ycells_len (l : List Nat) : (ycells l).length = l.length := by simp [ycells]
theorem one_at {w : World} {x : Value} {t : TypeId} : ∀ (j : Nat) (v : Value), [x][j]? = some v → (w.alloc (.cells #[x] t)).cell? ((⟨w.heap.size, 0, none⟩ : Addr).add j) = some v := by
  intro j v hj
  match j, hj with
  | 0, hj => simp at hj; subst hj; simp [Addr.add]
theorem one_one {k : IntKind} {x : Int} : ∀ v ∈ [Value.int k x], v.oneCell' = true := by
  intro v hv
  simp only [List.mem_cons, List.not_mem_nil, or_false] at hv
  subst hv; rfl
theorem Tryd.infoByte : (Tryd.prog.info? 5).map (fun i => (i.zero, i.size, i.bytes)) = some (some (.int .u8 0), 1, 1) := by kernel_rfl
/-- the call returns a row of bytes of its own -/
abbrev RetB (w : World) (l : List Nat) : Ending → World → Prop := fun e w' => ∃ s, e = .returned s ∧ w'.ownsRow w.heap.size 5 1 s l.length (ycells l) ∧ Below w.heap.size w w'

end Go.Proofs.YtmliljdbpkikpaaDoor
set_option linter.unusedSimpArgs false
set_option linter.unusedVariables false
namespace Go.Proofs.YtmliljdbpkikpaaDoor
open Go.RowKit Pg
theorem zig_neg {n : Int} (h : in64 n) (hn : n < 0) : bits .xor .u64 (IntKind.u64.wrap (IntKind.u64.wrap n * 2)) (IntKind.u64.wrap (n / 9223372036854775808)) = (zig n : Int) := by
  obtain ⟨h0, h1⟩ := h
  have e1 : IntKind.u64.wrap (IntKind.u64.wrap n * 2) = (((2 * n + 18446744073709551616).toNat : Nat) : Int) := by
    rw [IntKind.wrap_u64, IntKind.wrap_u64]
    omega
  have e2 : IntKind.u64.wrap (n / 9223372036854775808) = ((2 ^ 64 - 1 : Nat) : Int) := by
    rw [show n / 9223372036854775808 = -1 by omega]
    decide
  rw [e1, e2, bits_xor_u64_nat _ _ (by omega) (by decide), Nat.xor_comm, Lib.xor_ones64 _ (by omega)]
  unfold zig
  rw [if_pos hn]
  omega
theorem zig_pos {n : Int} (h : in64 n) (hn : ¬ n < 0) : bits .xor .u64 (n * 2) (n / 9223372036854775808) = (zig n : Int) := by
  obtain ⟨h0, h1⟩ := h
  have e1 : n * 2 = (((2 * n).toNat : Nat) : Int) := by omega
  have e2 : n / 9223372036854775808 = ((0 : Nat) : Int) := by omega
  rw [e1, e2, bits_xor_u64_nat _ _ (by omega) (by decide), Nat.xor_zero]
  unfold zig
  rw [if_neg hn]
  omega
end Go.Proofs.YtmliljdbpkikpaaDoor
set_option linter.unusedSimpArgs false
set_option linter.unusedVariables false
namespace Go.Proofs.YtmliljdbpkikpaaDoor
open Go.RowKit Pg
theorem uv_ten (l : List Nat) (a : Nat) : uv l 10 a = (0, 0) := by
  cases l with
  | nil => rfl
  | cons c r => simp [uv]

end Go.Proofs.YtmliljdbpkikpaaDoor
set_option linter.unusedSimpArgs false
set_option linter.unusedVariables false
namespace Go.Proofs.YtmliljdbpkikpaaDoor
open Go.RowKit Pg
/-- what is read: the number, how many bytes, whether there is one -/
def decV (n : Nat) (l : List Nat) : Value := match dec l with
  | none => .tuple #[.int .i64 0, .int .i64 0, .bool false]
  | some (x, r) => .tuple #[.int .i64 x, .int .i64 ((n - r.length : Nat) : Int), .bool true]
theorem uv_le {l : List Nat} (hl : ∀ c ∈ l, c < 256) : (uv l 0 0).2 ≤ l.length ∧ (uv l 0 0).1 < 18446744073709551616 := by
  by_cases h : (uv l 0 0).2 = 0
  · refine ⟨by omega, ?_⟩
    have : ∀ (l : List Nat) (i acc : Nat), (uv l i acc).2 = 0 → (uv l i acc).1 = 0 := by
      intro l
      induction l with
      | nil => intro i acc _; rfl
      | cons c r ih =>
        intro i acc h
        simp only [uv] at h ⊢
        split at h
        · rw [if_pos (by assumption)]
        rename_i h1
        rw [if_neg h1]
        split at h
        · rw [if_pos (by assumption)]
        rename_i h2
        rw [if_neg h2]
        split at h
        · rename_i h3
          rw [if_pos h3]
          split at h
          · rw [if_pos (by assumption)]
          · simp at h
        · rename_i h3
          rw [if_neg h3]
          exact ih _ _ h
    rw [this l 0 0 h]
    decide
  · obtain ⟨x, r, e1, e2, e3, _, e5, _⟩ := uv_inv l 0 0 _ _ hl rfl h
    rw [e2, e3]
    refine ⟨?_, by simpa using e5⟩
    conv => rhs; rw [e1]
    rw [List.length_append]
    omega
theorem xor_m1 (x : Nat) (hx : x < 9223372036854775808) : bits .xor .i64 (x : Int) (-1) = -(x : Int) - 1 := by
  have h := Lib.i64_not x hx
  rw [← h]
  simp only [bits]
  rw [BitVec.xor_comm]
theorem xor_z (x : Nat) (hx : x < 9223372036854775808) : bits .xor .i64 (x : Int) ((0 : Nat) : Int) = (x : Int) := by
  show IntKind.i64.wrap ((BitVec.ofInt 64 (x : Int) ^^^ BitVec.ofInt 64 ((0 : Nat) : Int)).toNat : Int) = _
  have h1 : BitVec.ofInt 64 ((0 : Nat) : Int) = 0#64 := by decide
  have h2 : (BitVec.ofInt 64 (x : Int)).toNat = x := by
    rw [BitVec.ofInt_natCast, BitVec.toNat_ofNat]; exact Nat.mod_eq_of_lt (by omega)
  rw [h1, BitVec.xor_zero, h2, IntKind.wrap_i64]
  omega

end Go.Proofs.YtmliljdbpkikpaaDoor
