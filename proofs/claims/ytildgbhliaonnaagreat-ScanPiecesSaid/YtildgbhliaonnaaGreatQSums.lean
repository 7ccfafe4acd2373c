/-
  Contracts: pergolaalike.Sum, Total.
-/
import Derived.Test.YtildgbhliaonnaaGreatQRel1
import Derived.LaidEql
import Derived.Stop.Asserts
import Derived.Lib.IfaceEq
import Derived.RowKitTokens
import Derived.Test.YtildgbhliaonnaaGreatQRef3
import Derived.Test.YtildgbhliaonnaaGreatQEncG
set_option linter.unusedVariables false
set_option linter.unusedSimpArgs false
set_option maxHeartbeats 2000000
namespace Go.Proofs.YtildgbhliaonnaaGreat
open Go.RowKit Pg
def sumS : Nat → List Nat → Nat
 | n,[] => n
 | n,x :: r => if 1099511627776 - n < x then 1099511627776 else sumS (n + x) r
theorem sumS_drop {xs : List Nat} {k : Nat} (m : Nat) (hk : k < xs.length) : sumS m (xs.drop k) = if 1099511627776 - m < xs[k] then 1099511627776 else sumS (m + xs[k]) (xs.drop (k + 1)) := by
 rw [List.drop_eq_getElem_cons hk,sumS]
theorem sumS_le : ∀ (xs : List Nat) (n : Nat),n ≤ 1099511627776 → n ≤ sumS n xs ∧ sumS n xs ≤ 1099511627776
 | [],n,h => ⟨Nat.le_refl _,h⟩
 | x :: r,n,h => by
   unfold sumS
   split
   · omega
   · have := sumS_le r (n + x) (by omega)
     omega
theorem sumS_small : ∀ (xs : List Nat) (n : Nat),n ≤ 1099511627776 → sumS n xs < 1099511627776 → sumS n xs = n + xs.sum
 | [],n,h,_ => by simp [sumS]
 | x :: r,n,h,h2 => by
   unfold sumS at h2 ⊢
   split at h2
   · omega
   · rename_i h3
     rw [if_neg h3, sumS_small r (n + x) (by omega) h2, List.sum_cons]
     omega
abbrev icells (xs : List Nat) : Array Value := (xs.map fun x : Nat => Value.int .i64 (x : Int)).toArray
theorem sum_any (g n N : Nat) (t : TypeId) (xs : List Nat) (w : World) (hg : Blk w g t (icells xs)) (hN : xs.length = N) (hN2 : N ≤ 1000000) (hn : n ≤ 1099511627776) :
 Calls Tryz.prog 36 #[.int .i64 n,.slice (some ⟨g,0,none⟩) N N] w fun e w' => e = .returned (.int .i64 (sumS n xs : Nat)) ∧ w = w' := by
 have HG := Lib.hid hg;clear hg
 go_enter Tryz.func36,Tryz.ntmps36
 go_wp2_with fail
 go_loopw [0,5] (fun vn vi wr => ∃ k m : Nat,k ≤ N ∧ vi = .int .i64 k ∧ vn = .int .i64 m ∧ m ≤ 1099511627776 ∧ sumS m (xs.drop k) = sumS n xs ∧ w = wr) (fun _ vi _ => N - (intOf vi).toNat)
 case atStart => exact ⟨0,n,by omega,rfl,rfl,hn,rfl,rfl⟩
 case round =>
  obtain ⟨k,m,hk,rfl,rfl,hm,hs,rfl⟩ := hrel
  by_cases hlt : k < N
  · have hk1 : (k : Int) < (N : Int) := by omega
    have hkl : k < xs.length := by omega
    rw [sumS_drop m hkl] at hs;have cG : w.cell? ⟨g,k,none⟩ = some (.int .i64 (xs[k] : Int)) := by rw [HG.out.cell];simp [hkl]
    obtain ⟨x,hx⟩ : ∃ x,xs[k] = x := ⟨_,rfl⟩;rw [hx] at hs cG;have hm1 : decide ((1099511627776 : Int) < (m : Int)) = false := decide_eq_false (by omega)
    have hw : IntKind.i64.wrap (1099511627776 - (m : Int)) = ((1099511627776 - m : Nat) : Int) := by rw [IntKind.wrap_i64];omega
    have hm2 : ¬ 1099511627776 < m := by omega
    have HS := Lib.hid hs;have HX := Lib.hid hx
    by_cases hb : 1099511627776 - m < x
    · have hb1 : ((1099511627776 - m : Nat) : Int) < (x : Int) := by omega
      have HE : Hid (sumS n xs = 1099511627776) := by have := HS.out;rw [if_pos hb] at this;exact this.symm
      clear hs hx hm hb;generalize 1099511627776 - m = d at *;go_wp2_with fail;go_ret;exact ⟨by rw [HE.out];rfl,rfl⟩
    · have hb1 : ¬ ((1099511627776 - m : Nat) : Int) < (x : Int) := by omega
      have hb2 : m + x ≤ 1099511627776 := by omega
      have HE : Hid (sumS (m + x) (xs.drop (k + 1)) = sumS n xs) := by have := HS.out;rw [if_neg hb] at this;exact this
      have hw2 : IntKind.i64.wrap ((m : Int) + (x : Int)) = ((m + x : Nat) : Int) := by rw [IntKind.wrap_i64];omega
      have HB2 := Lib.hid hb2;have hb4 : ¬ 1099511627776 - m < x := hb;clear hs hx hm hb hb2;generalize 1099511627776 - m = d at *;go_wp2_with fail
      go_roundw
      case rel => exact ⟨k + 1, m + x, by omega, by go_num, by go_num, HB2.out, HE.out, trivial⟩
      case measure => simp [intOf];omega
  · obtain rfl : N = k := by omega
    rw [List.drop_of_length_le (by omega)] at hs
    have HE : Hid (sumS n xs = m) := hs.symm;clear hs;go_wp2_with fail;go_ret;exact ⟨by rw [HE.out];rfl,rfl⟩
theorem sum_one (g n x : Nat) (t : TypeId) (w : World) (hg : Blk w g t #[.int .i64 (x : Int)]) (hn : n ≤ 1099511627776) :
 Calls Tryz.prog 36 #[.int .i64 n,.slice (some ⟨g,0,none⟩) 1 1] w fun e w' => e = .returned (.int .i64 (sumS n [x] : Nat)) ∧ w = w' := sum_any g n 1 t [x] w hg rfl (by decide) hn
theorem sum_one0 (g x : Nat) (t : TypeId) (w : World) (hg : Blk w g t #[.int .i64 (x : Int)]) :
 Calls Tryz.prog 36 #[.int .i64 0,.slice (some ⟨g,0,none⟩) 1 1] w fun e w' => e = .returned (.int .i64 (sumS 0 [x] : Nat)) ∧ w = w' := sum_one g 0 x t w hg (by decide)
end Go.Proofs.YtildgbhliaonnaaGreat
