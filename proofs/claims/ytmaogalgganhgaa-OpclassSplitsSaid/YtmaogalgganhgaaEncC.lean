/-
  Contracts of the two Unvarint.
-/
import Derived.Test.YtmaogalgganhgaaEncB
set_option linter.unusedSimpArgs false
set_option linter.unusedVariables false
namespace Go.Proofs.Ytmaogalgganhgaa
open Go.RowKit Pg

theorem uv_ten (l : List Nat) (a : Nat) : uv l 10 a = (0, 0) := by
  cases l with
  | nil => rfl
  | cons c r => simp [uv]

set_option maxHeartbeats 32000000 in
set_option maxRecDepth 100000 in
theorem unvarint_any (B n c : Nat) (A : Option Addr) (l : List Nat) (w : World) (hl : BysAt w B A n l) (h256 : ∀ x ∈ l, x < 256) (hB : B ≤ w.heap.size) (hn : n ≤ 1000000) :
    Calls Try.prog 54 #[.slice A n c] w (Ret w (.tuple #[.int .u64 ((uv l 0 0).1 : Nat), .int .i64 ((uv l 0 0).2 : Nat)])) := by
  obtain ⟨R1, R2, hR⟩ : ∃ R1 R2, uv l 0 0 = (R1, R2) := ⟨_, _, rfl⟩
  rw [hR]
  simp only
  go_enter Try.func54, Try.ntmps54
  go_wp2
  go_loopw [2, 3] (fun vx vi wr => ∃ k acc : Nat, vi = .int .i64 k ∧ vx = .int .u64 acc ∧ k ≤ 10 ∧ k ≤ n ∧ ((R1, R2) = uv (l.drop k) k acc ∧ acc < 2 ^ (7 * k)) ∧ Below w.heap.size w wr) (fun _ vi _ => n - (intOf vi).toNat)
  case atStart => exact ⟨0, 0, rfl, rfl, by omega, by omega, ⟨hR.symm, by decide⟩, Below.refl _ _⟩
  case round =>
    obtain ⟨k, acc, rfl, rfl, hk10, hkn, ⟨hdec, hacc⟩, hbl⟩ := hrel
    by_cases hk : k < n
    · obtain ⟨blk, off, rfl, hab, hc⟩ := (hl.below (hbl.mono hB)).at_ hk
      have hlen : k < l.length := by rw [hl.1]; exact hk
      have hget : l.getD k 0 = l[k] := by rw [List.getD_eq_getElem?_getD, List.getElem?_eq_getElem hlen]; rfl
      have hdrop : l.drop k = l.getD k 0 :: l.drop (k + 1) := by rw [hget]; exact List.drop_eq_getElem_cons hlen
      have hb256 : l.getD k 0 < 256 := by rw [hget]; exact h256 _ (List.getElem_mem hlen)
      rw [hdrop] at hdec
      generalize l.getD k 0 = b at hc hdec hb256
      clear hdrop hget h256
      have hks : k = 0 ∨ k = 1 ∨ k = 2 ∨ k = 3 ∨ k = 4 ∨ k = 5 ∨ k = 6 ∨ k = 7 ∨ k = 8 ∨ k = 9 ∨ k = 10 := by omega
      have hl := Lib.hid hl
      have hR := Lib.hid hR
      rcases hks with rfl | rfl | rfl | rfl | rfl | rfl | rfl | rfl | rfl | rfl | rfl
      · -- byte 0
        obtain rfl : acc = 0 := by simpa using hacc
        have hc0 : wr.cell? ⟨blk, off, none⟩ = some (.int .u8 (b : Int)) := hc
        by_cases hb : b < 128
        · by_cases hb0 : b = 0
          · subst hb0
            have hF : uv (0 :: l.drop (0 + 1)) 0 0 = (0, 1) := by simp [uv]
            rw [hF] at hdec
            obtain ⟨rfl, rfl⟩ := Prod.mk.inj hdec
            clear hdec
            go_wp2
            go_ret2
            exact ⟨by first | rfl | (simp; done) | (congr 3; omega), (by repeat (first | with_reducible exact Below.refl _ _ | with_reducible assumption | with_reducible refine al ?_ _ | with_reducible refine Below.drew ?_ | with_reducible refine Below.setCell ?_ (by first | (simp; done) | (simp; omega)) _ | with_reducible refine tr ?_ (by with_reducible assumption)))⟩
          · have hF : uv (b :: l.drop (0 + 1)) 0 0 = (0 + b * 1, 1) := by
              simp only [uv]
              rw [if_neg (by omega), if_neg (by omega), if_pos hb, if_neg (by omega), Nat.mod_eq_of_lt hb]
            rw [hF] at hdec
            have hor : bits .or .u64 0 (IntKind.u64.wrap (IntKind.u64.wrap (bits .and .u8 (b : Int) 127))) = ((0 + b * 1 : Nat) : Int) := by
              simp (disch := omega) only [u8_and127, u64_wrap_id, u64_orv0]
              omega
            obtain ⟨rfl, rfl⟩ := Prod.mk.inj hdec
            clear hdec
            go_wp2
            go_ret2
            exact ⟨by first | rfl | (simp; done) | (congr 3; omega), (by repeat (first | with_reducible exact Below.refl _ _ | with_reducible assumption | with_reducible refine al ?_ _ | with_reducible refine Below.drew ?_ | with_reducible refine Below.setCell ?_ (by first | (simp; done) | (simp; omega)) _ | with_reducible refine tr ?_ (by with_reducible assumption)))⟩
        · have hF : uv (b :: l.drop (0 + 1)) 0 0 = uv (l.drop (0 + 1)) 1 (0 + b % 128 * 1) := by
            simp only [uv]
            rw [if_neg (by omega), if_neg (by omega), if_neg hb]
            first | done | rfl | simp
          have hv : bits .or .u64 0 (IntKind.u64.wrap (IntKind.u64.wrap (bits .and .u8 (b : Int) 127))) = ((0 + b % 128 * 1 : Nat) : Int) := by
            simp (disch := omega) only [u8_and127, u64_wrap_id, u64_orv0]
            omega
          have hlim : 0 + b % 128 * 1 < 128 := by omega
          have HN : Hid ((R1, R2) = uv (l.drop 1) 1 (0 + b % 128 * 1) ∧ 0 + b % 128 * 1 < 2 ^ (7 * 1)) := ⟨hdec.trans hF, by simpa using hlim⟩
          clear hdec
          go_wp2
          go_roundw
          case rel => exact ⟨1, 0 + b % 128 * 1, by first | rfl | (simp; done), by first | rfl | go_num, by omega, by omega, HN.out, (by repeat (first | with_reducible exact Below.refl _ _ | with_reducible assumption | with_reducible refine al ?_ _ | with_reducible refine Below.drew ?_ | with_reducible refine Below.setCell ?_ (by first | (simp; done) | (simp; omega)) _ | with_reducible refine tr ?_ (by with_reducible assumption)))⟩
          case measure => simp [intOf]; omega
      · -- byte 1
        have hacc' : acc < 128 := by simpa using hacc
        clear hacc
        by_cases hb : b < 128
        · by_cases hb0 : b = 0
          · subst hb0
            have hF : uv (0 :: l.drop (1 + 1)) 1 acc = (0, 0) := by simp [uv]
            rw [hF] at hdec
            obtain ⟨rfl, rfl⟩ := Prod.mk.inj hdec
            clear hdec
            go_wp2
            go_ret2
            exact ⟨rfl, (by repeat (first | with_reducible exact Below.refl _ _ | with_reducible assumption | with_reducible refine al ?_ _ | with_reducible refine Below.drew ?_ | with_reducible refine Below.setCell ?_ (by first | (simp; done) | (simp; omega)) _ | with_reducible refine tr ?_ (by with_reducible assumption)))⟩
          · have hF : uv (b :: l.drop (1 + 1)) 1 acc = (acc + b * 128, 2) := by
              simp only [uv]
              rw [if_neg (by omega), if_neg (by omega), if_pos hb, if_neg (by omega), Nat.mod_eq_of_lt hb]
            rw [hF] at hdec
            have hor : bits .or .u64 (acc : Int) (IntKind.u64.wrap (IntKind.u64.wrap (bits .and .u8 (b : Int) 127) * 128)) = ((acc + b * 128 : Nat) : Int) := by
              simp (disch := omega) only [u8_and127, u64_wrap_id, u64_orv7]
              omega
            obtain ⟨rfl, rfl⟩ := Prod.mk.inj hdec
            clear hdec
            go_wp2
            go_ret2
            exact ⟨by first | rfl | (simp; done) | (congr 3; omega), (by repeat (first | with_reducible exact Below.refl _ _ | with_reducible assumption | with_reducible refine al ?_ _ | with_reducible refine Below.drew ?_ | with_reducible refine Below.setCell ?_ (by first | (simp; done) | (simp; omega)) _ | with_reducible refine tr ?_ (by with_reducible assumption)))⟩
        · have hF : uv (b :: l.drop (1 + 1)) 1 acc = uv (l.drop (1 + 1)) 2 (acc + b % 128 * 128) := by
            simp only [uv]
            rw [if_neg (by omega), if_neg (by omega), if_neg hb]
            first | done | rfl | simp
          have hv : bits .or .u64 (acc : Int) (IntKind.u64.wrap (IntKind.u64.wrap (bits .and .u8 (b : Int) 127) * 128)) = ((acc + b % 128 * 128 : Nat) : Int) := by
            simp (disch := omega) only [u8_and127, u64_wrap_id, u64_orv7]
            omega
          have hlim : acc + b % 128 * 128 < 16384 := by omega
          have HN : Hid ((R1, R2) = uv (l.drop 2) 2 (acc + b % 128 * 128) ∧ acc + b % 128 * 128 < 2 ^ (7 * 2)) := ⟨hdec.trans hF, by simpa using hlim⟩
          clear hdec
          go_wp2
          go_roundw
          case rel => exact ⟨2, acc + b % 128 * 128, by first | rfl | (simp; done), by first | rfl | go_num, by omega, by omega, HN.out, (by repeat (first | with_reducible exact Below.refl _ _ | with_reducible assumption | with_reducible refine al ?_ _ | with_reducible refine Below.drew ?_ | with_reducible refine Below.setCell ?_ (by first | (simp; done) | (simp; omega)) _ | with_reducible refine tr ?_ (by with_reducible assumption)))⟩
          case measure => simp [intOf]; omega
      · -- byte 2
        have hacc' : acc < 16384 := by simpa using hacc
        clear hacc
        by_cases hb : b < 128
        · by_cases hb0 : b = 0
          · subst hb0
            have hF : uv (0 :: l.drop (2 + 1)) 2 acc = (0, 0) := by simp [uv]
            rw [hF] at hdec
            obtain ⟨rfl, rfl⟩ := Prod.mk.inj hdec
            clear hdec
            go_wp2
            go_ret2
            exact ⟨rfl, (by repeat (first | with_reducible exact Below.refl _ _ | with_reducible assumption | with_reducible refine al ?_ _ | with_reducible refine Below.drew ?_ | with_reducible refine Below.setCell ?_ (by first | (simp; done) | (simp; omega)) _ | with_reducible refine tr ?_ (by with_reducible assumption)))⟩
          · have hF : uv (b :: l.drop (2 + 1)) 2 acc = (acc + b * 16384, 3) := by
              simp only [uv]
              rw [if_neg (by omega), if_neg (by omega), if_pos hb, if_neg (by omega), Nat.mod_eq_of_lt hb]
            rw [hF] at hdec
            have hor : bits .or .u64 (acc : Int) (IntKind.u64.wrap (IntKind.u64.wrap (bits .and .u8 (b : Int) 127) * 16384)) = ((acc + b * 16384 : Nat) : Int) := by
              simp (disch := omega) only [u8_and127, u64_wrap_id, u64_orv14]
              omega
            obtain ⟨rfl, rfl⟩ := Prod.mk.inj hdec
            clear hdec
            go_wp2
            go_ret2
            exact ⟨by first | rfl | (simp; done) | (congr 3; omega), (by repeat (first | with_reducible exact Below.refl _ _ | with_reducible assumption | with_reducible refine al ?_ _ | with_reducible refine Below.drew ?_ | with_reducible refine Below.setCell ?_ (by first | (simp; done) | (simp; omega)) _ | with_reducible refine tr ?_ (by with_reducible assumption)))⟩
        · have hF : uv (b :: l.drop (2 + 1)) 2 acc = uv (l.drop (2 + 1)) 3 (acc + b % 128 * 16384) := by
            simp only [uv]
            rw [if_neg (by omega), if_neg (by omega), if_neg hb]
            first | done | rfl | simp
          have hv : bits .or .u64 (acc : Int) (IntKind.u64.wrap (IntKind.u64.wrap (bits .and .u8 (b : Int) 127) * 16384)) = ((acc + b % 128 * 16384 : Nat) : Int) := by
            simp (disch := omega) only [u8_and127, u64_wrap_id, u64_orv14]
            omega
          have hlim : acc + b % 128 * 16384 < 2097152 := by omega
          have HN : Hid ((R1, R2) = uv (l.drop 3) 3 (acc + b % 128 * 16384) ∧ acc + b % 128 * 16384 < 2 ^ (7 * 3)) := ⟨hdec.trans hF, by simpa using hlim⟩
          clear hdec
          go_wp2
          go_roundw
          case rel => exact ⟨3, acc + b % 128 * 16384, by first | rfl | (simp; done), by first | rfl | go_num, by omega, by omega, HN.out, (by repeat (first | with_reducible exact Below.refl _ _ | with_reducible assumption | with_reducible refine al ?_ _ | with_reducible refine Below.drew ?_ | with_reducible refine Below.setCell ?_ (by first | (simp; done) | (simp; omega)) _ | with_reducible refine tr ?_ (by with_reducible assumption)))⟩
          case measure => simp [intOf]; omega
      · -- byte 3
        have hacc' : acc < 2097152 := by simpa using hacc
        clear hacc
        by_cases hb : b < 128
        · by_cases hb0 : b = 0
          · subst hb0
            have hF : uv (0 :: l.drop (3 + 1)) 3 acc = (0, 0) := by simp [uv]
            rw [hF] at hdec
            obtain ⟨rfl, rfl⟩ := Prod.mk.inj hdec
            clear hdec
            go_wp2
            go_ret2
            exact ⟨rfl, (by repeat (first | with_reducible exact Below.refl _ _ | with_reducible assumption | with_reducible refine al ?_ _ | with_reducible refine Below.drew ?_ | with_reducible refine Below.setCell ?_ (by first | (simp; done) | (simp; omega)) _ | with_reducible refine tr ?_ (by with_reducible assumption)))⟩
          · have hF : uv (b :: l.drop (3 + 1)) 3 acc = (acc + b * 2097152, 4) := by
              simp only [uv]
              rw [if_neg (by omega), if_neg (by omega), if_pos hb, if_neg (by omega), Nat.mod_eq_of_lt hb]
            rw [hF] at hdec
            have hor : bits .or .u64 (acc : Int) (IntKind.u64.wrap (IntKind.u64.wrap (bits .and .u8 (b : Int) 127) * 2097152)) = ((acc + b * 2097152 : Nat) : Int) := by
              simp (disch := omega) only [u8_and127, u64_wrap_id, u64_orv21]
              omega
            obtain ⟨rfl, rfl⟩ := Prod.mk.inj hdec
            clear hdec
            go_wp2
            go_ret2
            exact ⟨by first | rfl | (simp; done) | (congr 3; omega), (by repeat (first | with_reducible exact Below.refl _ _ | with_reducible assumption | with_reducible refine al ?_ _ | with_reducible refine Below.drew ?_ | with_reducible refine Below.setCell ?_ (by first | (simp; done) | (simp; omega)) _ | with_reducible refine tr ?_ (by with_reducible assumption)))⟩
        · have hF : uv (b :: l.drop (3 + 1)) 3 acc = uv (l.drop (3 + 1)) 4 (acc + b % 128 * 2097152) := by
            simp only [uv]
            rw [if_neg (by omega), if_neg (by omega), if_neg hb]
            first | done | rfl | simp
          have hv : bits .or .u64 (acc : Int) (IntKind.u64.wrap (IntKind.u64.wrap (bits .and .u8 (b : Int) 127) * 2097152)) = ((acc + b % 128 * 2097152 : Nat) : Int) := by
            simp (disch := omega) only [u8_and127, u64_wrap_id, u64_orv21]
            omega
          have hlim : acc + b % 128 * 2097152 < 268435456 := by omega
          have HN : Hid ((R1, R2) = uv (l.drop 4) 4 (acc + b % 128 * 2097152) ∧ acc + b % 128 * 2097152 < 2 ^ (7 * 4)) := ⟨hdec.trans hF, by simpa using hlim⟩
          clear hdec
          go_wp2
          go_roundw
          case rel => exact ⟨4, acc + b % 128 * 2097152, by first | rfl | (simp; done), by first | rfl | go_num, by omega, by omega, HN.out, (by repeat (first | with_reducible exact Below.refl _ _ | with_reducible assumption | with_reducible refine al ?_ _ | with_reducible refine Below.drew ?_ | with_reducible refine Below.setCell ?_ (by first | (simp; done) | (simp; omega)) _ | with_reducible refine tr ?_ (by with_reducible assumption)))⟩
          case measure => simp [intOf]; omega
      · -- byte 4
        have hacc' : acc < 268435456 := by simpa using hacc
        clear hacc
        by_cases hb : b < 128
        · by_cases hb0 : b = 0
          · subst hb0
            have hF : uv (0 :: l.drop (4 + 1)) 4 acc = (0, 0) := by simp [uv]
            rw [hF] at hdec
            obtain ⟨rfl, rfl⟩ := Prod.mk.inj hdec
            clear hdec
            go_wp2
            go_ret2
            exact ⟨rfl, (by repeat (first | with_reducible exact Below.refl _ _ | with_reducible assumption | with_reducible refine al ?_ _ | with_reducible refine Below.drew ?_ | with_reducible refine Below.setCell ?_ (by first | (simp; done) | (simp; omega)) _ | with_reducible refine tr ?_ (by with_reducible assumption)))⟩
          · have hF : uv (b :: l.drop (4 + 1)) 4 acc = (acc + b * 268435456, 5) := by
              simp only [uv]
              rw [if_neg (by omega), if_neg (by omega), if_pos hb, if_neg (by omega), Nat.mod_eq_of_lt hb]
            rw [hF] at hdec
            have hor : bits .or .u64 (acc : Int) (IntKind.u64.wrap (IntKind.u64.wrap (bits .and .u8 (b : Int) 127) * 268435456)) = ((acc + b * 268435456 : Nat) : Int) := by
              simp (disch := omega) only [u8_and127, u64_wrap_id, u64_orv28]
              omega
            obtain ⟨rfl, rfl⟩ := Prod.mk.inj hdec
            clear hdec
            go_wp2
            go_ret2
            exact ⟨by first | rfl | (simp; done) | (congr 3; omega), (by repeat (first | with_reducible exact Below.refl _ _ | with_reducible assumption | with_reducible refine al ?_ _ | with_reducible refine Below.drew ?_ | with_reducible refine Below.setCell ?_ (by first | (simp; done) | (simp; omega)) _ | with_reducible refine tr ?_ (by with_reducible assumption)))⟩
        · have hF : uv (b :: l.drop (4 + 1)) 4 acc = uv (l.drop (4 + 1)) 5 (acc + b % 128 * 268435456) := by
            simp only [uv]
            rw [if_neg (by omega), if_neg (by omega), if_neg hb]
            first | done | rfl | simp
          have hv : bits .or .u64 (acc : Int) (IntKind.u64.wrap (IntKind.u64.wrap (bits .and .u8 (b : Int) 127) * 268435456)) = ((acc + b % 128 * 268435456 : Nat) : Int) := by
            simp (disch := omega) only [u8_and127, u64_wrap_id, u64_orv28]
            omega
          have hlim : acc + b % 128 * 268435456 < 34359738368 := by omega
          have HN : Hid ((R1, R2) = uv (l.drop 5) 5 (acc + b % 128 * 268435456) ∧ acc + b % 128 * 268435456 < 2 ^ (7 * 5)) := ⟨hdec.trans hF, by simpa using hlim⟩
          clear hdec
          go_wp2
          go_roundw
          case rel => exact ⟨5, acc + b % 128 * 268435456, by first | rfl | (simp; done), by first | rfl | go_num, by omega, by omega, HN.out, (by repeat (first | with_reducible exact Below.refl _ _ | with_reducible assumption | with_reducible refine al ?_ _ | with_reducible refine Below.drew ?_ | with_reducible refine Below.setCell ?_ (by first | (simp; done) | (simp; omega)) _ | with_reducible refine tr ?_ (by with_reducible assumption)))⟩
          case measure => simp [intOf]; omega
      · -- byte 5
        have hacc' : acc < 34359738368 := by simpa using hacc
        clear hacc
        by_cases hb : b < 128
        · by_cases hb0 : b = 0
          · subst hb0
            have hF : uv (0 :: l.drop (5 + 1)) 5 acc = (0, 0) := by simp [uv]
            rw [hF] at hdec
            obtain ⟨rfl, rfl⟩ := Prod.mk.inj hdec
            clear hdec
            go_wp2
            go_ret2
            exact ⟨rfl, (by repeat (first | with_reducible exact Below.refl _ _ | with_reducible assumption | with_reducible refine al ?_ _ | with_reducible refine Below.drew ?_ | with_reducible refine Below.setCell ?_ (by first | (simp; done) | (simp; omega)) _ | with_reducible refine tr ?_ (by with_reducible assumption)))⟩
          · have hF : uv (b :: l.drop (5 + 1)) 5 acc = (acc + b * 34359738368, 6) := by
              simp only [uv]
              rw [if_neg (by omega), if_neg (by omega), if_pos hb, if_neg (by omega), Nat.mod_eq_of_lt hb]
            rw [hF] at hdec
            have hor : bits .or .u64 (acc : Int) (IntKind.u64.wrap (IntKind.u64.wrap (bits .and .u8 (b : Int) 127) * 34359738368)) = ((acc + b * 34359738368 : Nat) : Int) := by
              simp (disch := omega) only [u8_and127, u64_wrap_id, u64_orv35]
              omega
            obtain ⟨rfl, rfl⟩ := Prod.mk.inj hdec
            clear hdec
            go_wp2
            go_ret2
            exact ⟨by first | rfl | (simp; done) | (congr 3; omega), (by repeat (first | with_reducible exact Below.refl _ _ | with_reducible assumption | with_reducible refine al ?_ _ | with_reducible refine Below.drew ?_ | with_reducible refine Below.setCell ?_ (by first | (simp; done) | (simp; omega)) _ | with_reducible refine tr ?_ (by with_reducible assumption)))⟩
        · have hF : uv (b :: l.drop (5 + 1)) 5 acc = uv (l.drop (5 + 1)) 6 (acc + b % 128 * 34359738368) := by
            simp only [uv]
            rw [if_neg (by omega), if_neg (by omega), if_neg hb]
            first | done | rfl | simp
          have hv : bits .or .u64 (acc : Int) (IntKind.u64.wrap (IntKind.u64.wrap (bits .and .u8 (b : Int) 127) * 34359738368)) = ((acc + b % 128 * 34359738368 : Nat) : Int) := by
            simp (disch := omega) only [u8_and127, u64_wrap_id, u64_orv35]
            omega
          have hlim : acc + b % 128 * 34359738368 < 4398046511104 := by omega
          have HN : Hid ((R1, R2) = uv (l.drop 6) 6 (acc + b % 128 * 34359738368) ∧ acc + b % 128 * 34359738368 < 2 ^ (7 * 6)) := ⟨hdec.trans hF, by simpa using hlim⟩
          clear hdec
          go_wp2
          go_roundw
          case rel => exact ⟨6, acc + b % 128 * 34359738368, by first | rfl | (simp; done), by first | rfl | go_num, by omega, by omega, HN.out, (by repeat (first | with_reducible exact Below.refl _ _ | with_reducible assumption | with_reducible refine al ?_ _ | with_reducible refine Below.drew ?_ | with_reducible refine Below.setCell ?_ (by first | (simp; done) | (simp; omega)) _ | with_reducible refine tr ?_ (by with_reducible assumption)))⟩
          case measure => simp [intOf]; omega
      · -- byte 6
        have hacc' : acc < 4398046511104 := by simpa using hacc
        clear hacc
        by_cases hb : b < 128
        · by_cases hb0 : b = 0
          · subst hb0
            have hF : uv (0 :: l.drop (6 + 1)) 6 acc = (0, 0) := by simp [uv]
            rw [hF] at hdec
            obtain ⟨rfl, rfl⟩ := Prod.mk.inj hdec
            clear hdec
            go_wp2
            go_ret2
            exact ⟨rfl, (by repeat (first | with_reducible exact Below.refl _ _ | with_reducible assumption | with_reducible refine al ?_ _ | with_reducible refine Below.drew ?_ | with_reducible refine Below.setCell ?_ (by first | (simp; done) | (simp; omega)) _ | with_reducible refine tr ?_ (by with_reducible assumption)))⟩
          · have hF : uv (b :: l.drop (6 + 1)) 6 acc = (acc + b * 4398046511104, 7) := by
              simp only [uv]
              rw [if_neg (by omega), if_neg (by omega), if_pos hb, if_neg (by omega), Nat.mod_eq_of_lt hb]
            rw [hF] at hdec
            have hor : bits .or .u64 (acc : Int) (IntKind.u64.wrap (IntKind.u64.wrap (bits .and .u8 (b : Int) 127) * 4398046511104)) = ((acc + b * 4398046511104 : Nat) : Int) := by
              simp (disch := omega) only [u8_and127, u64_wrap_id, u64_orv42]
              omega
            obtain ⟨rfl, rfl⟩ := Prod.mk.inj hdec
            clear hdec
            go_wp2
            go_ret2
            exact ⟨by first | rfl | (simp; done) | (congr 3; omega), (by repeat (first | with_reducible exact Below.refl _ _ | with_reducible assumption | with_reducible refine al ?_ _ | with_reducible refine Below.drew ?_ | with_reducible refine Below.setCell ?_ (by first | (simp; done) | (simp; omega)) _ | with_reducible refine tr ?_ (by with_reducible assumption)))⟩
        · have hF : uv (b :: l.drop (6 + 1)) 6 acc = uv (l.drop (6 + 1)) 7 (acc + b % 128 * 4398046511104) := by
            simp only [uv]
            rw [if_neg (by omega), if_neg (by omega), if_neg hb]
            first | done | rfl | simp
          have hv : bits .or .u64 (acc : Int) (IntKind.u64.wrap (IntKind.u64.wrap (bits .and .u8 (b : Int) 127) * 4398046511104)) = ((acc + b % 128 * 4398046511104 : Nat) : Int) := by
            simp (disch := omega) only [u8_and127, u64_wrap_id, u64_orv42]
            omega
          have hlim : acc + b % 128 * 4398046511104 < 562949953421312 := by omega
          have HN : Hid ((R1, R2) = uv (l.drop 7) 7 (acc + b % 128 * 4398046511104) ∧ acc + b % 128 * 4398046511104 < 2 ^ (7 * 7)) := ⟨hdec.trans hF, by simpa using hlim⟩
          clear hdec
          go_wp2
          go_roundw
          case rel => exact ⟨7, acc + b % 128 * 4398046511104, by first | rfl | (simp; done), by first | rfl | go_num, by omega, by omega, HN.out, (by repeat (first | with_reducible exact Below.refl _ _ | with_reducible assumption | with_reducible refine al ?_ _ | with_reducible refine Below.drew ?_ | with_reducible refine Below.setCell ?_ (by first | (simp; done) | (simp; omega)) _ | with_reducible refine tr ?_ (by with_reducible assumption)))⟩
          case measure => simp [intOf]; omega
      · -- byte 7
        have hacc' : acc < 562949953421312 := by simpa using hacc
        clear hacc
        by_cases hb : b < 128
        · by_cases hb0 : b = 0
          · subst hb0
            have hF : uv (0 :: l.drop (7 + 1)) 7 acc = (0, 0) := by simp [uv]
            rw [hF] at hdec
            obtain ⟨rfl, rfl⟩ := Prod.mk.inj hdec
            clear hdec
            go_wp2
            go_ret2
            exact ⟨rfl, (by repeat (first | with_reducible exact Below.refl _ _ | with_reducible assumption | with_reducible refine al ?_ _ | with_reducible refine Below.drew ?_ | with_reducible refine Below.setCell ?_ (by first | (simp; done) | (simp; omega)) _ | with_reducible refine tr ?_ (by with_reducible assumption)))⟩
          · have hF : uv (b :: l.drop (7 + 1)) 7 acc = (acc + b * 562949953421312, 8) := by
              simp only [uv]
              rw [if_neg (by omega), if_neg (by omega), if_pos hb, if_neg (by omega), Nat.mod_eq_of_lt hb]
            rw [hF] at hdec
            have hor : bits .or .u64 (acc : Int) (IntKind.u64.wrap (IntKind.u64.wrap (bits .and .u8 (b : Int) 127) * 562949953421312)) = ((acc + b * 562949953421312 : Nat) : Int) := by
              simp (disch := omega) only [u8_and127, u64_wrap_id, u64_orv49]
              omega
            obtain ⟨rfl, rfl⟩ := Prod.mk.inj hdec
            clear hdec
            go_wp2
            go_ret2
            exact ⟨by first | rfl | (simp; done) | (congr 3; omega), (by repeat (first | with_reducible exact Below.refl _ _ | with_reducible assumption | with_reducible refine al ?_ _ | with_reducible refine Below.drew ?_ | with_reducible refine Below.setCell ?_ (by first | (simp; done) | (simp; omega)) _ | with_reducible refine tr ?_ (by with_reducible assumption)))⟩
        · have hF : uv (b :: l.drop (7 + 1)) 7 acc = uv (l.drop (7 + 1)) 8 (acc + b % 128 * 562949953421312) := by
            simp only [uv]
            rw [if_neg (by omega), if_neg (by omega), if_neg hb]
            first | done | rfl | simp
          have hv : bits .or .u64 (acc : Int) (IntKind.u64.wrap (IntKind.u64.wrap (bits .and .u8 (b : Int) 127) * 562949953421312)) = ((acc + b % 128 * 562949953421312 : Nat) : Int) := by
            simp (disch := omega) only [u8_and127, u64_wrap_id, u64_orv49]
            omega
          have hlim : acc + b % 128 * 562949953421312 < 72057594037927936 := by omega
          have HN : Hid ((R1, R2) = uv (l.drop 8) 8 (acc + b % 128 * 562949953421312) ∧ acc + b % 128 * 562949953421312 < 2 ^ (7 * 8)) := ⟨hdec.trans hF, by simpa using hlim⟩
          clear hdec
          go_wp2
          go_roundw
          case rel => exact ⟨8, acc + b % 128 * 562949953421312, by first | rfl | (simp; done), by first | rfl | go_num, by omega, by omega, HN.out, (by repeat (first | with_reducible exact Below.refl _ _ | with_reducible assumption | with_reducible refine al ?_ _ | with_reducible refine Below.drew ?_ | with_reducible refine Below.setCell ?_ (by first | (simp; done) | (simp; omega)) _ | with_reducible refine tr ?_ (by with_reducible assumption)))⟩
          case measure => simp [intOf]; omega
      · -- byte 8
        have hacc' : acc < 72057594037927936 := by simpa using hacc
        clear hacc
        by_cases hb : b < 128
        · by_cases hb0 : b = 0
          · subst hb0
            have hF : uv (0 :: l.drop (8 + 1)) 8 acc = (0, 0) := by simp [uv]
            rw [hF] at hdec
            obtain ⟨rfl, rfl⟩ := Prod.mk.inj hdec
            clear hdec
            go_wp2
            go_ret2
            exact ⟨rfl, (by repeat (first | with_reducible exact Below.refl _ _ | with_reducible assumption | with_reducible refine al ?_ _ | with_reducible refine Below.drew ?_ | with_reducible refine Below.setCell ?_ (by first | (simp; done) | (simp; omega)) _ | with_reducible refine tr ?_ (by with_reducible assumption)))⟩
          · have hF : uv (b :: l.drop (8 + 1)) 8 acc = (acc + b * 72057594037927936, 9) := by
              simp only [uv]
              rw [if_neg (by omega), if_neg (by omega), if_pos hb, if_neg (by omega), Nat.mod_eq_of_lt hb]
            rw [hF] at hdec
            have hor : bits .or .u64 (acc : Int) (IntKind.u64.wrap (IntKind.u64.wrap (bits .and .u8 (b : Int) 127) * 72057594037927936)) = ((acc + b * 72057594037927936 : Nat) : Int) := by
              simp (disch := omega) only [u8_and127, u64_wrap_id, u64_orv56]
              omega
            obtain ⟨rfl, rfl⟩ := Prod.mk.inj hdec
            clear hdec
            go_wp2
            go_ret2
            exact ⟨by first | rfl | (simp; done) | (congr 3; omega), (by repeat (first | with_reducible exact Below.refl _ _ | with_reducible assumption | with_reducible refine al ?_ _ | with_reducible refine Below.drew ?_ | with_reducible refine Below.setCell ?_ (by first | (simp; done) | (simp; omega)) _ | with_reducible refine tr ?_ (by with_reducible assumption)))⟩
        · have hF : uv (b :: l.drop (8 + 1)) 8 acc = uv (l.drop (8 + 1)) 9 (acc + b % 128 * 72057594037927936) := by
            simp only [uv]
            rw [if_neg (by omega), if_neg (by omega), if_neg hb]
            first | done | rfl | simp
          have hv : bits .or .u64 (acc : Int) (IntKind.u64.wrap (IntKind.u64.wrap (bits .and .u8 (b : Int) 127) * 72057594037927936)) = ((acc + b % 128 * 72057594037927936 : Nat) : Int) := by
            simp (disch := omega) only [u8_and127, u64_wrap_id, u64_orv56]
            omega
          have hlim : acc + b % 128 * 72057594037927936 < 9223372036854775808 := by omega
          have HN : Hid ((R1, R2) = uv (l.drop 9) 9 (acc + b % 128 * 72057594037927936) ∧ acc + b % 128 * 72057594037927936 < 2 ^ (7 * 9)) := ⟨hdec.trans hF, by simpa using hlim⟩
          clear hdec
          go_wp2
          go_roundw
          case rel => exact ⟨9, acc + b % 128 * 72057594037927936, by first | rfl | (simp; done), by first | rfl | go_num, by omega, by omega, HN.out, (by repeat (first | with_reducible exact Below.refl _ _ | with_reducible assumption | with_reducible refine al ?_ _ | with_reducible refine Below.drew ?_ | with_reducible refine Below.setCell ?_ (by first | (simp; done) | (simp; omega)) _ | with_reducible refine tr ?_ (by with_reducible assumption)))⟩
          case measure => simp [intOf]; omega
      · -- byte 9
        have hacc' : acc < 9223372036854775808 := by simpa using hacc
        clear hacc
        by_cases hb : b < 128
        · by_cases hb1 : 1 < b
          · have hF : uv (b :: l.drop (9 + 1)) 9 acc = (0, 0) := by simp [uv, hb1]
            rw [hF] at hdec
            obtain ⟨rfl, rfl⟩ := Prod.mk.inj hdec
            clear hdec
            go_wp2
            go_ret2
            exact ⟨rfl, (by repeat (first | with_reducible exact Below.refl _ _ | with_reducible assumption | with_reducible refine al ?_ _ | with_reducible refine Below.drew ?_ | with_reducible refine Below.setCell ?_ (by first | (simp; done) | (simp; omega)) _ | with_reducible refine tr ?_ (by with_reducible assumption)))⟩
          by_cases hb0 : b = 0
          · subst hb0
            have hF : uv (0 :: l.drop (9 + 1)) 9 acc = (0, 0) := by simp [uv]
            rw [hF] at hdec
            obtain ⟨rfl, rfl⟩ := Prod.mk.inj hdec
            clear hdec
            go_wp2
            go_ret2
            exact ⟨rfl, (by repeat (first | with_reducible exact Below.refl _ _ | with_reducible assumption | with_reducible refine al ?_ _ | with_reducible refine Below.drew ?_ | with_reducible refine Below.setCell ?_ (by first | (simp; done) | (simp; omega)) _ | with_reducible refine tr ?_ (by with_reducible assumption)))⟩
          · have hF : uv (b :: l.drop (9 + 1)) 9 acc = (acc + b * 9223372036854775808, 10) := by
              simp only [uv]
              rw [if_neg (by omega), if_neg (by omega), if_pos hb, if_neg (by omega), Nat.mod_eq_of_lt hb]
            rw [hF] at hdec
            have hor : bits .or .u64 (acc : Int) (IntKind.u64.wrap (IntKind.u64.wrap (bits .and .u8 (b : Int) 127) * 9223372036854775808)) = ((acc + b * 9223372036854775808 : Nat) : Int) := by
              simp (disch := omega) only [u8_and127, u64_wrap_id, u64_orv63]
              omega
            obtain ⟨rfl, rfl⟩ := Prod.mk.inj hdec
            clear hdec
            go_wp2
            go_ret2
            exact ⟨by first | rfl | (simp; done) | (congr 3; omega), (by repeat (first | with_reducible exact Below.refl _ _ | with_reducible assumption | with_reducible refine al ?_ _ | with_reducible refine Below.drew ?_ | with_reducible refine Below.setCell ?_ (by first | (simp; done) | (simp; omega)) _ | with_reducible refine tr ?_ (by with_reducible assumption)))⟩
        · obtain ⟨a2, ha2⟩ : ∃ a2 : Nat, bits .or .u64 (acc : Int) (IntKind.u64.wrap (IntKind.u64.wrap (bits .and .u8 (b : Int) 127) * 9223372036854775808)) = (a2 : Int) := ⟨_, (Int.toNat_of_nonneg (bits_lo_u64 _ _ _)).symm⟩
          have hhi := bits_hi_u64 .or (acc : Int) (IntKind.u64.wrap (IntKind.u64.wrap (bits .and .u8 (b : Int) 127) * 9223372036854775808))
          have hF : uv (b :: l.drop (9 + 1)) 9 acc = uv (l.drop (9 + 1)) 10 a2 := by
            rw [uv_ten]
            simp [uv]
            omega
          have hlim : a2 < 1180591620717411303424 := by omega
          have HN : Hid ((R1, R2) = uv (l.drop 10) 10 a2 ∧ a2 < 2 ^ (7 * 10)) := ⟨hdec.trans hF, by simpa using hlim⟩
          clear hdec
          go_wp2
          go_roundw
          case rel => exact ⟨10, a2, by first | rfl | (simp; done), by first | rfl | go_num, by omega, by omega, HN.out, (by repeat (first | with_reducible exact Below.refl _ _ | with_reducible assumption | with_reducible refine al ?_ _ | with_reducible refine Below.drew ?_ | with_reducible refine Below.setCell ?_ (by first | (simp; done) | (simp; omega)) _ | with_reducible refine tr ?_ (by with_reducible assumption)))⟩
          case measure => simp [intOf]; omega
      · -- no tenth
        rw [uv_ten] at hdec
        obtain ⟨rfl, rfl⟩ := Prod.mk.inj hdec
        clear hdec
        go_wp2
        go_ret2
        exact ⟨rfl, (by repeat (first | with_reducible exact Below.refl _ _ | with_reducible assumption | with_reducible refine al ?_ _ | with_reducible refine Below.drew ?_ | with_reducible refine Below.setCell ?_ (by first | (simp; done) | (simp; omega)) _ | with_reducible refine tr ?_ (by with_reducible assumption)))⟩
    · have hkn2 : k = n := by omega
      subst hkn2
      rw [List.drop_eq_nil_of_le (by rw [hl.1]; exact Nat.le_refl _)] at hdec
      simp only [uv] at hdec
      obtain ⟨rfl, rfl⟩ := Prod.mk.inj hdec
      clear hdec
      go_wp2
      go_ret2
      exact ⟨rfl, (by repeat (first | with_reducible exact Below.refl _ _ | with_reducible assumption | with_reducible refine al ?_ _ | with_reducible refine Below.drew ?_ | with_reducible refine Below.setCell ?_ (by first | (simp; done) | (simp; omega)) _ | with_reducible refine tr ?_ (by with_reducible assumption)))⟩

end Go.Proofs.Ytmaogalgganhgaa
