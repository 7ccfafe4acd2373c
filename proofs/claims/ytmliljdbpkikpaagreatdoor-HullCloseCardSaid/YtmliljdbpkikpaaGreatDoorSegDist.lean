/-
  Contract of plane.Square.
  Contracts of segm.dot, segm.Dist.
-/
import Derived.Test.YtmliljdbpkikpaaGreatDoorDist1
import Derived.Test.YtmliljdbpkikpaaGreatDoorRatio
import Derived.Test.YtmliljdbpkikpaaGreatDoorSegm
import Derived.Test.YtmliljdbpkikpaaGreatDoorAlloc
set_option linter.unusedSimpArgs false
set_option linter.unusedVariables false
namespace Go.Proofs.YtmliljdbpkikpaaGreatDoor
open Go.RowKit Pg

/-- the answer of plane.Square -/
def psV (a b : Pt) : Value := if okPt a && okPt b then dV (sqN (a.x - b.x) (a.y - b.y)) else dZ

set_option maxHeartbeats 2000000 in
set_option maxRecDepth 20000 in
theorem pSquare_any (ax ay bx by_ : Int) (w : World) :
    Calls Tryz.prog 58 #[ptV ax ay, ptV bx by_] w (Ret w (psV ⟨ax, ay⟩ ⟨bx, by_⟩)) := by
  cases h1 : okPt ⟨ax, ay⟩ && okPt ⟨bx, by_⟩
  case false =>
    have HF : Hid (psV ⟨ax, ay⟩ ⟨bx, by_⟩ = dZ) := by unfold Hid psV; rw [h1]; rfl
    have H1 := Lib.hid h1
    clear h1
    go_enter Tryz.func58, Tryz.ntmps58
    go_wp2_with (go_at_call 86; refine (may2 ax ay bx by_ _ _ ?_).mono ?_; exact block_last (by simp); rw [H1.out]; rintro e w1 ⟨rfl, hb1⟩; obtain ⟨hc1, hf1⟩ := bcell hb1; have hz1 := hb1.size; (try simp at hz1); have hy0 : w.heap.size < w1.heap.size := (by omega); have hy1 : w.heap.size + 1 < w1.heap.size := (by omega); have hy2 : w.heap.size + 1 + 1 < w1.heap.size := (by omega))
    refine post_gen2 (R := fun w2 => Blk w2 (w.heap.size + 1 + 1) 27 #[.int .u64 0, .int .u64 0, .int .u64 0] ∧ Below w.heap.size w w2) ⟨?_, (by repeat (first | with_reducible exact Below.refl _ _ | with_reducible assumption | with_reducible refine al ?_ _ | with_reducible refine Below.drew ?_ | with_reducible refine Below.setCell ?_ (by first | (simp; done) | (simp; omega)) _ | with_reducible refine tr ?_ (by with_reducible assumption)))⟩ ?_
    · exact three_put (x := .int .u64 0) (y := .int .u64 0) (z := .int .u64 0) (by repeat (first | with_reducible assumption | with_reducible exact Blk.new (by simp) rfl | with_reducible refine Blk.alloc ?_ _ | with_reducible refine Blk.drew ?_ | with_reducible refine Blk.far ?_ (by first | (simp; done) | (simp; omega)) _ | with_reducible refine Blk.tr ?_ (by with_reducible assumption)))
    rintro w2 ⟨HR, hb2⟩
    have r0 := HR.cell 0
    have r1 := HR.cell 1
    have r2 := HR.cell 2
    simp only [List.getElem?_toArray, List.getElem?_cons_zero, List.getElem?_cons_succ] at r0 r1 r2
    rw [HF.out]
    exact bodyPost_ret (v := dZ) (by simp [results, Tryz.results58, go_sem, r0, r1, r2]) rfl ⟨rfl, hb2⟩
  have HF : Hid (psV ⟨ax, ay⟩ ⟨bx, by_⟩ = dV (sqN (ax - bx) (ay - by_))) := by unfold Hid psV; rw [h1]; rfl
  have h12 := (Bool.and_eq_true _ _).mp h1
  obtain ⟨p1, p2, p3, p4⟩ := okPt_range h12.1
  obtain ⟨q1, q2, q3, q4⟩ := okPt_range h12.2
  simp only at p1 p2 p3 p4 q1 q2 q3 q4
  have e1 : IntKind.i64.wrap (ax - bx) = ax - bx := by rw [IntKind.wrap_i64]; omega
  have e2 : IntKind.i64.wrap (ay - by_) = ay - by_ := by rw [IntKind.wrap_i64]; omega
  have GS := Lib.hid (fun w => squares_any (ax - bx) (ay - by_) (by omega) (by omega) (by omega) (by omega) w)
  obtain ⟨n, hn⟩ : ∃ n, sqN (ax - bx) (ay - by_) = n := ⟨_, rfl⟩
  rw [hn] at HF GS
  have H1 := Lib.hid h1
  clear h1 h12 p1 p2 p3 p4 q1 q2 q3 q4 hn
  go_enter Tryz.func58, Tryz.ntmps58
  go_wp2_with (first | (go_at_call 86; refine (may2 ax ay bx by_ _ _ ?_).mono ?_; exact block_last (by simp); rw [H1.out]; rintro e w1 ⟨rfl, hb1⟩; obtain ⟨hc1, hf1⟩ := bcell hb1; have hz1 := hb1.size; (try simp at hz1); have hy0 : w.heap.size < w1.heap.size := (by omega); have hy1 : w.heap.size + 1 < w1.heap.size := (by omega); have hy2 : w.heap.size + 1 + 1 < w1.heap.size := (by omega)) | (go_at_call 87; refine (GS.out _).mono ?_; rintro e w1 ⟨rfl, hb1⟩; obtain ⟨hc1, hf1⟩ := bcell hb1; have hz1 := hb1.size; (try simp at hz1); have hy0 : w.heap.size < w1.heap.size := (by omega); have hy1 : w.heap.size + 1 < w1.heap.size := (by omega); have hy2 : w.heap.size + 1 + 1 < w1.heap.size := (by omega)))
  refine post_gen2 (R := fun w2 => Blk w2 (w.heap.size + 1 + 1) 27 #[.int .u64 ((n / 18446744073709551616 : Nat) : Int), .int .u64 ((n % 18446744073709551616 : Nat) : Int), .int .u64 1] ∧ Below w.heap.size w w2) ⟨?_, (by repeat (first | with_reducible exact Below.refl _ _ | with_reducible assumption | with_reducible refine al ?_ _ | with_reducible refine Below.drew ?_ | with_reducible refine Below.setCell ?_ (by first | (simp; done) | (simp; omega)) _ | with_reducible refine tr ?_ (by with_reducible assumption)))⟩ ?_
  · exact three_put (x := .int .u64 0) (y := .int .u64 0) (z := .int .u64 0) (by repeat (first | with_reducible assumption | with_reducible exact Blk.new (by simp) rfl | with_reducible refine Blk.alloc ?_ _ | with_reducible refine Blk.drew ?_ | with_reducible refine Blk.far ?_ (by first | (simp; done) | (simp; omega)) _ | with_reducible refine Blk.tr ?_ (by with_reducible assumption)))
  rintro w2 ⟨HR, hb2⟩
  have r0 := HR.cell 0
  have r1 := HR.cell 1
  have r2 := HR.cell 2
  simp only [List.getElem?_toArray, List.getElem?_cons_zero, List.getElem?_cons_succ] at r0 r1 r2
  rw [HF.out]
  exact bodyPost_ret (v := dV n) (by simp [results, Tryz.results58, go_sem, r0, r1, r2]) rfl ⟨rfl, hb2⟩
end Go.Proofs.YtmliljdbpkikpaaGreatDoor
set_option linter.unusedSimpArgs false
set_option linter.unusedVariables false
namespace Go.Proofs.YtmliljdbpkikpaaGreatDoor
open Go.RowKit Pg

theorem dot_bd {a b c : Pt} (h : (okPt a && okPt b && okPt c) = true) :
    (-2147483646 ≤ b.x - a.x ∧ b.x - a.x ≤ 2147483646) ∧ (-2147483646 ≤ c.x - a.x ∧ c.x - a.x ≤ 2147483646) ∧ (-2147483646 ≤ b.y - a.y ∧ b.y - a.y ≤ 2147483646) ∧ (-2147483646 ≤ c.y - a.y ∧ c.y - a.y ≤ 2147483646) := by
  simp only [okPt, farB, Bool.and_eq_true, Bool.not_eq_true', Bool.or_eq_false_iff, decide_eq_false_iff_not] at h
  omega

theorem crossR_bd {a b c : Pt} (h : (okPt a && okPt b && okPt c) = true) : -9223372036854775808 < crossR a b c ∧ crossR a b c < 9223372036854775808 := by
  obtain ⟨⟨a1, a2⟩, ⟨a3, a4⟩, ⟨a5, a6⟩, ⟨a7, a8⟩⟩ := cross_bd h
  have b1 := mul_bd (m := 2147483646) (n := 2147483646) a1 a2 a3 a4
  have b2 := mul_bd (m := 2147483646) (n := 2147483646) a5 a6 a7 a8
  unfold crossR
  omega
theorem sqs_lt {x y : Int} (h1 : -2147483646 ≤ x) (h2 : x ≤ 2147483646) (h3 : -2147483646 ≤ y) (h4 : y ≤ 2147483646) : sqs x y < 18446744073709551616 := by
  have a : x.natAbs ≤ 2147483646 := by omega
  have b : y.natAbs ≤ 2147483646 := by omega
  have c := Nat.mul_le_mul a a
  have d := Nat.mul_le_mul b b
  unfold sqs
  omega
theorem natAbs_sq_lt {x : Int} (h1 : -9223372036854775808 < x) (h2 : x < 9223372036854775808) : x.natAbs * x.natAbs < 340282366920938463463374607431768211456 := by
  have a : x.natAbs ≤ 9223372036854775808 := by omega
  have c := Nat.mul_le_mul a a
  omega
/-- plane.Square at points that may be -/
theorem pSquare_ok (a b : Pt) (ha : okPt a = true) (hb : okPt b = true) (w : World) : Calls Tryz.prog 58 #[ptV a.x a.y, ptV b.x b.y] w (Ret w (fV ⟨sqs (a.x - b.x) (a.y - b.y), 1⟩)) := by
  have h := pSquare_any a.x a.y b.x b.y w
  unfold psV at h
  rw [show (⟨a.x, a.y⟩ : Pt) = a from rfl, show (⟨b.x, b.y⟩ : Pt) = b from rfl, ha, hb] at h
  exact h

end Go.Proofs.YtmliljdbpkikpaaGreatDoor
