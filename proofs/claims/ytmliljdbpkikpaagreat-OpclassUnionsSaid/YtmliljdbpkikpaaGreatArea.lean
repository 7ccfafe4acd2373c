/-
  Contracts: wide.Sub; a box's area, in the program and in the reference; how much it grows.
-/
import Derived.Test.YtmliljdbpkikpaaGreatRatio
import Derived.Test.YtmliljdbpkikpaaGreatDist1
import Derived.Test.YtmliljdbpkikpaaGreatPlainFr
import Derived.Test.YtmliljdbpkikpaaGreatWide
import Derived.Test.YtmliljdbpkikpaaGreatUnion
import Derived.Test.YtmliljdbpkikpaaGreatRel1
import Derived.Test.YtmliljdbpkikpaaGreatLex
import Derived.Shelf.Spec.BitsCarry
set_option linter.unusedSimpArgs false
set_option linter.unusedVariables false
namespace Go.Proofs.YtmliljdbpkikpaaGreat
open Go.RowKit Pg
theorem sqs_lt2 {x y : Int} (h1 : -4294967296 ≤ x) (h2 : x ≤ 4294967296) (h3 : -4294967296 ≤ y) (h4 : y ≤ 4294967296) : sqs x y < 340282366920938463463374607431768211456 := by
  have := sq_small h1 h2
  have := sq_small h3 h4
  unfold sqs
  omega
/-- the answer of the reference's BoxDist -/
def bxF (b : Bx) (p : Pt) : Fr := if okBx b && okPt p then ⟨boxN b p, 1⟩ else fNone

theorem sub64 (x y b : Nat) (hb : b ≤ 1) (w : World) :
    (callFunc 201 #[.int .u64 x, .int .u64 y, .int .u64 b]).run Tryz.prog w =
      .ok (.value (.tuple #[.int .u64 (((x + 18446744073709551616 - y - b) % 18446744073709551616 : Nat) : Int), .int .u64 ((if x < y + b then 1 else 0 : Nat) : Int)])) w := by
  rw [run_callFunc_extern Tryz.func201 (by kernel_rfl) (by kernel_rfl) (by kernel_rfl) (e := sub64Entry) (by kernel_rfl), run_sub64 x y b hb]
  rfl

/-- of numbers under 2^64, the second not the greater -/
theorem wSub_small (a b : Nat) (ha : a < 18446744073709551616) (hb : b ≤ a) (w : World) :
    Calls Tryz.prog 196 #[.agg #[.int .u64 0, .int .u64 (a : Int)], .agg #[.int .u64 0, .int .u64 (b : Int)]] w (Ret w (.tuple #[.agg #[.int .u64 0, .int .u64 ((a - b : Nat) : Int)], .bool false])) := by
  have A1 := fun w => sub64 a b 0 (by decide) w
  have A2 := fun w => sub64 0 0 0 (by decide) w
  rw [show (a + 18446744073709551616 - b - 0) % 18446744073709551616 = a - b by omega, if_neg (by omega)] at A1
  obtain ⟨d, hd⟩ : ∃ d, a - b = d := ⟨_, rfl⟩
  rw [hd] at A1 ⊢
  have A3 : ∀ w, (callFunc 201 #[.int .u64 (a : Int), .int .u64 (b : Int), .int .u64 0]).run Tryz.prog w = .ok (.value (.tuple #[.int .u64 (d : Int), .int .u64 0])) w := A1
  have A4 : ∀ w, (callFunc 201 #[.int .u64 0, .int .u64 0, .int .u64 0]).run Tryz.prog w = .ok (.value (.tuple #[.int .u64 0, .int .u64 0])) w := A2
  clear A1 A2 hd hb ha
  go_enter Tryz.func196, Tryz.ntmps196
  go_wp2
  exact bodyPost_ret (v := .tuple #[.agg #[.int .u64 0, .int .u64 (d : Int)], .bool false]) (by simp [results, Tryz.results196, go_sem]) rfl ⟨rfl, (by repeat (first | with_reducible exact Below.refl _ _ | with_reducible assumption | with_reducible refine al ?_ _ | with_reducible refine Below.drew ?_ | with_reducible refine Below.setCell ?_ (by first | (simp; done) | (simp; omega)) _ | with_reducible refine tr ?_ (by with_reducible assumption)))⟩

def areaN (b : Bx) : Nat := if okBx b then (b.hi.x - b.lo.x).toNat * (b.hi.y - b.lo.y).toNat else 0
theorem okBx_sides {b : Bx} (h : okBx b = true) : 0 ≤ b.hi.x - b.lo.x ∧ b.hi.x - b.lo.x ≤ 2147483646 ∧ 0 ≤ b.hi.y - b.lo.y ∧ b.hi.y - b.lo.y ≤ 2147483646 := by
  obtain ⟨⟨h1, h2⟩, h3, h4⟩ := (Pg.okBx_iff _).1 h
  rw [Pg.okPt_iff] at h1 h2
  omega
theorem areaN_lt (b : Bx) : areaN b ≤ 4611686009837453316 := by
  unfold areaN
  split
  · rename_i h
    obtain ⟨h1, h2, h3, h4⟩ := okBx_sides h
    exact Nat.le_trans (Nat.mul_le_mul (show (b.hi.x - b.lo.x).toNat ≤ 2147483646 by omega) (show (b.hi.y - b.lo.y).toNat ≤ 2147483646 by omega)) (by decide)
  · omega

set_option maxHeartbeats 1000000 in
theorem area_any (a b c d : Int) (w : World) : Calls Tryz.prog 197 #[bxV a b c d] w (Ret w (.agg #[.int .u64 0, .int .u64 (areaN ⟨⟨a, b⟩, ⟨c, d⟩⟩ : Int)])) := by
  cases ok : okBx ⟨⟨a, b⟩, ⟨c, d⟩⟩
  case false =>
    have HF : Hid (areaN ⟨⟨a, b⟩, ⟨c, d⟩⟩ = 0) := by unfold Hid areaN; rw [ok]; rfl
    have H1 := Lib.hid (fun g w h => by have := boxes1 a b c d g w h; rw [ok] at this; exact this)
    rw [HF.out]
    go_enter Tryz.func197, Tryz.ntmps197
    go_wp2_with (go_at_call 108; refine (H1.out _ _ ?_).mono ?_; exact block_last (by simp); rintro e w1 ⟨rfl, hb1⟩; obtain ⟨hc1, hf1⟩ := bcell hb1; have hz1 := hb1.size; (try simp at hz1); have hy0 : w.heap.size < w1.heap.size := (by omega); have hy1 : w.heap.size + 1 < w1.heap.size := (by omega))
    refine post_gen2 (R := fun w2 => Blk w2 (w.heap.size + 1) 122 #[.int .u64 0, .int .u64 0] ∧ Below w.heap.size w w2) ⟨?_, (by repeat (first | with_reducible exact Below.refl _ _ | with_reducible assumption | with_reducible refine al ?_ _ | with_reducible refine Below.drew ?_ | with_reducible refine Below.setCell ?_ (by first | (simp; done) | (simp; omega)) _ | with_reducible refine tr ?_ (by with_reducible assumption)))⟩ ?_
    · repeat (first | with_reducible exact two_put (x := .int .u64 0) (y := .int .u64 0) (by repeat (first | with_reducible assumption | with_reducible exact Blk.new (by simp) rfl | with_reducible refine Blk.alloc ?_ _ | with_reducible refine Blk.drew ?_ | with_reducible refine Blk.far ?_ (by first | (simp; done) | (simp; omega)) _ | with_reducible refine Blk.tr ?_ (by with_reducible assumption))) | (with_reducible refine Blk.new ?_ rfl; focus (simp; done)) | with_reducible refine Blk.alloc ?_ _ | with_reducible refine Blk.drew ?_)
    rintro w2 ⟨HR, hb2⟩
    have r0 := HR.cell 0
    have r1 := HR.cell 1
    simp only [List.getElem?_toArray, List.getElem?_cons_zero, List.getElem?_cons_succ] at r0 r1
    exact bodyPost_ret (v := .agg #[.int .u64 0, .int .u64 0]) (by simp [results, Tryz.results197, go_sem, r0, r1]) rfl ⟨rfl, hb2⟩
  case true =>
    obtain ⟨h1, h2, h3, h4⟩ := okBx_sides ok
    simp only at h1 h2 h3 h4
    have e1 : IntKind.i64.wrap (c - a) = c - a := by rw [IntKind.wrap_i64]; omega
    have e2 : IntKind.i64.wrap (d - b) = d - b := by rw [IntKind.wrap_i64]; omega
    have e3 : IntKind.u64.wrap (c - a) = ((c - a).toNat : Int) := by rw [IntKind.wrap_u64]; omega
    have e4 : IntKind.u64.wrap (d - b) = ((d - b).toNat : Int) := by rw [IntKind.wrap_u64]; omega
    have hlt := areaN_lt ⟨⟨a, b⟩, ⟨c, d⟩⟩
    have HF : Hid (areaN ⟨⟨a, b⟩, ⟨c, d⟩⟩ = (c - a).toNat * (d - b).toNat) := by unfold Hid areaN; rw [ok]; rfl
    rw [HF.out] at hlt ⊢
    have H1 := Lib.hid (fun g w h => by have := boxes1 a b c d g w h; rw [ok] at this; exact this)
    obtain ⟨x, hx⟩ : ∃ x, (c - a).toNat = x := ⟨_, rfl⟩
    obtain ⟨y, hy⟩ : ∃ x, (d - b).toNat = x := ⟨_, rfl⟩
    rw [hx] at e3 hlt ⊢
    rw [hy] at e4 hlt ⊢
    have HM := Lib.hid (fun w => wMul_any x y (by omega) (by omega) w)
    obtain ⟨m, hm⟩ : ∃ m, x * y = m := ⟨_, rfl⟩
    rw [hm] at HM hlt ⊢
    rw [show uV m = .agg #[.int .u64 0, .int .u64 (m : Int)] by unfold uV; rw [Nat.div_eq_of_lt (by omega), Nat.mod_eq_of_lt (by omega)]; rfl] at HM
    clear hm hx hy h1 h2 h3 h4 hlt ok
    go_enter Tryz.func197, Tryz.ntmps197
    go_wp2_with (first | (go_at_call 108; refine (H1.out _ _ ?_).mono ?_; exact block_last (by simp); rintro e w1 ⟨rfl, hb1⟩; obtain ⟨hc1, hf1⟩ := bcell hb1; have hz1 := hb1.size; (try simp at hz1); have hy0 : w.heap.size < w1.heap.size := (by omega); have hy1 : w.heap.size + 1 < w1.heap.size := (by omega)) | (go_at_call 144; refine (HM.out _).mono ?_; rintro e w5 ⟨rfl, hb5⟩; obtain ⟨hc5, hf5⟩ := bcell hb5; have hz5 := hb5.size; (try simp at hz5); have hy50 : w.heap.size < w5.heap.size := (by omega)))
    refine post_gen2 (R := fun w2 => Blk w2 (w.heap.size + 1) 122 #[.int .u64 0, .int .u64 (m : Int)] ∧ Below w.heap.size w w2) ⟨?_, (by repeat (first | with_reducible exact Below.refl _ _ | with_reducible assumption | with_reducible refine al ?_ _ | with_reducible refine Below.drew ?_ | with_reducible refine Below.setCell ?_ (by first | (simp; done) | (simp; omega)) _ | with_reducible refine tr ?_ (by with_reducible assumption)))⟩ ?_
    · repeat (first | with_reducible exact two_put (x := .int .u64 0) (y := .int .u64 0) (by repeat (first | with_reducible assumption | with_reducible exact Blk.new (by simp) rfl | with_reducible refine Blk.alloc ?_ _ | with_reducible refine Blk.drew ?_ | with_reducible refine Blk.far ?_ (by first | (simp; done) | (simp; omega)) _ | with_reducible refine Blk.tr ?_ (by with_reducible assumption))) | (with_reducible refine Blk.new ?_ rfl; focus (simp; done)) | with_reducible refine Blk.alloc ?_ _ | with_reducible refine Blk.drew ?_)
    rintro w2 ⟨HR, hb2⟩
    have r0 := HR.cell 0
    have r1 := HR.cell 1
    simp only [List.getElem?_toArray, List.getElem?_cons_zero, List.getElem?_cons_succ] at r0 r1
    exact bodyPost_ret (v := .agg #[.int .u64 0, .int .u64 (m : Int)]) (by simp [results, Tryz.results197, go_sem, r0, r1]) rfl ⟨rfl, hb2⟩

def growN (a b : Bx) : Nat := areaN (union [a, b]).1 - areaN a
theorem area_le {a u : Bx} (hu : okBx u = true) (ha : okBx a = true) (h : inB u a) : areaN a ≤ areaN u := by
  unfold areaN
  rw [if_pos ha, if_pos hu]
  unfold inB at h
  obtain ⟨a1, a2, a3, a4⟩ := okBx_sides ha
  exact Nat.mul_le_mul (by omega) (by omega)
theorem punion2 (a b : Bx) (g : Nat) (w : World) (ha : ckBox a = 0) (hb : ckBox b = 0) (hg : Blk w g 58 #[.int .i64 a.lo.x, .int .i64 a.lo.y, .int .i64 a.hi.x, .int .i64 a.hi.y, .int .i64 b.lo.x, .int .i64 b.lo.y, .int .i64 b.hi.x, .int .i64 b.hi.y]) :
    Calls Tryz.prog 143 #[.slice (some ⟨g, 0, none⟩) 2 2] w (Ret w (.tuple #[bxW (union [a, b]).1, .nilIface])) := by
  have h := union_any w.heap.size 2 2 _ [a, b] w (bxsAt_block [a, b] hg (lt_of_block hg) rfl (by intro k hk; match k, hk with | 0, _ => exact ⟨rfl, rfl, rfl, rfl⟩ | 1, _ => exact ⟨rfl, rfl, rfl, rfl⟩)) (Nat.le_refl _) (by decide)
  rw [(union2 ha hb).1] at h
  exact h

set_option maxHeartbeats 2000000 in
set_option maxRecDepth 20000 in
theorem grow_ok (a b c d e f i j : Int) (w : World) (ha : okBx ⟨⟨a, b⟩, ⟨c, d⟩⟩ = true) (hb : okBx ⟨⟨e, f⟩, ⟨i, j⟩⟩ = true) :
    Calls Tryz.prog 192 #[bxV a b c d, bxV e f i j] w (Ret w (.agg #[.int .u64 0, .int .u64 (growN ⟨⟨a, b⟩, ⟨c, d⟩⟩ ⟨⟨e, f⟩, ⟨i, j⟩⟩ : Int)])) := by
  have ca := of_decide_eq_true ha
  have cb := of_decide_eq_true hb
  obtain ⟨_, hu2, hu3, _⟩ := union2 ca cb
  have hle := area_le hu2 ha hu3
  have hlt := areaN_lt (union [⟨⟨a, b⟩, ⟨c, d⟩⟩, ⟨⟨e, f⟩, ⟨i, j⟩⟩]).1
  unfold growN
  have HU := Lib.hid (fun w g hg => punion2 ⟨⟨a, b⟩, ⟨c, d⟩⟩ ⟨⟨e, f⟩, ⟨i, j⟩⟩ g w ca cb hg)
  obtain ⟨u, hu⟩ : ∃ u, (union [⟨⟨a, b⟩, ⟨c, d⟩⟩, ⟨⟨e, f⟩, ⟨i, j⟩⟩]).1 = u := ⟨_, rfl⟩
  rw [hu] at HU hle hlt ⊢
  have HA1 := Lib.hid (fun w => area_any u.lo.x u.lo.y u.hi.x u.hi.y w)
  have HA2 := Lib.hid (fun w => area_any a b c d w)
  rw [show (⟨⟨u.lo.x, u.lo.y⟩, ⟨u.hi.x, u.hi.y⟩⟩ : Bx) = u from rfl] at HA1
  obtain ⟨m, hm⟩ : ∃ m, areaN u = m := ⟨_, rfl⟩
  obtain ⟨n, hn⟩ : ∃ m, areaN ⟨⟨a, b⟩, ⟨c, d⟩⟩ = m := ⟨_, rfl⟩
  rw [hm] at HA1 hle hlt ⊢
  rw [hn] at HA2 hle ⊢
  have HS := Lib.hid (fun w => wSub_small m n (by omega) hle w)
  generalize m - n = r at *
  clear hm hn hle hlt hu hu2 hu3 ha hb ca cb
  simp only at HU
  go_enter Tryz.func192, Tryz.ntmps192
  go_wp2_with (go_at_call 143; (with_reducible refine (HU.out _ _ (by repeat (first | with_reducible assumption | with_reducible exact Blk.new (by simp) rfl | with_reducible refine Blk.alloc ?_ _ | with_reducible refine Blk.drew ?_ | with_reducible refine Blk.far ?_ (by first | (simp; done) | (simp; omega)) _ | with_reducible refine Blk.tr ?_ (by with_reducible assumption)))).mono ?_); rintro e w1 ⟨rfl, hb1⟩; obtain ⟨hc1, hf1⟩ := bcell hb1; have hz1 := hb1.size; (try simp at hz1); have hy0 : w.heap.size < w1.heap.size := (by omega); have hy1 : w.heap.size + 1 < w1.heap.size := (by omega); have hy2 : w.heap.size + 1 + 1 < w1.heap.size := (by omega))
  refine keep_world (R := fun w9 => Blk w9 w.heap.size 58 #[.int .i64 a, .int .i64 b, .int .i64 c, .int .i64 d] ∧ Blk w9 (w.heap.size + 1 + 1) 122 #[.int .u64 0, .int .u64 0] ∧ Blk w9 w1.heap.size 58 #[.int .i64 u.lo.x, .int .i64 u.lo.y, .int .i64 u.hi.x, .int .i64 u.hi.y] ∧ Below w.heap.size w w9) ⟨(by repeat (first | with_reducible assumption | with_reducible exact Blk.new (by simp) rfl | with_reducible refine Blk.alloc ?_ _ | with_reducible refine Blk.drew ?_ | with_reducible refine Blk.far ?_ (by first | (simp; done) | (simp; omega)) _ | with_reducible refine Blk.tr ?_ (by with_reducible assumption))), (by repeat (first | with_reducible assumption | with_reducible exact Blk.new (by simp) rfl | with_reducible refine Blk.alloc ?_ _ | with_reducible refine Blk.drew ?_ | with_reducible refine Blk.far ?_ (by first | (simp; done) | (simp; omega)) _ | with_reducible refine Blk.tr ?_ (by with_reducible assumption))), (by repeat (first | with_reducible exact box_put (x := .int .i64 0) (y := .int .i64 0) (z := .int .i64 0) (u := .int .i64 0) (by repeat (first | with_reducible assumption | with_reducible exact Blk.new (by simp) rfl | with_reducible refine Blk.alloc ?_ _ | with_reducible refine Blk.drew ?_ | with_reducible refine Blk.far ?_ (by first | (simp; done) | (simp; omega)) _ | with_reducible refine Blk.tr ?_ (by with_reducible assumption))) | (with_reducible refine Blk.new ?_ rfl; focus (simp; done)) | with_reducible refine Blk.alloc ?_ _ | with_reducible refine Blk.drew ?_)), (by repeat (first | with_reducible exact Below.refl _ _ | with_reducible assumption | with_reducible refine al ?_ _ | with_reducible refine Below.drew ?_ | with_reducible refine Below.setCell ?_ (by first | (simp; done) | (simp; omega)) _ | with_reducible refine tr ?_ (by with_reducible assumption)))⟩ ?_
  obtain ⟨G, hG⟩ : ∃ G, w1.heap.size = G := ⟨_, rfl⟩
  rw [hG]
  clear hc1 hf1 hb1 hz1 hy0 hy1 hy2 hG
  rintro w9 ⟨hB0, hR0, hU0, hb9⟩
  have cB := hB0.cell
  have fB := hB0.frozen
  have lB := hB0.lt
  have cU := hU0.cell
  have fU := hU0.frozen
  have lU := hU0.lt
  have lR := hR0.lt
  refine wp_region_alloc' [0, 1, 2, 3, 4, 5, 6, 7] [8] [9, 10] (fun _ => #[.int .u64 0, .int .u64 0]) (by kernel_rfl) (by kernel_rfl) (fun _ _ d _ _ h => by cases d <;> exact h) (by intro i hi w; simp only [List.mem_cons, List.not_mem_nil, or_false] at hi; rcases hi with rfl <;> simp only [List.getD_cons_zero, List.getD_cons_succ, tyOf] <;> kernel_rfl) (fun KN hKN => ?_)
  simp only [List.map_cons, List.map_nil, List.getD_cons_zero, List.getD_cons_succ, bare, gslot, List.getElem?_cons_zero, List.getElem?_cons_succ, Option.bind_some]
  repeat ((try simp only [Act.put, List.setIfInBounds_toArray, List.set_cons_zero, List.set_cons_succ]); first | (refine lexN_quiet (v := ?_) rfl ?_ ?_; rotate_left; focus (intro wq hq; obtain ⟨hcq, hfq⟩ := bcell hq; go_simp; try with_reducible rfl)) | (refine lexN_loud (v := ?_) rfl ?_ ?_; rotate_left; focus (intro wq hq K hK; obtain ⟨hcq, hfq⟩ := bcell hq; go_simp; (first | (go_at_call 197; (with_reducible refine (HA1.out _).mono ?_); rintro e w5 ⟨rfl, hb5⟩; obtain ⟨hc5, hf5⟩ := bcell hb5; have hz5 := hb5.size; (try simp at hz5)) | (go_at_call 197; (with_reducible refine (HA2.out _).mono ?_); rintro e w6 ⟨rfl, hb6⟩; obtain ⟨hc6, hf6⟩ := bcell hb6; have hz6 := hb6.size; (try simp at hz6)) | (go_at_call 196; (with_reducible refine (HS.out _).mono ?_); rintro e w7 ⟨rfl, hb7⟩; obtain ⟨hc7, hf7⟩ := bcell hb7; have hz7 := hb7.size; (try simp at hz7))); refine hK.out _ _ ?_ (by repeat (first | with_reducible exact Below.refl _ _ | with_reducible assumption | with_reducible refine al ?_ _ | with_reducible refine Below.drew ?_ | with_reducible refine Below.setCell ?_ (by first | (simp; done) | (simp; omega)) _ | with_reducible refine tr ?_ (by with_reducible assumption))); simp only [Act.put, List.setIfInBounds_toArray, List.set_cons_zero, List.set_cons_succ]; try with_reducible rfl)))
  (try simp only [Act.put, List.setIfInBounds_toArray, List.set_cons_zero, List.set_cons_succ])
  refine lexN_nil (hKN.out _ ?_)
  clear hKN KN
  intro gs wf hwf hgs hds
  simp only [List.map_cons, List.map_nil, List.getD_cons_zero, List.getD_cons_succ, bare, gslot, List.getElem?_cons_zero, List.getElem?_cons_succ, Option.bind_some, List.foldl_cons, List.foldl_nil, ptrV]
  obtain ⟨hg8, HB8⟩ := hgs 8 (by decide)
  simp only [List.getD_cons_zero, List.getD_cons_succ, tyOf] at HB8
  clear hgs hds
  generalize gs 8 = g8 at *
  have cg8 := HB8.cell
  have fg8 := HB8.frozen
  repeat ((try simp only [Act.put, List.setIfInBounds_toArray, List.set_cons_zero, List.set_cons_succ]); first | (refine lexL_loud wantB_none rfl (fun K hK => ?_); go_simp; refine hK.out _ _ (by repeat (first | with_reducible exact Below.refl _ _ | with_reducible assumption | with_reducible refine al ?_ _ | with_reducible refine Below.drew ?_ | with_reducible refine Below.setCell ?_ (by first | (simp; done) | (simp; omega)) _ | with_reducible refine tr ?_ (by with_reducible assumption))) ?_; clear hK K) | (refine lexL_quiet (v := ?_) wantB_none rfl ?_ ?_; rotate_left; focus (intro wq hq; go_simp; try with_reducible rfl)))
  refine lexL_nil ?_
  refine keep_world (R := fun w2 => Below w.heap.size w w2 ∧ Blk w2 g8 122 #[.int .u64 0, .int .u64 r] ∧ Blk w2 (w.heap.size + 1 + 1) 122 #[.int .u64 0, .int .u64 0] ∧ Below w.heap.size w w2) ⟨(by repeat (first | with_reducible exact Below.refl _ _ | with_reducible assumption | with_reducible refine al ?_ _ | with_reducible refine Below.drew ?_ | with_reducible refine Below.setCell ?_ (by first | (simp; done) | (simp; omega)) _ | with_reducible refine tr ?_ (by with_reducible assumption))), ((HB8.set_ 0 _).set_ 1 _).eq_ (by simp), (by repeat (first | with_reducible assumption | with_reducible exact Blk.new (by simp) rfl | with_reducible refine Blk.alloc ?_ _ | with_reducible refine Blk.drew ?_ | with_reducible refine Blk.far ?_ (by first | (simp; done) | (simp; omega)) _ | with_reducible refine Blk.tr ?_ (by with_reducible assumption))), (by repeat (first | with_reducible exact Below.refl _ _ | with_reducible assumption | with_reducible refine al ?_ _ | with_reducible refine Below.drew ?_ | with_reducible refine Below.setCell ?_ (by first | (simp; done) | (simp; omega)) _ | with_reducible refine tr ?_ (by with_reducible assumption)))⟩ ?_
  rintro w2 ⟨hb2, h8, hE0, hE1⟩
  clear cg8 fg8 HB8
  have cg8 := h8.cell
  have fg8 := h8.frozen
  have lg8 := h8.lt
  obtain ⟨hc2, hf2⟩ := bcell hb2
  have cR := hE0.cell
  have fR := hE0.frozen
  have lR2 := hE0.lt
  go_wp2_with fail
  refine post_gen2 (R := fun w2 => Blk w2 (w.heap.size + 1 + 1) 122 #[.int .u64 0, .int .u64 (r : Int)] ∧ Below w.heap.size w w2) ⟨?_, (by repeat (first | with_reducible exact Below.refl _ _ | with_reducible assumption | with_reducible refine al ?_ _ | with_reducible refine Below.drew ?_ | with_reducible refine Below.setCell ?_ (by first | (simp; done) | (simp; omega)) _ | with_reducible refine tr ?_ (by with_reducible assumption)))⟩ ?_
  · repeat (first | with_reducible exact two_put (x := .int .u64 0) (y := .int .u64 0) (by repeat (first | with_reducible assumption | with_reducible exact Blk.new (by simp) rfl | with_reducible refine Blk.alloc ?_ _ | with_reducible refine Blk.drew ?_ | with_reducible refine Blk.far ?_ (by first | (simp; done) | (simp; omega)) _ | with_reducible refine Blk.tr ?_ (by with_reducible assumption))) | (with_reducible refine Blk.new ?_ rfl; focus (simp; done)) | with_reducible refine Blk.alloc ?_ _ | with_reducible refine Blk.drew ?_)
  rintro w2 ⟨HR, hb2⟩
  have r0 := HR.cell 0
  have r1 := HR.cell 1
  simp only [List.getElem?_toArray, List.getElem?_cons_zero, List.getElem?_cons_succ] at r0 r1
  exact bodyPost_ret (v := .agg #[.int .u64 0, .int .u64 (r : Int)]) (by simp [results, Tryz.results192, go_sem, r0, r1]) rfl ⟨rfl, hb2⟩

/-! The reference's. -/
end Go.Proofs.YtmliljdbpkikpaaGreat
