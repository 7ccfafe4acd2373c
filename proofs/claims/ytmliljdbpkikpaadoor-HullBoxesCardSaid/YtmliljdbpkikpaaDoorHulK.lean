/-
  hull.Box, hull.Convex.
-/
import Derived.Test.YtmliljdbpkikpaaDoorHulE
import Derived.Test.YtmliljdbpkikpaaDoorRing
import Derived.Test.YtmliljdbpkikpaaDoorPlainHull
import Derived.Test.YtmliljdbpkikpaaDoorRel1
set_option linter.unusedSimpArgs false
set_option linter.unusedVariables false
namespace Go.Proofs.YtmliljdbpkikpaaDoor
open Go.RowKit Pg
def hboxS (l : List Pt) : Bx := (union (l.map pbox)).1
theorem hck_ok {l : List Pt} {least : Nat} (h : (hullCk l least).1 = 0) : least ≤ l.length ∧ l.length ≤ 1000 ∧ ∀ q ∈ l, okPt q = true := by
  unfold hullCk at h
  split at h
  · cases h
  · split at h
    · cases h
    · rename_i h1 h2
      refine ⟨by omega, by omega, fun q hq => ?_⟩
      obtain ⟨j, hj, rfl⟩ := inPt hq
      cases e : firstBad l with
      | some i => rw [e] at h; cases h
      | none =>
        unfold firstBad at e
        rw [List.find?_eq_none] at e
        simpa using e j (List.mem_range.2 hj)
theorem hbox_ok {l : List Pt} (h : (hullCk l 1).1 = 0) : union (l.map pbox) = (hboxS l, 0) := by
  refine Prod.ext rfl ?_
  obtain ⟨h1, h2, h3⟩ := hck_ok h
  cases l with
  | nil => simp at h1
  | cons p r =>
    refine unionGo_ok (l := (p :: r).map pbox) (fun b hb => ?_) _
    obtain ⟨q, hq, rfl⟩ := List.mem_map.1 hb
    exact ckBox_pt (h3 q hq)
theorem Blk.neK {w : World} {g g' : Nat} {t t' : TypeId} {cs cs' : Array Value} (h : Blk w g t cs) (h' : Blk w g' t' cs') (ht : t ≠ t') : g ≠ g' := by
  intro e
  subst e
  have h2 := (Option.some.inj (h.symm.trans h'))
  injection h2 with h3 h4
  exact ht h4
theorem ErrC.farK {w : World} {v : Value} {k r : Nat} {t : TypeId} {cs : Array Value} (h : ErrC w v k) (hr : Blk w r t cs) (ht : 58 ≠ t) (i : Nat) (x : Value) : ErrC (w.setCell ⟨r, i, none⟩ x) v k := by
  rcases h with h | h | ⟨h0, g, s, id, e, hB⟩
  · exact .inl h
  · exact .inr (.inl h)
  · exact .inr (.inr ⟨h0, g, s, id, e, hB.far (p := ⟨r, i, none⟩) (Blk.neK hB hr ht) x⟩)
theorem ErrW.farK {w : World} {v : Value} {k r : Nat} {s : ByteArray} {id : Int} {t : TypeId} {cs : Array Value} (h : ErrW w v k s id) (hr : Blk w r t cs) (ht : 58 ≠ t) (i : Nat) (x : Value) : ErrW (w.setCell ⟨r, i, none⟩ x) v k s id := by
  rcases h with h | ⟨h0, g, inner, e, hB, hi⟩
  · exact .inl h
  · exact .inr ⟨h0, g, inner, e, hB.far (p := ⟨r, i, none⟩) (Blk.neK hB hr ht) x, hi.farK hr ht i x⟩
theorem errW_zeroK {w : World} {v : Value} {s : ByteArray} {id : Int} (h : ErrW w v 0 s id) : v = .nilIface := by
  rcases h with h | ⟨h, _⟩
  · exact h.2
  · exact absurd rfl h
theorem errW_someK {w : World} {v : Value} {k : Nat} {s : ByteArray} {id : Int} (h : ErrW w v k s id) (hk : k ≠ 0) : ∃ t u, v = .iface t u := by
  rcases h with h | ⟨_, g, inner, rfl, _⟩
  · exact absurd h.1 hk
  · exact ⟨_, _, rfl⟩

theorem post_genK {P : Program} {f : Func} {Q : Ending → World → Prop} {x : Exit} {a : Act} {w : World} (R : World → Prop) (h : R w) (k : ∀ w2, R w2 → bodyPost P f Q x a w2) : bodyPost P f Q x a w := k w h
theorem box_putK {W : World} {g : Nat} {t : TypeId} {x y z u a b c d : Value} (h : Blk W g t #[x, y, z, u]) :
    Blk ((((W.setCell ⟨g, 0, none⟩ a).setCell ⟨g, 1, none⟩ b).setCell ⟨g, 2, none⟩ c).setCell ⟨g, 3, none⟩ d) g t #[a, b, c, d] :=
  ((((h.set_ 0 a).set_ 1 b).set_ 2 c).set_ 3 d).eq_ (by simp)
theorem errR_zeroK {w : World} {v : Value} (h : ErrR w v 0) : v = .nilIface := by
  rcases h with h | ⟨h, _⟩
  · exact h.2
  · exact absurd rfl h
theorem errR_someK {w : World} {v : Value} {k : Nat} (h : ErrR w v k) (hk : k ≠ 0) : ∃ t u, v = .iface t u := by
  rcases h with h | ⟨_, g, s, id, rfl, _⟩
  · exact absurd h.1 hk
  · exact ⟨_, _, rfl⟩

theorem hcheck1_any (B n c : Nat) (A : Option Addr) (l : List Pt) (w : World) (hl : PtsAt w B A n l) (hB : B ≤ w.heap.size) (hn : n ≤ 1000000) :
    Calls Tryd.prog 14 #[.slice A n c, .int .i64 1] w (RetW w (hullCk l 1).1 hullW (hullCk l 1).2) := hcheck_any B n c 1 A l w hl hB hn (by omega)

set_option maxHeartbeats 2000000 in
set_option maxRecDepth 20000 in
theorem hbox_any (B n c : Nat) (A : Option Addr) (l : List Pt) (w : World) (hl : PtsAt w B A n l) (hB : B ≤ w.heap.size) (hn : n ≤ 1000000) :
    Calls Tryd.prog 8 #[.slice A n c] w fun e w' => ∃ v, e = .returned (.tuple #[bxV (if (hullCk l 1).1 = 0 then hboxS l else bzero).lo.x (if (hullCk l 1).1 = 0 then hboxS l else bzero).lo.y (if (hullCk l 1).1 = 0 then hboxS l else bzero).hi.x (if (hullCk l 1).1 = 0 then hboxS l else bzero).hi.y, v]) ∧ ErrW w' v (hullCk l 1).1 hullW (hullCk l 1).2 ∧ Below w.heap.size w w' := by
  have HCK := Lib.hid (fun W hW => hcheck1_any B n c A l W (hl.tr hW hB) (Nat.le_trans hB (Below.size (B := w.heap.size) (w := w) hW)) hn)
  by_cases h0 : (hullCk l 1).1 = 0
  case neg =>
    simp only [if_neg h0]
    obtain ⟨k, hk⟩ : ∃ k, (hullCk l 1).1 = k := ⟨_, rfl⟩
    obtain ⟨i, hi⟩ : ∃ i, (hullCk l 1).2 = i := ⟨_, rfl⟩
    rw [hk] at h0
    simp only [hk, hi] at HCK ⊢
    clear hl hk hi
    go_enter Tryd.func8, Tryd.ntmps8
    go_wp2_with (go_at_call 14; (with_reducible refine (HCK.out _ (by repeat (first | with_reducible exact Below.refl _ _ | with_reducible assumption | with_reducible refine al ?_ _ | with_reducible refine Below.drew ?_ | with_reducible refine Below.setCell ?_ (by first | (simp; done) | (simp; omega)) _ | with_reducible refine tr ?_ (by with_reducible assumption)))).mono ?_); rintro e w1 ⟨v1, rfl, hE1, hb1⟩; obtain ⟨t1, u1, rfl⟩ := errW_someK hE1 h0; have hR1 : Blk w1 w.heap.size 33 #[.int .i64 0, .int .i64 0, .int .i64 0, .int .i64 0] := (by repeat (first | with_reducible assumption | with_reducible exact Blk.new (by simp) rfl | with_reducible refine Blk.alloc ?_ _ | with_reducible refine Blk.drew ?_ | with_reducible refine Blk.far ?_ (by first | (simp; done) | (simp; omega)) _ | with_reducible refine Blk.tr ?_ (by with_reducible assumption))); have cR := hR1.cell; have fR := hR1.frozen; have lR := hR1.lt)
    refine post_genK (R := fun w2 => Blk w2 w.heap.size 33 #[.int .i64 0, .int .i64 0, .int .i64 0, .int .i64 0] ∧ ErrW w2 (.iface t1 u1) k hullW i ∧ Below w.heap.size w w2) ⟨?_, ?_, (by repeat (first | with_reducible exact Below.refl _ _ | with_reducible assumption | with_reducible refine al ?_ _ | with_reducible refine Below.drew ?_ | with_reducible refine Below.setCell ?_ (by first | (simp; done) | (simp; omega)) _ | with_reducible refine tr ?_ (by with_reducible assumption)))⟩ ?_
    · exact box_putK (x := .int .i64 0) (y := .int .i64 0) (z := .int .i64 0) (u := .int .i64 0) (by repeat (first | with_reducible assumption | with_reducible exact Blk.new (by simp) rfl | with_reducible refine Blk.alloc ?_ _ | with_reducible refine Blk.drew ?_ | with_reducible refine Blk.far ?_ (by first | (simp; done) | (simp; omega)) _ | with_reducible refine Blk.tr ?_ (by with_reducible assumption)))
    · exact (((hE1.farK hR1 (by decide) 0 _).farK (hR1.set_ 0 _) (by decide) 1 _).farK ((hR1.set_ 0 _).set_ 1 _) (by decide) 2 _).farK (((hR1.set_ 0 _).set_ 1 _).set_ 2 _) (by decide) 3 _
    rintro w2 ⟨HR, hE2, hb2⟩
    have r0 := HR.cell 0
    have r1 := HR.cell 1
    have r2 := HR.cell 2
    have r3 := HR.cell 3
    simp only [List.getElem?_toArray, List.getElem?_cons_zero, List.getElem?_cons_succ] at r0 r1 r2 r3
    exact bodyPost_ret (v := .tuple #[bxV 0 0 0 0, .iface t1 u1]) (by simp [results, Tryd.results8, go_sem, r0, r1, r2, r3]) rfl ⟨_, rfl, hE2, hb2⟩
  simp only [if_pos h0]
  have HC := Lib.hid h0
  obtain ⟨i, hi⟩ : ∃ i, (hullCk l 1).2 = i := ⟨_, rfl⟩
  simp only [hi, h0] at HCK ⊢
  clear hi h0
  obtain ⟨hn1, hn2, _⟩ := hck_ok HC.out
  rw [hl.1] at hn1 hn2
  obtain ⟨i0, hi, iz0, iz1, iz2⟩ := info_parts Tryd.infoBox
  go_enter Tryd.func8, Tryd.ntmps8
  go_wp2_with (go_at_call 14; (with_reducible refine (HCK.out _ (by repeat (first | with_reducible exact Below.refl _ _ | with_reducible assumption | with_reducible refine al ?_ _ | with_reducible refine Below.drew ?_ | with_reducible refine Below.setCell ?_ (by first | (simp; done) | (simp; omega)) _ | with_reducible refine tr ?_ (by with_reducible assumption)))).mono ?_); rintro e w1 ⟨v1, rfl, hE1, hb1⟩; obtain rfl := errW_zeroK hE1)
  have hP0 : Blk w1 w.heap.size 33 #[.int .i64 0, .int .i64 0, .int .i64 0, .int .i64 0] := (by repeat (first | with_reducible assumption | with_reducible exact Blk.new (by simp) rfl | with_reducible refine Blk.alloc ?_ _ | with_reducible refine Blk.drew ?_ | with_reducible refine Blk.far ?_ (by first | (simp; done) | (simp; omega)) _ | with_reducible refine Blk.tr ?_ (by with_reducible assumption)))
  have hb0 : Below w.heap.size w w1 := (by repeat (first | with_reducible exact Below.refl _ _ | with_reducible assumption | with_reducible refine al ?_ _ | with_reducible refine Below.drew ?_ | with_reducible refine Below.setCell ?_ (by first | (simp; done) | (simp; omega)) _ | with_reducible refine tr ?_ (by with_reducible assumption)))
  clear hE1 hb1 HCK
  go_loopw [5, 16] (fun s i wr => ∃ k : Nat, k ≤ n ∧ i = .int .i64 k ∧ wr.ownsRow (w.heap.size + 1) 33 4 s k (bcells ((l.take k).map pbox)) ∧ Blk wr w.heap.size 33 #[.int .i64 0, .int .i64 0, .int .i64 0, .int .i64 0] ∧ Below w.heap.size w wr) (fun _ i _ => n - (intOf i).toNat)
  case atStart => exact ⟨0, Nat.zero_le _, rfl, World.ownsRow_nil _ _ _ _, hP0, hb0⟩
  case round =>
    obtain ⟨k, hk, rfl, hown, hP, hb⟩ := hrel
    by_cases hlt : k < n
    · obtain ⟨b, off, rfl, hab, c0, c1⟩ := (hl.below (hb.mono hB)).at_ hlt
      have hPl := hP.lt
      have hbs := hb.size
      have hbw : b < wr.heap.size := by omega
      have hk0 : (k : Int) < (n : Int) := by omega
      clear hb0 hP0
      have hkl : k < l.length := by rw [hl.1]; exact hlt
      go_wp2_with (at_builtin; go_must (refine wpList_append_own _ rfl _ _ 50 rfl (w.heap.size + 1) 33 i0 (.agg #[.int .i64 0, .int .i64 0, .int .i64 0, .int .i64 0]) 4 32 Tryd.underlying50 hi iz0 iz1 iz2 rfl (by decide) _ _ _ rfl ((hown.alloc _).alloc _) ⟨wr.heap.size + 1, 0, none⟩ 1 1 [.int .i64 (pt l k).x, .int .i64 (pt l k).y, .int .i64 (pt l k).x, .int .i64 (pt l k).y] rfl rfl ?c1 ?c2 ?c3 ?c4 ?c5 ?_))
      case c1 => 
        intro j u hj
        match j, hj with
        | 0, hj => simp at hj; subst hj; simp [Addr.add]
        | 1, hj => simp at hj; subst hj; simp [Addr.add]
        | 2, hj => simp at hj; subst hj; simp [Addr.add]
        | 3, hj => simp at hj; subst hj; simp [Addr.add]
      case c2 => intro u hu; simp only [List.mem_cons, List.not_mem_nil, or_false] at hu; rcases hu with rfl | rfl | rfl | rfl <;> rfl
      case c3 => unfold maxLen; omega
      case c4 => omega
      case c5 => simp; omega
      intro v' w2 hown' hgrow _
      have hlt' := hown.lt
      have hb2 : Below w.heap.size w w2 := Below.grown (w := (wr.alloc _).alloc _) (by repeat (first | with_reducible exact Below.refl _ _ | with_reducible assumption | with_reducible refine al ?_ _ | with_reducible refine Below.drew ?_ | with_reducible refine Below.setCell ?_ (by first | (simp; done) | (simp; omega)) _ | with_reducible refine tr ?_ (by with_reducible assumption))) hgrow (by simp; omega) (fun j e => by have := (hlt' j e).1; omega)
      have hb3 : Below (w.heap.size + 1) ((wr.alloc _).alloc _) w2 := Below.grown (w := (wr.alloc (.cells #[.int .i64 (pt l k).x, .int .i64 (pt l k).y] 24)).alloc (.cells #[.int .i64 (pt l k).x, .int .i64 (pt l k).y, .int .i64 (pt l k).x, .int .i64 (pt l k).y] 33)) (Below.refl _ _) hgrow (by simp; omega) (fun j e => (hlt' j e).1)
      have hP2 : Blk w2 w.heap.size 33 #[.int .i64 0, .int .i64 0, .int .i64 0, .int .i64 0] := ((hP.alloc _).alloc _).below hb3 (by omega)
      have hown2 : w2.ownsRow (w.heap.size + 1) 33 4 v' (k + 1) (bcells ((l.take (k + 1)).map pbox)) := by
        have : bcells ((l.take (k + 1)).map pbox) = bcells ((l.take k).map pbox) ++ [.int .i64 (pt l k).x, .int .i64 (pt l k).y, .int .i64 (pt l k).x, .int .i64 (pt l k).y] := by
          rw [List.take_add_one, pt_of hkl]
          simp only [Option.toList_some, List.map_append, List.map_cons, List.map_nil, bcells_snoc]
          rfl
        rw [this, List.map_take]
        exact hown'
      clear hown' hgrow hown hP hlt' hb3 c0 c1
      go_wp2
      go_roundw
      case rel => exact ⟨k + 1, by omega, by go_num, hown2, hP2, hb2⟩
      case measure => simp [intOf]; omega
    · have hkn : k = n := by omega
      subst hkn
      obtain ⟨A2, c2, rfl, hbx⟩ := bxs_of_own (l := (l.take k).map pbox) hown (by simp [hl.1])
      rw [List.take_of_length_le (by rw [hl.1]; exact Nat.le_refl _)] at hbx
      have hPc := hP.cell
      have hPf := hP.frozen
      have hPl := hP.lt
      have HW : Calls Tryd.prog 24 #[.slice A2 k c2] wr (Ret wr (.tuple #[bxV (hboxS l).lo.x (hboxS l).lo.y (hboxS l).hi.x (hboxS l).hi.y, .nilIface])) := by
        have := union_any wr.heap.size k c2 A2 (l.map pbox) wr hbx (Nat.le_refl _) (by unfold maxLen; omega)
        rw [hbox_ok HC.out] at this
        exact this
      clear hb0 hP0
      go_wp2_with (go_at_call 24; refine HW.mono ?_; rintro e w1 ⟨rfl, hb1⟩; obtain ⟨hc1, hf1⟩ := bcell hb1; have hz1 := hb1.size; (try simp at hz1); have hy0 : w.heap.size < w1.heap.size := (by omega))
      have HR := (((((hP.tr hb1)).set_ 0 (.int .i64 (hboxS l).lo.x)).set_ 1 (.int .i64 (hboxS l).lo.y)).set_ 2 (.int .i64 (hboxS l).hi.x)).set_ 3 (.int .i64 (hboxS l).hi.y)
      have r0 := HR.cell 0
      have r1 := HR.cell 1
      have r2 := HR.cell 2
      have r3 := HR.cell 3
      simp at r0 r1 r2 r3
      exact bodyPost_ret (v := .tuple #[bxV (hboxS l).lo.x (hboxS l).lo.y (hboxS l).hi.x (hboxS l).hi.y, .nilIface]) (by simp [results, Tryd.results8, go_sem, r0, r1, r2, r3]) rfl ⟨_, rfl, .inl ⟨rfl, rfl⟩, (by repeat (first | with_reducible exact Below.refl _ _ | with_reducible assumption | with_reducible refine al ?_ _ | with_reducible refine Below.drew ?_ | with_reducible refine Below.setCell ?_ (by first | (simp; done) | (simp; omega)) _ | with_reducible refine tr ?_ (by with_reducible assumption)))⟩

/-- does a ring turn to the one side, at its first k corners? -/
def turnAny (l : List Pt) (v : Int) (k : Nat) : Bool := (List.range k).any fun i => decide (orient (pt l i) (pt l ((i + 1) % l.length)) (pt l ((i + 2) % l.length)) = v)
def convexS (l : List Pt) : Bool := if ckRing l = 0 then !turnAny l 1 l.length || !turnAny l (-1) l.length else false
theorem turnAny_succ (l : List Pt) (v : Int) (k : Nat) : turnAny l v (k + 1) = (turnAny l v k || decide (orient (pt l k) (pt l ((k + 1) % l.length)) (pt l ((k + 2) % l.length)) = v)) := by
  unfold turnAny
  rw [List.range_succ, List.any_append]
  simp
theorem orient_three (a b c : Pt) : orient a b c = 1 ∨ orient a b c = -1 ∨ orient a b c = 0 := by
  unfold orient sgn
  split
  · simp
  · split <;> simp
theorem step2_of {k n : Nat} (hk : k < n) (hn : n ≤ 1000000) : ∃ m : Nat, (k + 2) % n = m ∧ IntKind.i64.wrap ((k : Int) + 2) = (k : Int) + 2 ∧ ((k : Int) + 2).tmod (n : Int) = (m : Int) ∧ m < n := by
  refine ⟨(k + 2) % n, rfl, IntWalk.i64_in _ (by omega), ?_, Nat.mod_lt _ (by omega)⟩
  rw [Int.tmod_eq_emod_of_nonneg (by omega), Int.natCast_emod]
  rfl
theorem pts_at {w : World} {B n b off m : Nat} {l : List Pt} (hl : PtsAt w B (some ⟨b, off, none⟩) n l) (hm : m < n) :
    w.cell? ⟨b, off + m * 2, none⟩ = some (.int .i64 (pt l m).x) ∧ w.cell? ⟨b, off + m * 2 + 1, none⟩ = some (.int .i64 (pt l m).y) := by
  obtain ⟨b', off', e, _, c0, c1⟩ := hl.at_ (k := m) hm
  injection e with e
  injection e with e1 e2
  subst e1 e2
  exact ⟨c0, c1⟩

end Go.Proofs.YtmliljdbpkikpaaDoor
