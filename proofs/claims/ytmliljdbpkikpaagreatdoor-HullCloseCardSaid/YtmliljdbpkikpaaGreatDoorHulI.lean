/-
  hull.pair: the best pair of points.
  hull.Closest, hull.Widest; pergolaalike.Round; pergolalaw21.small.
-/
import Derived.Test.YtmliljdbpkikpaaGreatDoorHulE
import Derived.Test.YtmliljdbpkikpaaGreatDoorSegDist
import Derived.Test.YtmliljdbpkikpaaGreatDoorPlainPair
set_option linter.unusedSimpArgs false
set_option linter.unusedVariables false
namespace Go.Proofs.YtmliljdbpkikpaaGreatDoor
open Go.RowKit Pg
theorem errW_zeroI {w : World} {v : Value} {s : ByteArray} {id : Int} (h : ErrW w v 0 s id) : v = .nilIface := by
  rcases h with h | ⟨h, _⟩
  · exact h.2
  · exact absurd rfl h
theorem errW_someI {w : World} {v : Value} {k : Nat} {s : ByteArray} {id : Int} (h : ErrW w v k s id) (hk : k ≠ 0) : ∃ t u, v = .iface t u := by
  rcases h with h | ⟨_, g, inner, rfl, _⟩
  · exact absurd h.1 hk
  · exact ⟨_, _, rfl⟩

def frcells (d : Fr) : Array Value := #[.int .u64 ((d.num / 18446744073709551616 : Nat) : Int), .int .u64 ((d.num % 18446744073709551616 : Nat) : Int), .int .u64 (d.den : Int)]
theorem hullCk_ok {l : List Pt} {least : Nat} (h : (hullCk l least).1 = 0) : least ≤ l.length ∧ ∀ j, j < l.length → okPt (pt l j) = true := by
  unfold hullCk at h
  split at h
  · cases h
  · split at h
    · cases h
    · rename_i h1 h2
      refine ⟨by omega, fun j hj => ?_⟩
      cases e : firstBad l with
      | some i => rw [e] at h; cases h
      | none =>
        unfold firstBad at e
        rw [List.find?_eq_none] at e
        simpa using e j (List.mem_range.2 hj)
theorem cmpF_three (a b : Fr) : cmpF a b = -1 ∨ cmpF a b = 0 ∨ cmpF a b = 1 := by
  unfold cmpF cmpP sgn
  split
  · split <;> simp
  · split
    · simp
    · split
      · simp
      · split <;> simp
theorem frok_sq {p q : Pt} (h1 : okPt p = true) (h2 : okPt q = true) : FrOk (sqP p q) := by
  have e1 := okPt_range h1
  have e2 := okPt_range h2
  refine ⟨?_, by rw [sqP_den]; decide⟩
  have a1 : (p.x - q.x).natAbs ≤ 2147483648 := by omega
  have a2 : (p.y - q.y).natAbs ≤ 2147483648 := by omega
  have b1 := Nat.mul_le_mul a1 a1
  have b2 := Nat.mul_le_mul a2 a2
  show (p.x - q.x).natAbs * (p.x - q.x).natAbs + (p.y - q.y).natAbs * (p.y - q.y).natAbs < _
  omega
theorem pt_out {l : List Pt} {j : Nat} (h : l.length ≤ j) : pt l j = ⟨0, 0⟩ := by
  unfold pt
  rw [List.getD_eq_getElem?_getD, List.getElem?_eq_none h]
  rfl
theorem fold_frok {l : List Pt} (h : ∀ j, okPt (pt l j) = true) (way : Int) : ∀ (M : List (Nat × Nat)) (s : PSt), FrOk s.d → FrOk (M.foldl (pstep l way) s).d := by
  intro M
  induction M with
  | nil => intro s hs; exact hs
  | cons a r ih =>
    intro s hs
    refine ih _ ?_
    unfold pstep
    split
    · exact frok_sq (h _) (h _)
    · exact hs
theorem stP_frok {l : List Pt} (h : ∀ j, okPt (pt l j) = true) (way : Int) (n k b : Nat) : FrOk (stP l way n k b).d := by
  unfold stP
  exact fold_frok h way _ _ (fold_frok h way _ _ ⟨by decide, by decide⟩)
theorem same3 {W w : World} {g : Nat} {t : TypeId} {x y z : Value} (hR : Blk W g t #[x, y, z]) (h : Below W.heap.size W w) : Below W.heap.size W (((w.setCell ⟨g, 0, none⟩ x).setCell ⟨g, 1, none⟩ y).setCell ⟨g, 2, none⟩ z) := by
  have h1 : Blk (((w.setCell ⟨g, 0, none⟩ x).setCell ⟨g, 1, none⟩ y).setCell ⟨g, 2, none⟩ z) g t #[x, y, z] := ((((hR.tr h).set_ 0 x).set_ 1 y).set_ 2 z).eq_ (by simp)
  refine ⟨h.os, h.tape, h.output, by simp [World.setCell]; exact h.size, fun k hk => ?_⟩
  by_cases e : k = g
  · subst e
    exact Eq.trans h1 hR.symm
  · exact ((Below.heap_setCell _ _ _ _ e).trans ((Below.heap_setCell _ _ _ _ e).trans (Below.heap_setCell _ _ _ _ e))).trans (h.block k hk)
theorem Blk.neI {w : World} {g g' : Nat} {t t' : TypeId} {cs cs' : Array Value} (h : Blk w g t cs) (h' : Blk w g' t' cs') (ht : t ≠ t') : g ≠ g' := by
  intro e
  subst e
  have h2 := (Option.some.inj (h.symm.trans h'))
  injection h2 with h3 h4
  exact ht h4
theorem ErrC.farI {w : World} {v : Value} {k r : Nat} {t : TypeId} {cs : Array Value} (h : ErrC w v k) (hr : Blk w r t cs) (ht : 88 ≠ t) (i : Nat) (x : Value) : ErrC (w.setCell ⟨r, i, none⟩ x) v k := by
  rcases h with h | h | ⟨h0, g, s, id, e, hB⟩
  · exact .inl h
  · exact .inr (.inl h)
  · exact .inr (.inr ⟨h0, g, s, id, e, hB.far (p := ⟨r, i, none⟩) (Blk.neI hB hr ht) x⟩)
theorem ErrW.farI {w : World} {v : Value} {k r : Nat} {s : ByteArray} {id : Int} {t : TypeId} {cs : Array Value} (h : ErrW w v k s id) (hr : Blk w r t cs) (ht : 88 ≠ t) (i : Nat) (x : Value) : ErrW (w.setCell ⟨r, i, none⟩ x) v k s id := by
  rcases h with h | ⟨h0, g, inner, e, hB, hi⟩
  · exact .inl h
  · exact .inr ⟨h0, g, inner, e, hB.far (p := ⟨r, i, none⟩) (Blk.neI hB hr ht) x, hi.farI hr ht i x⟩

set_option maxHeartbeats 4000000 in
set_option maxRecDepth 20000 in
theorem pair_any (B n c : Nat) (way : Int) (hway : way = 1 ∨ way = -1) (A : Option Addr) (l : List Pt) (w : World) (hl : PtsAt w B A n l) (hB : B ≤ w.heap.size) (hn : n ≤ 1000000) :
    Calls Tryz.prog 27 #[.slice A n c, .int .i64 way] w fun e w' => ∃ (i j : Nat) (d : Fr) (v : Value), e = .returned (.tuple #[.int .i64 i, .int .i64 j, fV d, v]) ∧ ((hullCk l 2).1 ≠ 0 → i = 0 ∧ j = 0 ∧ d = ⟨0, 0⟩) ∧ ((hullCk l 2).1 = 0 → (⟨i, j, d⟩ : PSt) = pairS l way) ∧ ErrW w' v (hullCk l 2).1 hullW (hullCk l 2).2 ∧ Below w.heap.size w w' := by
  have HCK := Lib.hid (fun W hW => hcheck_any B n c 2 A l W (hl.tr hW hB) (Nat.le_trans hB (Below.size (B := w.heap.size) (w := w) hW)) hn (Nat.le_refl _))
  obtain ⟨ck, hck⟩ : ∃ r, hullCk l 2 = r := ⟨_, rfl⟩
  simp only [hck] at HCK ⊢
  by_cases h0 : ck.1 = 0
  case neg =>
    obtain ⟨k, i⟩ := ck
    simp only at h0 HCK ⊢
    clear hl hck
    go_enter Tryz.func27, Tryz.ntmps27
    go_wp2_with (go_at_call 48; (refine (HCK.out _ (by repeat (first | with_reducible exact Below.refl _ _ | with_reducible assumption | with_reducible refine al ?_ _ | with_reducible refine Below.drew ?_ | with_reducible refine Below.setCell ?_ (by first | (simp; done) | (simp; omega)) _ | with_reducible refine tr ?_ (by with_reducible assumption)))).mono ?_); rintro e w1 ⟨v1, rfl, hE1, hb1⟩; obtain ⟨t1, u1, rfl⟩ := errW_someI hE1 h0; have hR1 : Blk w1 w.heap.size 27 #[.int .u64 0, .int .u64 0, .int .u64 0] := (by repeat (first | with_reducible assumption | with_reducible exact Blk.new (by simp) rfl | with_reducible refine Blk.alloc ?_ _ | with_reducible refine Blk.drew ?_ | with_reducible refine Blk.far ?_ (by first | (simp; done) | (simp; omega)) _ | with_reducible refine Blk.tr ?_ (by with_reducible assumption))); have cR := hR1.cell; have fR := hR1.frozen; have lR := hR1.lt)
    refine post_gen2 (R := fun w2 => Blk w2 w.heap.size 27 #[.int .u64 0, .int .u64 0, .int .u64 0] ∧ ErrW w2 (.iface t1 u1) k hullW i ∧ Below w.heap.size w w2) ⟨?_, ?_, (by repeat (first | with_reducible exact Below.refl _ _ | with_reducible assumption | with_reducible refine al ?_ _ | with_reducible refine Below.drew ?_ | with_reducible refine Below.setCell ?_ (by first | (simp; done) | (simp; omega)) _ | with_reducible refine tr ?_ (by with_reducible assumption)))⟩ ?_
    · exact three_put (x := .int .u64 0) (y := .int .u64 0) (z := .int .u64 0) (by repeat (first | with_reducible assumption | with_reducible exact Blk.new (by simp) rfl | with_reducible refine Blk.alloc ?_ _ | with_reducible refine Blk.drew ?_ | with_reducible refine Blk.far ?_ (by first | (simp; done) | (simp; omega)) _ | with_reducible refine Blk.tr ?_ (by with_reducible assumption)))
    · exact ((hE1.farI hR1 (by decide) 0 _).farI (hR1.set_ 0 _) (by decide) 1 _).farI ((hR1.set_ 0 _).set_ 1 _) (by decide) 2 _
    rintro w2 ⟨HR, hE2, hb2⟩
    have r0 := HR.cell 0
    have r1 := HR.cell 1
    have r2 := HR.cell 2
    simp only [List.getElem?_toArray, List.getElem?_cons_zero, List.getElem?_cons_succ] at r0 r1 r2
    exact bodyPost_ret (v := .tuple #[.int .i64 0, .int .i64 0, fV ⟨0, 0⟩, .iface t1 u1]) (by simp [results, Tryz.results27, go_sem, r0, r1, r2]) rfl ⟨0, 0, ⟨0, 0⟩, _, rfl, fun _ => ⟨rfl, rfl, rfl⟩, fun h => absurd h h0, hE2, hb2⟩
  obtain ⟨k0, i0⟩ := ck
  simp only at h0
  subst h0
  obtain ⟨hn2, hokl⟩ := hullCk_ok (l := l) (least := 2) (by rw [hck])
  have hln := hl.1
  have HL := Lib.hid hl
  have HOK := Lib.hid hokl
  clear hl hck hokl
  go_enter Tryz.func27, Tryz.ntmps27
  go_wp2_with (go_at_call 48; (refine (HCK.out _ (by repeat (first | with_reducible exact Below.refl _ _ | with_reducible assumption | with_reducible refine al ?_ _ | with_reducible refine Below.drew ?_ | with_reducible refine Below.setCell ?_ (by first | (simp; done) | (simp; omega)) _ | with_reducible refine tr ?_ (by with_reducible assumption)))).mono ?_); rintro e w1 ⟨v1, rfl, hE1, hb1⟩; obtain rfl := errW_zeroI hE1; have hR1 : Blk w1 w.heap.size 27 #[.int .u64 0, .int .u64 0, .int .u64 0] := (by repeat (first | with_reducible assumption | with_reducible exact Blk.new (by simp) rfl | with_reducible refine Blk.alloc ?_ _ | with_reducible refine Blk.drew ?_ | with_reducible refine Blk.far ?_ (by first | (simp; done) | (simp; omega)) _ | with_reducible refine Blk.tr ?_ (by with_reducible assumption))))
  have hbb : Below w.heap.size w w1 := (by repeat (first | with_reducible exact Below.refl _ _ | with_reducible assumption | with_reducible refine al ?_ _ | with_reducible refine Below.drew ?_ | with_reducible refine Below.setCell ?_ (by first | (simp; done) | (simp; omega)) _ | with_reducible refine tr ?_ (by with_reducible assumption)))
  clear hb1 hE1 HCK
  go_loopw [4, 5, 20] (fun vi vj vk wr => ∃ k : Nat, k ≤ n ∧ vk = .int .i64 k ∧ vi = .int .i64 (((pairsTo n k).foldl (pstep l way) ⟨0, 0, ⟨0, 0⟩⟩).i : Nat) ∧ vj = .int .i64 (((pairsTo n k).foldl (pstep l way) ⟨0, 0, ⟨0, 0⟩⟩).j : Nat) ∧ Blk wr w.heap.size 27 (frcells ((pairsTo n k).foldl (pstep l way) ⟨0, 0, ⟨0, 0⟩⟩).d) ∧ Below w.heap.size w wr) (fun _ _ vk _ => n - (intOf vk).toNat)
  case atStart => exact ⟨0, by omega, rfl, rfl, rfl, by simpa [pairsTo, frcells] using hR1, hbb⟩
  case round =>
    clear hR1 hbb
    obtain ⟨k, hk, rfl, rfl, rfl, hR, hb⟩ := hrel
    by_cases hlt : k < n
    · have hk0 : (k : Int) < (n : Int) := by omega
      have es := (stP_start l way n k).symm
      rw [es] at hR ⊢
      clear es
      go_wp2
      go_loopw [4, 5, 10] (fun vi vj vb wr => ∃ b : Nat, k + 1 ≤ b ∧ b ≤ n ∧ vb = .int .i64 b ∧ vi = .int .i64 ((stP l way n k b).i : Nat) ∧ vj = .int .i64 ((stP l way n k b).j : Nat) ∧ Blk wr w.heap.size 27 (frcells (stP l way n k b).d) ∧ Below w.heap.size w wr) (fun _ _ vb _ => n - (intOf vb).toNat)
      case atStart => exact ⟨k + 1, Nat.le_refl _, by omega, by go_num, rfl, rfl, hR, hb⟩
      case round =>
        clear hR hb
        obtain ⟨b, hkb, hbn, rfl, rfl, rfl, hR, hb⟩ := hrel
        by_cases hlt2 : b < n
        · have hb0 : (b : Int) < (n : Int) := by omega
          obtain ⟨bA, off, rfl, hab, a0, a1⟩ := (HL.out.below (hb.mono hB)).at_ hlt
          obtain ⟨bA', off', ho, _, d0, d1⟩ := (HL.out.below (hb.mono hB)).at_ hlt2
          injection ho with ho
          injection ho with ho1 ho2
          subst ho1 ho2
          have ok1 := HOK.out k (by omega)
          have ok2 := HOK.out b (by omega)
          obtain ⟨p, hp⟩ : ∃ p, pt l k = p := ⟨_, rfl⟩
          obtain ⟨q, hq⟩ : ∃ q, pt l b = q := ⟨_, rfl⟩
          have est := stP_step l way n k b hkb
          unfold pstep at est
          simp only [hp, hq] at est
          rw [hp] at a0 a1 ok1
          rw [hq] at d0 d1 ok2
          obtain ⟨N, hN⟩ : ∃ N, (sqP p q).num = N := ⟨_, rfl⟩
          have HSq : Hid (∀ w', Calls Tryz.prog 58 #[ptV p.x p.y, ptV q.x q.y] w' (Ret w' (dV N))) := fun w' => by
            have h := pSquare_any p.x p.y q.x q.y w'
            unfold psV at h
            rw [show (⟨p.x, p.y⟩ : Pt) = p from rfl, show (⟨q.x, q.y⟩ : Pt) = q from rfl, ok1, ok2] at h
            rw [← hN]
            exact h
          have HST := Lib.hid est
          have FOK1 : FrOk (sqP p q) := frok_sq ok1 ok2
          have FOK2 : FrOk (stP l way n k b).d := stP_frok (fun j => by
            rcases Nat.lt_or_ge j l.length with h | h
            · exact HOK.out j h
            · rw [pt_out h]; decide) way n k b
          have hbw : bA < wr.heap.size := by have := hb.size; omega
          clear est hp hq ok1 ok2
          generalize stP l way n k b = st at *
          unfold frcells at hR
          have lR := hR.lt
          obtain ⟨x1, hx1⟩ : ∃ x, N / 18446744073709551616 = x := ⟨_, rfl⟩
          obtain ⟨x2, hx2⟩ : ∃ x, N % 18446744073709551616 = x := ⟨_, rfl⟩
          obtain ⟨y1, hy1⟩ : ∃ x, st.d.num / 18446744073709551616 = x := ⟨_, rfl⟩
          obtain ⟨y2, hy2⟩ : ∃ x, st.d.num % 18446744073709551616 = x := ⟨_, rfl⟩
          obtain ⟨y3, hy3⟩ : ∃ x, st.d.den = x := ⟨_, rfl⟩
          rw [hy1, hy2, hy3] at hR
          have HSq2 : Hid (∀ w', Calls Tryz.prog 58 #[ptV p.x p.y, ptV q.x q.y] w' (Ret w' (.agg #[.int .u64 (x1 : Nat), .int .u64 (x2 : Nat), .int .u64 1]))) := fun w' => by
            have h := HSq.out w'
            unfold dV at h
            rw [hx1, hx2] at h
            exact h
          have HX := Lib.hid (And.intro hx1 (And.intro hx2 (And.intro hy1 (And.intro hy2 hy3))))
          clear hx1 hx2 hy1 hy2 hy3 HSq
          go_wp2_with fail
          refine wp_region_alloc' [0, 1, 2, 3, 4, 5, 6, 7, 8] [9] [10] (fun _ => #[.int .u64 0, .int .u64 0, .int .u64 0]) (by kernel_rfl) (by kernel_rfl) (fun _ _ d _ _ h => by cases d <;> exact h) (by intro i hi w; simp only [List.mem_cons, List.not_mem_nil, or_false] at hi; rcases hi with rfl <;> simp only [List.getD_cons_zero, List.getD_cons_succ, tyOf] <;> kernel_rfl) (fun KN hKN => ?_)
          simp only [List.map_cons, List.map_nil, List.getD_cons_zero, List.getD_cons_succ, bare, gslot, List.getElem?_cons_zero, List.getElem?_cons_succ, Option.bind_some]
          repeat ((try simp only [Act.put, List.setIfInBounds_toArray, List.set_cons_zero, List.set_cons_succ]); first | (refine lexN_quiet (v := ?_) rfl ?_ ?_; rotate_left; focus (intro wq hq; obtain ⟨hcq, hfq⟩ := bcell hq; go_simp; try with_reducible rfl)) | (refine lexN_loud (v := ?_) rfl ?_ ?_; rotate_left; focus (intro wq hq K hK; obtain ⟨hcq, hfq⟩ := bcell hq; go_simp; (first | (go_at_call 58; (with_reducible refine (HSq2.out _).mono ?_); rintro e w1 ⟨rfl, hb1⟩; obtain ⟨hc1, hf1⟩ := bcell hb1; have hz1 := hb1.size; (try simp at hz1))); refine hK.out _ _ ?_ (by repeat (first | with_reducible exact Below.refl _ _ | with_reducible assumption | with_reducible refine al ?_ _ | with_reducible refine Below.drew ?_ | with_reducible refine Below.setCell ?_ (by first | (simp; done) | (simp; omega)) _ | with_reducible refine tr ?_ (by with_reducible assumption))); simp only [Act.put, List.setIfInBounds_toArray, List.set_cons_zero, List.set_cons_succ]; try with_reducible rfl)))
          (try simp only [Act.put, List.setIfInBounds_toArray, List.set_cons_zero, List.set_cons_succ])
          refine lexN_nil (hKN.out _ ?_)
          clear hKN KN
          intro gs wf hwf hgs hds
          simp only [List.map_cons, List.map_nil, List.getD_cons_zero, List.getD_cons_succ, bare, gslot, List.getElem?_cons_zero, List.getElem?_cons_succ, Option.bind_some, List.foldl_cons, List.foldl_nil, ptrV]
          obtain ⟨hg9, HB9⟩ := hgs 9 (by decide)
          simp only [List.getD_cons_zero, List.getD_cons_succ, tyOf] at HB9
          clear hgs hds
          generalize gs 9 = g9 at *
          have cg9 := HB9.cell
          have fg9 := HB9.frozen
          repeat ((try simp only [Act.put, List.setIfInBounds_toArray, List.set_cons_zero, List.set_cons_succ]); first | (refine lexL_loud wantB_none rfl (fun K hK => ?_); go_simp; refine hK.out _ _ (by repeat (first | with_reducible exact Below.refl _ _ | with_reducible assumption | with_reducible refine al ?_ _ | with_reducible refine Below.drew ?_ | with_reducible refine Below.setCell ?_ (by first | (simp; done) | (simp; omega)) _ | with_reducible refine tr ?_ (by with_reducible assumption))) ?_; clear hK K) | (refine lexL_quiet (v := ?_) wantB_none rfl ?_ ?_; rotate_left; focus (intro wq hq; go_simp; try with_reducible rfl)))
          refine lexL_nil ?_
          refine keep_world (R := fun w2 => Below w.heap.size w w2 ∧ Blk w2 g9 27 #[.int .u64 x1, .int .u64 x2, .int .u64 1] ∧ Blk w2 w.heap.size 27 #[.int .u64 y1, .int .u64 y2, .int .u64 y3]) ⟨(by repeat (first | with_reducible exact Below.refl _ _ | with_reducible assumption | with_reducible refine al ?_ _ | with_reducible refine Below.drew ?_ | with_reducible refine Below.setCell ?_ (by first | (simp; done) | (simp; omega)) _ | with_reducible refine tr ?_ (by with_reducible assumption))), (((HB9.set_ 0 _).set_ 1 _).set_ 2 _).eq_ (by simp), (by repeat (first | with_reducible assumption | with_reducible exact Blk.new (by simp) rfl | with_reducible refine Blk.alloc ?_ _ | with_reducible refine Blk.drew ?_ | with_reducible refine Blk.far ?_ (by first | (simp; done) | (simp; omega)) _ | with_reducible refine Blk.tr ?_ (by with_reducible assumption)))⟩ ?_
          rintro w2 ⟨hb2, h9, hE0⟩
          clear cg9 fg9 HB9
          have cg9 := h9.cell
          have fg9 := h9.frozen
          have lg9 := h9.lt
          obtain ⟨hc2, hf2⟩ := bcell hb2
          have cR := hE0.cell
          have fR := hE0.frozen
          have lR2 := hE0.lt
          have hn9 : g9 ≠ w.heap.size := by intro e; subst e; have := hE0; have h9' := h9; omega
          by_cases hj : st.j = 0
          · have hjb : (((st.j : Nat) : Int) == 0) = true := by rw [beq_iff_eq]; omega
            have hst : stP l way n k (b + 1) = ⟨k, b, sqP p q⟩ := by rw [HST.out, if_pos (.inl hj)]
            have hfr : frcells (sqP p q) = #[.int .u64 (x1 : Nat), .int .u64 (x2 : Nat), .int .u64 1] := by
              unfold frcells
              rw [hN, HX.out.1, HX.out.2.1]
              rfl
            go_wp2_with fail
            refine wp_region_away (w.heap.size) [0, 1, 2, 3, 4, 5] (by kernel_rfl) (by kernel_rfl) (fun _ _ d _ _ h => by cases d <;> exact h) ?_
            simp only [List.map_cons, List.map_nil, List.getD_cons_zero, List.getD_cons_succ, bare, gslot, List.getElem?_cons_zero, List.getElem?_cons_succ, Option.bind_some]
            repeat' ((try simp only [Act.put, List.setIfInBounds_toArray, List.set_cons_zero, List.set_cons_succ]); first | (refine lexL_quiet (v := ?_) wantB_none rfl ?_ ?_; rotate_left; focus (intro wq hq; obtain ⟨hcq, hfq⟩ := acell hq; go_simp; try with_reducible rfl)) | (refine lexL_loud wantB_none rfl (fun K hK => ?_); go_simp; ((first | fail | skip) <;> (refine hK.out _ _ (by repeat (first | with_reducible exact Away.refl _ _ | with_reducible assumption | with_reducible refine Away.drew ?_ | with_reducible refine Away.put ?_ _ _ | with_reducible refine Away.alloc ?_ _ | with_reducible refine Away.below ?_ (by with_reducible assumption))) ?_; clear hK K))) | (refine lexL_on ?_ ?_; focus (simp only [List.getElem?_toArray, List.getElem?_cons_succ, List.getElem?_cons_zero, Bool.not_true, Bool.not_false]; done)) | (refine lexL_off ?_ ?_ ?_; (focus (simp only [List.getElem?_toArray, List.getElem?_cons_succ, List.getElem?_cons_zero, Bool.not_true, Bool.not_false]; done)); (focus (exact (by repeat (first | with_reducible exact Away.refl _ _ | with_reducible assumption | with_reducible refine Away.drew ?_ | with_reducible refine Away.put ?_ _ _ | with_reducible refine Away.alloc ?_ _ | with_reducible refine Away.below ?_ (by with_reducible assumption)))))) | (refine lexL_splitS (X := ?_) ?_ ?_ (fun hg => ?_) (fun hg => ?_); rotate_left; (focus (simp only [List.getElem?_toArray, List.getElem?_cons_succ, List.getElem?_cons_zero]; with_reducible rfl)); (focus (exact (by repeat (first | with_reducible exact Away.refl _ _ | with_reducible assumption | with_reducible refine Away.drew ?_ | with_reducible refine Away.put ?_ _ _ | with_reducible refine Away.alloc ?_ _ | with_reducible refine Away.below ?_ (by with_reducible assumption))))); all_goals (try simp only [Bool.not_true, Bool.not_false] at hg)))
            (all_goals try simp only [Act.put, List.setIfInBounds_toArray, List.set_cons_zero, List.set_cons_succ]); all_goals (refine lexL_nil ?_)
            refine PgG.keep_world (R := fun w3 => Blk w3 w.heap.size 27 #[.int .u64 x1, .int .u64 x2, .int .u64 1] ∧ Below w.heap.size w w3) ⟨three_put (x := .int .u64 y1) (y := .int .u64 y2) (z := .int .u64 y3) (by repeat (first | with_reducible assumption | with_reducible exact Blk.new (by simp) rfl | with_reducible refine Blk.alloc ?_ _ | with_reducible refine Blk.drew ?_ | with_reducible refine Blk.far ?_ (by first | (simp; done) | (simp; omega)) _ | with_reducible refine Blk.tr ?_ (by with_reducible assumption))), (by repeat (first | with_reducible exact Below.refl _ _ | with_reducible assumption | with_reducible refine al ?_ _ | with_reducible refine Below.drew ?_ | with_reducible refine Below.setCell ?_ (by first | (simp; done) | (simp; omega)) _ | with_reducible refine tr ?_ (by with_reducible assumption)))⟩ ?_
            rintro w3 ⟨hR3, hb3⟩
            go_wp2
            go_roundw
            case rel => exact ⟨b + 1, by omega, by omega, by go_num, by rw [hst], by rw [hst], by rw [hst]; rw [hfr]; exact hR3, hb3⟩
            case measure => simp [intOf]; omega
          · have hjb : (((st.j : Nat) : Int) == 0) = false := by rw [beq_eq_false_iff_ne]; omega
            obtain ⟨C, hC⟩ : ∃ C, cmpF (sqP p q) st.d = C := ⟨_, rfl⟩
            have HCm : Hid (∀ w', Calls Tryz.prog 59 #[.agg #[.int .u64 (x1 : Nat), .int .u64 (x2 : Nat), .int .u64 1], .agg #[.int .u64 (y1 : Nat), .int .u64 (y2 : Nat), .int .u64 (y3 : Nat)]] w' (Ret w' (.int .i64 C))) := fun w' => by
              have h := rCmp_any (sqP p q) st.d FOK1 FOK2 w'
              unfold fV at h
              rw [hC, hN, HX.out.1, HX.out.2.1, HX.out.2.2.1, HX.out.2.2.2.1, HX.out.2.2.2.2] at h
              exact h
            have hC3 : C = -1 ∨ C = 0 ∨ C = 1 := by rw [← hC]; exact cmpF_three _ _
            obtain ⟨m, hm⟩ : ∃ m, way * C = m := ⟨_, rfl⟩
            have hm2 : m = -1 ∨ m = 0 ∨ m = 1 := by rw [← hm]; rcases hway with rfl | rfl <;> rcases hC3 with rfl | rfl | rfl <;> decide
            have hmw : IntKind.i64.wrap m = m := by rcases hm2 with rfl | rfl | rfl <;> decide
            have hfr : frcells (sqP p q) = #[.int .u64 (x1 : Nat), .int .u64 (x2 : Nat), .int .u64 1] := by
              unfold frcells
              rw [hN, HX.out.1, HX.out.2.1]
              rfl
            by_cases hpos : 0 < m
            · have hst : stP l way n k (b + 1) = ⟨k, b, sqP p q⟩ := by rw [HST.out, if_pos (.inr (by rw [hC, hm]; exact hpos))]
              go_wp2_with (go_at_call 59; (with_reducible refine (HCm.out _).mono ?_); rintro e w5 ⟨rfl, hb5⟩; have h95 : Blk w5 g9 27 #[.int .u64 x1, .int .u64 x2, .int .u64 1] := (by repeat (first | with_reducible assumption | with_reducible exact Blk.new (by simp) rfl | with_reducible refine Blk.alloc ?_ _ | with_reducible refine Blk.drew ?_ | with_reducible refine Blk.far ?_ (by first | (simp; done) | (simp; omega)) _ | with_reducible refine Blk.tr ?_ (by with_reducible assumption))); have c95 := h95.cell; have l95 := h95.lt; have hR5 : Blk w5 w.heap.size 27 #[.int .u64 y1, .int .u64 y2, .int .u64 y3] := (by repeat (first | with_reducible assumption | with_reducible exact Blk.new (by simp) rfl | with_reducible refine Blk.alloc ?_ _ | with_reducible refine Blk.drew ?_ | with_reducible refine Blk.far ?_ (by first | (simp; done) | (simp; omega)) _ | with_reducible refine Blk.tr ?_ (by with_reducible assumption))); have cR5 := hR5.cell; have fR5 := hR5.frozen; have lR5 := hR5.lt; have hz5 := hb5.size; (try simp at hz5))
              refine wp_region_away (w.heap.size) [0, 1, 2, 3, 4, 5] (by kernel_rfl) (by kernel_rfl) (fun _ _ d _ _ h => by cases d <;> exact h) ?_
              simp only [List.map_cons, List.map_nil, List.getD_cons_zero, List.getD_cons_succ, bare, gslot, List.getElem?_cons_zero, List.getElem?_cons_succ, Option.bind_some]
              repeat' ((try simp only [Act.put, List.setIfInBounds_toArray, List.set_cons_zero, List.set_cons_succ]); first | (refine lexL_quiet (v := ?_) wantB_none rfl ?_ ?_; rotate_left; focus (intro wq hq; obtain ⟨hcq, hfq⟩ := acell hq; go_simp; try with_reducible rfl)) | (refine lexL_loud wantB_none rfl (fun K hK => ?_); go_simp; ((first | fail | skip) <;> (refine hK.out _ _ (by repeat (first | with_reducible exact Away.refl _ _ | with_reducible assumption | with_reducible refine Away.drew ?_ | with_reducible refine Away.put ?_ _ _ | with_reducible refine Away.alloc ?_ _ | with_reducible refine Away.below ?_ (by with_reducible assumption))) ?_; clear hK K))) | (refine lexL_on ?_ ?_; focus (simp only [List.getElem?_toArray, List.getElem?_cons_succ, List.getElem?_cons_zero, Bool.not_true, Bool.not_false]; done)) | (refine lexL_off ?_ ?_ ?_; (focus (simp only [List.getElem?_toArray, List.getElem?_cons_succ, List.getElem?_cons_zero, Bool.not_true, Bool.not_false]; done)); (focus (exact (by repeat (first | with_reducible exact Away.refl _ _ | with_reducible assumption | with_reducible refine Away.drew ?_ | with_reducible refine Away.put ?_ _ _ | with_reducible refine Away.alloc ?_ _ | with_reducible refine Away.below ?_ (by with_reducible assumption)))))) | (refine lexL_splitS (X := ?_) ?_ ?_ (fun hg => ?_) (fun hg => ?_); rotate_left; (focus (simp only [List.getElem?_toArray, List.getElem?_cons_succ, List.getElem?_cons_zero]; with_reducible rfl)); (focus (exact (by repeat (first | with_reducible exact Away.refl _ _ | with_reducible assumption | with_reducible refine Away.drew ?_ | with_reducible refine Away.put ?_ _ _ | with_reducible refine Away.alloc ?_ _ | with_reducible refine Away.below ?_ (by with_reducible assumption))))); all_goals (try simp only [Bool.not_true, Bool.not_false] at hg)))
              (all_goals try simp only [Act.put, List.setIfInBounds_toArray, List.set_cons_zero, List.set_cons_succ]); all_goals (refine lexL_nil ?_)
              refine PgG.keep_world (R := fun w3 => Blk w3 w.heap.size 27 #[.int .u64 x1, .int .u64 x2, .int .u64 1] ∧ Below w.heap.size w w3) ⟨three_put (x := .int .u64 y1) (y := .int .u64 y2) (z := .int .u64 y3) (by repeat (first | with_reducible assumption | with_reducible exact Blk.new (by simp) rfl | with_reducible refine Blk.alloc ?_ _ | with_reducible refine Blk.drew ?_ | with_reducible refine Blk.far ?_ (by first | (simp; done) | (simp; omega)) _ | with_reducible refine Blk.tr ?_ (by with_reducible assumption))), (by repeat (first | with_reducible exact Below.refl _ _ | with_reducible assumption | with_reducible refine al ?_ _ | with_reducible refine Below.drew ?_ | with_reducible refine Below.setCell ?_ (by first | (simp; done) | (simp; omega)) _ | with_reducible refine tr ?_ (by with_reducible assumption)))⟩ ?_
              rintro w3 ⟨hR3, hb3⟩
              go_wp2
              go_roundw
              case rel => exact ⟨b + 1, by omega, by omega, by go_num, by rw [hst], by rw [hst], by rw [hst]; rw [hfr]; exact hR3, hb3⟩
              case measure => simp [intOf]; omega
            · have hst : stP l way n k (b + 1) = st := by rw [HST.out, if_neg (by rw [hC, hm]; exact fun h => h.elim hj hpos)]
              have hfr2 : frcells st.d = #[.int .u64 (y1 : Nat), .int .u64 (y2 : Nat), .int .u64 (y3 : Nat)] := by
                unfold frcells
                rw [HX.out.2.2.1, HX.out.2.2.2.1, HX.out.2.2.2.2]
              go_wp2_with (go_at_call 59; (with_reducible refine (HCm.out _).mono ?_); rintro e w5 ⟨rfl, hb5⟩; obtain ⟨hc5, hf5⟩ := bcell hb5; have hz5 := hb5.size; (try simp at hz5))
              go_roundw
              case rel => exact ⟨b + 1, by omega, by omega, by go_num, by rw [hst], by rw [hst], by rw [hst, hfr2]; exact (by repeat (first | with_reducible assumption | with_reducible exact Blk.new (by simp) rfl | with_reducible refine Blk.alloc ?_ _ | with_reducible refine Blk.drew ?_ | with_reducible refine Blk.far ?_ (by first | (simp; done) | (simp; omega)) _ | with_reducible refine Blk.tr ?_ (by with_reducible assumption))), (by repeat (first | with_reducible exact Below.refl _ _ | with_reducible assumption | with_reducible refine al ?_ _ | with_reducible refine Below.drew ?_ | with_reducible refine Below.setCell ?_ (by first | (simp; done) | (simp; omega)) _ | with_reducible refine tr ?_ (by with_reducible assumption)))⟩
              case measure => simp [intOf]; omega
        · obtain rfl : n = b := by omega
          have es := stP_end l way n k
          clear hlt2
          go_wp2
          go_roundw
          case rel => exact ⟨k + 1, by omega, by go_num, by rw [es], by rw [es], by rw [← es]; exact hR, hb⟩
          case measure => simp [intOf]; omega
    · obtain rfl : n = k := by omega
      have est : (pairsTo n n).foldl (pstep l way) ⟨0, 0, ⟨0, 0⟩⟩ = pairS l way := by unfold pairS; rw [hln]
      rw [est] at hR ⊢
      clear est HOK HL
      obtain ⟨st, hst⟩ : ∃ s, pairS l way = s := ⟨_, rfl⟩
      rw [hst] at hR ⊢
      unfold frcells at hR
      obtain ⟨y1, hy1⟩ : ∃ x, st.d.num / 18446744073709551616 = x := ⟨_, rfl⟩
      obtain ⟨y2, hy2⟩ : ∃ x, st.d.num % 18446744073709551616 = x := ⟨_, rfl⟩
      obtain ⟨y3, hy3⟩ : ∃ x, st.d.den = x := ⟨_, rfl⟩
      rw [hy1, hy2, hy3] at hR
      have hfV : fV st.d = .agg #[.int .u64 (y1 : Nat), .int .u64 (y2 : Nat), .int .u64 (y3 : Nat)] := by
        unfold fV
        rw [hy1, hy2, hy3]
      clear hy1 hy2 hy3
      have cR := hR.cell
      have fR := hR.frozen
      have lR := hR.lt
      go_wp2_with fail
      refine wp_region_belowI (by kernel_rfl) (by kernel_rfl) (fun _ _ d _ _ h => by cases d <;> exact h) ?_
      simp only [List.map_cons, List.map_nil, List.getD_cons_zero, List.getD_cons_succ, bare, gslot, List.getElem?_cons_zero, List.getElem?_cons_succ, Option.bind_some]
      repeat' ((try simp only [Act.put, List.setIfInBounds_toArray, List.set_cons_zero, List.set_cons_succ]); first | (refine lexL_quiet (v := ?_) wantB_none rfl ?_ ?_; rotate_left; focus (intro wq hq; obtain ⟨hcq, hfq⟩ := bcell hq; go_simp; try with_reducible rfl)) | (refine lexL_loud wantB_none rfl (fun K hK => ?_); go_simp; ((first | fail | skip) <;> (refine hK.out _ _ (by repeat (first | with_reducible exact Below.refl _ _ | with_reducible assumption | with_reducible refine same3 hR ?_ | with_reducible refine Below.drew ?_ | with_reducible refine al ?_ _ | with_reducible refine tr ?_ (by with_reducible assumption))) ?_; clear hK K))) | (refine lexL_on ?_ ?_; focus (simp only [List.getElem?_toArray, List.getElem?_cons_succ, List.getElem?_cons_zero, Bool.not_true, Bool.not_false]; done)) | (refine lexL_off ?_ ?_ ?_; (focus (simp only [List.getElem?_toArray, List.getElem?_cons_succ, List.getElem?_cons_zero, Bool.not_true, Bool.not_false]; done)); (focus (exact (by repeat (first | with_reducible exact Below.refl _ _ | with_reducible assumption | with_reducible refine same3 hR ?_ | with_reducible refine Below.drew ?_ | with_reducible refine al ?_ _ | with_reducible refine tr ?_ (by with_reducible assumption)))))) | (refine lexL_splitS (X := ?_) ?_ ?_ (fun hg => ?_) (fun hg => ?_); rotate_left; (focus (simp only [List.getElem?_toArray, List.getElem?_cons_succ, List.getElem?_cons_zero]; with_reducible rfl)); (focus (exact (by repeat (first | with_reducible exact Below.refl _ _ | with_reducible assumption | with_reducible refine same3 hR ?_ | with_reducible refine Below.drew ?_ | with_reducible refine al ?_ _ | with_reducible refine tr ?_ (by with_reducible assumption))))); all_goals (try simp only [Bool.not_true, Bool.not_false] at hg)))
      (all_goals try simp only [Act.put, List.setIfInBounds_toArray, List.set_cons_zero, List.set_cons_succ]); all_goals (refine lexL_nil ?_)
      go_wp2_with fail
      refine post_gen2 (R := fun w2 => Blk w2 w.heap.size 27 #[.int .u64 y1, .int .u64 y2, .int .u64 y3] ∧ Below w.heap.size w w2) ⟨three_put (x := .int .u64 y1) (y := .int .u64 y2) (z := .int .u64 y3) (by repeat (first | with_reducible assumption | with_reducible exact Blk.new (by simp) rfl | with_reducible refine Blk.alloc ?_ _ | with_reducible refine Blk.drew ?_ | with_reducible refine Blk.far ?_ (by first | (simp; done) | (simp; omega)) _ | with_reducible refine Blk.tr ?_ (by with_reducible assumption))), (by repeat (first | with_reducible exact Below.refl _ _ | with_reducible assumption | with_reducible refine al ?_ _ | with_reducible refine Below.drew ?_ | with_reducible refine Below.setCell ?_ (by first | (simp; done) | (simp; omega)) _ | with_reducible refine tr ?_ (by with_reducible assumption)))⟩ ?_
      rintro w2 ⟨HR, hb2⟩
      have r0 := HR.cell 0
      have r1 := HR.cell 1
      have r2 := HR.cell 2
      simp only [List.getElem?_toArray, List.getElem?_cons_zero, List.getElem?_cons_succ] at r0 r1 r2
      exact bodyPost_ret (v := .tuple #[.int .i64 (st.i : Nat), .int .i64 (st.j : Nat), fV st.d, .nilIface]) (by rw [hfV]; simp [results, Tryz.results27, go_sem, r0, r1, r2]) rfl ⟨st.i, st.j, st.d, _, rfl, fun h => absurd rfl h, fun _ => hst.symm, .inl ⟨rfl, rfl⟩, hb2⟩
end Go.Proofs.YtmliljdbpkikpaaGreatDoor
set_option linter.unusedSimpArgs false
set_option linter.unusedVariables false
namespace Go.Proofs.YtmliljdbpkikpaaGreatDoor
open Go.RowKit Pg
theorem fV_three (d : Fr) : ∃ x y z : Nat, fV d = .agg #[.int .u64 (x : Nat), .int .u64 (y : Nat), .int .u64 (z : Nat)] := ⟨_, _, _, rfl⟩

set_option maxHeartbeats 1000000 in
theorem closest_any (B n c : Nat) (A : Option Addr) (l : List Pt) (w : World) (hl : PtsAt w B A n l) (hB : B ≤ w.heap.size) (hn : n ≤ 1000000) :
    Calls Tryz.prog 7 #[.slice A n c] w fun e w' => ∃ (i j : Nat) (d : Fr) (v : Value), e = .returned (.tuple #[.int .i64 i, .int .i64 j, fV d, v]) ∧ ((hullCk l 2).1 ≠ 0 → i = 0 ∧ j = 0 ∧ d = ⟨0, 0⟩) ∧ ((hullCk l 2).1 = 0 → (⟨i, j, d⟩ : PSt) = pairS l (-1)) ∧ ErrW w' v (hullCk l 2).1 hullW (hullCk l 2).2 ∧ Below w.heap.size w w' := by
  have HP := Lib.hid (fun W hW => pair_any B n c (-1) (.inr rfl) A l W (hl.tr hW hB) (Nat.le_trans hB (Below.size (B := w.heap.size) (w := w) hW)) hn)
  clear hl
  go_enter Tryz.func7, Tryz.ntmps7
  go_wp2_with (go_at_call 27; (with_reducible refine (HP.out _ (by repeat (first | with_reducible exact Below.refl _ _ | with_reducible assumption | with_reducible refine al ?_ _ | with_reducible refine Below.drew ?_ | with_reducible refine Below.setCell ?_ (by first | (simp; done) | (simp; omega)) _ | with_reducible refine tr ?_ (by with_reducible assumption)))).mono ?_); rintro e w1 ⟨i, j, d, v, rfl, h1, h2, hE1, hb1⟩; obtain ⟨x, y, z, hd⟩ := fV_three d; simp only [hd]; have hR1 : Blk w1 w.heap.size 27 #[.int .u64 0, .int .u64 0, .int .u64 0] := (by repeat (first | with_reducible assumption | with_reducible exact Blk.new (by simp) rfl | with_reducible refine Blk.alloc ?_ _ | with_reducible refine Blk.drew ?_ | with_reducible refine Blk.far ?_ (by first | (simp; done) | (simp; omega)) _ | with_reducible refine Blk.tr ?_ (by with_reducible assumption))); have cR := hR1.cell; have fR := hR1.frozen; have lR := hR1.lt)
  refine post_gen2 (R := fun w2 => Blk w2 w.heap.size 27 #[.int .u64 x, .int .u64 y, .int .u64 z] ∧ ErrW w2 v (hullCk l 2).1 hullW (hullCk l 2).2 ∧ Below w.heap.size w w2) ⟨?_, ?_, (by repeat (first | with_reducible exact Below.refl _ _ | with_reducible assumption | with_reducible refine al ?_ _ | with_reducible refine Below.drew ?_ | with_reducible refine Below.setCell ?_ (by first | (simp; done) | (simp; omega)) _ | with_reducible refine tr ?_ (by with_reducible assumption)))⟩ ?_
  · exact three_put (x := .int .u64 0) (y := .int .u64 0) (z := .int .u64 0) (by repeat (first | with_reducible assumption | with_reducible exact Blk.new (by simp) rfl | with_reducible refine Blk.alloc ?_ _ | with_reducible refine Blk.drew ?_ | with_reducible refine Blk.far ?_ (by first | (simp; done) | (simp; omega)) _ | with_reducible refine Blk.tr ?_ (by with_reducible assumption)))
  · exact ((hE1.farI hR1 (by decide) 0 _).farI (hR1.set_ 0 _) (by decide) 1 _).farI ((hR1.set_ 0 _).set_ 1 _) (by decide) 2 _
  rintro w2 ⟨HR, hE2, hb2⟩
  have r0 := HR.cell 0
  have r1 := HR.cell 1
  have r2 := HR.cell 2
  simp only [List.getElem?_toArray, List.getElem?_cons_zero, List.getElem?_cons_succ] at r0 r1 r2
  exact bodyPost_ret (v := .tuple #[.int .i64 i, .int .i64 j, fV d, v]) (by rw [hd]; simp [results, Tryz.results7, go_sem, r0, r1, r2]) rfl ⟨i, j, d, v, rfl, h1, h2, hE2, hb2⟩

set_option maxHeartbeats 1000000 in
theorem widest_any (B n c : Nat) (A : Option Addr) (l : List Pt) (w : World) (hl : PtsAt w B A n l) (hB : B ≤ w.heap.size) (hn : n ≤ 1000000) :
    Calls Tryz.prog 8 #[.slice A n c] w fun e w' => ∃ (i j : Nat) (d : Fr) (v : Value), e = .returned (.tuple #[.int .i64 i, .int .i64 j, fV d, v]) ∧ ((hullCk l 2).1 ≠ 0 → i = 0 ∧ j = 0 ∧ d = ⟨0, 0⟩) ∧ ((hullCk l 2).1 = 0 → (⟨i, j, d⟩ : PSt) = pairS l (1)) ∧ ErrW w' v (hullCk l 2).1 hullW (hullCk l 2).2 ∧ Below w.heap.size w w' := by
  have HP := Lib.hid (fun W hW => pair_any B n c (1) (.inl rfl) A l W (hl.tr hW hB) (Nat.le_trans hB (Below.size (B := w.heap.size) (w := w) hW)) hn)
  clear hl
  go_enter Tryz.func8, Tryz.ntmps8
  go_wp2_with (go_at_call 27; (with_reducible refine (HP.out _ (by repeat (first | with_reducible exact Below.refl _ _ | with_reducible assumption | with_reducible refine al ?_ _ | with_reducible refine Below.drew ?_ | with_reducible refine Below.setCell ?_ (by first | (simp; done) | (simp; omega)) _ | with_reducible refine tr ?_ (by with_reducible assumption)))).mono ?_); rintro e w1 ⟨i, j, d, v, rfl, h1, h2, hE1, hb1⟩; obtain ⟨x, y, z, hd⟩ := fV_three d; simp only [hd]; have hR1 : Blk w1 w.heap.size 27 #[.int .u64 0, .int .u64 0, .int .u64 0] := (by repeat (first | with_reducible assumption | with_reducible exact Blk.new (by simp) rfl | with_reducible refine Blk.alloc ?_ _ | with_reducible refine Blk.drew ?_ | with_reducible refine Blk.far ?_ (by first | (simp; done) | (simp; omega)) _ | with_reducible refine Blk.tr ?_ (by with_reducible assumption))); have cR := hR1.cell; have fR := hR1.frozen; have lR := hR1.lt)
  refine post_gen2 (R := fun w2 => Blk w2 w.heap.size 27 #[.int .u64 x, .int .u64 y, .int .u64 z] ∧ ErrW w2 v (hullCk l 2).1 hullW (hullCk l 2).2 ∧ Below w.heap.size w w2) ⟨?_, ?_, (by repeat (first | with_reducible exact Below.refl _ _ | with_reducible assumption | with_reducible refine al ?_ _ | with_reducible refine Below.drew ?_ | with_reducible refine Below.setCell ?_ (by first | (simp; done) | (simp; omega)) _ | with_reducible refine tr ?_ (by with_reducible assumption)))⟩ ?_
  · exact three_put (x := .int .u64 0) (y := .int .u64 0) (z := .int .u64 0) (by repeat (first | with_reducible assumption | with_reducible exact Blk.new (by simp) rfl | with_reducible refine Blk.alloc ?_ _ | with_reducible refine Blk.drew ?_ | with_reducible refine Blk.far ?_ (by first | (simp; done) | (simp; omega)) _ | with_reducible refine Blk.tr ?_ (by with_reducible assumption)))
  · exact ((hE1.farI hR1 (by decide) 0 _).farI (hR1.set_ 0 _) (by decide) 1 _).farI ((hR1.set_ 0 _).set_ 1 _) (by decide) 2 _
  rintro w2 ⟨HR, hE2, hb2⟩
  have r0 := HR.cell 0
  have r1 := HR.cell 1
  have r2 := HR.cell 2
  simp only [List.getElem?_toArray, List.getElem?_cons_zero, List.getElem?_cons_succ] at r0 r1 r2
  exact bodyPost_ret (v := .tuple #[.int .i64 i, .int .i64 j, fV d, v]) (by rw [hd]; simp [results, Tryz.results8, go_sem, r0, r1, r2]) rfl ⟨i, j, d, v, rfl, h1, h2, hE2, hb2⟩

/-- pergolaalike.Round: a number turned into a place -/
def roundS (k : Int) (n : Nat) : Nat := (k % (n : Int)).toNat
theorem roundS_lt {k : Int} {n : Nat} (hn : 0 < n) : roundS k n < n := by
  unfold roundS
  have := Int.emod_lt_of_pos k (show (0 : Int) < n by omega)
  have := Int.emod_nonneg k (show (n : Int) ≠ 0 by omega)
  omega
theorem roundS_tmod (k : Int) {n : Nat} (hn : 0 < n) : ((roundS k n : Nat) : Int) = if k.tmod n < 0 then k.tmod n + n else k.tmod n := by
  unfold roundS
  have h1 := Int.emod_nonneg k (show (n : Int) ≠ 0 by omega)
  rw [Int.toNat_of_nonneg h1]
  have h2 := Int.emod_lt_of_pos k (show (0 : Int) < n by omega)
  rcases Int.lt_or_le k 0 with hk | hk
  · have e : k.tmod n = -((-k) % n) := by rw [← Int.tmod_eq_emod_of_nonneg (by omega : 0 ≤ -k), Int.neg_tmod, Int.neg_neg]
    have e2 := Int.emod_nonneg (-k) (show (n : Int) ≠ 0 by omega)
    have e3 := Int.emod_lt_of_pos (-k) (show (0 : Int) < n by omega)
    have d1 := Int.emod_add_mul_ediv k n
    have d2 := Int.emod_add_mul_ediv (-k) n
    have key : (k % n + (-k) % n) % n = 0 := by
      rw [← Int.add_emod, Int.add_right_neg, Int.zero_emod]
    rcases Decidable.em ((-k) % (n : Int) = 0) with z | z
    · rw [e, z]
      simp
      rw [z, Int.add_zero, Int.emod_emod_of_dvd k (Int.dvd_refl _)] at key
      exact key
    · rw [if_pos (by omega), e]
      have hs : k % n + (-k) % n = n := by
        rcases Int.lt_or_le (k % n + (-k) % n) n with h | h
        · rw [Int.emod_eq_of_lt (by omega) h] at key
          omega
        · have : (k % n + (-k) % n - n) % n = 0 := by rw [Int.sub_emod_right]; exact key
          rw [Int.emod_eq_of_lt (by omega) (by omega)] at this
          omega
      omega
  · rw [Int.tmod_eq_emod_of_nonneg hk, if_neg (by omega)]

set_option maxHeartbeats 1000000 in
theorem round_any (k : Int) (n : Nat) (hn : 0 < n) (hn2 : n ≤ 1000000) (w : World) : Calls Tryz.prog 9 #[.int .i64 k, .int .i64 n] w (Ret w (.int .i64 (roundS k n : Nat))) := by
  have HR := Lib.hid (roundS_tmod k hn)
  have h1 := roundS_lt (k := k) hn
  obtain ⟨m, hm⟩ : ∃ m, k.tmod n = m := ⟨_, rfl⟩
  rw [hm] at HR
  generalize roundS k n = r at *
  have hn0 : ¬ (n : Int) = 0 := by omega
  have hlo : -(n : Int) ≤ m := by
    rcases Decidable.em (m < 0) with h | h
    · have := HR.out
      rw [if_pos h] at this
      omega
    · omega
  have hhi : m < (n : Int) := by
    rcases Decidable.em (m < 0) with h | h
    · omega
    · have := HR.out
      rw [if_neg h] at this
      omega
  have hw : IntKind.i64.wrap m = m := IntWalk.i64_in m ⟨by omega, by omega⟩
  by_cases hneg : m < 0
  · have hr : (r : Int) = m + n := by rw [HR.out, if_pos hneg]
    go_enter Tryz.func9, Tryz.ntmps9
    go_wp2
    go_ret
    exact ⟨by simp [hw, hm, hr], (by repeat (first | with_reducible exact Below.refl _ _ | with_reducible assumption | with_reducible refine al ?_ _ | with_reducible refine Below.drew ?_ | with_reducible refine Below.setCell ?_ (by first | (simp; done) | (simp; omega)) _ | with_reducible refine tr ?_ (by with_reducible assumption)))⟩
  · have hr : (r : Int) = m := by rw [HR.out, if_neg hneg]
    go_enter Tryz.func9, Tryz.ntmps9
    go_wp2
    go_ret
    exact ⟨by simp [hw, hm, hr], (by repeat (first | with_reducible exact Below.refl _ _ | with_reducible assumption | with_reducible refine al ?_ _ | with_reducible refine Below.drew ?_ | with_reducible refine Below.setCell ?_ (by first | (simp; done) | (simp; omega)) _ | with_reducible refine tr ?_ (by with_reducible assumption)))⟩
end Go.Proofs.YtmliljdbpkikpaaGreatDoor
