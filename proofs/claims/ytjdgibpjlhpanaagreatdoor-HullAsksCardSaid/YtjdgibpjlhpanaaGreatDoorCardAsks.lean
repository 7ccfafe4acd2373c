/-
  The statement HullAsks: for every input that can be read the law returns true, and its arguments read behind the call as they read before; errors.errorType is laid by the program's text (the card ties it).
-/
import Derived.Test.YtjdgibpjlhpanaaGreatDoorRefHu
import Derived.Test.YtjdgibpjlhpanaaGreatDoorRef6
import Derived.Test.YtjdgibpjlhpanaaGreatDoorOpenArg
import Derived.Test.YtjdgibpjlhpanaaGreatDoorLaid
import Derived.Test.YtjdgibpjlhpanaaGreatDoorCards
import Derived.Test.YtjdgibpjlhpanaaGreatDoorTie
import Derived.SevenTiedAt
set_option linter.unusedSimpArgs false
set_option linter.unusedVariables false
namespace Go.Proofs.YtjdgibpjlhpanaaGreatDoor
open Go.RowKit Pg
theorem ErrC.trA {w w' : World} {v : Value} {k : Nat} (h : ErrC w v k) (hb : Below w.heap.size w w') : ErrC w' v k := by
  rcases h with h | h | ⟨h0, g, s, id, e, hB⟩
  · exact .inl h
  · exact .inr (.inl h)
  · exact .inr (.inr ⟨h0, g, s, id, e, hB.tr hb⟩)
theorem ErrW.trA {w w' : World} {v : Value} {k : Nat} {s : ByteArray} {id : Int} (h : ErrW w v k s id) (hb : Below w.heap.size w w') : ErrW w' v k s id := by
  rcases h with h | ⟨h0, g, inner, e, hB, hi⟩
  · exact .inl h
  · exact .inr ⟨h0, g, inner, e, hB.tr hb, hi.trA hb⟩
theorem four_atA {w : World} {x y z u : Value} {t : TypeId} : ∀ (j : Nat) (v : Value), [x, y, z, u][j]? = some v → (w.alloc (.cells #[x, y, z, u] t)).drew.cell? ((⟨w.heap.size, 0, none⟩ : Addr).add j) = some v := by
  intro j v hj
  match j, hj with
  | 0, hj => simp at hj; subst hj; simp [Addr.add]
  | 1, hj => simp at hj; subst hj; simp [Addr.add]
  | 2, hj => simp at hj; subst hj; simp [Addr.add]
  | 3, hj => simp at hj; subst hj; simp [Addr.add]
theorem four_oneA {x y z u : Int} : ∀ v ∈ [Value.int .i64 x, .int .i64 y, .int .i64 z, .int .i64 u], v.oneCell' = true := by
  intro v hv
  simp only [List.mem_cons, List.not_mem_nil, or_false] at hv
  rcases hv with rfl | rfl | rfl | rfl <;> rfl
def resH (l : List Pt) : List Pt := if (hullCk l 1).1 = 0 then hullS l else []
theorem res_of {w w' : World} {base : Nat} {l : List Pt} {s : Value} (h1 : (hullCk l 1).1 ≠ 0 → s = .slice none 0 0) (h2 : (hullCk l 1).1 = 0 → w'.ownsRow base 26 2 s (hullS l).length (ptcells (hullS l))) :
    ∃ A c, s = .slice A (resH l).length c ∧ PtsAt w' w'.heap.size A (resH l).length (resH l) := by
  unfold resH
  by_cases h : (hullCk l 1).1 = 0
  · rw [if_pos h]
    have ho := h2 h
    obtain ⟨hl1, _, hok⟩ := hck_all h
    obtain ⟨g, c, rfl⟩ := own_pos2 ho (hull_pos (show 0 < l.length by omega) hok)
    exact ⟨_, c, rfl, own_pts ho⟩
  · rw [if_neg h]
    exact ⟨none, 0, h1 h, rfl, fun h => absurd h (by simp)⟩
theorem hck15 (l : List Pt) (k : Nat) : (hullCk l k).1 ≤ 15 := by
  unfold hullCk
  split
  · simp
  · split
    · simp
    · cases firstBad l <;> simp
theorem pst_eq {i j i' j' : Nat} {d d' : Fr} {p : PSt} (h : (⟨i, j, d⟩ : PSt) = p) (h' : (⟨i', j', d'⟩ : PSt) = p) : i = i' ∧ j = j' ∧ d = d' := by
  have e := h.trans h'.symm
  injection e with e1 e2 e3
  exact ⟨e1, e2, e3⟩
theorem best_eq {l : List Pt} {way : Int} {i j i' j' : Nat} {d d' : Fr} (h1 : (hullCk l 2).1 ≠ 0 → i = 0 ∧ j = 0 ∧ d = ⟨0, 0⟩) (h2 : (hullCk l 2).1 = 0 → (⟨i, j, d⟩ : PSt) = pairS l way)
    (k1 : (hullCk l 2).1 ≠ 0 → i' = 0 ∧ j' = 0 ∧ d' = ⟨0, 0⟩) (k2 : (hullCk l 2).1 = 0 → (⟨i', j', d'⟩ : PSt) = pairS l way) : i = i' ∧ j = j' ∧ d = d' := by
  by_cases h : (hullCk l 2).1 = 0
  · exact pst_eq (h2 h) (k2 h)
  · obtain ⟨rfl, rfl, rfl⟩ := h1 h
    obtain ⟨rfl, rfl, rfl⟩ := k1 h
    exact ⟨rfl, rfl, rfl⟩

set_option maxHeartbeats 4000000 in
set_option maxRecDepth 20000 in
theorem hullAsks_walk (B n c : Nat) (A : Option Addr) (l : List Pt) (w : World) (hl : PtsAt w B A n l) (hB : B ≤ w.heap.size) (hnc : n ≤ c) (hT : ErrT w) : Calls Tryz.prog 6 #[.slice A n c] w (Ret w (.bool true)) := by
  have HT := Lib.hid hT
  clear hT
  have HAW := Lib.hid (fun W (hW : Below w.heap.size w W) => awake21_true W (HT.out.tr hW))
  have HSM := Lib.hid (fun W => small_any A n c W)
  by_cases h100 : n ≤ 100
  case neg =>
    rw [decide_eq_false h100] at HSM
    clear hl
    go_enter Tryz.func6, Tryz.ntmps6
    go_wp2_with (first | (go_at_call 16; refine (HSM.out _).mono ?_; rintro e w1 ⟨rfl, hb1⟩; obtain ⟨hc1, hf1⟩ := bcell hb1; have hz1 := hb1.size; (try simp at hz1)) | (go_at_call 17; (with_reducible refine (HAW.out _ (by repeat (first | with_reducible exact Below.refl _ _ | with_reducible assumption | with_reducible refine al ?_ _ | with_reducible refine Below.drew ?_ | with_reducible refine Below.setCell ?_ (by first | (simp; done) | (simp; omega)) _ | with_reducible refine tr ?_ (by with_reducible assumption)))).mono ?_); rintro e w2 ⟨rfl, hb2⟩))
    go_ret
    exact ⟨rfl, (by repeat (first | with_reducible exact Below.refl _ _ | with_reducible assumption | with_reducible refine al ?_ _ | with_reducible refine Below.drew ?_ | with_reducible refine Below.setCell ?_ (by first | (simp; done) | (simp; omega)) _ | with_reducible refine tr ?_ (by with_reducible assumption)))⟩
  rw [decide_eq_true h100] at HSM
  have hln := hl.1
  have HL := Lib.hid hl
  have HH := Lib.hid (fun W (hW : Below w.heap.size w W) => hull_any B n c A l W (hl.tr hW hB) (Nat.le_trans hB hW.size) (by omega))
  have HR := Lib.hid (fun W (hW : Below w.heap.size w W) => rhull_any B n c A l W (hl.tr hW hB) (Nat.le_trans hB hW.size) (by omega))
  have HX := Lib.hid (fun W (hW : Below w.heap.size w W) => convex_any B n c A l W (hl.tr hW hB) (Nat.le_trans hB hW.size) (by omega))
  have HY := Lib.hid (fun W (hW : Below w.heap.size w W) => rconvex_any B n c A l W (hl.tr hW hB) (Nat.le_trans hB hW.size) (by omega))
  have HC := Lib.hid (fun W (hW : Below w.heap.size w W) => closest_any B n c A l W (hl.tr hW hB) (Nat.le_trans hB hW.size) (by omega))
  have HF := Lib.hid (fun W (hW : Below w.heap.size w W) => rfar_any B n c (-1) (.inr rfl) A l W (hl.tr hW hB) (Nat.le_trans hB hW.size) (by omega))
  have h15 := hck15 l 1
  have h25 := hck15 l 2
  have HRes := Lib.hid (fun w w' base s => res_of (w := w) (w' := w') (base := base) (l := l) (s := s))
  have HBest := Lib.hid (fun way i j i' j' d d' => best_eq (l := l) (way := way) (i := i) (j := j) (i' := i') (j' := j') (d := d) (d' := d'))
  obtain ⟨cv, hcv⟩ : ∃ x, convexS l = x := ⟨_, rfl⟩
  rw [hcv] at HX HY
  obtain ⟨R, hR⟩ : ∃ x, resH l = x := ⟨_, rfl⟩
  rw [hR] at HRes
  have hRn : R.length ≤ 1000000 := by
    rw [← hR]
    unfold resH
    split
    · rename_i h
      obtain ⟨hl1, hl2, hok⟩ := hck_all h
      have := hull_le (show 0 < l.length by omega) hok
      omega
    · simp
  have HW := Lib.hid (fun W (hW : Below w.heap.size w W) => widest_any B n c A l W (hl.tr hW hB) (Nat.le_trans hB hW.size) (by omega))
  have HF1 := Lib.hid (fun W (hW : Below w.heap.size w W) => rfar_any B n c 1 (.inl rfl) A l W (hl.tr hW hB) (Nat.le_trans hB hW.size) (by omega))
  have HB := Lib.hid (fun W (hW : Below w.heap.size w W) => hbox_any B n c A l W (hl.tr hW hB) (Nat.le_trans hB hW.size) (by omega))
  have HN1 := Lib.hid (fun h => (hck_all (l := l) (least := 1) h).1)
  have HU := Lib.hid (fun h => (hck_all (l := l) (least := 1) h).2.2)
  have HUb := Lib.hid (fun h => hbox_ok (l := l) h)
  obtain ⟨⟨f1, id1⟩, hk1⟩ : ∃ x, hullCk l 1 = x := ⟨_, rfl⟩
  obtain ⟨⟨f2, id2⟩, hk2⟩ : ∃ x, hullCk l 2 = x := ⟨_, rfl⟩
  simp only [hk1] at HH HR h15 HRes HB HU HUb HN1
  simp only [hk2] at HC HF HW HF1 h25 HBest
  clear hl hcv hR hk1 hk2
  go_enter Tryz.func6, Tryz.ntmps6
  go_wp2_with (first | (go_at_call 16; refine (HSM.out _).mono ?_; rintro e w1 ⟨rfl, hb1⟩; obtain ⟨hc1, hf1⟩ := bcell hb1; have hz1 := hb1.size; (try simp at hz1)) | (go_at_call 19; (with_reducible refine (HH.out _ (by repeat (first | with_reducible exact Below.refl _ _ | with_reducible assumption | with_reducible refine al ?_ _ | with_reducible refine Below.drew ?_ | with_reducible refine Below.setCell ?_ (by first | (simp; done) | (simp; omega)) _ | with_reducible refine tr ?_ (by with_reducible assumption)))).mono ?_); rintro e w5 ⟨s1, v1, rfl, hs1, hs2, hE5, hb5⟩; obtain ⟨A1, c1, rfl, P5⟩ := HRes.out w w5 _ s1 hs1 hs2; clear hs1 hs2; have hb05 : Below w.heap.size w w5 := (by repeat (first | with_reducible exact Below.refl _ _ | with_reducible assumption | with_reducible refine al ?_ _ | with_reducible refine Below.drew ?_ | with_reducible refine Below.setCell ?_ (by first | (simp; done) | (simp; omega)) _ | with_reducible refine tr ?_ (by with_reducible assumption)))) | (go_at_call 25; (with_reducible refine (HR.out _ hb05).mono ?_); rintro e w6 ⟨s2, rfl, hs1, hs2, hb6⟩; obtain ⟨A2, c2, rfl, P6⟩ := HRes.out w w6 _ s2 hs1 hs2; clear hs1 hs2; have hE6 := hE5.trA hb6; have hb06 : Below w.heap.size w w6 := hb05.trans (hb6.mono hb05.size); have HPt : Hid (Calls Tryz.prog 21 #[.slice A1 R.length c1, .slice A2 R.length c2] w6 (Ret w6 (.bool true))) := (by have h := rpoints_any w6.heap.size R.length c1 R.length c2 A1 A2 R R w6 ((P5.tr hb6 (Nat.le_refl _)).more hb6.size) P6 (Nat.le_refl _) hRn; rw [ptsEq_refl] at h; exact h)) | (go_at_call 21; (with_reducible refine HPt.out.mono ?_); rintro e w7 ⟨rfl, hb7⟩; have hE7 := hE6.trA hb7; have hb07 : Below w.heap.size w w7 := hb06.trans (hb7.mono hb06.size)) | (go_at_call 26; (with_reducible refine (isW_true _ _ hullW _ _ (HT.out.tr hb07) hE7 h15).mono ?_); rintro e w8 ⟨rfl, hb8⟩; have hb08 : Below w.heap.size w w8 := hb07.trans (hb8.mono hb07.size)) | (go_at_call 27; (with_reducible refine (HX.out _ hb08).mono ?_); rintro e w9 ⟨rfl, hb9⟩; have hb09 : Below w.heap.size w w9 := hb08.trans (hb9.mono hb08.size)) | (go_at_call 28; (with_reducible refine (HY.out _ hb09).mono ?_); rintro e w10 ⟨rfl, hb10⟩; have hb010 : Below w.heap.size w w10 := hb09.trans (hb10.mono hb09.size)))
  go_wp2_with (first | (go_at_call 23; (with_reducible refine (HC.out _ hb010).mono ?_); rintro e w11 ⟨i, j, d, v11, rfl, q1, q2, hE11, hb11⟩; obtain ⟨x, y, z, hd⟩ := fV_three d; simp only [hd]; have hb011 : Below w.heap.size w w11 := hb010.trans (hb11.mono hb010.size)) | (go_at_call 29; (with_reducible refine (HF.out _ (hb011.alloc hb011.size _)).mono ?_); rintro e w12 ⟨i', j', d', rfl, r1, r2, hb12⟩; obtain ⟨rfl, rfl, rfl⟩ := HBest.out (-1) i j i' j' d d' q1 q2 r1 r2; simp only [hd]; have hG12 : Blk w12 w11.heap.size 40 #[.int .u64 x, .int .u64 y, .int .u64 z] := (by repeat (first | with_reducible assumption | with_reducible exact Blk.new (by simp) rfl | with_reducible refine Blk.alloc ?_ _ | with_reducible refine Blk.drew ?_ | with_reducible refine Blk.far ?_ (by first | (simp; done) | (simp; omega)) _ | with_reducible refine Blk.tr ?_ (by with_reducible assumption))); have hE12 : ErrW w12 v11 f2 hullW id2 := hE11.trA (by repeat (first | with_reducible exact Below.refl _ _ | with_reducible assumption | with_reducible refine al ?_ _ | with_reducible refine Below.drew ?_ | with_reducible refine Below.setCell ?_ (by first | (simp; done) | (simp; omega)) _ | with_reducible refine tr ?_ (by with_reducible assumption))); have hz12 : w11.heap.size < w12.heap.size := hG12.lt; have hb012 : Below w.heap.size w w12 := (hb011.alloc hb011.size _).trans (hb12.mono (by have := hb011.size; simp; omega)); have c12 := hG12.cell; have f12 := hG12.frozen; have l12 := hG12.lt) | (go_at_call 26; go_must (refine (isW_true _ f2 hullW id2 _ (HT.out.tr (hb012.alloc hb012.size _)) (hE12.trA ((Below.refl _ _).alloc (Nat.le_refl _) _)) h25).mono ?_); rintro e w14 ⟨rfl, hb14⟩; have hb014 : Below w.heap.size w w14 := (hb012.alloc hb012.size _).trans (hb14.mono (by have := hb012.size; simp; omega)); have hE14 : ErrW w14 v11 f2 hullW id2 := (hE12.trA ((Below.refl _ _).alloc (Nat.le_refl _) _)).trA hb14; have hGA : Blk w14 w11.heap.size 40 #[.int .u64 x, .int .u64 y, .int .u64 z] := (hG12.alloc _).tr hb14; have hGB : Blk w14 w12.heap.size 40 #[.int .u64 x, .int .u64 y, .int .u64 z] := (Blk.new rfl rfl).tr hb14))
  have hz11 : w.heap.size ≤ w11.heap.size := hb011.size
  have hz12' : w.heap.size ≤ w12.heap.size := hb012.size
  obtain ⟨GA, eA⟩ : ∃ g, w11.heap.size = g := ⟨_, rfl⟩
  obtain ⟨GB, eB⟩ : ∃ g, w12.heap.size = g := ⟨_, rfl⟩
  rw [eA] at hGA hz11 hz12 ⊢
  rw [eB] at hGB hz12 hz12' ⊢
  have hne : GB ≠ GA := by omega
  have hne' : GA ≠ GB := by omega
  clear q1 q2 hE11 hb11 hE12 hb12 hE14 hb14 hG12 c12 f12 l12 hb012 hb011 hb010 hb09 hb08 hb07 hb06 hb05 hb10 hb9 hb8 hb7 hb6 hb5 hE5 hE6 hE7 HPt P5 P6 HRes r1 r2 HX HY HC HF HH HR HSM eA eB hb1 hc1 hf1 hz1
  go_wp2_with (first | (go_at_call 20; (with_reducible refine (HW.out _ hb014).mono ?_); rintro e w15 ⟨i2, j2, d2, v15, rfl, p1, p2, hE15, hb15⟩; obtain ⟨x2, y2, z2, hd2⟩ := fV_three d2; simp only [hd2]; have hA15 := hGA.tr hb15; have hB15 := hGB.tr hb15; have hb015 : Below w.heap.size w w15 := hb014.trans (hb15.mono hb014.size); have cA15 := hA15.cell; have fA15 := hA15.frozen; have lA15 := hA15.lt) | (go_at_call 29; (with_reducible refine (HF1.out _ (((hb015.setCell hz11 _).setCell hz11 _).setCell hz11 _)).mono ?_); rintro e w16 ⟨i3, j3, d3, rfl, r1, r2, hb16⟩; obtain ⟨rfl, rfl, rfl⟩ := HBest.out 1 i2 j2 i3 j3 d2 d3 p1 p2 r1 r2; simp only [hd2]; have hA16 : Blk w16 GA 40 #[.int .u64 x2, .int .u64 y2, .int .u64 z2] := (three_put hA15).tr hb16; have hB16 : Blk w16 GB 40 #[.int .u64 x, .int .u64 y, .int .u64 z] := (((hB15.far (p := ⟨GA, 0, none⟩) hne _).far (p := ⟨GA, 1, none⟩) hne _).far (p := ⟨GA, 2, none⟩) hne _).tr hb16; have hE16 : ErrW w16 v15 f2 hullW id2 := ErrW.trA (((hE15.farK hA15 (by decide) 0 _).farK (hA15.set_ 0 _) (by decide) 1 _).farK ((hA15.set_ 0 _).set_ 1 _) (by decide) 2 _) hb16; have hb016 : Below w.heap.size w w16 := (((hb015.setCell (p := ⟨GA, 0, none⟩) hz11 _).setCell (p := ⟨GA, 1, none⟩) hz11 _).setCell (p := ⟨GA, 2, none⟩) hz11 _).trans (hb16.mono (by have := hb015.size; simp [World.setCell]; omega)); have cB16 := hB16.cell; have fB16 := hB16.frozen; have lB16 := hB16.lt))
  refine PgG.keep_world (G := fun W => Calls Tryz.prog _ _ W _) (R := fun w17 => Blk w17 GA 40 #[.int .u64 x2, .int .u64 y2, .int .u64 z2] ∧ Blk w17 GB 40 #[.int .u64 x2, .int .u64 y2, .int .u64 z2] ∧ ErrW w17 v15 f2 hullW id2 ∧ Below w.heap.size w w17) ⟨((hA16.far (p := ⟨GB, 0, none⟩) hne' _).far (p := ⟨GB, 1, none⟩) hne' _).far (p := ⟨GB, 2, none⟩) hne' _, three_put hB16, ((hE16.farK hB16 (by decide) 0 _).farK (hB16.set_ 0 _) (by decide) 1 _).farK ((hB16.set_ 0 _).set_ 1 _) (by decide) 2 _, ((hb016.setCell (p := ⟨GB, 0, none⟩) hz12' _).setCell (p := ⟨GB, 1, none⟩) hz12' _).setCell (p := ⟨GB, 2, none⟩) hz12' _⟩ ?_
  rintro w17 ⟨hA17, hB17, hE17, hb017⟩
  clear hA16 hB16 hE16 hb016 cB16 fB16 lB16 hA15 hB15 hE15 hb015 cA15 fA15 lA15 hb15 hb16 hGA hGB hb014 HW HF1 HBest p1 p2 r1 r2
  have hBX := HB.out _ hb017
  have lA17 := hA17.lt
  have lB17 := hB17.lt
  by_cases hf : f1 = 0
  case neg =>
    simp only [if_neg hf, bzero] at hBX
    have HBX := Lib.hid hBX
    have hf' : ¬ (f1 : Int) = 0 := by omega
    clear hBX HB HU HUb
    go_wp2_with (go_at_call 30; (with_reducible refine HBX.out.mono ?_); rintro e w18 ⟨v18, rfl, hE18, hb18⟩; have hb018 : Below w.heap.size w w18 := hb017.trans (hb18.mono hb017.size); have hA18 := hA17.tr hb18; have hB18 := hB17.tr hb18; have hE17' := hE17.trA hb18; have cA := hA18.cell; have fA := hA18.frozen; have lA := hA18.lt; have cB := hB18.cell; have fB := hB18.frozen; have lB := hB18.lt)
    go_wp2_with (first | (go_at_call 26; (with_reducible refine (isW_true v15 f2 hullW id2 _ ?_ ?_ h25).mono ?_); (focus (exact HT.out.tr (by repeat (first | with_reducible exact Below.refl _ _ | with_reducible assumption | with_reducible refine al ?_ _ | with_reducible refine Below.drew ?_ | with_reducible refine Below.setCell ?_ (by first | (simp; done) | (simp; omega)) _ | with_reducible refine tr ?_ (by with_reducible assumption))))); (focus (exact hE17'.trA (by repeat (first | with_reducible exact Below.refl _ _ | with_reducible assumption | with_reducible refine al ?_ _ | with_reducible refine Below.drew ?_ | with_reducible refine Below.setCell ?_ (by first | (simp; done) | (simp; omega)) _ | with_reducible refine tr ?_ (by with_reducible assumption))))); rintro e w19 ⟨rfl, hb19⟩; have hX19 : Blk w19 w18.heap.size 28 #[.int .i64 0, .int .i64 0, .int .i64 0, .int .i64 0] := ((Blk.new rfl rfl).alloc _).tr hb19; have hY19 : Blk w19 (w18.heap.size + 1) 28 #[.int .i64 0, .int .i64 0, .int .i64 0, .int .i64 0] := (Blk.new (by simp) rfl).tr hb19; have hE19 : ErrW w19 v18 f1 hullW id1 := hE18.trA (by repeat (first | with_reducible exact Below.refl _ _ | with_reducible assumption | with_reducible refine al ?_ _ | with_reducible refine Below.drew ?_ | with_reducible refine Below.setCell ?_ (by first | (simp; done) | (simp; omega)) _ | with_reducible refine tr ?_ (by with_reducible assumption))); have hb019 : Below w.heap.size w w19 := (by repeat (first | with_reducible exact Below.refl _ _ | with_reducible assumption | with_reducible refine al ?_ _ | with_reducible refine Below.drew ?_ | with_reducible refine Below.setCell ?_ (by first | (simp; done) | (simp; omega)) _ | with_reducible refine tr ?_ (by with_reducible assumption))); have cX := hX19.cell; have fX := hX19.frozen; have lX := hX19.lt; have cY := hY19.cell; have fY := hY19.frozen; have lY := hY19.lt) | (go_at_call 26; (with_reducible refine (isW_true v18 f1 hullW id1 _ ?_ ?_ h15).mono ?_); (focus (exact HT.out.tr hb019)); (focus (exact hE19)); rintro e w20 ⟨rfl, hb20⟩; have hb020 : Below w.heap.size w w20 := hb019.trans (hb20.mono hb019.size)) | (go_at_call 17; (with_reducible refine (HAW.out _ hb020).mono ?_); rintro e w21 ⟨rfl, hb21⟩))
    go_ret
    exact ⟨rfl, hb020.trans (hb21.mono hb020.size)⟩
  simp only [if_pos hf] at hBX
  subst hf
  have HBX := Lib.hid hBX
  have hok := HU.out rfl
  have hub := HUb.out rfl
  obtain ⟨X, hX⟩ : ∃ x, hboxS l = x := ⟨_, rfl⟩
  rw [hX] at HBX hub
  have HUB := Lib.hid hub
  clear hBX HB HU HUb hub hX
  have hn1 : 0 < n := by
    rcases Nat.eq_zero_or_pos n with h | h
    · exact absurd (HN1.out rfl) (by omega)
    · exact h
  obtain ⟨b, off, rfl, hab, _, _⟩ := HL.out.at_ hn1
  obtain ⟨i0, hi, iz0, iz1, iz2⟩ := info_parts Tryz.infoBox
  obtain ⟨⟨xa, xb⟩, ⟨xc, xd⟩⟩ := X
  go_wp2_with (go_at_call 30; (with_reducible refine HBX.out.mono ?_); rintro e w18 ⟨v18, rfl, hE18, hb18⟩; have hb018 : Below w.heap.size w w18 := hb017.trans (hb18.mono hb017.size); have hA18 := hA17.tr hb18; have hB18 := hB17.tr hb18; have hE17' := hE17.trA hb18)
  refine PgG.keep_world (R := fun w19 => Blk w19 GA 40 #[.int .u64 x2, .int .u64 y2, .int .u64 z2] ∧ Blk w19 GB 40 #[.int .u64 x2, .int .u64 y2, .int .u64 z2] ∧ Blk w19 w18.heap.size 28 #[.int .i64 xa, .int .i64 xb, .int .i64 xc, .int .i64 xd] ∧ Blk w19 (w18.heap.size + 1) 28 #[.int .i64 0, .int .i64 0, .int .i64 0, .int .i64 0] ∧ ErrW w19 v15 f2 hullW id2 ∧ ErrW w19 v18 0 hullW id1 ∧ Below w.heap.size w w19) ⟨(hA18.alloc _).alloc _, (hB18.alloc _).alloc _, (Blk.new rfl rfl).alloc _, Blk.new (by simp) rfl, hE17'.trA (by repeat (first | with_reducible exact Below.refl _ _ | with_reducible assumption | with_reducible refine al ?_ _ | with_reducible refine Below.drew ?_ | with_reducible refine Below.setCell ?_ (by first | (simp; done) | (simp; omega)) _ | with_reducible refine tr ?_ (by with_reducible assumption))), hE18.trA (by repeat (first | with_reducible exact Below.refl _ _ | with_reducible assumption | with_reducible refine al ?_ _ | with_reducible refine Below.drew ?_ | with_reducible refine Below.setCell ?_ (by first | (simp; done) | (simp; omega)) _ | with_reducible refine tr ?_ (by with_reducible assumption))), (by repeat (first | with_reducible exact Below.refl _ _ | with_reducible assumption | with_reducible refine al ?_ _ | with_reducible refine Below.drew ?_ | with_reducible refine Below.setCell ?_ (by first | (simp; done) | (simp; omega)) _ | with_reducible refine tr ?_ (by with_reducible assumption)))⟩ ?_
  rintro w19 ⟨hA19, hB19, hX19, hY19, hE19, hE18', hb019⟩
  obtain ⟨GX, eX⟩ : ∃ g, w18.heap.size = g := ⟨_, rfl⟩
  rw [eX] at hX19 hY19 ⊢
  have hzX : w.heap.size ≤ GX := by rw [← eX]; exact hb018.size
  have gAX : GA < GX := by rw [← eX]; exact hA18.lt
  have gBX : GB < GX := by rw [← eX]; exact hB18.lt
  clear eX hA18 hB18 hE17' hE18 hb018 hb18 hA17 hB17 hE17 hb017 lA17 lB17 HBX
  obtain ⟨BB, eB⟩ : ∃ g, w19.heap.size = g := ⟨_, rfl⟩
  have lY19 := hY19.lt
  have lA19 := hA19.lt
  have lB19 := hB19.lt
  rw [eB] at lY19 lA19 lB19
  have hwB : w.heap.size ≤ BB := by omega
  have PL := HL.out.tr hb019 hB
  go_loopw [20, 21] (fun s vi wr => ∃ k : Nat, k ≤ n ∧ vi = .int .i64 k ∧ wr.ownsRow BB 28 4 s k (bcells ((l.take k).map pbox)) ∧ Below BB w19 wr) (fun _ vi _ => n - (intOf vi).toNat)
  case atStart => exact ⟨0, Nat.zero_le _, rfl, World.ownsRow_nil _ _ _ _, Below.refl _ _⟩
  case round =>
    obtain ⟨k, hk, rfl, hown, hb⟩ := hrel
    by_cases hlt : k < n
    · obtain ⟨c0, c1⟩ := pts_at (PL.below (hb.mono (show B ≤ BB by omega))) hlt
      have hbs := hb.size
      rw [eB] at hbs
      have hbB : b < BB := by omega
      have hbw : b < wr.heap.size := by omega
      have hk0 : (k : Int) < (n : Int) := by omega
      have hb5 : Below BB wr (wr.alloc (.cells #[.int .i64 (pt l k).x, .int .i64 (pt l k).y, .int .i64 (pt l k).x, .int .i64 (pt l k).y] 28)) := (Below.refl BB wr).alloc hbs _
      go_wp2_with fail
      refine wp_region_belowB (BB) [0, 1, 2, 3, 4, 5, 6, 7, 8, 9, 10, 11, 12] (by kernel_rfl) (by kernel_rfl) (fun _ _ d _ _ h => by cases d <;> exact h) ?_
      simp only [List.map_cons, List.map_nil, List.getD_cons_zero, List.getD_cons_succ, bare, gslot, List.getElem?_cons_zero, List.getElem?_cons_succ, Option.bind_some]
      repeat' ((try simp only [Act.put, List.setIfInBounds_toArray, List.set_cons_zero, List.set_cons_succ]); first | (refine lexL_quiet (v := ?_) wantB_none rfl ?_ ?_; rotate_left; focus (intro wq hq; obtain ⟨hcq, hfq⟩ := bcellB hq; go_simp; try with_reducible rfl)) | (refine lexL_loud wantB_none rfl (fun K hK => ?_); (refine wp_append_own _ _ _ 63 rfl BB 28 i0 (.agg #[.int .i64 0, .int .i64 0, .int .i64 0, .int .i64 0]) 4 32 Tryz.underlying63 hi iz0 iz1 iz2 rfl (by decide) _ _ _ rfl (owns_drew (hown.alloc _)) ⟨wr.heap.size, 0, none⟩ 1 1 [.int .i64 (pt l k).x, .int .i64 (pt l k).y, .int .i64 (pt l k).x, .int .i64 (pt l k).y] rfl rfl ?_ ?_ ?_ ?_ ?_ ?_); (focus (exact four_atA)); (focus (exact four_oneA)); (focus (unfold maxLen; omega)); (focus omega); (focus (simp; omega)); intro v' w2 hown' hgrow _; have hb4 : Below BB wr w2 := (Below.grown (w := (wr.alloc (.cells #[.int .i64 (pt l k).x, .int .i64 (pt l k).y, .int .i64 (pt l k).x, .int .i64 (pt l k).y] 28)).drew) (Below.drew ((Below.refl BB wr).alloc hbs _)) hgrow (by simp; omega) (fun j e => (hown.lt j e).1)); refine hK.out _ _ (by first | with_reducible exact swapB1 | with_reducible exact Below.drew swapB1 | exact (by repeat (first | with_reducible exact Below.refl _ _ | with_reducible assumption | with_reducible refine al ?_ _ | with_reducible refine Below.drew ?_ | with_reducible refine Below.setCell ?_ (by first | (simp; done) | (simp; omega)) _ | with_reducible refine tr ?_ (by with_reducible assumption)))) ?_; clear hK K) | (refine lexL_loud wantB_none rfl (fun K hK => ?_); go_simp; ((first | fail  | skip) <;> (refine hK.out _ _ (by first | with_reducible exact swapB1 | with_reducible exact Below.drew swapB1 | exact (by repeat (first | with_reducible exact Below.refl _ _ | with_reducible assumption | with_reducible refine al ?_ _ | with_reducible refine Below.drew ?_ | with_reducible refine Below.setCell ?_ (by first | (simp; done) | (simp; omega)) _ | with_reducible refine tr ?_ (by with_reducible assumption)))) ?_; clear hK K))) | (refine lexL_on ?_ ?_; focus (simp only [List.getElem?_toArray, List.getElem?_cons_succ, List.getElem?_cons_zero, Bool.not_true, Bool.not_false]; done)) | (refine lexL_off ?_ ?_ ?_; (focus (simp only [List.getElem?_toArray, List.getElem?_cons_succ, List.getElem?_cons_zero, Bool.not_true, Bool.not_false]; done)); (focus (exact (by first | with_reducible exact swapB1 | with_reducible exact Below.drew swapB1 | exact (by repeat (first | with_reducible exact Below.refl _ _ | with_reducible assumption | with_reducible refine al ?_ _ | with_reducible refine Below.drew ?_ | with_reducible refine Below.setCell ?_ (by first | (simp; done) | (simp; omega)) _ | with_reducible refine tr ?_ (by with_reducible assumption))))))) | (refine lexL_splitS (X := ?_) ?_ ?_ (fun hg => ?_) (fun hg => ?_); rotate_left; (focus (simp only [List.getElem?_toArray, List.getElem?_cons_succ, List.getElem?_cons_zero]; with_reducible rfl)); (focus (exact (by first | with_reducible exact swapB1 | with_reducible exact Below.drew swapB1 | exact (by repeat (first | with_reducible exact Below.refl _ _ | with_reducible assumption | with_reducible refine al ?_ _ | with_reducible refine Below.drew ?_ | with_reducible refine Below.setCell ?_ (by first | (simp; done) | (simp; omega)) _ | with_reducible refine tr ?_ (by with_reducible assumption)))))); all_goals (try simp only [Bool.not_true, Bool.not_false] at hg)))
      (all_goals try simp only [Act.put, List.setIfInBounds_toArray, List.set_cons_zero, List.set_cons_succ]); all_goals (refine lexL_nil ?_)
      have hown2 : w2.ownsRow BB 28 4 v' (k + 1) (bcells ((l.take (k + 1)).map pbox)) := by
        have : bcells ((l.take (k + 1)).map pbox) = bcells ((l.take k).map pbox) ++ [.int .i64 (pt l k).x, .int .i64 (pt l k).y, .int .i64 (pt l k).x, .int .i64 (pt l k).y] := by
          rw [takeS (by omega)]
          simp only [List.map_append, List.map_cons, List.map_nil, bcells_snoc]
          rfl
        rw [this]
        exact hown'
      have hb2 : Below BB w19 w2 := hb.trans hb4
      clear hown' hgrow hown c0 c1
      go_wp2
      go_roundw
      case rel => exact ⟨k + 1, by omega, by go_num, hown2, hb2⟩
      case measure => simp [intOf]; omega
    · obtain rfl : n = k := by omega
      clear hlt
      obtain ⟨A2', c2', rfl, hbx⟩ := bxs_of_own (l := (l.take n).map pbox) hown (by simp [hln])
      rw [List.take_of_length_le (by omega)] at hbx
      have HUn : Hid (Calls Tryz.prog 31 #[.slice A2' n c2'] wr (Ret wr (.tuple #[bxV xa xb xc xd, .int .i64 0]))) := by
        have := runion_any wr.heap.size n c2' A2' (l.map pbox) wr hbx (Nat.le_refl _) (by omega)
        rw [HUB.out] at this
        exact this
      have hb0' : Below w.heap.size w wr := hb019.trans (hb.mono hwB)
      have hEr : ErrW wr v15 f2 hullW id2 := hE19.trA (by have := hb; rw [← eB] at this; exact this)
      have hE8 : ErrW wr v18 0 hullW id1 := hE18'.trA (by have := hb; rw [← eB] at this; exact this)
      have hA := hA19.below hb lA19
      have hBr := hB19.below hb lB19
      have hXw := hX19.below hb (by omega)
      have hYw := hY19.below hb lY19
      clear hE19 hE18' hA19 hB19 hX19 hY19 hown hb PL
      go_wp2_with (go_at_call 31; (with_reducible refine HUn.out.mono ?_); rintro e w22 ⟨rfl, hb22⟩; have hY22 := hYw.tr hb22; have cY22 := hY22.cell; have fY22 := hY22.frozen; have lY22 := hY22.lt; have hb022 : Below w.heap.size w w22 := hb0'.trans (hb22.mono hb0'.size); have hA22 := hA.tr hb22; have hB22 := hBr.tr hb22; have hX22 := hXw.tr hb22; have hE22 := hEr.trA hb22; have hE822 := hE8.trA hb22; have cA22 := hA22.cell; have lA22 := hA22.lt; have cB22 := hB22.cell; have lB22 := hB22.lt; have nAY : GA ≠ GX + 1 := (by omega); have nBY : GB ≠ GX + 1 := (by omega))
      have HIs0 : Hid (∀ W, ErrT W → ErrW W v18 0 hullW id1 → Calls Tryz.prog 26 #[v18, .int .i64 0, .string hullW, .int .i64 id1] W (Ret W (.bool true))) := fun W h1 h2 => isW_true v18 0 hullW id1 W h1 h2 (Nat.zero_le _)
      have nX : GX ≠ GX + 1 := by omega
      go_wp2_with (first | (go_at_call 26; (with_reducible refine (HIs0.out _ ?_ ?_).mono ?_); (focus (exact HT.out.tr hb023)); (focus (exact hE23)); rintro e w24 ⟨rfl, hb24⟩; have hb024 : Below w.heap.size w w24 := hb023.trans (hb24.mono hb023.size)) | (go_at_call 26; (with_reducible refine (isW_true v15 f2 hullW id2 _ ?_ ?_ h25).mono ?_); (focus (exact HT.out.tr (by repeat (first | with_reducible exact Below.refl _ _ | with_reducible assumption | with_reducible refine al ?_ _ | with_reducible refine Below.drew ?_ | with_reducible refine Below.setCell ?_ (by first | (simp; done) | (simp; omega)) _ | with_reducible refine tr ?_ (by with_reducible assumption))))); (focus (exact (((hE22.farK hY22 (by decide) 0 _).farK (hY22.set_ 0 _) (by decide) 1 _).farK ((hY22.set_ 0 _).set_ 1 _) (by decide) 2 _).farK (((hY22.set_ 0 _).set_ 1 _).set_ 2 _) (by decide) 3 _)); rintro e w23 ⟨rfl, hb23⟩; have hX23 : Blk w23 GX 28 #[.int .i64 xa, .int .i64 xb, .int .i64 xc, .int .i64 xd] := ((((hX22.far (p := ⟨GX + 1, 0, none⟩) nX _).far (p := ⟨GX + 1, 1, none⟩) nX _).far (p := ⟨GX + 1, 2, none⟩) nX _).far (p := ⟨GX + 1, 3, none⟩) nX _).tr hb23; have hY23 : Blk w23 (GX + 1) 28 #[.int .i64 xa, .int .i64 xb, .int .i64 xc, .int .i64 xd] := (box_putK hY22).tr hb23; have hE23 : ErrW w23 v18 0 hullW id1 := ErrW.trA ((((hE822.farK hY22 (by decide) 0 _).farK (hY22.set_ 0 _) (by decide) 1 _).farK ((hY22.set_ 0 _).set_ 1 _) (by decide) 2 _).farK (((hY22.set_ 0 _).set_ 1 _).set_ 2 _) (by decide) 3 _) hb23; have hb023 : Below w.heap.size w w23 := (by repeat (first | with_reducible exact Below.refl _ _ | with_reducible assumption | with_reducible refine al ?_ _ | with_reducible refine Below.drew ?_ | with_reducible refine Below.setCell ?_ (by first | (simp; done) | (simp; omega)) _ | with_reducible refine tr ?_ (by with_reducible assumption))); have cX := hX23.cell; have lX := hX23.lt; have cY := hY23.cell; have lY := hY23.lt) | (go_at_call 17; (with_reducible refine (HAW.out _ hb024).mono ?_); rintro e w25 ⟨rfl, hb25⟩))
      go_ret
      exact ⟨rfl, hb024.trans (hb25.mono hb024.size)⟩
end Go.Proofs.YtjdgibpjlhpanaaGreatDoor
set_option linter.unusedSimpArgs false
set_option linter.unusedVariables false
namespace Go.Proofs.YtjdgibpjlhpanaaGreatDoor
open Go.RowKit Go.ChangeShapes Go.WideShapes Go.Deep Pg
section
variable {H : Type} {enc : TypeId × Value → H} {W : World} {base : Nat} {spare : Nat → Bool} {held : Bool} {v : Value} {d : DataW H} {p : List MemPlace} {r : Reach} {b0 : Nat}
set_option maxRecDepth 100000 in
theorem open_ptsVc (hv : Value.okWide Tryz.prog W r b0 22 v) (h : DataW.Trod enc Tryz.prog W base spare held 22 v d p) :
    ∃ (A : Option Addr) (n c : Nat) (l : List Pt), v = .slice A n c ∧ PtsAt W W.heap.size A n l ∧ n ≤ c := by
  obtain ⟨fuel, hf⟩ := h
  obtain ⟨A, n, c, l, e, hp⟩ := open_pts hf
  obtain ⟨a', n', c', rfl⟩ := okWide_slice Tryz.underlying22 hv
  refine ⟨A, n, c, l, by simp [Value.cells] at e; rw [e.1, e.2.1, e.2.2], hp, ?_⟩
  rcases open_slice Tryz.underlying22 hf with ⟨h0, _⟩ | ⟨a, n2, c2, m, k, D, Pl, h0, _, hnc, _⟩
  · rw [e] at h0
    injection h0 with h0
    injection h0 with _ h1 h2
    omega
  · rw [e] at h0
    injection h0 with h0
    injection h0 with _ h1 h2
    omega
end
end Go.Proofs.YtjdgibpjlhpanaaGreatDoor
set_option linter.unusedSimpArgs false
set_option linter.unusedVariables false
namespace Go.Proofs.YtjdgibpjlhpanaaGreatDoor
open Go.ChangeShapes Go.WideShapes Go.RowKit Pg

set_option maxRecDepth 100000 in
theorem hullAsks_contract (H : Type) (enc : TypeId × Value → H) (W : World) (args : Array Value) (ds gs : List (DataW H)) (before : List MemPlace)
    (hval : ∀ (j : Nat) t v, Tryz.f6.params[j]? = some t → args[j]? = some v → ∃ base, Value.okWide Tryz.prog W .any base t v)
    (hW : DataW.Whole enc Tryz.prog Tryz.f6.params.toList Rows.hullAsksSpec.vars false W args.toList ds gs before) (hL : laidMetH Tryz.prog Rows.hullAsksRow.laid W) :
    Calls Tryz.prog 6 args W fun e W' => ∃ v, e = .returned v ∧ Rows.hullAsksSpec.post enc Tryz.prog Tryz.f6 false true false false W args v W' := by
  have hW' := hW
  obtain ⟨p, q, hA0, hV, rfl, hfz, hnd⟩ := hW
  have hA : DataW.TrodAll enc Tryz.prog W 0 (fun _ => true) true Tryz.f6.params.toList args.toList ds p := hA0
  have hV : DataW.TrodVars enc Tryz.prog W (fun _ => true) [] gs q := hV
  obtain ⟨rfl, rfl⟩ := trodVars_none hV
  rw [Tryz.params6] at hA hval
  obtain ⟨v0, vs0, d0, ds0, p0, q0, hargs0, rfl, rfl, h0, r0⟩ := trodAll_cons hA
  obtain ⟨rfl, rfl, rfl⟩ := trodAll_nil r0
  obtain ⟨args⟩ := args
  simp only at hargs0
  subst hargs0
  obtain ⟨b0, hv0⟩ := hval 0 _ v0 rfl rfl
  obtain ⟨A0, n0, c0, l0, rfl, hl0, hc0⟩ := open_ptsVc hv0 h0
  have hT := errT_of_laid hL
  refine (hullAsks_walk W.heap.size n0 c0 A0 l0 W hl0 (Nat.le_refl _) hc0 hT).mono fun e W' ⟨he, hb⟩ => ?_
  subst he
  exact ⟨_, rfl, law_post laidOutK (by kernel_rfl) (by kernel_rfl) Tryz.underlying4 rfl (by rfl) hW' hb⟩

set_option maxRecDepth 100000 in
theorem hullAsks_lifted (os : Os) (started : os.Started) (H : Type) (enc : TypeId × Value → H) :
    ReturnsInHanded {} Tryz.checked os 6 .any (fun w args => (Rows.hullAsksSpec.pre enc Tryz.prog Tryz.f6 [] false w args ∧ laidMetH Tryz.prog Rows.hullAsksRow.laid w) ∧ sizedMet enc Tryz.prog Tryz.f6 (OpenSpec.ofChange Rows.hullAsksSpec) false w args)
      (Rows.hullAsksSpec.post enc Tryz.prog Tryz.f6 false true false false) := by
  refine returnsInHanded_of_change_and (C := Tryz.checked) (X := fun w _ => laidMetH Tryz.prog Rows.hullAsksRow.laid w) (fun _ _ _ hh h => h.of_heap hh) ownK started (by kernel_rfl) Tryz.func6
    (ChangeSpec.witness_at (enc := enc) (C := Tryz.checked) (os := os) (X := fun w _ => laidMetH Tryz.prog Rows.hullAsksRow.laid w) false (laidWorld os) #[.slice none 0 0] 8 rfl (by kernel_rfl) (by kernel_rfl) (by kernel_rfl) (by kernel_rfl) (by kernel_rfl) (laidWorld_met os _)) ?_
  intro W base args ds gs before hval hW _ _ hL _
  exact hullAsks_contract H enc W args ds gs before (fun j t v h1 h2 => ⟨_, hval j t v h1 h2⟩) hW hL

theorem hullAsks_said : Rows.HullAsksSaid :=
  OpenClaim.holds_of_wide 6 Tryz.f6 rfl rfl rfl rfl rfl rfl rfl ⟨rfl, rfl, rfl, rfl, rfl⟩ rfl rfl rfl rfl rfl (by kernel_rfl) Tryz.func6 (by kernel_rfl)
    (of_decide_eq_true (by kernel_rfl)) (by unfold Func.isWrapper; rw [if_neg (of_decide_eq_false (by kernel_rfl))]; exact ⟨rfl, rfl⟩)
    (fun os started H enc _ => hullAsks_lifted os started H enc)

theorem hullAsks_plain (f : FuncId) (fn : Func) (hf : Tryz.pinned.checked.prog.funcNamed "pergola/pergolalaw21.HullAsks" = some f) (hfn : Tryz.pinned.checked.prog.funcs[f]? = some fn) :
    true = Tryz.pinned.checked.prog.looks [] ∧ ∀ (j : Nat) t, fn.params[j]? = some t → Tryz.pinned.checked.prog.wantsStandIn t = false := by
  obtain rfl : f = 6 := Option.some.inj ((show Tryz.prog.funcNamed "pergola/pergolalaw21.HullAsks" = some 6 by kernel_rfl).symm.trans hf) |>.symm
  obtain rfl : fn = Tryz.f6 := (Option.some.inj (Tryz.func6.symm.trans hfn)).symm
  refine ⟨by kernel_rfl, fun j t ht => ?_⟩
  rw [Tryz.params6] at ht
  have hm := Array.mem_of_getElem? ht
  simp at hm
  subst hm
  exact (show Tryz.prog.wantsStandIn 22 = false by kernel_rfl)

/-- THE CARD -/
theorem hullAsks_card : Rows.HullAsksCardSaid :=
  Claim7.holds_tied_plain_at .later [] _ _ _ _ hullAsks_said (fun _ h => by cases h) (by kernel_rfl) (fun _ h => by cases h) hullAsks_row_tie rfl ⟨rfl, rfl⟩ (by kernel_rfl) rfl hullAsks_plain (by kernel_rfl)
#print axioms hullAsks_card
end Go.Proofs.YtjdgibpjlhpanaaGreatDoor
