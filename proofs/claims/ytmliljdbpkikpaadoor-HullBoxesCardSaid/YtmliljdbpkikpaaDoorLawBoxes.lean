/-
  The walk of the statement HullBoxes.
-/
import Derived.Test.YtmliljdbpkikpaaDoorHulH
import Derived.Test.YtmliljdbpkikpaaDoorPlainBoxes
import Derived.Test.YtmliljdbpkikpaaDoorAppP
import Derived.Test.YtmliljdbpkikpaaDoorRef6
set_option linter.unusedSimpArgs false
set_option linter.unusedVariables false
namespace Go.Proofs.YtmliljdbpkikpaaDoor
open Go.RowKit Pg
def inB (H : List Pt) (p : Pt) (k : Nat) : Bool := decide (2 < H.length) && (List.range k).all fun i => decide (0 ≤ orient (pt H i) (pt H ((i + 1) % H.length)) p)
theorem inB_succ (H : List Pt) (p : Pt) (k : Nat) : inB H p (k + 1) = (inB H p k && decide (0 ≤ orient (pt H k) (pt H ((k + 1) % H.length)) p)) := by
  unfold inB
  rw [List.range_succ, List.all_append, Bool.and_assoc]
  simp
theorem inB_all {H : List Pt} {p : Pt} (h : inB H p H.length = true) : 3 ≤ H.length ∧ ∀ i, i < H.length → 0 ≤ orient (pt H i) (pt H ((i + 1) % H.length)) p := by
  unfold inB at h
  simp only [Bool.and_eq_true, decide_eq_true_eq, List.all_eq_true] at h
  exact ⟨h.1, fun i hi => h.2 i (List.mem_range.2 hi)⟩
theorem inB_big {H : List Pt} {p : Pt} {k : Nat} (h : inB H p k = true) : 3 ≤ H.length := by
  unfold inB at h
  simp only [Bool.and_eq_true, decide_eq_true_eq] at h
  exact h.1

theorem pts_atB {w : World} {B n b off m : Nat} {l : List Pt} (hl : PtsAt w B (some ⟨b, off, none⟩) n l) (hm : m < n) :
    w.cell? ⟨b, off + m * 2, none⟩ = some (.int .i64 (pt l m).x) ∧ w.cell? ⟨b, off + m * 2 + 1, none⟩ = some (.int .i64 (pt l m).y) := by
  obtain ⟨b', o', e, _, c0, c1⟩ := hl.at_ hm
  injection e with e
  injection e with e1 e2
  subst e1 e2
  exact ⟨c0, c1⟩
theorem diff4 {a b c d e f g h : Int} (hne : (⟨⟨a, b⟩, ⟨c, d⟩⟩ : Bx) ≠ ⟨⟨e, f⟩, ⟨g, h⟩⟩) : a ≠ e ∨ (a = e ∧ b ≠ f) ∨ (a = e ∧ b = f ∧ c ≠ g) ∨ (a = e ∧ b = f ∧ c = g ∧ d ≠ h) := by
  by_cases h1 : a = e
  · by_cases h2 : b = f
    · by_cases h3 : c = g
      · by_cases h4 : d = h
        · subst h1 h2 h3 h4; exact absurd rfl hne
        · exact .inr (.inr (.inr ⟨h1, h2, h3, h4⟩))
      · exact .inr (.inr (.inl ⟨h1, h2, h3⟩))
    · exact .inr (.inl ⟨h1, h2⟩)
  · exact .inl h1
theorem same4 {a b c d e f g h : Int} (heq : (⟨⟨a, b⟩, ⟨c, d⟩⟩ : Bx) = ⟨⟨e, f⟩, ⟨g, h⟩⟩) : a = e ∧ b = f ∧ c = g ∧ d = h := by
  injection heq with h1 h2
  injection h1 with h1 h3
  injection h2 with h2 h4
  exact ⟨h1, h3, h2, h4⟩

set_option maxHeartbeats 4000000 in
set_option maxRecDepth 20000 in
theorem hullBoxes_walk (B n c : Nat) (p : Pt) (A : Option Addr) (l : List Pt) (w : World) (hl : PtsAt w B A n l) (hB : B ≤ w.heap.size) (hnc : n ≤ c) (hT : ErrT w) : Calls Tryd.prog 3 #[.slice A n c, ptV p.x p.y] w (Ret w (.bool true)) := by
  have HT := Lib.hid hT
  clear hT
  have HAW := Lib.hid (fun W (hW : Below w.heap.size w W) => awake21_true W (HT.out.tr hW))
  have HSM := Lib.hid (fun W => small_any A n c W)
  have HPo := Lib.hid (fun W => rpoint_any p.x p.y W)
  by_cases h100 : n ≤ 100
  case neg =>
    rw [decide_eq_false h100] at HSM
    clear hl
    go_enter Tryd.func3, Tryd.ntmps3
    go_wp2_with (first | (go_at_call 4; refine (HSM.out _).mono ?_; rintro e w1 ⟨rfl, hb1⟩; obtain ⟨hc1, hf1⟩ := bcell hb1; have hz1 := hb1.size; (try simp at hz1)) | (go_at_call 6; (with_reducible refine (HAW.out _ (by repeat (first | with_reducible exact Below.refl _ _ | with_reducible assumption | with_reducible refine al ?_ _ | with_reducible refine Below.drew ?_ | with_reducible refine Below.setCell ?_ (by first | (simp; done) | (simp; omega)) _ | with_reducible refine tr ?_ (by with_reducible assumption)))).mono ?_); rintro e w2 ⟨rfl, hb2⟩))
    go_ret
    exact ⟨rfl, (by repeat (first | with_reducible exact Below.refl _ _ | with_reducible assumption | with_reducible refine al ?_ _ | with_reducible refine Below.drew ?_ | with_reducible refine Below.setCell ?_ (by first | (simp; done) | (simp; omega)) _ | with_reducible refine tr ?_ (by with_reducible assumption)))⟩
  rw [decide_eq_true h100] at HSM
  by_cases h0 : n = 0
  · have h0' : ((n : Int) == 0) = true := by subst h0; rfl
    clear hl h0
    go_enter Tryd.func3, Tryd.ntmps3
    go_wp2_with (first | (go_at_call 4; refine (HSM.out _).mono ?_; rintro e w1 ⟨rfl, hb1⟩; obtain ⟨hc1, hf1⟩ := bcell hb1; have hz1 := hb1.size; (try simp at hz1)) | (go_at_call 6; (with_reducible refine (HAW.out _ (by repeat (first | with_reducible exact Below.refl _ _ | with_reducible assumption | with_reducible refine al ?_ _ | with_reducible refine Below.drew ?_ | with_reducible refine Below.setCell ?_ (by first | (simp; done) | (simp; omega)) _ | with_reducible refine tr ?_ (by with_reducible assumption)))).mono ?_); rintro e w2 ⟨rfl, hb2⟩))
    go_ret
    exact ⟨rfl, (by repeat (first | with_reducible exact Below.refl _ _ | with_reducible assumption | with_reducible refine al ?_ _ | with_reducible refine Below.drew ?_ | with_reducible refine Below.setCell ?_ (by first | (simp; done) | (simp; omega)) _ | with_reducible refine tr ?_ (by with_reducible assumption)))⟩
  have h0' : ((n : Int) == 0) = false := by rw [beq_eq_false_iff_ne]; omega
  cases hp : okPt p with
  | false =>
    rw [show okPt ⟨p.x, p.y⟩ = false from hp] at HPo
    clear hl h0
    go_enter Tryd.func3, Tryd.ntmps3
    go_wp2_with (first | (go_at_call 4; refine (HSM.out _).mono ?_; rintro e w1 ⟨rfl, hb1⟩; obtain ⟨hc1, hf1⟩ := bcell hb1; have hz1 := hb1.size; (try simp at hz1)) | (go_at_call 5; (with_reducible refine (HPo.out _).mono ?_); rintro e w3 ⟨rfl, hb3⟩) | (go_at_call 6; (with_reducible refine (HAW.out _ (by repeat (first | with_reducible exact Below.refl _ _ | with_reducible assumption | with_reducible refine al ?_ _ | with_reducible refine Below.drew ?_ | with_reducible refine Below.setCell ?_ (by first | (simp; done) | (simp; omega)) _ | with_reducible refine tr ?_ (by with_reducible assumption)))).mono ?_); rintro e w2 ⟨rfl, hb2⟩))
    go_ret
    exact ⟨rfl, (by repeat (first | with_reducible exact Below.refl _ _ | with_reducible assumption | with_reducible refine al ?_ _ | with_reducible refine Below.drew ?_ | with_reducible refine Below.setCell ?_ (by first | (simp; done) | (simp; omega)) _ | with_reducible refine tr ?_ (by with_reducible assumption)))⟩
  | true =>
  rw [show okPt ⟨p.x, p.y⟩ = true from hp] at HPo
  have hn1 : 0 < n := by omega
  clear h0
  obtain ⟨b, off, rfl, hab, _, _⟩ := hl.at_ hn1
  have hln := hl.1
  have HL := Lib.hid hl
  clear hl
  have HH1 := Lib.hid (fun W (hW : Below w.heap.size w W) => hull_any B n c (some ⟨b, off, none⟩) l W (HL.out.tr hW hB) (Nat.le_trans hB hW.size) (by omega))
  by_cases hck : (hullCk l 1).1 = 0
  case neg =>
    go_enter Tryd.func3, Tryd.ntmps3
    go_wp2_with (first | (go_at_call 4; refine (HSM.out _).mono ?_; rintro e w1 ⟨rfl, hb1⟩; obtain ⟨hc1, hf1⟩ := bcell hb1; have hz1 := hb1.size; (try simp at hz1)) | (go_at_call 5; (with_reducible refine (HPo.out _).mono ?_); rintro e w3 ⟨rfl, hb3⟩) | (go_at_call 7; (with_reducible refine (HH1.out _ (by repeat (first | with_reducible exact Below.refl _ _ | with_reducible assumption | with_reducible refine al ?_ _ | with_reducible refine Below.drew ?_ | with_reducible refine Below.setCell ?_ (by first | (simp; done) | (simp; omega)) _ | with_reducible refine tr ?_ (by with_reducible assumption)))).mono ?_); rintro e w5 ⟨s1, v1, rfl, _, _, hE1, hb5⟩; obtain ⟨t1, u1, rfl⟩ := errW_some hE1 hck) | (go_at_call 6; (with_reducible refine (HAW.out _ (by repeat (first | with_reducible exact Below.refl _ _ | with_reducible assumption | with_reducible refine al ?_ _ | with_reducible refine Below.drew ?_ | with_reducible refine Below.setCell ?_ (by first | (simp; done) | (simp; omega)) _ | with_reducible refine tr ?_ (by with_reducible assumption)))).mono ?_); rintro e w2 ⟨rfl, hb2⟩))
    go_ret
    exact ⟨rfl, (by repeat (first | with_reducible exact Below.refl _ _ | with_reducible assumption | with_reducible refine al ?_ _ | with_reducible refine Below.drew ?_ | with_reducible refine Below.setCell ?_ (by first | (simp; done) | (simp; omega)) _ | with_reducible refine tr ?_ (by with_reducible assumption)))⟩
  obtain ⟨_, _, hok⟩ := hck_all hck
  have hl0 : 0 < l.length := by omega
  have hHp := hull_pos hl0 hok
  have hHle := hull_le hl0 hok
  have hbh := box_hull hl0 hok
  have hckH := box_hck hl0 hok (by omega)
  have hok2 := more_ok hok hp
  have hml : (l ++ [p]).length = n + 1 := by simp [hln]
  have hckm : (hullCk (l ++ [p]) 1).1 = 0 := by rw [hck_good (by omega) (by omega) hok2]
  have hmp := hull_pos (l := l ++ [p]) (by omega) hok2
  have hmle := hull_le (l := l ++ [p]) (by omega) hok2
  have HOUT := Lib.hid (fun h => box_out (p := p) hl0 hok hp h)
  have HIN := Lib.hid (fun h => box_in (p := p) hl0 hok hp h)
  have HMORE := Lib.hid (fun h => hull_more (p := p) hl0 hok hp (inB_all h).1 (inB_all h).2)
  have HHok := Lib.hid (fun q hq => hok q ((hullS_is (by intro e; rw [e] at hl0; simp at hl0) hok).sub q hq))
  obtain ⟨H, hH⟩ : ∃ H, hullS l = H := ⟨_, rfl⟩
  obtain ⟨m, hm⟩ : ∃ m, l ++ [p] = m := ⟨_, rfl⟩
  rw [hm] at hml hckm hmp hmle HOUT HIN HMORE
  obtain ⟨K', hK'⟩ : ∃ H, hullS m = H := ⟨_, rfl⟩
  rw [hK'] at hmp hmle HOUT HMORE
  rw [hH] at hHp hHle hbh hckH HOUT HMORE HHok
  have HX1 := Lib.hid (fun W (hW : Below w.heap.size w W) => hbox_any B n c (some ⟨b, off, none⟩) l W (HL.out.tr hW hB) (Nat.le_trans hB hW.size) (by omega))
  simp only [if_pos hck] at HX1
  obtain ⟨bx, hbx⟩ : ∃ x, hboxS l = x := ⟨_, rfl⟩
  obtain ⟨dx, hdx⟩ : ∃ x, hboxS m = x := ⟨_, rfl⟩
  rw [hbx] at HX1 hbh HOUT HIN
  rw [hdx] at HOUT HIN
  obtain ⟨⟨bax, bay⟩, ⟨bzx, bzy⟩⟩ := bx
  obtain ⟨⟨dax, day⟩, ⟨dzx, dzy⟩⟩ := dx
  obtain ⟨px, py⟩ := p
  simp only at HX1 HPo
  obtain ⟨na, hna⟩ : ∃ m, H.length = m := ⟨_, rfl⟩
  have HX2 : Hid (∀ (g c0 : Nat) (W W' : World), PtsAt W W.heap.size (some ⟨g, 0, none⟩) na H → Below W.heap.size W W' →
      Calls Tryd.prog 8 #[.slice (some ⟨g, 0, none⟩) na c0] W' fun e w' => e = .returned (.tuple #[bxV bax bay bzx bzy, .nilIface]) ∧ Below W'.heap.size W' w') := fun g c0 W W' hP hW => by
    refine (hbox_any W.heap.size na c0 (some ⟨g, 0, none⟩) H W' (hP.tr hW (Nat.le_refl _)) hW.size (by omega)).mono ?_
    rintro e w' ⟨v, rfl, hE, hb⟩
    rw [hckH] at hE
    obtain rfl := errW_zero hE
    simp only [if_pos hckH, hbh]
    first | exact ⟨rfl, hb⟩ | exact ⟨trivial, hb⟩
  have HM1 : Hid (∀ (B0 g c0 : Nat) (W : World), W.ownsRow B0 24 2 (.slice (some ⟨g, 0, none⟩) (n + 1) c0) (n + 1) (ptcells m) →
      Calls Tryd.prog 7 #[.slice (some ⟨g, 0, none⟩) (n + 1) c0] W fun e w' => ∃ g2 c2, e = .returned (.tuple #[.slice (some ⟨g2, 0, none⟩) K'.length c2, .nilIface]) ∧ PtsAt w' w'.heap.size (some ⟨g2, 0, none⟩) K'.length K' ∧ Below W.heap.size W w') := fun B0 g c0 W hO => by
    refine (hull_any W.heap.size (n + 1) c0 (some ⟨g, 0, none⟩) m W (own_pts hO) (Nat.le_refl _) (by omega)).mono ?_
    rintro e w' ⟨s2, v2, rfl, _, hs2, hE, hb⟩
    rw [hckm] at hE
    obtain rfl := errW_zero hE
    have hs2' := hs2 hckm
    rw [hK'] at hs2'
    obtain ⟨g2, c2, rfl⟩ := own_pos2 hs2' hmp
    exact ⟨g2, c2, rfl, own_pts hs2', hb⟩
  have HM2 : Hid (∀ (B0 g c0 : Nat) (W W' : World), W.ownsRow B0 24 2 (.slice (some ⟨g, 0, none⟩) (n + 1) c0) (n + 1) (ptcells m) → Below W.heap.size W W' →
      Calls Tryd.prog 8 #[.slice (some ⟨g, 0, none⟩) (n + 1) c0] W' fun e w' => e = .returned (.tuple #[bxV dax day dzx dzy, .nilIface]) ∧ Below W'.heap.size W' w') := fun B0 g c0 W W' hO hW => by
    refine (hbox_any W.heap.size (n + 1) c0 (some ⟨g, 0, none⟩) m W' ((own_pts hO).tr hW (Nat.le_refl _)) hW.size (by omega)).mono ?_
    rintro e w' ⟨v, rfl, hE, hb⟩
    rw [hckm] at hE
    obtain rfl := errW_zero hE
    simp only [if_pos hckm, hdx]
    first | exact ⟨rfl, hb⟩ | exact ⟨trivial, hb⟩
  have HBH := Lib.hid (fun W => rboxHas_any bax bay bzx bzy px py W)
  obtain ⟨hs, hhs⟩ : ∃ s, bhas ⟨⟨bax, bay⟩, ⟨bzx, bzy⟩⟩ ⟨px, py⟩ = s := ⟨_, rfl⟩
  rw [hhs] at HBH HOUT HIN
  clear hckm hmp hdx hbx hbh hckH hok2 hhs
  go_enter Tryd.func3, Tryd.ntmps3
  go_wp2_with (first | (go_at_call 4; refine (HSM.out _).mono ?_; rintro e w1 ⟨rfl, hb1⟩; obtain ⟨hc1, hf1⟩ := bcell hb1; have hz1 := hb1.size; (try simp at hz1)) | (go_at_call 5; (with_reducible refine (HPo.out _).mono ?_); rintro e w3 ⟨rfl, hb3⟩) | (go_at_call 7; (with_reducible refine (HH1.out _ (by repeat (first | with_reducible exact Below.refl _ _ | with_reducible assumption | with_reducible refine al ?_ _ | with_reducible refine Below.drew ?_ | with_reducible refine Below.setCell ?_ (by first | (simp; done) | (simp; omega)) _ | with_reducible refine tr ?_ (by with_reducible assumption)))).mono ?_); rintro e w5 ⟨s1, v1, rfl, _, hs1, hE1, hb5⟩; rw [hck] at hE1; obtain rfl := errW_zero hE1; have hs1' := hs1 hck; rw [hH] at hs1'; clear hs1 hE1 HH1; obtain ⟨g1, c1, rfl⟩ := own_pos2 hs1' hHp; have P1 := own_pts hs1'; have hb05 : Below w.heap.size w w5 := (by repeat (first | with_reducible exact Below.refl _ _ | with_reducible assumption | with_reducible refine al ?_ _ | with_reducible refine Below.drew ?_ | with_reducible refine Below.setCell ?_ (by first | (simp; done) | (simp; omega)) _ | with_reducible refine tr ?_ (by with_reducible assumption))); clear hs1'; simp only [hna] at P1 hHp hHle ⊢) | (go_at_call 8; (with_reducible refine (HX1.out _ (by repeat (first | with_reducible exact Below.refl _ _ | with_reducible assumption | with_reducible refine al ?_ _ | with_reducible refine Below.drew ?_ | with_reducible refine Below.setCell ?_ (by first | (simp; done) | (simp; omega)) _ | with_reducible refine tr ?_ (by with_reducible assumption)))).mono ?_); rintro e w6 ⟨v6, rfl, hE6, hb6⟩; rw [hck] at hE6; obtain rfl := errW_zero hE6; clear hE6 HX1; have hb56 : Below w5.heap.size w5 w6 := (by repeat (first | with_reducible exact Below.refl _ _ | with_reducible assumption | with_reducible refine al ?_ _ | with_reducible refine Below.drew ?_ | with_reducible refine Below.setCell ?_ (by first | (simp; done) | (simp; omega)) _ | with_reducible refine tr ?_ (by with_reducible assumption)))) | (go_at_call 8; (with_reducible refine (HX2.out _ _ _ _ P1 (by repeat (first | with_reducible exact Below.refl _ _ | with_reducible assumption | with_reducible refine al ?_ _ | with_reducible refine Below.drew ?_ | with_reducible refine Below.setCell ?_ (by first | (simp; done) | (simp; omega)) _ | with_reducible refine tr ?_ (by with_reducible assumption)))).mono ?_); rintro e w7 ⟨rfl, hb7⟩))
  clear hb05
  refine keep_world (R := fun w12 => Blk w12 w.heap.size 24 #[.int .i64 px, .int .i64 py] ∧ Blk w12 w6.heap.size 33 #[.int .i64 bax, .int .i64 bay, .int .i64 bzx, .int .i64 bzy] ∧ Blk w12 w7.heap.size 33 #[.int .i64 bax, .int .i64 bay, .int .i64 bzx, .int .i64 bzy] ∧ PtsAt w12 w5.heap.size (some ⟨g1, 0, none⟩) na H ∧ Below w5.heap.size w5 w12 ∧ Below w.heap.size w w12) ⟨(by repeat (first | with_reducible assumption | with_reducible exact Blk.new (by simp) rfl | with_reducible refine Blk.alloc ?_ _ | with_reducible refine Blk.drew ?_ | with_reducible refine Blk.far ?_ (by first | (simp; done) | (simp; omega)) _ | with_reducible refine Blk.tr ?_ (by with_reducible assumption))), (by repeat (first | with_reducible assumption | with_reducible exact Blk.new (by simp) rfl | with_reducible refine Blk.alloc ?_ _ | with_reducible refine Blk.drew ?_ | with_reducible refine Blk.far ?_ (by first | (simp; done) | (simp; omega)) _ | with_reducible refine Blk.tr ?_ (by with_reducible assumption))), (by repeat (first | with_reducible assumption | with_reducible exact Blk.new (by simp) rfl | with_reducible refine Blk.alloc ?_ _ | with_reducible refine Blk.drew ?_ | with_reducible refine Blk.far ?_ (by first | (simp; done) | (simp; omega)) _ | with_reducible refine Blk.tr ?_ (by with_reducible assumption))), P1.tr (by clear hb56; exact (by repeat (first | with_reducible exact Below.refl _ _ | with_reducible assumption | with_reducible refine al ?_ _ | with_reducible refine Below.drew ?_ | with_reducible refine Below.setCell ?_ (by first | (simp; done) | (simp; omega)) _ | with_reducible refine tr ?_ (by with_reducible assumption)))) (Nat.le_refl _), (by repeat (first | with_reducible exact Below.refl _ _ | with_reducible assumption | with_reducible refine al ?_ _ | with_reducible refine Below.drew ?_ | with_reducible refine Below.setCell ?_ (by first | (simp; done) | (simp; omega)) _ | with_reducible refine tr ?_ (by with_reducible assumption))), (by repeat (first | with_reducible exact Below.refl _ _ | with_reducible assumption | with_reducible refine al ?_ _ | with_reducible refine Below.drew ?_ | with_reducible refine Below.setCell ?_ (by first | (simp; done) | (simp; omega)) _ | with_reducible refine tr ?_ (by with_reducible assumption)))⟩ ?_
  obtain ⟨G6, e6⟩ : ∃ G, w6.heap.size = G := ⟨_, rfl⟩
  obtain ⟨G7, e7⟩ : ∃ G, w7.heap.size = G := ⟨_, rfl⟩
  simp only [e6, e7]
  rintro w12 ⟨hP, hB6, hB7, P12, hb512, hb12⟩
  have hz12 := hb512.size
  have P13 : PtsAt w12 w12.heap.size (some ⟨g1, 0, none⟩) na H := pts_up P12 (fun _ _ => rfl) hz12
  have HL12 : PtsAt w12 w12.heap.size (some ⟨b, off, none⟩) n l := pts_up (HL.out.tr hb12 hB) (fun _ _ => rfl) (Nat.le_trans hB hb12.size)
  clear e6 e7 P12 hb512 P1 hz12
  have cP := hP.cell
  have lP := hP.lt
  have hbw : b < w12.heap.size := by have := hb12.size; omega
  have hX := Lib.hid (And.intro hB6 (And.intro hB7 P13))
  clear hB6 hB7 P13
  refine wp_region_treeR (.one 1 (.one 3 (.two 0 4 (.two 2 4 (.one 4 (.one 5 (.one 6 .done))) (.one 2 (.one 5 (.one 6 .done)))) (.one 0 (.one 2 (.one 5 (.one 6 .done))))))) (fun a8 a9 w9 => ∃ (s0 s2 s4 : Value) (g c0 : Nat), a9 = puts a8 [(50, s0), (51, .slice (some ⟨b, off, none⟩) n c), (52, s2), (53, .agg #[.int .i64 px, .int .i64 py]), (54, s4), (55, .slice (some ⟨g, 0, none⟩) (n + 1) c0), (11, .slice (some ⟨g, 0, none⟩) (n + 1) c0)] ∧ w9.ownsRow w12.heap.size 24 2 (.slice (some ⟨g, 0, none⟩) (n + 1) c0) (n + 1) (ptcells m) ∧ Below w12.heap.size w12 w9) (by kernel_rfl) (by kernel_rfl) (fun _ _ d _ _ h => by cases d <;> exact h) ?_ ?_
  · intro LL hLL QQ hQQ
    have oo0 := treeAt hLL 0 (by kernel_rfl)
    have oo1 := treeAt hLL 1 (by kernel_rfl)
    have oo2 := treeAt hLL 2 (by kernel_rfl)
    have oo3 := treeAt hLL 3 (by kernel_rfl)
    have oo4 := treeAt hLL 4 (by kernel_rfl)
    have oo5 := treeAt hLL 5 (by kernel_rfl)
    have oo6 := treeAt hLL 6 (by kernel_rfl)
    simp only [List.getD_cons_zero, List.getD_cons_succ, bare] at oo0 oo1 oo2 oo3 oo4 oo5 oo6
    clear hLL
    repeat' ((try simp only [Act.put, List.setIfInBounds_toArray, List.set_cons_zero, List.set_cons_succ]); first | (refine tree_three ?_ ?_ ?_) | (refine tree_two ?_ ?_) | (refine tree_quiet (v := ?_) (by assumption) rfl ?_ ?_; rotate_left; focus (intro wq hq; obtain ⟨hcq, hfq⟩ := bcell hq; go_simp; try with_reducible rfl)) | (refine tree_one ?_) | (refine tree_loud (by assumption) rfl (fun K hK => ?_); (refine app_lit _ _ w12.heap.size _ b off n c l rfl rfl (by repeat (first | with_reducible assumption | with_reducible exact Blk.new (by simp) rfl | with_reducible refine Blk.alloc ?_ _ | with_reducible refine Blk.drew ?_ | with_reducible refine Blk.far ?_ (by first | (simp; done) | (simp; omega)) _ | with_reducible refine KeepT.blk (by with_reducible assumption) (by decide) ?_ | with_reducible refine Blk.grown ?_ (by with_reducible assumption) (by first | (simp; done) | (simp; omega)) | with_reducible refine Blk.tr ?_ (by with_reducible assumption))) ?_ rfl (HL12.below (by repeat (first | with_reducible exact Below.refl _ _ | with_reducible assumption | with_reducible refine al ?_ _ | with_reducible refine Below.drew ?_ | with_reducible refine Below.setCell ?_ (by first | (simp; done) | (simp; omega)) _ | with_reducible refine tr ?_ (by with_reducible assumption)))) (by omega) (by omega) ?_; (focus (first | (simp; done) | (simp; omega) | omega)); intro v3 w3 hown3 hgr3 hkt3 hbx3; have hb3 : Below w12.heap.size w12 w3 := Below.trans (by repeat (first | with_reducible exact Below.refl _ _ | with_reducible assumption | with_reducible refine al ?_ _ | with_reducible refine Below.drew ?_ | with_reducible refine Below.setCell ?_ (by first | (simp; done) | (simp; omega)) _ | with_reducible refine tr ?_ (by with_reducible assumption))) hbx3; have hz3 := hb3.size); refine hK.out _ _ (by repeat (first | with_reducible exact Below.refl _ _ | with_reducible assumption | with_reducible refine al ?_ _ | with_reducible refine Below.drew ?_ | with_reducible refine Below.setCell ?_ (by first | (simp; done) | (simp; omega)) _ | with_reducible refine tr ?_ (by with_reducible assumption))) ?_; clear hK K) | (refine tree_loud (by assumption) rfl (fun K hK => ?_); (refine app_xy _ _ w12.heap.size _ n l v3 px py rfl rfl (by repeat (first | with_reducible assumption | with_reducible refine World.ownsRow.alloc ?_ _ | with_reducible refine owns_drew ?_)) rfl (by repeat (first | with_reducible assumption | with_reducible exact Blk.new (by simp) rfl | with_reducible refine Blk.alloc ?_ _ | with_reducible refine Blk.drew ?_ | with_reducible refine Blk.far ?_ (by first | (simp; done) | (simp; omega)) _ | with_reducible refine KeepT.blk (by with_reducible assumption) (by decide) ?_ | with_reducible refine Blk.grown ?_ (by with_reducible assumption) (by first | (simp; done) | (simp; omega)) | with_reducible refine Blk.tr ?_ (by with_reducible assumption))) ?_ (by omega) ?_; (focus (first | (simp; done) | (simp; omega) | omega)); intro v8 w8 hown8 hkt8 hbx8; rw [hm] at hown8; obtain ⟨g8, c8, rfl⟩ := own_pos2 hown8 (by omega); have hb8 : Below w12.heap.size w12 w8 := Below.trans (by repeat (first | with_reducible exact Below.refl _ _ | with_reducible assumption | with_reducible refine al ?_ _ | with_reducible refine Below.drew ?_ | with_reducible refine Below.setCell ?_ (by first | (simp; done) | (simp; omega)) _ | with_reducible refine tr ?_ (by with_reducible assumption))) hbx8; have hz8 := hb8.size); refine hK.out _ _ (by repeat (first | with_reducible exact Below.refl _ _ | with_reducible assumption | with_reducible refine al ?_ _ | with_reducible refine Below.drew ?_ | with_reducible refine Below.setCell ?_ (by first | (simp; done) | (simp; omega)) _ | with_reducible refine tr ?_ (by with_reducible assumption))) ?_; clear hK K) | (refine tree_loud (by assumption) rfl (fun K hK => ?_); go_simp; ((first | fail  | skip) <;> (refine hK.out _ _ (by repeat (first | with_reducible exact Below.refl _ _ | with_reducible assumption | with_reducible refine al ?_ _ | with_reducible refine Below.drew ?_ | with_reducible refine Below.setCell ?_ (by first | (simp; done) | (simp; omega)) _ | with_reducible refine tr ?_ (by with_reducible assumption))) ?_; clear hK K))))
    all_goals (refine tree_done hQQ ?_)
    all_goals (refine ⟨?_, ?_, ?_, ?_, ?_, ?_, ?_, ?_⟩; rotate_left 5; (focus (simp only [puts, List.foldl_cons, List.foldl_nil, Act.put, List.setIfInBounds_toArray, List.set_cons_zero, List.set_cons_succ]; rfl)); (focus exact (by repeat (first | with_reducible assumption | with_reducible refine World.ownsRow.alloc ?_ _ | with_reducible refine owns_drew ?_))); (focus exact (by repeat (first | with_reducible exact Below.refl _ _ | with_reducible assumption | with_reducible refine al ?_ _ | with_reducible refine Below.drew ?_ | with_reducible refine Below.setCell ?_ (by first | (simp; done) | (simp; omega)) _ | with_reducible refine tr ?_ (by with_reducible assumption)))))
  rintro a' w13 ⟨s0, s2, s4, g, c0, rfl, hown, hb13⟩
  simp only [puts, List.foldl_cons, List.foldl_nil, Act.put, List.setIfInBounds_toArray, List.set_cons_zero, List.set_cons_succ]
  obtain ⟨hB6, hB7, P13⟩ := hX.out
  have hP3 := hP.tr hb13
  have hB63 := hB6.tr hb13
  have hB73 := hB7.tr hb13
  have P14 := P13.tr hb13 (Nat.le_refl _)
  have hbb : Below w.heap.size w w13 := hb12.trans (hb13.mono hb12.size)
  have hz13 := hb13.size
  have P15 : PtsAt w13 w13.heap.size (some ⟨g1, 0, none⟩) na H := pts_up P14 (fun _ _ => rfl) hz13
  have hOWN := Lib.hid hown
  have hP15 := Lib.hid P15
  have cP3 := hP3.cell
  have lP3 := hP3.lt
  have c63 := hB63.cell
  have l63 := hB63.lt
  have c73 := hB73.cell
  have l73 := hB73.lt
  clear hP hB6 hB7 P13 P14 P15 hb13 hb12 hX cP lP hown HL12 hbw hb56 hb6 hb7 hb5 hb3 hb1 HX2 HSM HPo
  go_wp2_with (first | (go_at_call 7; (with_reducible refine (HM1.out _ _ _ _ hOWN.out).mono ?_); rintro e w14 ⟨g2, c2', rfl, P2, hb14⟩; obtain ⟨hc14, hf14⟩ := bcell hb14; have hz14 := hb14.size; have HPts := Lib.hid (fun W (hW : Below w14.heap.size w14 W) => rpoints_any w14.heap.size K'.length c2' na c1 (some ⟨g2, 0, none⟩) (some ⟨g1, 0, none⟩) K' H W (P2.tr hW (Nat.le_refl _)) ((hP15.out.tr hb14 (Nat.le_refl _)).tr hW hz14 |> fun h => pts_up h (fun _ _ => rfl) hz14) hW.size (by omega)); clear P2; have hy14 : w.heap.size < w14.heap.size := (by omega); have hy146 : G6 < w14.heap.size := (by omega); have hy147 : G7 < w14.heap.size := (by omega)) | (go_at_call 8; (with_reducible refine (HM2.out _ _ _ _ _ hOWN.out (by repeat (first | with_reducible exact Below.refl _ _ | with_reducible assumption | with_reducible refine al ?_ _ | with_reducible refine Below.drew ?_ | with_reducible refine Below.setCell ?_ (by first | (simp; done) | (simp; omega)) _ | with_reducible refine tr ?_ (by with_reducible assumption)))).mono ?_); rintro e w15 ⟨rfl, hb15⟩; obtain ⟨hc15, hf15⟩ := bcell hb15; have hz15 := hb15.size; (try simp at hz15); have hy15 : w.heap.size < w15.heap.size := (by omega); have hy156 : G6 < w15.heap.size := (by omega); have hy157 : G7 < w15.heap.size := (by omega)))
  have hb015 : Below w.heap.size w w15 := (by repeat (first | with_reducible exact Below.refl _ _ | with_reducible assumption | with_reducible refine al ?_ _ | with_reducible refine Below.drew ?_ | with_reducible refine Below.setCell ?_ (by first | (simp; done) | (simp; omega)) _ | with_reducible refine tr ?_ (by with_reducible assumption)))
  cases hs
  case false =>
    obtain ⟨hne, hke⟩ := HOUT.out rfl
    have hpe := ptsEq_ne hke
    rw [hpe] at HPts
    clear hpe hke HOUT HIN HMORE
    rcases diff4 hne with h | ⟨rfl, h⟩ | ⟨rfl, rfl, h⟩ | ⟨rfl, rfl, rfl, h⟩
    · have hq1 : (dax == bax) = false := by rw [beq_eq_false_iff_ne]; exact h
      have hq2 : ¬ dax = bax := h
      go_wp2_with (first | (go_at_call 9; (with_reducible refine (HBH.out _).mono ?_); rintro e w16 ⟨rfl, hb16⟩; obtain ⟨hc16, hf16⟩ := bcell hb16; have hz16 := hb16.size; (try simp at hz16); have hy16 : w.heap.size < w16.heap.size := (by omega); have hy166 : G6 < w16.heap.size := (by omega); have hy169 : w15.heap.size < w16.heap.size := (by omega)) | (go_at_call 10; (with_reducible refine (HPts.out _ (by repeat (first | with_reducible exact Below.refl _ _ | with_reducible assumption | with_reducible refine al ?_ _ | with_reducible refine Below.drew ?_ | with_reducible refine Below.setCell ?_ (by first | (simp; done) | (simp; omega)) _ | with_reducible refine tr ?_ (by with_reducible assumption)))).mono ?_); rintro e w17 ⟨rfl, hb17⟩; obtain ⟨hc17, hf17⟩ := bcell hb17; have hz17 := hb17.size; (try simp at hz17)) | (go_at_call 6; (with_reducible refine (HAW.out _ (by repeat (first | with_reducible exact Below.refl _ _ | with_reducible assumption | with_reducible refine al ?_ _ | with_reducible refine Below.drew ?_ | with_reducible refine Below.setCell ?_ (by first | (simp; done) | (simp; omega)) _ | with_reducible refine tr ?_ (by with_reducible assumption)))).mono ?_); rintro e w20 ⟨rfl, hb20⟩))
      go_ret
      exact ⟨rfl, (by repeat (first | with_reducible exact Below.refl _ _ | with_reducible assumption | with_reducible refine al ?_ _ | with_reducible refine Below.drew ?_ | with_reducible refine Below.setCell ?_ (by first | (simp; done) | (simp; omega)) _ | with_reducible refine tr ?_ (by with_reducible assumption)))⟩
    · have hq1 : (day == bay) = false := by rw [beq_eq_false_iff_ne]; exact h
      have hq2 : ¬ day = bay := h
      go_wp2_with (first | (go_at_call 9; (with_reducible refine (HBH.out _).mono ?_); rintro e w16 ⟨rfl, hb16⟩; obtain ⟨hc16, hf16⟩ := bcell hb16; have hz16 := hb16.size; (try simp at hz16); have hy16 : w.heap.size < w16.heap.size := (by omega); have hy166 : G6 < w16.heap.size := (by omega); have hy169 : w15.heap.size < w16.heap.size := (by omega)) | (go_at_call 10; (with_reducible refine (HPts.out _ (by repeat (first | with_reducible exact Below.refl _ _ | with_reducible assumption | with_reducible refine al ?_ _ | with_reducible refine Below.drew ?_ | with_reducible refine Below.setCell ?_ (by first | (simp; done) | (simp; omega)) _ | with_reducible refine tr ?_ (by with_reducible assumption)))).mono ?_); rintro e w17 ⟨rfl, hb17⟩; obtain ⟨hc17, hf17⟩ := bcell hb17; have hz17 := hb17.size; (try simp at hz17)) | (go_at_call 6; (with_reducible refine (HAW.out _ (by repeat (first | with_reducible exact Below.refl _ _ | with_reducible assumption | with_reducible refine al ?_ _ | with_reducible refine Below.drew ?_ | with_reducible refine Below.setCell ?_ (by first | (simp; done) | (simp; omega)) _ | with_reducible refine tr ?_ (by with_reducible assumption)))).mono ?_); rintro e w20 ⟨rfl, hb20⟩))
      go_ret
      exact ⟨rfl, (by repeat (first | with_reducible exact Below.refl _ _ | with_reducible assumption | with_reducible refine al ?_ _ | with_reducible refine Below.drew ?_ | with_reducible refine Below.setCell ?_ (by first | (simp; done) | (simp; omega)) _ | with_reducible refine tr ?_ (by with_reducible assumption)))⟩
    · have hq1 : (dzx == bzx) = false := by rw [beq_eq_false_iff_ne]; exact h
      have hq2 : ¬ dzx = bzx := h
      go_wp2_with (first | (go_at_call 9; (with_reducible refine (HBH.out _).mono ?_); rintro e w16 ⟨rfl, hb16⟩; obtain ⟨hc16, hf16⟩ := bcell hb16; have hz16 := hb16.size; (try simp at hz16); have hy16 : w.heap.size < w16.heap.size := (by omega); have hy166 : G6 < w16.heap.size := (by omega); have hy169 : w15.heap.size < w16.heap.size := (by omega)) | (go_at_call 10; (with_reducible refine (HPts.out _ (by repeat (first | with_reducible exact Below.refl _ _ | with_reducible assumption | with_reducible refine al ?_ _ | with_reducible refine Below.drew ?_ | with_reducible refine Below.setCell ?_ (by first | (simp; done) | (simp; omega)) _ | with_reducible refine tr ?_ (by with_reducible assumption)))).mono ?_); rintro e w17 ⟨rfl, hb17⟩; obtain ⟨hc17, hf17⟩ := bcell hb17; have hz17 := hb17.size; (try simp at hz17)) | (go_at_call 6; (with_reducible refine (HAW.out _ (by repeat (first | with_reducible exact Below.refl _ _ | with_reducible assumption | with_reducible refine al ?_ _ | with_reducible refine Below.drew ?_ | with_reducible refine Below.setCell ?_ (by first | (simp; done) | (simp; omega)) _ | with_reducible refine tr ?_ (by with_reducible assumption)))).mono ?_); rintro e w20 ⟨rfl, hb20⟩))
      go_ret
      exact ⟨rfl, (by repeat (first | with_reducible exact Below.refl _ _ | with_reducible assumption | with_reducible refine al ?_ _ | with_reducible refine Below.drew ?_ | with_reducible refine Below.setCell ?_ (by first | (simp; done) | (simp; omega)) _ | with_reducible refine tr ?_ (by with_reducible assumption)))⟩
    · have hq1 : (dzy == bzy) = false := by rw [beq_eq_false_iff_ne]; exact h
      have hq2 : ¬ dzy = bzy := h
      go_wp2_with (first | (go_at_call 9; (with_reducible refine (HBH.out _).mono ?_); rintro e w16 ⟨rfl, hb16⟩; obtain ⟨hc16, hf16⟩ := bcell hb16; have hz16 := hb16.size; (try simp at hz16); have hy16 : w.heap.size < w16.heap.size := (by omega); have hy166 : G6 < w16.heap.size := (by omega); have hy169 : w15.heap.size < w16.heap.size := (by omega)) | (go_at_call 10; (with_reducible refine (HPts.out _ (by repeat (first | with_reducible exact Below.refl _ _ | with_reducible assumption | with_reducible refine al ?_ _ | with_reducible refine Below.drew ?_ | with_reducible refine Below.setCell ?_ (by first | (simp; done) | (simp; omega)) _ | with_reducible refine tr ?_ (by with_reducible assumption)))).mono ?_); rintro e w17 ⟨rfl, hb17⟩; obtain ⟨hc17, hf17⟩ := bcell hb17; have hz17 := hb17.size; (try simp at hz17)) | (go_at_call 6; (with_reducible refine (HAW.out _ (by repeat (first | with_reducible exact Below.refl _ _ | with_reducible assumption | with_reducible refine al ?_ _ | with_reducible refine Below.drew ?_ | with_reducible refine Below.setCell ?_ (by first | (simp; done) | (simp; omega)) _ | with_reducible refine tr ?_ (by with_reducible assumption)))).mono ?_); rintro e w20 ⟨rfl, hb20⟩))
      go_ret
      exact ⟨rfl, (by repeat (first | with_reducible exact Below.refl _ _ | with_reducible assumption | with_reducible refine al ?_ _ | with_reducible refine Below.drew ?_ | with_reducible refine Below.setCell ?_ (by first | (simp; done) | (simp; omega)) _ | with_reducible refine tr ?_ (by with_reducible assumption)))⟩
  case true =>
    obtain ⟨rfl, rfl, rfl, rfl⟩ := same4 (HIN.out rfl)
    clear HOUT HIN
    go_wp2_with (first | (go_at_call 9; (with_reducible refine (HBH.out _).mono ?_); rintro e w16 ⟨rfl, hb16⟩; obtain ⟨hc16, hf16⟩ := bcell hb16; have hz16 := hb16.size; (try simp at hz16); have hy16 : w.heap.size < w16.heap.size := (by omega); have hy166 : G6 < w16.heap.size := (by omega); have hy169 : w15.heap.size < w16.heap.size := (by omega)) | (go_at_call 10; (with_reducible refine (HPts.out _ (by repeat (first | with_reducible exact Below.refl _ _ | with_reducible assumption | with_reducible refine al ?_ _ | with_reducible refine Below.drew ?_ | with_reducible refine Below.setCell ?_ (by first | (simp; done) | (simp; omega)) _ | with_reducible refine tr ?_ (by with_reducible assumption)))).mono ?_); rintro e w17 ⟨rfl, hb17⟩; obtain ⟨hc17, hf17⟩ := bcell hb17; have hz17 := hb17.size; (try simp at hz17)) | (go_at_call 6; (with_reducible refine (HAW.out _ (by repeat (first | with_reducible exact Below.refl _ _ | with_reducible assumption | with_reducible refine al ?_ _ | with_reducible refine Below.drew ?_ | with_reducible refine Below.setCell ?_ (by first | (simp; done) | (simp; omega)) _ | with_reducible refine tr ?_ (by with_reducible assumption)))).mono ?_); rintro e w20 ⟨rfl, hb20⟩))
    refine keep_world (R := fun w18 => Blk w18 w.heap.size 24 #[.int .i64 px, .int .i64 py] ∧ Blk w18 G6 33 #[.int .i64 dax, .int .i64 day, .int .i64 dzx, .int .i64 dzy] ∧ Blk w18 w15.heap.size 33 #[.int .i64 dax, .int .i64 day, .int .i64 dzx, .int .i64 dzy] ∧ Below w14.heap.size w14 w18 ∧ Below w.heap.size w w18) ⟨by clear hbb hb015; exact (by repeat (first | with_reducible assumption | with_reducible exact Blk.new (by simp) rfl | with_reducible refine Blk.alloc ?_ _ | with_reducible refine Blk.drew ?_ | with_reducible refine Blk.far ?_ (by first | (simp; done) | (simp; omega)) _ | with_reducible refine Blk.tr ?_ (by with_reducible assumption))), by clear hbb hb015; exact (by repeat (first | with_reducible assumption | with_reducible exact Blk.new (by simp) rfl | with_reducible refine Blk.alloc ?_ _ | with_reducible refine Blk.drew ?_ | with_reducible refine Blk.far ?_ (by first | (simp; done) | (simp; omega)) _ | with_reducible refine Blk.tr ?_ (by with_reducible assumption))), by clear hbb hb015; exact (by repeat (first | with_reducible assumption | with_reducible exact Blk.new (by simp) rfl | with_reducible refine Blk.alloc ?_ _ | with_reducible refine Blk.drew ?_ | with_reducible refine Blk.far ?_ (by first | (simp; done) | (simp; omega)) _ | with_reducible refine Blk.tr ?_ (by with_reducible assumption))), by clear hbb hb015; exact (by repeat (first | with_reducible exact Below.refl _ _ | with_reducible assumption | with_reducible refine al ?_ _ | with_reducible refine Below.drew ?_ | with_reducible refine Below.setCell ?_ (by first | (simp; done) | (simp; omega)) _ | with_reducible refine tr ?_ (by with_reducible assumption))), (by repeat (first | with_reducible exact Below.refl _ _ | with_reducible assumption | with_reducible refine al ?_ _ | with_reducible refine Below.drew ?_ | with_reducible refine Below.setCell ?_ (by first | (simp; done) | (simp; omega)) _ | with_reducible refine tr ?_ (by with_reducible assumption)))⟩ ?_
    obtain ⟨G15, e15⟩ : ∃ G, w15.heap.size = G := ⟨_, rfl⟩
    simp only [e15]
    rintro w18 ⟨hP8, hB68, hB158, hb148, hb018⟩
    have P18 : PtsAt w18 w14.heap.size (some ⟨g1, 0, none⟩) na H := pts_up (((hP15.out.tr hb14 (Nat.le_refl _))).keep (fun p hp => hb148.cell (p := p) (Nat.lt_of_lt_of_le hp hz14))) (fun _ _ => rfl) hz14
    clear e15 hb16 hc16 hf16 hz16 hy16 hy166 hy169 hb15 hc15 hf15 hz15 hy15 hy156 hy157 hb14 hc14 hf14 hy14 hy146 hy147 hb015 hbb cP3 lP3 c63 l63 c73 l73 hP3 hB63 hB73 HBH HM1 HM2 hOWN hP15
    go_loopw [16, 17] (fun vf vk wr => ∃ k : Nat, k ≤ na ∧ vk = .int .i64 k ∧ vf = .bool (inB H ⟨px, py⟩ k) ∧ Blk wr w.heap.size 24 #[.int .i64 px, .int .i64 py] ∧ Blk wr G6 33 #[.int .i64 dax, .int .i64 day, .int .i64 dzx, .int .i64 dzy] ∧ Blk wr G15 33 #[.int .i64 dax, .int .i64 day, .int .i64 dzx, .int .i64 dzy] ∧ PtsAt wr w14.heap.size (some ⟨g1, 0, none⟩) na H ∧ Below w14.heap.size w14 wr ∧ Below w.heap.size w wr) (fun _ vk _ => na - (intOf vk).toNat)
    case atStart =>
      refine ⟨0, by omega, rfl, ?_, hP8, hB68, hB158, P18, hb148, hb018⟩
      unfold inB
      rw [hna]
      simp
      omega
    case round =>
      clear hP8 hB68 hB158 P18 hb148 hb018
      obtain ⟨k, hk, rfl, rfl, hP8, hB68, hB158, P18, hb148, hb018⟩ := hrel
      have c0 := hP8.cell
      have l0 := hP8.lt
      by_cases hlt : k < na
      · have hsc := inB_succ H ⟨px, py⟩ k
        rw [hna] at hsc
        have hk0 : (k : Int) < (na : Int) := by omega
        cases hfl : inB H ⟨px, py⟩ k
        case false =>
          rw [hfl, Bool.false_and] at hsc
          have HSC := Lib.hid hsc
          have HP18 := Lib.hid P18
          clear hsc hfl P18
          go_wp2_with fail
          refine wp_region_belowI (by kernel_rfl) (by kernel_rfl) (fun _ _ d _ _ h => by cases d <;> exact h) ?_
          simp only [List.map_cons, List.map_nil, List.getD_cons_zero, List.getD_cons_succ, bare, gslot, List.getElem?_cons_zero, List.getElem?_cons_succ, Option.bind_some]
          repeat' ((try simp only [Act.put, List.setIfInBounds_toArray, List.set_cons_zero, List.set_cons_succ]); first | (refine lexL_on ?_ ?_; focus (simp only [List.getElem?_toArray, List.getElem?_cons_succ, List.getElem?_cons_zero, Bool.not_true, Bool.not_false]; done)) | (refine lexL_off ?_ ?_ ?_; (focus (simp only [List.getElem?_toArray, List.getElem?_cons_succ, List.getElem?_cons_zero, Bool.not_true, Bool.not_false]; done)); (focus (exact (by repeat (first | with_reducible exact Below.refl _ _ | with_reducible assumption | with_reducible refine al ?_ _ | with_reducible refine Below.drew ?_ | with_reducible refine Below.setCell ?_ (by first | (simp; done) | (simp; omega)) _ | with_reducible refine tr ?_ (by with_reducible assumption)))))) | (refine lexL_splitS (X := ?_) ?_ ?_ (fun hg => ?_) (fun hg => ?_); rotate_left; (focus (simp only [List.getElem?_toArray, List.getElem?_cons_succ, List.getElem?_cons_zero]; with_reducible rfl)); (focus (exact (by repeat (first | with_reducible exact Below.refl _ _ | with_reducible assumption | with_reducible refine al ?_ _ | with_reducible refine Below.drew ?_ | with_reducible refine Below.setCell ?_ (by first | (simp; done) | (simp; omega)) _ | with_reducible refine tr ?_ (by with_reducible assumption))))); all_goals (try simp only [Bool.not_true, Bool.not_false] at hg)) | (refine lexL_quiet (v := ?_) wantB_none rfl ?_ ?_; rotate_left; focus (intro wq hq; obtain ⟨hcq, hfq⟩ := bcell hq; go_simp; try with_reducible rfl)) | (refine lexL_loud wantB_none rfl (fun K hK => ?_); go_simp; ((first |  fail | skip) <;> (refine hK.out _ _ (by repeat (first | with_reducible exact Below.refl _ _ | with_reducible assumption | with_reducible refine al ?_ _ | with_reducible refine Below.drew ?_ | with_reducible refine Below.setCell ?_ (by first | (simp; done) | (simp; omega)) _ | with_reducible refine tr ?_ (by with_reducible assumption))) ?_; clear hK K))))
          (all_goals try simp only [Act.put, List.setIfInBounds_toArray, List.set_cons_zero, List.set_cons_succ]); all_goals (refine lexL_nil ?_)
          go_wp2_with fail
          go_roundw
          case rel => exact ⟨k + 1, by omega, by go_num, by rw [HSC.out], by clear hb018 hb148; exact (by repeat (first | with_reducible assumption | with_reducible exact Blk.new (by simp) rfl | with_reducible refine Blk.alloc ?_ _ | with_reducible refine Blk.drew ?_ | with_reducible refine Blk.far ?_ (by first | (simp; done) | (simp; omega)) _ | with_reducible refine Blk.tr ?_ (by with_reducible assumption))), by clear hb018 hb148; exact (by repeat (first | with_reducible assumption | with_reducible exact Blk.new (by simp) rfl | with_reducible refine Blk.alloc ?_ _ | with_reducible refine Blk.drew ?_ | with_reducible refine Blk.far ?_ (by first | (simp; done) | (simp; omega)) _ | with_reducible refine Blk.tr ?_ (by with_reducible assumption))), by clear hb018 hb148; exact (by repeat (first | with_reducible assumption | with_reducible exact Blk.new (by simp) rfl | with_reducible refine Blk.alloc ?_ _ | with_reducible refine Blk.drew ?_ | with_reducible refine Blk.far ?_ (by first | (simp; done) | (simp; omega)) _ | with_reducible refine Blk.tr ?_ (by with_reducible assumption))), HP18.out.keep (fun p hp => by have := hb148.size; exact Below.cell (B := wr.heap.size) (by repeat (first | with_reducible exact Below.refl _ _ | with_reducible assumption | with_reducible refine al ?_ _ | with_reducible refine Below.drew ?_ | with_reducible refine Below.setCell ?_ (by first | (simp; done) | (simp; omega)) _ | with_reducible refine tr ?_ (by with_reducible assumption))) (by omega)), (by repeat (first | with_reducible exact Below.refl _ _ | with_reducible assumption | with_reducible refine al ?_ _ | with_reducible refine Below.drew ?_ | with_reducible refine Below.setCell ?_ (by first | (simp; done) | (simp; omega)) _ | with_reducible refine tr ?_ (by with_reducible assumption))), (by repeat (first | with_reducible exact Below.refl _ _ | with_reducible assumption | with_reducible refine al ?_ _ | with_reducible refine Below.drew ?_ | with_reducible refine Below.setCell ?_ (by first | (simp; done) | (simp; omega)) _ | with_reducible refine tr ?_ (by with_reducible assumption)))⟩
          case measure => simp [intOf]; omega
        case true =>
          rw [hfl, Bool.true_and] at hsc
          obtain ⟨b', o', eb, hab', _⟩ := P18.at_ hlt
          injection eb with eb
          injection eb with e1 e2
          subst e1 e2
          obtain ⟨a0, a1⟩ := pts_atB P18 hlt
          obtain ⟨m1, hm1, hwr1, htm1, hml1⟩ := step_of hlt (show na ≤ 1000000 by omega)
          obtain ⟨a2, a3⟩ := pts_atB P18 hml1
          rw [hm1] at hsc
          simp only [Nat.zero_add] at a0 a1 a2 a3
          have hz148 := hb148.size
          have hbg : g1 < wr.heap.size := by omega
          have hk3' : (0 : Int) ≤ (k : Int) + 1 := by omega
          have hn0 : ¬ na = 0 := by omega
          have hml01 : (m1 : Int) < (na : Int) := by omega
          have hO := Lib.hid (fun W => rorient_any (pt H k).x (pt H k).y (pt H m1).x (pt H m1).y px py W)
          rw [show (⟨(pt H k).x, (pt H k).y⟩ : Pt) = pt H k from rfl, show (⟨(pt H m1).x, (pt H m1).y⟩ : Pt) = pt H m1 from rfl] at hO
          obtain ⟨o, ho⟩ : ∃ o, orient (pt H k) (pt H m1) ⟨px, py⟩ = o := ⟨_, rfl⟩
          rw [ho] at hO hsc
          have HSC := Lib.hid hsc
          have HP18 := Lib.hid P18
          clear hsc hfl P18 ho hm1 hab'
          generalize pt H k = p1 at *
          generalize pt H m1 = p2 at *
          go_wp2_with fail
          refine wp_region_belowI (by kernel_rfl) (by kernel_rfl) (fun _ _ d _ _ h => by cases d <;> exact h) ?_
          simp only [List.map_cons, List.map_nil, List.getD_cons_zero, List.getD_cons_succ, bare, gslot, List.getElem?_cons_zero, List.getElem?_cons_succ, Option.bind_some]
          repeat' ((try simp only [Act.put, List.setIfInBounds_toArray, List.set_cons_zero, List.set_cons_succ]); first | (refine lexL_on ?_ ?_; focus (simp only [List.getElem?_toArray, List.getElem?_cons_succ, List.getElem?_cons_zero, Bool.not_true, Bool.not_false]; done)) | (refine lexL_off ?_ ?_ ?_; (focus (simp only [List.getElem?_toArray, List.getElem?_cons_succ, List.getElem?_cons_zero, Bool.not_true, Bool.not_false]; done)); (focus (exact (by repeat (first | with_reducible exact Below.refl _ _ | with_reducible assumption | with_reducible refine al ?_ _ | with_reducible refine Below.drew ?_ | with_reducible refine Below.setCell ?_ (by first | (simp; done) | (simp; omega)) _ | with_reducible refine tr ?_ (by with_reducible assumption)))))) | (refine lexL_splitS (X := ?_) ?_ ?_ (fun hg => ?_) (fun hg => ?_); rotate_left; (focus (simp only [List.getElem?_toArray, List.getElem?_cons_succ, List.getElem?_cons_zero]; with_reducible rfl)); (focus (exact (by repeat (first | with_reducible exact Below.refl _ _ | with_reducible assumption | with_reducible refine al ?_ _ | with_reducible refine Below.drew ?_ | with_reducible refine Below.setCell ?_ (by first | (simp; done) | (simp; omega)) _ | with_reducible refine tr ?_ (by with_reducible assumption))))); all_goals (try simp only [Bool.not_true, Bool.not_false] at hg)) | (refine lexL_quiet (v := ?_) wantB_none rfl ?_ ?_; rotate_left; focus (intro wq hq; obtain ⟨hcq, hfq⟩ := bcell hq; go_simp; try with_reducible rfl)) | (refine lexL_loud wantB_none rfl (fun K hK => ?_); go_simp; ((first |  (go_at_call 11; (with_reducible refine (hO.out _).mono ?_); rintro e w9 ⟨rfl, hb9⟩) | skip) <;> (refine hK.out _ _ (by repeat (first | with_reducible exact Below.refl _ _ | with_reducible assumption | with_reducible refine al ?_ _ | with_reducible refine Below.drew ?_ | with_reducible refine Below.setCell ?_ (by first | (simp; done) | (simp; omega)) _ | with_reducible refine tr ?_ (by with_reducible assumption))) ?_; clear hK K))))
          (all_goals try simp only [Act.put, List.setIfInBounds_toArray, List.set_cons_zero, List.set_cons_succ]); all_goals (refine lexL_nil ?_)
          go_wp2_with fail
          go_roundw
          case rel => exact ⟨k + 1, by omega, by go_num, by rw [HSC.out], by clear hb018 hb148; exact (by repeat (first | with_reducible assumption | with_reducible exact Blk.new (by simp) rfl | with_reducible refine Blk.alloc ?_ _ | with_reducible refine Blk.drew ?_ | with_reducible refine Blk.far ?_ (by first | (simp; done) | (simp; omega)) _ | with_reducible refine Blk.tr ?_ (by with_reducible assumption))), by clear hb018 hb148; exact (by repeat (first | with_reducible assumption | with_reducible exact Blk.new (by simp) rfl | with_reducible refine Blk.alloc ?_ _ | with_reducible refine Blk.drew ?_ | with_reducible refine Blk.far ?_ (by first | (simp; done) | (simp; omega)) _ | with_reducible refine Blk.tr ?_ (by with_reducible assumption))), by clear hb018 hb148; exact (by repeat (first | with_reducible assumption | with_reducible exact Blk.new (by simp) rfl | with_reducible refine Blk.alloc ?_ _ | with_reducible refine Blk.drew ?_ | with_reducible refine Blk.far ?_ (by first | (simp; done) | (simp; omega)) _ | with_reducible refine Blk.tr ?_ (by with_reducible assumption))), HP18.out.keep (fun p hp => by exact Below.cell (B := wr.heap.size) (by repeat (first | with_reducible exact Below.refl _ _ | with_reducible assumption | with_reducible refine al ?_ _ | with_reducible refine Below.drew ?_ | with_reducible refine Below.setCell ?_ (by first | (simp; done) | (simp; omega)) _ | with_reducible refine tr ?_ (by with_reducible assumption))) (by omega)), (by repeat (first | with_reducible exact Below.refl _ _ | with_reducible assumption | with_reducible refine al ?_ _ | with_reducible refine Below.drew ?_ | with_reducible refine Below.setCell ?_ (by first | (simp; done) | (simp; omega)) _ | with_reducible refine tr ?_ (by with_reducible assumption))), (by repeat (first | with_reducible exact Below.refl _ _ | with_reducible assumption | with_reducible refine al ?_ _ | with_reducible refine Below.drew ?_ | with_reducible refine Below.setCell ?_ (by first | (simp; done) | (simp; omega)) _ | with_reducible refine tr ?_ (by with_reducible assumption)))⟩
          case measure => simp [intOf]; omega
      · obtain rfl : na = k := by omega
        have c6 := hB68.cell
        have l6 := hB68.lt
        have c15 := hB158.cell
        have l15 := hB158.lt
        clear P18
        cases hfl : inB H ⟨px, py⟩ na
        case false =>
          go_wp2_with (go_at_call 6; (with_reducible refine (HAW.out _ (by repeat (first | with_reducible exact Below.refl _ _ | with_reducible assumption | with_reducible refine al ?_ _ | with_reducible refine Below.drew ?_ | with_reducible refine Below.setCell ?_ (by first | (simp; done) | (simp; omega)) _ | with_reducible refine tr ?_ (by with_reducible assumption)))).mono ?_); rintro e w20 ⟨rfl, hb20⟩)
          go_ret
          exact ⟨rfl, (by repeat (first | with_reducible exact Below.refl _ _ | with_reducible assumption | with_reducible refine al ?_ _ | with_reducible refine Below.drew ?_ | with_reducible refine Below.setCell ?_ (by first | (simp; done) | (simp; omega)) _ | with_reducible refine tr ?_ (by with_reducible assumption)))⟩
        case true =>
          have hKH := HMORE.out (by rw [hna]; exact hfl)
          have hpe : ptsEq K' H = true := by rw [hKH]; exact ptsEq_refl H
          rw [hpe] at HPts
          clear hpe hKH HMORE hfl
          go_wp2_with (first | (go_at_call 10; (with_reducible refine (HPts.out _ (by repeat (first | with_reducible exact Below.refl _ _ | with_reducible assumption | with_reducible refine al ?_ _ | with_reducible refine Below.drew ?_ | with_reducible refine Below.setCell ?_ (by first | (simp; done) | (simp; omega)) _ | with_reducible refine tr ?_ (by with_reducible assumption)))).mono ?_); rintro e w17 ⟨rfl, hb17⟩; obtain ⟨hc17, hf17⟩ := bcell hb17; have hz17 := hb17.size; (try simp at hz17)) | (go_at_call 6; (with_reducible refine (HAW.out _ (by repeat (first | with_reducible exact Below.refl _ _ | with_reducible assumption | with_reducible refine al ?_ _ | with_reducible refine Below.drew ?_ | with_reducible refine Below.setCell ?_ (by first | (simp; done) | (simp; omega)) _ | with_reducible refine tr ?_ (by with_reducible assumption)))).mono ?_); rintro e w20 ⟨rfl, hb20⟩))
          go_ret
          exact ⟨rfl, (by repeat (first | with_reducible exact Below.refl _ _ | with_reducible assumption | with_reducible refine al ?_ _ | with_reducible refine Below.drew ?_ | with_reducible refine Below.setCell ?_ (by first | (simp; done) | (simp; omega)) _ | with_reducible refine tr ?_ (by with_reducible assumption)))⟩
end Go.Proofs.YtmliljdbpkikpaaDoor
