/-
  The walk of the statement OpclassLaws.
-/
import Derived.Test.YtahiaekoaokgnaaGreatLawLaws
import Derived.Deep.DeepCutAuto
import Derived.Deep.CutBlock
set_option linter.unusedSimpArgs false
set_option linter.unusedVariables false
namespace Go.Proofs.YtahiaekoaokgnaaGreat
open Go.RowKit Pg
theorem clsC_make1 (kd : Int) (bits : Nat) (one : Bool) (brk : Int) (o : Ob) : ((clsC kd bits one brk).make o).1 = ckOb o := rfl
theorem alone_cov (C : Cl) (q : List Qu) (p : List Pt) (o : Ob) (h : (C.make o).1 = 0) : alone C q p o = covN (C.cons (C.make o).2) (C.far (C.make o).2) [o] q p := by
  unfold alone covN
  rw [if_neg (fun e => e h)]
theorem clsCov_any (kd : Int) (bn : Nat) (one : Bool) (brk : Int) (C : Cl) (hC : clsC kd bn one brk = C) (Y : List Nat) (h256 : ∀ x ∈ Y, x < 256) (hYl : Y.length ≤ 1000000)
    (B c n1 c1 n2 c2 n3 c3 : Nat) (A A1 A2 A3 : Option Addr) (l : List Ob) (q : List Qu) (p : List Pt) (w : World) (hK : BysAt w B A Y.length Y) (hKc : Y.length ≤ c) (hKA : A = none → c = 0) (hl : ObsAt w B A1 n1 l) (hq : QusAt w B A2 n2 q) (hp : PtsAt w B A3 n3 p) (hB : B ≤ w.heap.size)
    (hn1 : n1 ≤ 10000) (hn2 : n2 ≤ 10000) (hn3 : n3 ≤ 10000) (hlo : ∀ o ∈ l, o.pts.length ≤ 10000) (hqo : ∀ x ∈ q, x.ring.length ≤ 10000) :
    Calls Tryz.prog 10 #[.agg #[.int .i64 kd, .int .i64 bn, .bool one, .int .i64 brk], .slice A Y.length c, .slice A1 n1 c1, .slice A2 n2 c2, .slice A3 n3 c3] w (Ret w (.int .i64 (covN (C.cons Y) (C.far Y) l q p : Nat))) := by
  subst hC
  exact covers_any kd bn brk one Y _ _ hYl
    (Lib.hid fun W B A c q A' m c' h1 h2 h3 h4 h5 h6 => clsCons_any kd bn one brk B Y.length c m c' q.kind q.box A A' Y q.ring W h1 h256 h3 h2 hYl h5 h4 h6)
    (Lib.hid fun W B A c x y h1 h2 h3 h4 => clsDist_any kd bn one brk B Y.length c x y A Y W h1 h256 h2 hYl h3 h4)
    (Lib.hid fun x => clsC_far_ok kd bn one brk Y x) B c n1 c1 n2 c2 n3 c3 A A1 A2 A3 l q p w hK hKc hKA hl hq hp hB hn1 hn2 hn3 hlo hqo

set_option maxHeartbeats 16000000 in
set_option maxRecDepth 20000 in
theorem opclassLaws_walk (B n1 c1 n2 c2 n3 c3 : Nat) (kd bits brk : Int) (one : Bool) (A1 A2 A3 : Option Addr) (l : List Ob) (q : List Qu) (p : List Pt) (w : World) (hl : ObsAt w B A1 n1 l) (hq : QusAt w B A2 n2 q) (hp : PtsAt w B A3 n3 p) (hB : B ≤ w.heap.size) (hn1 : n1 ≤ 9223372036854775807) (hn2 : n2 ≤ 9223372036854775807) (hnc : n1 ≤ c1) :
    Calls Tryz.prog 3 #[.agg #[.int .i64 kd, .int .i64 bits, .bool one, .int .i64 brk], .slice A1 n1 c1, .slice A2 n2 c2, .slice A3 n3 c3] w (Ret w (.bool true)) := by
  have HSM := Lib.hid (fun W (hW : Below w.heap.size w W) => small16_any B n1 c1 n2 c2 n3 c3 A1 A2 A3 l q W (hl.tr hW hB) (hq.tr hW hB) (Nat.le_trans hB hW.size) hn1 hn2)
  have hl1 := hl.1
  have HL := Lib.hid hl
  have HQ := Lib.hid hq
  have HP := Lib.hid hp
  clear hl hq hp
  by_cases hb0 : bits < 0
  · go_enter Tryz.func3, Tryz.ntmps3
    go_wp2_with (first | (go_at_call 5; (with_reducible refine (HSM.out _ bel).mono ?_); rintro e w1 ⟨v, rfl, hv, hb1⟩; obtain ⟨hc1, hf1⟩ := bcell hb1; have hz1 := hb1.size; (try simp at hz1); rcases hv with rfl | ⟨rfl, g1, g2, g3, g4, g5⟩) | (go_at_call 6; refine (awake16_true _).mono ?_; rintro e w9 ⟨rfl, hb9⟩))
    all_goals go_ret
    all_goals exact ⟨rfl, bel⟩
  by_cases hb20 : 20 < bits
  · go_enter Tryz.func3, Tryz.ntmps3
    go_wp2_with (first | (go_at_call 5; (with_reducible refine (HSM.out _ bel).mono ?_); rintro e w1 ⟨v, rfl, hv, hb1⟩; obtain ⟨hc1, hf1⟩ := bcell hb1; have hz1 := hb1.size; (try simp at hz1); rcases hv with rfl | ⟨rfl, g1, g2, g3, g4, g5⟩) | (go_at_call 6; refine (awake16_true _).mono ?_; rintro e w9 ⟨rfl, hb9⟩))
    all_goals go_ret
    all_goals exact ⟨rfl, bel⟩
  obtain ⟨bn, rfl⟩ : ∃ bn : Nat, bits = bn := ⟨bits.toNat, by omega⟩
  have hbits : bn ≤ 20 := by omega
  go_enter Tryz.func3, Tryz.ntmps3
  go_upto_region 3 with (first | (go_at_call 5; (with_reducible refine (HSM.out _ bel).mono ?_); rintro e w1 ⟨v, rfl, hv, hb1⟩; obtain ⟨hc1, hf1⟩ := bcell hb1; have hz1 := hb1.size; (try simp at hz1); rcases hv with rfl | ⟨rfl, g1, g2, g3, g4, g5⟩) | (go_at_call 6; refine (awake16_true _).mono ?_; rintro e w9 ⟨rfl, hb9⟩))
  · go_wp2_with (go_at_call 6; refine (awake16_true _).mono ?_; rintro e w9 ⟨rfl, hb9⟩)
    go_ret
    exact ⟨rfl, bel⟩
  have G4 := Lib.hid g4
  have G5 := Lib.hid g5
  obtain ⟨C, hC⟩ : ∃ C, clsC kd bn one brk = C := ⟨_, rfl⟩
  have HC := Lib.hid hC
  have hCA := clAt_cls kd bn one brk hbits
  rw [hC] at hCA
  have hCm : ∀ o, (C.make o).1 = ckOb o := fun o => by rw [← hC]; rfl
  have HCM := Lib.hid hCm
  have hLa := fun (W : World) (hW : Below w.heap.size w W) => laws_any _ _ C _ _ _ _ _ hCA B n1 c1 n2 c2 n3 c3 A1 A2 A3 l q p W (HL.out.tr hW hB) (HQ.out.tr hW hB) (HP.out.tr hW hB) (Nat.le_trans hB hW.size) (by omega) (by omega) (by omega) (fun o ho => Nat.le_trans (G4.out o ho) (by decide)) (fun x hx => Nat.le_trans (G5.out x hx) (by decide))
  obtain ⟨⟨la, aa⟩, hlaw⟩ : ∃ x, lawsS C l q p = x := ⟨_, rfl⟩
  rw [hlaw] at hLa
  have HLa := Lib.hid hLa
  have HLW := Lib.hid hlaw
  have HCA := Lib.hid hCA
  have hmk := fun (W : World) (hW : Below w.heap.size w W) (m c' : Nat) (ok : Int) (A' : Option Addr) (ol : List Pt) (h : PtsAt W B A' m ol) (hm : m ≤ 400) => clsMake_any kd bn one brk hbits B m c' ok A' ol W h (Nat.le_trans hB hW.size) (by omega)
  rw [hC] at hmk
  have HMK := Lib.hid hmk
  clear g4 g5 HSM hC hCA hCm hLa hlaw hmk
  refine keep_world (R := fun w2 => Blk w2 w.heap.size 23 #[.int .i64 kd, .int .i64 bn, .bool one, .int .i64 brk] ∧ Below w.heap.size w w2) ⟨blkA, bel⟩ ?_
  clear hb1 hc1 hf1 hz1
  rintro w2 ⟨hX2, hb2⟩
  have cX := hX2.cell
  have lX := hX2.lt
  have x0 := cX 0
  have x1 := cX 1
  have x2 := cX 2
  have x3 := cX 3
  simp at x0 x1 x2 x3
  clear cX
  go_upto_block 0 with (go_at_call 7; (with_reducible refine (HLa.out _ bel).mono ?_); rintro e w3 ⟨rfl, hb3⟩)
  refine keep_world (R := fun w3 => Blk w3 w.heap.size 23 #[.int .i64 kd, .int .i64 bn, .bool one, .int .i64 brk] ∧ Below w.heap.size w w3) ⟨blkA, bel⟩ ?_
  clear x0 x1 x2 x3 lX hb3 hX2 hb2
  rintro w3 ⟨hX3, hb3⟩
  have hb3B : B ≤ w3.heap.size := Nat.le_trans hB hb3.size
  go_cut [11, 12, 13, 14] (fun vk vt vf vw wx => Below w3.heap.size w3 wx ∧ ∃ f w0 : Int, vf = .int .i64 f ∧ vw = .int .i64 w0 ∧ ((f = 0 ∧ w0 = -1 ∧ firstS (longS C) l 0 = none ∧ KeysAt wx w3.heap.size vk (keysT C (takenS C l)) ∧ TakAt wx w3.heap.size B vt (takenS C l)) ∨ (f ≠ 0 ∧ lawsS C l q p = (f, w0))))
  case first => as_aux_lemma =>
    go_wp2_with fail
    go_loopw [11, 12, 13, 14, 15] (fun vk vt vf vw vi wr => ∃ (i : Nat) (f w0 : Int), i ≤ n1 ∧ vi = .int .i64 i ∧ vf = .int .i64 f ∧ vw = .int .i64 w0 ∧ Below w3.heap.size w3 wr ∧ KeysAt wr w3.heap.size vk (keysT C (takenS C (l.take i))) ∧ TakAt wr w3.heap.size B vt (takenS C (l.take i)) ∧ ((f = 0 ∧ w0 = -1 ∧ firstS (longS C) (l.take i) 0 = none) ∨ (f ≠ 0 ∧ lawsS C l q p = (f, w0)))) (fun _ _ _ _ vi _ => n1 - (intOf vi).toNat)
    case atStart => exact ⟨0, 0, -1, by omega, rfl, rfl, rfl, Below.refl _ _, KeysAt.nil _ _, TakAt.nil _ _ _, .inl ⟨rfl, rfl, rfl⟩⟩
    case round =>
      obtain ⟨i, f, w0, hi, rfl, rfl, rfl, hb, hK, hT, hst⟩ := hrel
      have hb03 : Below w.heap.size w wr := hb3.trans (hb.mono hb3.size)
      have hBr : B ≤ wr.heap.size := Nat.le_trans hB hb03.size
      have hX := hX3.tr hb
      have hTl := takenS_len C l i
      rcases hst with ⟨rfl, rfl, hf⟩ | ⟨hf0, hdone⟩
      case inr =>
        have hfe : (f == 0) = false := by rw [beq_eq_false_iff_ne]; exact hf0
        have HD := Lib.hid hdone
        clear hdone hK hT
        by_cases hlt : (i : Int) < (n1 : Int)
        · go_wp2_with fail
          go_meet
          exact ⟨hb, f, w0, rfl, rfl, .inr ⟨hf0, HD.out⟩⟩
        · go_wp2_with fail
          go_meet
          exact ⟨hb, f, w0, rfl, rfl, .inr ⟨hf0, HD.out⟩⟩
      by_cases hlt : i < n1
      case neg =>
        obtain rfl : n1 = i := by omega
        rw [List.take_of_length_le (by omega)] at hK hT hf
        have HK := Lib.hid hK
        have HT := Lib.hid hT
        have HF := Lib.hid hf
        clear hK hT hf
        go_wp2_with fail
        go_meet
        exact ⟨hb, 0, -1, rfl, rfl, .inl ⟨rfl, rfl, HF.out, HK.out, HT.out⟩⟩
      have hi1 : (i : Int) < (n1 : Int) := by omega
      obtain ⟨b, off, A', m, c', o, rfl, hab, ho, h0, h1, hpo⟩ := (HL.out.below (hb03.mono hB)).at_ hlt
      have hbw : b < wr.heap.size := by omega
      have hm1 : m ≤ 400 := by rw [← hpo.1]; exact G4.out o (List.mem_of_getElem? ho)
      obtain ⟨ok, ol⟩ := o
      simp only at h0 h1 hpo
      have HCk := Lib.hid (fun W (hW : Below wr.heap.size wr W) => rcheck_any B m c' ok A' ol W (hpo.tr hW hBr) (Nat.le_trans hBr hW.size) (by omega))
      rw [← ckOb_eq] at HCk
      have hMk := fun (W : World) (hW : Below wr.heap.size wr W) => HMK.out W (hb03.trans (hW.mono hb03.size)) m c' ok A' ol (hpo.tr hW hBr) hm1
      have hls : longS C ⟨ok, ol⟩ = if ckOb ⟨ok, ol⟩ = 0 ∧ (C.make ⟨ok, ol⟩).1 = 0 ∧ 64 < (C.make ⟨ok, ol⟩).2.length then 1 else 0 := rfl
      have hyes := takenS_yes (C := C) ho
      have hno := takenS_no (C := C) ho
      rw [HCM.out] at hMk hls hyes hno
      have HO := Lib.hid ho
      have HF := Lib.hid hf
      have HPO := Lib.hid hpo
      obtain ⟨T, hTe⟩ : ∃ T, takenS C (l.take i) = T := ⟨_, rfl⟩
      rw [hTe] at hK hT hTl hyes hno
      have hkT := keysT_snoc C T ⟨ok, ol⟩
      have HKK := Lib.hid hK
      have HTT := Lib.hid hT
      clear ho hf hpo hK hT hTe
      have cX := hX.cell
      have lX := hX.lt
      have x0 := cX 0
      have x1 := cX 1
      have x2 := cX 2
      have x3 := cX 3
      simp at x0 x1 x2 x3
      clear cX hX
      by_cases hck : ckOb ⟨ok, ol⟩ = 0
      case neg =>
        have HNO := Lib.hid (hno hck)
        have HLS : Hid (longS C ⟨ok, ol⟩ = 0) := by unfold Hid; rw [hls, if_neg (fun h => hck h.1)]
        have hck2 : (((ckOb ⟨ok, ol⟩ : Nat) : Int) != 0) = true := by rw [bne_iff_ne]; omega
        generalize ckOb ⟨ok, ol⟩ = ck at *
        clear hyes hno hls hMk hkT hck
        go_wp2_with (go_at_call 8; (with_reducible refine (HCk.out _ bel).mono ?_); rintro e w5 ⟨rfl, hb5⟩)
        have hbn : Below wr.heap.size wr _ := bel
        go_roundw
        case rel => exact ⟨i + 1, 0, -1, by omega, by go_num, rfl, rfl, bel, by rw [HNO.out]; exact HKK.out.below (by clear hb; exact bel), by rw [HNO.out]; exact HTT.out.below (by clear hb; exact bel) hBr, .inl ⟨rfl, rfl, firstS_next HF.out HO.out HLS.out⟩⟩
        case measure => simp [intOf]; omega
      rw [hck] at HCk hMk hls hyes
      have HYES := Lib.hid (hyes rfl)
      obtain ⟨Y, hY⟩ : ∃ Y, (C.make ⟨ok, ol⟩).2 = Y := ⟨_, rfl⟩
      rw [hY] at hMk hls hkT
      have HMk := Lib.hid hMk
      have HKT := Lib.hid hkT
      have hb3r := hb.size
      obtain ⟨i0, qi, iz0, iz1, iz2⟩ := info_parts Tryz.infoYsU
      obtain ⟨i1, qj, jz0, jz1, jz2⟩ := info_parts Tryz.infoObU
      clear hyes hno hMk hkT hY hck
      by_cases h64 : 64 < Y.length
      · have h64' : (64 : Int) < (Y.length : Int) := by omega
        have HD : Hid (lawsS C l q p = (1, (i : Int))) := by
          have hl1' : longS C ⟨ok, ol⟩ = 1 := by rw [hls, if_pos ⟨rfl, rfl, h64⟩]
          have h := firstS_here HF.out HO.out (by rw [hl1']; decide)
          unfold Hid lawsS
          rw [h, hl1']
          rfl
        clear hls
        go_wp2_with (go_at_call 8; (with_reducible refine (HCk.out _ bel).mono ?_); rintro e w5 ⟨rfl, hb5⟩; obtain ⟨hc5, hf5⟩ := bcell hb5; have hz5 := hb5.size; (try simp at hz5); have hbw5 : b < w5.heap.size := (by omega); have lX5 : w.heap.size < w5.heap.size := (by omega))
        refine wp_region_belowI (by kernel_rfl) (by kernel_rfl) (fun _ _ d _ _ h => by cases d <;> exact h) ?_
        simp only [List.map_cons, List.map_nil, List.getD_cons_zero, List.getD_cons_succ, bare, gslot, List.getElem?_cons_zero, List.getElem?_cons_succ, Option.bind_some]
        repeat' ((try simp only [Act.put, List.setIfInBounds_toArray, List.set_cons_zero, List.set_cons_succ]); first | (refine lexL_quiet (v := ?_) wantB_none rfl ?_ ?_; rotate_left; focus (intro wq hq; obtain ⟨hcq, hfq⟩ := bcell hq; go_simp; try with_reducible rfl)) | (refine lexL_loud wantB_none rfl (fun K hK => ?_); go_simp; ((first | (go_at_call 9; (with_reducible refine (HMk.out _ bel).mono ?_); rintro e w6 ⟨s6, rfl, ho6, hb6⟩; obtain ⟨A6, c6, rfl, z1, z2, z3, z4⟩ := bys_of_own2 ho6; have HO6 := Lib.hid ho6; have HY6 := Lib.hid z1; have HZ6 := Lib.hid z3; clear ho6 z1 z2 z3) | skip) <;> (refine hK.out _ _ bel ?_; clear hK K))) | (refine lexL_on ?_ ?_; focus (simp only [List.getElem?_toArray, List.getElem?_cons_succ, List.getElem?_cons_zero, Bool.not_true, Bool.not_false]; done)) | (refine lexL_off ?_ ?_ ?_; (focus (simp only [List.getElem?_toArray, List.getElem?_cons_succ, List.getElem?_cons_zero, Bool.not_true, Bool.not_false]; done)); (focus (exact bel))) | (refine lexL_splitS (X := ?_) ?_ ?_ (fun hg => ?_) (fun hg => ?_); rotate_left; (focus (simp only [List.getElem?_toArray, List.getElem?_cons_succ, List.getElem?_cons_zero]; with_reducible rfl)); (focus (exact bel)); all_goals (try simp only [Bool.not_true, Bool.not_false] at hg)))
        (all_goals try simp only [Act.put, List.setIfInBounds_toArray, List.set_cons_zero, List.set_cons_succ]); all_goals (refine lexL_nil ?_)
        have hb6' : Below wr.heap.size wr w6 := (by clear hb; exact bel)
        have hb6z := hb6'.size
        have hb36 : Below w3.heap.size w3 w6 := hb.trans (hb6'.mono hb3r)
        obtain ⟨cs, hcs, hkk⟩ := HKK.out.below hb6'
        have HKKK := Lib.hid hkk
        have HS6 := Lib.hid (ownB_base HO6.out (show w3.heap.size ≤ _ by (try simp); omega))
        have HT6 := Lib.hid (HTT.out.below hb6' hBr)
        have HP6 := Lib.hid (HPO.out.tr hb6' hBr)
        clear hkk
        go_wp2_with (at_builtin; go_must (refine wpList_append_own _ rfl _ _ 31 rfl w3.heap.size 35 i0 (.slice none 0 0) 1 24 Tryz.underlying31 qi iz0 iz1 iz2 rfl (by decide) _ _ _ rfl (hcs.alloc _) ⟨w6.heap.size, 0, none⟩ 1 1 [.slice A6 Y.length c6] rfl rfl cell_oneD slice_oneD ?c3 ?c4 ?c5 ?_))
        case c3 => rw [keysT_len]; unfold maxLen; omega
        case c4 => rw [keysT_len]; omega
        case c5 => simp; omega
        intro v' w7 hown' hgrow _
        have hKN := keys_append (hcs.alloc _) (fun j u hu => by
          obtain ⟨l', q1, q2⟩ := HKKK.out j u hu
          exact ⟨l', q1, q2.alloc _⟩) (HS6.out.alloc _) hown' hgrow
        have hal : Below w6.heap.size w6 (w6.alloc (.cells #[.slice A6 Y.length c6] 35)) := (Below.refl _ _).alloc (Nat.le_refl _) _
        have hg7 : Below w3.heap.size (w6.alloc (.cells #[.slice A6 Y.length c6] 35)) w7 := (Below.refl _ _).grown hgrow (by simp; omega) (fun k hk => (hcs.lt k hk).1)
        have hb67 : Below w3.heap.size w6 w7 := ((Below.refl _ _).alloc (by omega) _).trans hg7
        obtain ⟨ct, hot, hct⟩ := tak_grown (HT6.out.below hal (by omega)) (hcs.alloc _) (by decide) hgrow (hg7.mono hb3B)
        have HCT := Lib.hid hct
        have HP7 := Lib.hid (HP6.out.below (hb67.mono hb3B))
        have hb37 : Below w3.heap.size w3 w7 := hb36.trans hb67
        obtain ⟨hc7, hf7⟩ := bcellB ((hb6'.mono hb3r).trans hb67)
        have hbw3 : b < w3.heap.size := by omega
        have hz7 := hb37.size
        have HKN := Lib.hid hKN
        clear hown' hgrow hcs hal hg7 hb67 hct hKN
        go_wp2_with (at_builtin; go_must (refine wpList_append_own _ rfl _ _ 24 rfl w3.heap.size 34 i1 (.agg #[.int .i64 0, .slice none 0 0]) 2 32 Tryz.underlying24 qj jz0 jz1 jz2 rfl (by decide) _ _ _ rfl (hot.alloc _) ⟨w7.heap.size, 0, none⟩ 1 1 [.int .i64 ok, .slice A' m c'] rfl rfl cell_twoD obj_oneD ?d3 ?d4 ?d5 ?_))
        case d3 => unfold maxLen; omega
        case d4 => omega
        case d5 => simp; omega
        intro v8 w8 hown8 hgrow8 _
        have hg8 : Below w3.heap.size (w7.alloc (.cells #[.int .i64 ok, .slice A' m c'] 34)) w8 := (Below.refl _ _).grown hgrow8 (by simp; omega) (fun k hk => (hot.lt k hk).1)
        have hal8 : Below w7.heap.size w7 (w7.alloc (.cells #[.int .i64 ok, .slice A' m c'] 34)) := (Below.refl _ _).alloc (Nat.le_refl _) _
        have hb38 : Below w3.heap.size w3 w8 := hb37.trans (((Below.refl _ _).alloc hz7 _).trans hg8)
        have hK8 := keys_grown (HKN.out.below hal8) (hot.alloc _) (by decide) (by decide) hgrow8
        have hT8 := tak_append (own_belowK hot hal8) (fun k o ho => by
          obtain ⟨A2, m2, c2, q1, q2, q3⟩ := HCT.out k o ho
          exact ⟨A2, m2, c2, q1, q2, q3.below (hal8.mono (by omega))⟩) (HP7.out.below (hal8.mono (by omega))) hown8 (hg8.mono hb3B)
        clear hown8 hgrow8 hg8 hal8 hot hb37 hc7 hf7
        go_wp2
        go_roundw
        case rel => exact ⟨i + 1, 1, i, by omega, by go_num, rfl, rfl, hb38, by rw [HYES.out, HKT.out]; exact hK8, by rw [HYES.out]; exact hT8, .inr ⟨by decide, HD.out⟩⟩
        case measure => simp [intOf]; omega
      have h64' : ¬ (64 : Int) < (Y.length : Int) := by omega
      have HLS : Hid (longS C ⟨ok, ol⟩ = 0) := by unfold Hid; rw [hls, if_neg (fun h => h64 h.2.2)]
      clear hls
      go_wp2_with (go_at_call 8; (with_reducible refine (HCk.out _ bel).mono ?_); rintro e w5 ⟨rfl, hb5⟩; obtain ⟨hc5, hf5⟩ := bcell hb5; have hz5 := hb5.size; (try simp at hz5); have hbw5 : b < w5.heap.size := (by omega); have lX5 : w.heap.size < w5.heap.size := (by omega))
      refine wp_region_belowI (by kernel_rfl) (by kernel_rfl) (fun _ _ d _ _ h => by cases d <;> exact h) ?_
      simp only [List.map_cons, List.map_nil, List.getD_cons_zero, List.getD_cons_succ, bare, gslot, List.getElem?_cons_zero, List.getElem?_cons_succ, Option.bind_some]
      repeat' ((try simp only [Act.put, List.setIfInBounds_toArray, List.set_cons_zero, List.set_cons_succ]); first | (refine lexL_quiet (v := ?_) wantB_none rfl ?_ ?_; rotate_left; focus (intro wq hq; obtain ⟨hcq, hfq⟩ := bcell hq; go_simp; try with_reducible rfl)) | (refine lexL_loud wantB_none rfl (fun K hK => ?_); go_simp; ((first | (go_at_call 9; (with_reducible refine (HMk.out _ bel).mono ?_); rintro e w6 ⟨s6, rfl, ho6, hb6⟩; obtain ⟨A6, c6, rfl, z1, z2, z3, z4⟩ := bys_of_own2 ho6; have HO6 := Lib.hid ho6; have HY6 := Lib.hid z1; have HZ6 := Lib.hid z3; clear ho6 z1 z2 z3) | skip) <;> (refine hK.out _ _ bel ?_; clear hK K))) | (refine lexL_on ?_ ?_; focus (simp only [List.getElem?_toArray, List.getElem?_cons_succ, List.getElem?_cons_zero, Bool.not_true, Bool.not_false]; done)) | (refine lexL_off ?_ ?_ ?_; (focus (simp only [List.getElem?_toArray, List.getElem?_cons_succ, List.getElem?_cons_zero, Bool.not_true, Bool.not_false]; done)); (focus (exact bel))) | (refine lexL_splitS (X := ?_) ?_ ?_ (fun hg => ?_) (fun hg => ?_); rotate_left; (focus (simp only [List.getElem?_toArray, List.getElem?_cons_succ, List.getElem?_cons_zero]; with_reducible rfl)); (focus (exact bel)); all_goals (try simp only [Bool.not_true, Bool.not_false] at hg)))
      (all_goals try simp only [Act.put, List.setIfInBounds_toArray, List.set_cons_zero, List.set_cons_succ]); all_goals (refine lexL_nil ?_)
      have hb6' : Below wr.heap.size wr w6 := (by clear hb; exact bel)
      have hb6z := hb6'.size
      have hb36 : Below w3.heap.size w3 w6 := hb.trans (hb6'.mono hb3r)
      obtain ⟨cs, hcs, hkk⟩ := HKK.out.below hb6'
      have HKKK := Lib.hid hkk
      have HS6 := Lib.hid (ownB_base HO6.out (show w3.heap.size ≤ _ by (try simp); omega))
      have HT6 := Lib.hid (HTT.out.below hb6' hBr)
      have HP6 := Lib.hid (HPO.out.tr hb6' hBr)
      clear hkk
      go_wp2_with (at_builtin; go_must (refine wpList_append_own _ rfl _ _ 31 rfl w3.heap.size 35 i0 (.slice none 0 0) 1 24 Tryz.underlying31 qi iz0 iz1 iz2 rfl (by decide) _ _ _ rfl (hcs.alloc _) ⟨w6.heap.size, 0, none⟩ 1 1 [.slice A6 Y.length c6] rfl rfl cell_oneD slice_oneD ?c3 ?c4 ?c5 ?_))
      case c3 => rw [keysT_len]; unfold maxLen; omega
      case c4 => rw [keysT_len]; omega
      case c5 => simp; omega
      intro v' w7 hown' hgrow _
      have hKN := keys_append (hcs.alloc _) (fun j u hu => by
        obtain ⟨l', q1, q2⟩ := HKKK.out j u hu
        exact ⟨l', q1, q2.alloc _⟩) (HS6.out.alloc _) hown' hgrow
      have hal : Below w6.heap.size w6 (w6.alloc (.cells #[.slice A6 Y.length c6] 35)) := (Below.refl _ _).alloc (Nat.le_refl _) _
      have hg7 : Below w3.heap.size (w6.alloc (.cells #[.slice A6 Y.length c6] 35)) w7 := (Below.refl _ _).grown hgrow (by simp; omega) (fun k hk => (hcs.lt k hk).1)
      have hb67 : Below w3.heap.size w6 w7 := ((Below.refl _ _).alloc (by omega) _).trans hg7
      obtain ⟨ct, hot, hct⟩ := tak_grown (HT6.out.below hal (by omega)) (hcs.alloc _) (by decide) hgrow (hg7.mono hb3B)
      have HCT := Lib.hid hct
      have HP7 := Lib.hid (HP6.out.below (hb67.mono hb3B))
      have hb37 : Below w3.heap.size w3 w7 := hb36.trans hb67
      obtain ⟨hc7, hf7⟩ := bcellB ((hb6'.mono hb3r).trans hb67)
      have hbw3 : b < w3.heap.size := by omega
      have hz7 := hb37.size
      have HKN := Lib.hid hKN
      clear hown' hgrow hcs hal hg7 hb67 hct hKN
      go_wp2_with (at_builtin; go_must (refine wpList_append_own _ rfl _ _ 24 rfl w3.heap.size 34 i1 (.agg #[.int .i64 0, .slice none 0 0]) 2 32 Tryz.underlying24 qj jz0 jz1 jz2 rfl (by decide) _ _ _ rfl (hot.alloc _) ⟨w7.heap.size, 0, none⟩ 1 1 [.int .i64 ok, .slice A' m c'] rfl rfl cell_twoD obj_oneD ?d3 ?d4 ?d5 ?_))
      case d3 => unfold maxLen; omega
      case d4 => omega
      case d5 => simp; omega
      intro v8 w8 hown8 hgrow8 _
      have hg8 : Below w3.heap.size (w7.alloc (.cells #[.int .i64 ok, .slice A' m c'] 34)) w8 := (Below.refl _ _).grown hgrow8 (by simp; omega) (fun k hk => (hot.lt k hk).1)
      have hal8 : Below w7.heap.size w7 (w7.alloc (.cells #[.int .i64 ok, .slice A' m c'] 34)) := (Below.refl _ _).alloc (Nat.le_refl _) _
      have hb38 : Below w3.heap.size w3 w8 := hb37.trans (((Below.refl _ _).alloc hz7 _).trans hg8)
      have hK8 := keys_grown (HKN.out.below hal8) (hot.alloc _) (by decide) (by decide) hgrow8
      have hT8 := tak_append (own_belowK hot hal8) (fun k o ho => by
        obtain ⟨A2, m2, c2, q1, q2, q3⟩ := HCT.out k o ho
        exact ⟨A2, m2, c2, q1, q2, q3.below (hal8.mono (by omega))⟩) (HP7.out.below (hal8.mono (by omega))) hown8 (hg8.mono hb3B)
      clear hown8 hgrow8 hg8 hal8 hot hb37 hc7 hf7
      go_wp2
      go_roundw
      case rel => exact ⟨i + 1, 0, -1, by omega, by go_num, rfl, rfl, hb38, by rw [HYES.out, HKT.out]; exact hK8, by rw [HYES.out]; exact hT8, .inl ⟨rfl, rfl, firstS_next HF.out HO.out HLS.out⟩⟩
      case measure => simp [intOf]; omega
  case rest =>
    obtain ⟨hbc, f0, wz, rfl, rfl, hst⟩ := hcut
    have hbwc : Below w.heap.size w wc := hb3.trans (hbc.mono hb3.size)
    have hXc := hX3.tr hbc
    have hLong : f0 = 0 → firstS (longS C) l 0 = none := fun h => by
      rcases hst with ⟨_, _, h1, _⟩ | ⟨h1, _⟩
      · exact h1
      · exact absurd h h1
    have HLONG := Lib.hid hLong
    have HST := Lib.hid hst
    have hst2 : (f0 = 0 ∧ wz = -1) ∨ (f0 ≠ 0 ∧ lawsS C l q p = (f0, wz)) := by
      rcases hst with ⟨h1, h2, _⟩ | h1
      · exact .inl ⟨h1, h2⟩
      · exact .inr h1
    have hBc : B ≤ wc.heap.size := Nat.le_trans hB hbwc.size
    clear hst hLong hb3 hbc hX3 hb3B
    go_upto_block 2 with fail
    go_cut [13, 14] (fun vf vw wx => Below wc.heap.size wc wx ∧ ∃ f w0 : Int, vf = .int .i64 f ∧ vw = .int .i64 w0 ∧ ((f = 0 ∧ w0 = -1 ∧ f0 = 0 ∧ firstS (alone C q p) l 0 = none) ∨ (f ≠ 0 ∧ lawsS C l q p = (f, w0))))
    case first => as_aux_lemma =>
      go_wp2_with fail
      go_loopw [13, 14, 18] (fun vf vw vi wr => ∃ (i : Nat) (f w0 : Int), i ≤ n1 ∧ vi = .int .i64 i ∧ vf = .int .i64 f ∧ vw = .int .i64 w0 ∧ Below wc.heap.size wc wr ∧ ((f = 0 ∧ w0 = -1 ∧ f0 = 0 ∧ firstS (alone C q p) (l.take i) 0 = none) ∨ (f ≠ 0 ∧ lawsS C l q p = (f, w0)))) (fun _ _ vi _ => n1 - (intOf vi).toNat)
      case atStart =>
        refine ⟨0, f0, wz, by omega, rfl, rfl, rfl, Below.refl _ _, ?_⟩
        rcases hst2 with ⟨h1, h2⟩ | h1
        · exact .inl ⟨h1, h2, h1, rfl⟩
        · exact .inr h1
      case round =>
        clear hst2
        obtain ⟨i, f, w0, hi, rfl, rfl, rfl, hb, hst⟩ := hrel
        have hb03 : Below w.heap.size w wr := hbwc.trans (hb.mono hbwc.size)
        have hBr : B ≤ wr.heap.size := Nat.le_trans hB hb03.size
        have hX := hXc.tr hb
        rcases hst with ⟨rfl, rfl, hf0, hf⟩ | ⟨hf0, hdone⟩
        case inr =>
          have hfe : (f == 0) = false := by rw [beq_eq_false_iff_ne]; exact hf0
          have HD := Lib.hid hdone
          clear hdone
          by_cases hlt : (i : Int) < (n1 : Int)
          · go_wp2_with fail
            go_meet
            exact ⟨hb, f, w0, rfl, rfl, .inr ⟨hf0, HD.out⟩⟩
          · go_wp2_with fail
            go_meet
            exact ⟨hb, f, w0, rfl, rfl, .inr ⟨hf0, HD.out⟩⟩
        have HF := Lib.hid hf
        clear hf
        by_cases hlt : i < n1
        case neg =>
          obtain rfl : n1 = i := by omega
          go_wp2_with fail
          go_meet
          exact ⟨hb, 0, -1, rfl, rfl, .inl ⟨rfl, rfl, hf0, firstS_done hl1 HF.out⟩⟩
        have hi1 : (i : Int) < (n1 : Int) := by omega
        have hi2 : (i : Int) + 1 ≤ (c1 : Int) := by omega
        obtain ⟨b, off, A', m, c', o, rfl, hab, ho, h0, h1, hpo⟩ := (HL.out.below (hb03.mono hB)).at_ hlt
        have hbw : b < wr.heap.size := by omega
        have hm1 : m ≤ 400 := by rw [← hpo.1]; exact G4.out o (List.mem_of_getElem? ho)
        obtain ⟨ok, ol⟩ := o
        simp only at h0 h1 hpo
        have HCk := Lib.hid (fun W (hW : Below wr.heap.size wr W) => rcheck_any B m c' ok A' ol W (hpo.tr hW hBr) (Nat.le_trans hBr hW.size) (by omega))
        rw [← ckOb_eq] at HCk
        have hMk := fun (W : World) (hW : Below wr.heap.size wr W) => HMK.out W (hb03.trans (hW.mono hb03.size)) m c' ok A' ol (hpo.tr hW hBr) hm1
        have hal0 : (C.make ⟨ok, ol⟩).1 ≠ 0 → alone C q p ⟨ok, ol⟩ = 0 := fun h => by unfold alone; rw [if_pos h]
        have hal := alone_cov C q p ⟨ok, ol⟩
        have hfm := HCA.out.form ⟨ok, ol⟩
        rw [HCM.out] at hMk hal0 hal
        have HO := Lib.hid ho
        have HPO := Lib.hid hpo
        clear ho hpo
        have cX := hX.cell
        have lX := hX.lt
        have x0 := cX 0
        have x1 := cX 1
        have x2 := cX 2
        have x3 := cX 3
        simp at x0 x1 x2 x3
        clear cX hX
        by_cases hck : ckOb ⟨ok, ol⟩ = 0
        case neg =>
          have HAL := Lib.hid (hal0 hck)
          have hck2 : (((ckOb ⟨ok, ol⟩ : Nat) : Int) != 0) = true := by rw [bne_iff_ne]; omega
          generalize ckOb ⟨ok, ol⟩ = ck at *
          clear hal hal0 hMk hck hfm
          go_wp2_with (go_at_call 8; (with_reducible refine (HCk.out _ bel).mono ?_); rintro e w5 ⟨rfl, hb5⟩)
          go_roundw
          case rel => exact ⟨i + 1, 0, -1, by omega, by go_num, rfl, rfl, bel, .inl ⟨rfl, rfl, hf0, firstS_next HF.out HO.out HAL.out⟩⟩
          case measure => simp [intOf]; omega
        rw [hck] at HCk hMk
        have hal := hal hck
        obtain ⟨Y, hY⟩ : ∃ Y, (C.make ⟨ok, ol⟩).2 = Y := ⟨_, rfl⟩
        rw [hY] at hMk hal hfm
        have HCV := Lib.hid (fun (W : World) (A5 : Option Addr) (c5 cs : Nat) (hY5 : BysAt W W.heap.size A5 Y.length Y) (h3 : A5 = none → c5 = 0) (h4 : Y.length ≤ c5) (hW : Below wr.heap.size wr W) => clsCov_any kd bn one brk C HC.out Y hfm.1 hfm.2 W.heap.size c5 1 cs n2 c2 n3 c3 A5 (some ⟨b, off + i * 2, none⟩) A2 A3 [⟨ok, ol⟩] q p W hY5 h4 h3 (obs_one (obs_more (HL.out.below ((hb03.trans (hW.mono hb03.size)).mono hB)) (Nat.le_trans hBr hW.size)) HO.out) (qus_more (HQ.out.below ((hb03.trans (hW.mono hb03.size)).mono hB)) (Nat.le_trans hBr hW.size)) (pts_lift (HP.out.below ((hb03.trans (hW.mono hb03.size)).mono hB)) (Nat.le_trans hBr hW.size)) (Nat.le_refl _) (by decide) (by omega) (by omega) (by intro x hx; simp at hx; subst hx; exact Nat.le_trans (G4.out _ (List.mem_of_getElem? HO.out)) (by decide)) (fun x hx => Nat.le_trans (G5.out x hx) (by decide)))
        have hgo : alone C q p ⟨ok, ol⟩ ≠ 0 → lawsS C l q p = (((alone C q p ⟨ok, ol⟩ : Nat) : Int), (i : Int)) := fun h => by
          have h1 := firstS_here HF.out HO.out h
          unfold lawsS
          rw [HLONG.out hf0, h1]
        rw [← hal] at HCV
        have hnx := fun h => firstS_next HF.out HO.out (f := alone C q p) h
        have HMk := Lib.hid hMk
        generalize alone C q p ⟨ok, ol⟩ = r at *
        have HGO := Lib.hid hgo
        have HNX := Lib.hid hnx
        clear hal0 hal hMk hY hck hgo hnx hfm
        go_wp2_with (go_at_call 8; (with_reducible refine (HCk.out _ bel).mono ?_); rintro e w5 ⟨rfl, hb5⟩; obtain ⟨hc5, hf5⟩ := bcell hb5; have hz5 := hb5.size; (try simp at hz5); have hbw5 : b < w5.heap.size := (by omega); have lX5 : w.heap.size < w5.heap.size := (by omega))
        refine wp_region_belowI (by kernel_rfl) (by kernel_rfl) (fun _ _ d _ _ h => by cases d <;> exact h) ?_
        simp only [List.map_cons, List.map_nil, List.getD_cons_zero, List.getD_cons_succ, bare, gslot, List.getElem?_cons_zero, List.getElem?_cons_succ, Option.bind_some]
        repeat' ((try simp only [Act.put, List.setIfInBounds_toArray, List.set_cons_zero, List.set_cons_succ]); first | (refine lexL_quiet (v := ?_) wantB_none rfl ?_ ?_; rotate_left; focus (intro wq hq; obtain ⟨hcq, hfq⟩ := bcell hq; go_simp; try with_reducible rfl)) | (refine lexL_loud wantB_none rfl (fun K hK => ?_); go_simp; ((first | (go_at_call 9; (with_reducible refine (HMk.out _ bel).mono ?_); rintro e w6 ⟨s6, rfl, ho6, hb6⟩; obtain ⟨A6, c6, rfl, z1, z2, z3, z4⟩ := bys_of_own2 ho6; have HO6 := Lib.hid ho6; have HY6 := Lib.hid z1; have HZ6 := Lib.hid z3; clear ho6 z1 z2 z3) | skip) <;> (refine hK.out _ _ bel ?_; clear hK K))) | (refine lexL_on ?_ ?_; focus (simp only [List.getElem?_toArray, List.getElem?_cons_succ, List.getElem?_cons_zero, Bool.not_true, Bool.not_false]; done)) | (refine lexL_off ?_ ?_ ?_; (focus (simp only [List.getElem?_toArray, List.getElem?_cons_succ, List.getElem?_cons_zero, Bool.not_true, Bool.not_false]; done)); (focus (exact bel))) | (refine lexL_splitS (X := ?_) ?_ ?_ (fun hg => ?_) (fun hg => ?_); rotate_left; (focus (simp only [List.getElem?_toArray, List.getElem?_cons_succ, List.getElem?_cons_zero]; with_reducible rfl)); (focus (exact bel)); all_goals (try simp only [Bool.not_true, Bool.not_false] at hg)))
        (all_goals try simp only [Act.put, List.setIfInBounds_toArray, List.set_cons_zero, List.set_cons_succ]); all_goals (refine lexL_nil ?_)
        have hb6' : Below wr.heap.size wr w6 := (by clear hb; exact bel)
        have hb6z := hb6'.size
        obtain ⟨hc6, hf6⟩ := bcell hb6'
        have lX6 : w.heap.size < w6.heap.size := by omega
        have hbw6 : b < w6.heap.size := by omega
        have v1 : IntKind.i64.wrap ((i : Int) + 1) = (i : Int) + 1 := IntWalk.i64_in _ ⟨by omega, by omega⟩
        have v2 : (0 : Int) ≤ (i : Int) + 1 := by omega
        have v3 : ((i : Int) + 1).toNat = i + 1 := by omega
        have v4 : ¬ c1 = i := by omega
        have v5 : i + 1 - i = 1 := by omega
        clear hc5 hf5 hb5 hb6
        go_wp2_with fail
        refine wp_region_belowI (by kernel_rfl) (by kernel_rfl) (fun _ _ d _ _ h => by cases d <;> exact h) ?_
        simp only [List.map_cons, List.map_nil, List.getD_cons_zero, List.getD_cons_succ, bare, gslot, List.getElem?_cons_zero, List.getElem?_cons_succ, Option.bind_some]
        repeat' ((try simp only [Act.put, List.setIfInBounds_toArray, List.set_cons_zero, List.set_cons_succ]); first | (refine lexL_quiet (v := ?_) wantB_none rfl ?_ ?_; rotate_left; focus (intro wq hq; obtain ⟨hcq, hfq⟩ := bcell hq; go_simp; try with_reducible rfl)) | (refine lexL_loud wantB_none rfl (fun K hK => ?_); go_simp; ((first | (go_at_call 10; (with_reducible refine (HCV.out _ A6 c6 _ ((HY6.out.tr bel (Nat.le_refl _)).more (Below.size (B := w6.heap.size) bel)) HZ6.out z4 (by clear hb; exact bel)).mono ?_); rintro e w7 ⟨rfl, hb7⟩) | skip) <;> (refine hK.out _ _ bel ?_; clear hK K))) | (refine lexL_on ?_ ?_; focus (simp only [List.getElem?_toArray, List.getElem?_cons_succ, List.getElem?_cons_zero, Bool.not_true, Bool.not_false]; done)) | (refine lexL_off ?_ ?_ ?_; (focus (simp only [List.getElem?_toArray, List.getElem?_cons_succ, List.getElem?_cons_zero, Bool.not_true, Bool.not_false]; done)); (focus (exact bel))) | (refine lexL_splitS (X := ?_) ?_ ?_ (fun hg => ?_) (fun hg => ?_); rotate_left; (focus (simp only [List.getElem?_toArray, List.getElem?_cons_succ, List.getElem?_cons_zero]; with_reducible rfl)); (focus (exact bel)); all_goals (try simp only [Bool.not_true, Bool.not_false] at hg)))
        (all_goals try simp only [Act.put, List.setIfInBounds_toArray, List.set_cons_zero, List.set_cons_succ]); all_goals (refine lexL_nil ?_)
        have hb7' : Below wr.heap.size wr w7 := (by clear hb; exact bel)
        have hb7c : Below wc.heap.size wc w7 := hb.trans (hb7'.mono hb.size)
        by_cases hr : r = 0
        · subst hr
          go_wp2_with fail
          go_roundw
          case rel => exact ⟨i + 1, 0, -1, by omega, by go_num, rfl, rfl, (by first | exact hb7c | exact bel), .inl ⟨rfl, rfl, hf0, HNX.out rfl⟩⟩
          case measure => simp [intOf]; omega
        · have hr2 : (((r : Nat) : Int) != 0) = true := by rw [bne_iff_ne]; omega
          go_wp2_with fail
          go_roundw
          case rel => exact ⟨i + 1, r, i, by omega, by go_num, rfl, rfl, (by first | exact hb7c | exact bel), .inr ⟨by omega, HGO.out hr⟩⟩
          case measure => simp [intOf]; omega
    case rest =>
      obtain ⟨hbd, f, w0, rfl, rfl, hst⟩ := hcut
      have hKT : f0 = 0 → KeysAt wc w3.heap.size u11 (keysT C (takenS C l)) ∧ TakAt wc w3.heap.size B u12 (takenS C l) := fun h => by
        rcases HST.out with ⟨_, _, _, h1, h2⟩ | ⟨h1, _⟩
        · exact ⟨h1.below hbd, h2.below hbd hBc⟩
        · exact absurd h h1
      have hXd := hXc.tr hbd
      have hbwd : Below w.heap.size w wc := hbwc.trans (hbd.mono hbwc.size)
      have hBd : B ≤ wc.heap.size := Nat.le_trans hB hbwd.size
      have HKT := Lib.hid hKT
      have hTl : (takenS C l).length ≤ n1 := by
        have h := takenS_len C l n1
        rwa [List.take_of_length_le (by omega)] at h
      have hK256 : ∀ x ∈ keysT C (takenS C l), (∀ y ∈ x, y < 256) ∧ x.length ≤ 1000000 := fun x hx => by
        unfold keysT at hx
        obtain ⟨o, _, rfl⟩ := List.mem_map.1 hx
        exact HCA.out.form o
      have hKl := keysT_len C (takenS C l)
      have hEnd : f0 = 0 → firstS (alone C q p) l 0 = none → lawsS C l q p = if 0 < (keysT C (takenS C l)).length ∧ allS C l q p = false then (4, 0)
          else if 1 < (keysT C (takenS C l)).length ∧ splitOkS (keysT C (takenS C l)) (C.split (keysT C (takenS C l))) = false then (5, 0) else (0, -1) := fun h1 h2 => by
        unfold lawsS
        rw [HLONG.out h1, h2]
        rfl
      have HEND := Lib.hid hEnd
      have HK256 := Lib.hid hK256
      have HKL := Lib.hid hKl
      clear hKT HST hst2 hbd hXc hbwc hBc HLONG hEnd hK256 hKl
      go_step
      go_step
      go_cut [13, 14] (fun vf vw wx => Below wc.heap.size wc wx ∧ ∃ f w0 : Int, vf = .int .i64 f ∧ vw = .int .i64 w0 ∧ ((f = 0 ∧ w0 = -1 ∧ f0 = 0 ∧ firstS (alone C q p) l 0 = none ∧ ¬ (0 < (keysT C (takenS C l)).length ∧ allS C l q p = false)) ∨ (f ≠ 0 ∧ lawsS C l q p = (f, w0))))
      case first => as_aux_lemma =>
        rcases hst with ⟨rfl, rfl, hf0, hal⟩ | ⟨hf0, hdone⟩
        case inr =>
          have hfe : (f == 0) = false := by rw [beq_eq_false_iff_ne]; exact hf0
          have HD := Lib.hid hdone
          clear hdone
          go_wp2_with fail
          go_meet
          exact ⟨Below.refl _ _, f, w0, rfl, rfl, .inr ⟨hf0, HD.out⟩⟩
        have hend := HEND.out hf0 hal
        have HAL := Lib.hid hal
        obtain ⟨hK, hT⟩ := HKT.out hf0
        clear hal HKT
        obtain ⟨Ak, ck, rfl, hR⟩ := rbs_of_keys hK
        obtain ⟨At, ct, rfl, hO, hct⟩ := obs_of_tak hT hBd
        have hUn := fun (W : World) (hW : Below wc.heap.size wc W) => clsUnion_any kd bn one brk wc.heap.size (keysT C (takenS C l)).length ck Ak (keysT C (takenS C l)) W (hR.tr hW (Nat.le_refl _)) hW.size (by have := HKL.out; omega) (fun x hx => (HK256.out x hx).1) (fun x hx => (HK256.out x hx).2)
        have hfU := HCA.out.formU (keysT C (takenS C l)) (fun x hx => (HK256.out x hx).1) (fun x hx => (HK256.out x hx).2)
        rw [HC.out] at hUn
        have hall : allS C l q p = (decide ((C.un (keysT C (takenS C l))).length ≤ 64) && (asksS (C.cons (C.un (keysT C (takenS C l)))) (takenS C l) q && nearsS (C.far (C.un (keysT C (takenS C l)))) (takenS C l) p)) := rfl
        obtain ⟨U, hU⟩ : ∃ U, C.un (keysT C (takenS C l)) = U := ⟨_, rfl⟩
        rw [hU] at hUn hfU hall
        have hcv : covN (C.cons U) (C.far U) (takenS C l) q p = 0 ↔ (asksS (C.cons U) (takenS C l) q && nearsS (C.far U) (takenS C l) p) = true := by
          unfold covN
          cases asksS (C.cons U) (takenS C l) q <;> cases nearsS (C.far U) (takenS C l) p <;> simp
        have HCV := Lib.hid (fun (W : World) (A5 : Option Addr) (c5 : Nat) (hY5 : BysAt W W.heap.size A5 U.length U) (h3 : A5 = none → c5 = 0) (h4 : U.length ≤ c5) (hW : Below wc.heap.size wc W) => clsCov_any kd bn one brk C HC.out U hfU.1 hfU.2 W.heap.size c5 (takenS C l).length ct n2 c2 n3 c3 A5 At A2 A3 (takenS C l) q p W hY5 h4 h3 (obs_more (hO.tr hW (Nat.le_refl _)) hW.size) (qus_more (HQ.out.below ((hbwd.trans (hW.mono hbwd.size)).mono hB)) (Nat.le_trans hBd hW.size)) (pts_lift (HP.out.below ((hbwd.trans (hW.mono hbwd.size)).mono hB)) (Nat.le_trans hBd hW.size)) (Nat.le_refl _) (by omega) (by omega) (by omega) (fun o ho => Nat.le_trans (G4.out o (takenS_mem ho)) (by decide)) (fun x hx => Nat.le_trans (G5.out x hx) (by decide)))
        rw [hall] at hend
        have HALL := Lib.hid hall
        generalize covN (C.cons U) (C.far U) (takenS C l) q p = r at *
        generalize (asksS (C.cons U) (takenS C l) q && nearsS (C.far U) (takenS C l) p) = cv at *
        have HUn := Lib.hid hUn
        have HEN := Lib.hid hend
        have HCvv := Lib.hid hcv
        clear hR hO hUn hend hfU hU hct hall hK hT hcv
        have cX := hXd.cell
        have lX := hXd.lt
        have x0 := cX 0
        have x1 := cX 1
        have x2 := cX 2
        have x3 := cX 3
        simp at x0 x1 x2 x3
        clear cX hXd
        by_cases hm0 : (takenS C l).length = 0
        case pos =>
          have hmz : ¬ (0 : Int) < ((keysT C (takenS C l)).length : Int) := by have := HKL.out; omega
          have hmzn : ¬ 0 < (keysT C (takenS C l)).length := by have := HKL.out; omega
          clear hm0
          go_wp2_with fail
          go_meet
          exact ⟨Below.refl _ _, 0, -1, rfl, rfl, .inl ⟨rfl, rfl, hf0, HAL.out, fun h => absurd h.1 (by have := HKL.out; omega)⟩⟩
        have hm1 : (0 : Int) < ((keysT C (takenS C l)).length : Int) := by have := HKL.out; omega
        have hm1n : 0 < (keysT C (takenS C l)).length := by have := HKL.out; omega
        by_cases hU64 : 64 < U.length
        case pos =>
          have hU64' : (64 : Int) < (U.length : Int) := by omega
          have HR : Hid (lawsS C l q p = (4, 0)) := by unfold Hid; rw [HEN.out, if_pos ⟨hm1n, by rw [decide_eq_false (by omega)]; rfl⟩]
          go_wp2_with (go_at_call 11; (with_reducible refine (HUn.out _ bel).mono ?_); rintro e w5 ⟨s5, rfl, ho5, hb5⟩; obtain ⟨A5, c5, rfl, hy5, y2, y3, y4⟩ := bys_of_own2 ho5; clear ho5; obtain ⟨hc5, hf5⟩ := bcell hb5; have hz5 := hb5.size; (try simp at hz5); have lX5 : w.heap.size < w5.heap.size := (by omega))
          go_meet
          exact ⟨bel, 4, 0, rfl, rfl, .inr ⟨by decide, HR.out⟩⟩
        have hU64' : ¬ (64 : Int) < (U.length : Int) := by omega
        by_cases hr : r = 0
        case pos =>
          have hcv := HCvv.out.1 hr
          have HNO : Hid (¬ (0 < (keysT C (takenS C l)).length ∧ allS C l q p = false)) := by
            unfold Hid
            rw [HALL.out, hcv, decide_eq_true (show U.length ≤ 64 by omega)]
            simp
          subst hr
          clear hcv
          go_wp2_with (first | (go_at_call 10; (with_reducible refine (HCV.out w5 A5 c5 hy5 y3 y4 bel).mono ?_); rintro e w6 ⟨rfl, hb6⟩) | (go_at_call 11; (with_reducible refine (HUn.out _ bel).mono ?_); rintro e w5 ⟨s5, rfl, ho5, hb5⟩; obtain ⟨A5, c5, rfl, hy5, y2, y3, y4⟩ := bys_of_own2 ho5; clear ho5; obtain ⟨hc5, hf5⟩ := bcell hb5; have hz5 := hb5.size; (try simp at hz5); have lX5 : w.heap.size < w5.heap.size := (by omega)))
          go_meet
          exact ⟨bel, 0, -1, rfl, rfl, .inl ⟨rfl, rfl, hf0, HAL.out, HNO.out⟩⟩
        have hr2 : (((r : Nat) : Int) != 0) = true := by rw [bne_iff_ne]; omega
        have HR : Hid (lawsS C l q p = (4, 0)) := by
          have h : (decide (U.length ≤ 64) && cv) = false := by
            cases cv
            · simp
            · exact absurd (HCvv.out.2 rfl) hr
          unfold Hid
          rw [HEN.out, if_pos ⟨hm1n, h⟩]
        go_wp2_with (first | (go_at_call 10; (with_reducible refine (HCV.out w5 A5 c5 hy5 y3 y4 bel).mono ?_); rintro e w6 ⟨rfl, hb6⟩) | (go_at_call 11; (with_reducible refine (HUn.out _ bel).mono ?_); rintro e w5 ⟨s5, rfl, ho5, hb5⟩; obtain ⟨A5, c5, rfl, hy5, y2, y3, y4⟩ := bys_of_own2 ho5; clear ho5; obtain ⟨hc5, hf5⟩ := bcell hb5; have hz5 := hb5.size; (try simp at hz5); have lX5 : w.heap.size < w5.heap.size := (by omega)))
        go_meet
        exact ⟨bel, 4, 0, rfl, rfl, .inr ⟨by decide, HR.out⟩⟩
      case rest =>
        obtain ⟨hbe, f, w0, rfl, rfl, hst⟩ := hcut
        have hKT : f0 = 0 → KeysAt wc w3.heap.size u11 (keysT C (takenS C l)) := fun h => (HKT.out h).1.below hbe
        have hXe := hXd.tr hbe
        have hbwe : Below w.heap.size w wc := hbwd.trans (hbe.mono hbwd.size)
        have hBe : B ≤ wc.heap.size := Nat.le_trans hB hbwe.size
        have HKE := Lib.hid hKT
        clear hKT HKT hXd hbwd hBd hbe
        go_step
        go_step
        go_cut [13, 14] (fun vf vw wx => Below wc.heap.size wc wx ∧ ∃ f w0 : Int, vf = .int .i64 f ∧ vw = .int .i64 w0 ∧ lawsS C l q p = (f, w0))
        case first => as_aux_lemma =>
          rcases hst with ⟨rfl, rfl, hf0, hal, hno4⟩ | ⟨hf0, hdone⟩
          case inr =>
            have hfe : (f == 0) = false := by rw [beq_eq_false_iff_ne]; exact hf0
            have HD := Lib.hid hdone
            clear hdone
            go_wp2_with fail
            go_meet
            exact ⟨Below.refl _ _, f, w0, rfl, rfl, HD.out⟩
          have hend := HEND.out hf0 hal
          rw [if_neg hno4] at hend
          have hK := HKE.out hf0
          clear hal HKE hno4
          obtain ⟨Ak, ck, rfl, hR⟩ := rbs_of_keys hK
          have hSp := fun (W : World) (hW : Below wc.heap.size wc W) => clsSplit_any kd bn one brk wc.heap.size (keysT C (takenS C l)).length ck Ak (keysT C (takenS C l)) W (hR.tr hW (Nat.le_refl _)) hW.size (by have := HKL.out; omega) (fun x hx => (HK256.out x hx).1) (fun x hx => (HK256.out x hx).2)
          have hsl := clsC_split_len kd bn one brk (keysT C (takenS C l))
          rw [HC.out] at hSp hsl
          have hspl : splitOkS (keysT C (takenS C l)) (C.split (keysT C (takenS C l))) = ((C.split (keysT C (takenS C l))).any (fun x => true == x) && (C.split (keysT C (takenS C l))).any (fun x => false == x)) := by
            unfold splitOkS
            rw [hsl, decide_eq_true rfl, Bool.true_and, List.contains_eq_any_beq, List.contains_eq_any_beq]
          rw [hspl] at hend
          have hlen : (keysT C (takenS C l)).length ≤ 30 := by have := HKL.out; omega
          obtain ⟨s, hs⟩ : ∃ s, C.split (keysT C (takenS C l)) = s := ⟨_, rfl⟩
          rw [hs] at hSp hsl hend
          obtain ⟨m, hm⟩ : ∃ m, m = (keysT C (takenS C l)).length := ⟨_, rfl⟩
          rw [← hm] at hsl hend hlen
          have HSp := Lib.hid hSp
          have HEN := Lib.hid hend
          have HSL := Lib.hid hsl
          clear hR hSp hend hK hsl hspl hs
          have cX := hXe.cell
          have lX := hXe.lt
          have x0 := cX 0
          have x1 := cX 1
          have x2 := cX 2
          have x3 := cX 3
          simp at x0 x1 x2 x3
          clear cX
          by_cases hm2 : 1 < m
          case neg =>
            have HR : Hid (lawsS C l q p = (0, -1)) := by unfold Hid; rw [HEN.out, if_neg (fun h => hm2 h.1)]
            have hmz : ¬ (1 : Int) < ((keysT C (takenS C l)).length : Int) := by omega
            have hmzn : ¬ 1 < (keysT C (takenS C l)).length := by omega
            clear hm2 hm
            go_wp2_with fail
            go_meet
            exact ⟨Below.refl _ _, 0, -1, rfl, rfl, HR.out⟩
          have hm1 : (1 : Int) < ((keysT C (takenS C l)).length : Int) := by omega
          have hm1n : 1 < (keysT C (takenS C l)).length := by omega
          have HM := Lib.hid hm
          have hlen2 : (keysT C (takenS C l)).length ≤ 30 := by omega
          clear hm
          go_wp2_with (go_at_call 12; (with_reducible refine (HSp.out _ bel).mono ?_); rintro e w5 ⟨g, rfl, hg5, hb5⟩)
          have hb5' : Below wc.heap.size wc w5 := bel
          go_loopw [23, 24, 25] (fun vy vn vi wr => ∃ (i : Nat) (y n : Bool), i ≤ (keysT C (takenS C l)).length ∧ vi = .int .i64 i ∧ vy = .bool y ∧ vn = .bool n ∧ (s.take i).any (fun x => true == x) = y ∧ (s.take i).any (fun x => false == x) = n ∧ Below w5.heap.size w5 wr) (fun _ _ vi _ => (keysT C (takenS C l)).length - (intOf vi).toNat)
          case atStart => exact ⟨0, false, false, by omega, rfl, rfl, rfl, rfl, rfl, (by first | exact Below.refl _ _ | exact bel)⟩
          case round =>
            obtain ⟨i, y, n, hi, rfl, rfl, rfl, hy, hn, hb⟩ := hrel
            by_cases hlt : i < (keysT C (takenS C l)).length
            case neg =>
              obtain hie : i = (keysT C (takenS C l)).length := by omega
              rw [List.take_of_length_le (by have := HSL.out; have := HM.out; omega)] at hy hn
              have hend := HEN.out
              rw [hy, hn] at hend
              have HEN2 := Lib.hid hend
              have hbm : Below wc.heap.size wc wr := hb5'.trans (hb.mono hb5'.size)
              have hlt2 : ¬ (i : Int) < ((keysT C (takenS C l)).length : Int) := by omega
              clear hend hy hn hie
              cases y <;> cases n
              case true.true =>
                have HR : Hid (lawsS C l q p = (0, -1)) := by unfold Hid; rw [HEN2.out, if_neg (fun h => by cases h.2)]
                go_wp2_with fail
                go_meet
                exact ⟨hbm, 0, -1, rfl, rfl, HR.out⟩
              all_goals (
                have HR : Hid (lawsS C l q p = (5, 0)) := (by unfold Hid; rw [HEN2.out, if_pos ⟨hm2, rfl⟩])
                go_wp2_with fail
                go_meet
                exact ⟨hbm, 5, 0, rfl, rfl, HR.out⟩)
            have hi1 : (i : Int) < ((keysT C (takenS C l)).length : Int) := by omega
            obtain ⟨x, hx⟩ : ∃ x, s[i]? = some x := by
              have h1 := HSL.out
              have h2 := HM.out
              exact ⟨_, List.getElem?_eq_getElem (by omega)⟩
            have hgc := (hg5.tr hb).cell i
            have hgl := (hg5.tr hb).lt
            simp [hx] at hgc
            have hyx : (s.take (i + 1)).any (fun x => true == x) = (y || (true == x)) := by rw [List.take_add_one, hx, List.any_append, hy]; simp
            have hnx : (s.take (i + 1)).any (fun x => false == x) = (n || (false == x)) := by rw [List.take_add_one, hx, List.any_append, hn]; simp
            have HYX := Lib.hid hyx
            have HNX := Lib.hid hnx
            clear hyx hnx hx hy hn
            cases y <;> cases n <;> cases x <;> (
              go_wp2_with fail
              go_roundw
              case rel => exact ⟨i + 1, _, _, by omega, by go_num, rfl, rfl, HYX.out, HNX.out, (by first | exact hb | exact bel)⟩
              case measure => simp [intOf]; omega)
        case rest =>
          obtain ⟨hbf, f, w0, rfl, rfl, hlw⟩ := hcut
          have hbwf : Below w.heap.size w wc := hbwe.trans (hbf.mono hbwe.size)
          have hXf := hXe.tr hbf
          have hBf : B ≤ wc.heap.size := Nat.le_trans hB hbwf.size
          have e1 := HLW.out.symm.trans hlw
          injection e1 with e2 e3
          subst e2 e3
          clear hbf hXe hbwe hBe HKE HEND HK256 HKL hst hlw
          go_wp2_with fail
          go_loopw [26] (fun vi wr => ∃ i : Nat, i ≤ n1 ∧ vi = .int .i64 i ∧ Below wc.heap.size wc wr) (fun vi _ => n1 - (intOf vi).toNat)
          case atStart => exact ⟨0, by omega, rfl, Below.refl _ _⟩
          case round => as_aux_lemma =>
            obtain ⟨i, hi, rfl, hb⟩ := hrel
            have hb03 : Below w.heap.size w wr := hbwf.trans (hb.mono hbwf.size)
            have hBr : B ≤ wr.heap.size := Nat.le_trans hB hb03.size
            have hX := hXf.tr hb
            by_cases hlt : i < n1
            case neg =>
              obtain rfl : n1 = i := by omega
              go_wp2_with (go_at_call 6; refine (awake16_true _).mono ?_; rintro e w9 ⟨rfl, hb9⟩)
              go_ret
              exact ⟨rfl, bel⟩
            have hi1 : (i : Int) < (n1 : Int) := by omega
            have hi2 : (i : Int) + 1 ≤ (c1 : Int) := by omega
            obtain ⟨b, off, A', m, c', o, rfl, hab, ho, h0, h1, hpo⟩ := (HL.out.below (hb03.mono hB)).at_ hlt
            have hbw : b < wr.heap.size := by omega
            have hm1 : m ≤ 400 := by rw [← hpo.1]; exact G4.out o (List.mem_of_getElem? ho)
            obtain ⟨ok, ol⟩ := o
            simp only at h0 h1 hpo
            have hMk := fun (W : World) (hW : Below wr.heap.size wr W) => HMK.out W (hb03.trans (hW.mono hb03.size)) m c' ok A' ol (hpo.tr hW hBr) hm1
            have hfm := HCA.out.form ⟨ok, ol⟩
            rw [HCM.out] at hMk
            have HO := Lib.hid ho
            clear ho hpo
            have cX := hX.cell
            have lX := hX.lt
            have x0 := cX 0
            have x1 := cX 1
            have x2 := cX 2
            have x3 := cX 3
            simp at x0 x1 x2 x3
            clear cX hX
            obtain ⟨Y, hY⟩ : ∃ Y, (C.make ⟨ok, ol⟩).2 = Y := ⟨_, rfl⟩
            rw [hY] at hMk hfm
            have v1 : IntKind.i64.wrap ((i : Int) + 1) = (i : Int) + 1 := IntWalk.i64_in _ ⟨by omega, by omega⟩
            have v2 : (0 : Int) ≤ (i : Int) + 1 := by omega
            have v3 : ((i : Int) + 1).toNat = i + 1 := by omega
            have v4 : ¬ c1 = i := by omega
            have v5 : i + 1 - i = 1 := by omega
            by_cases hck : ckOb ⟨ok, ol⟩ = 0
            case neg =>
              obtain ⟨t9, u9, he⟩ : ∃ t u, errV (ckOb ⟨ok, ol⟩) = .iface t u := by rw [errV_pos hck]; exact ⟨_, _, rfl⟩
              rw [he] at hMk
              have HMk := Lib.hid hMk
              clear hMk hY hck hfm he
              go_wp2_with fail
              refine wp_region_belowI (by kernel_rfl) (by kernel_rfl) (fun _ _ d _ _ h => by cases d <;> exact h) ?_
              simp only [List.map_cons, List.map_nil, List.getD_cons_zero, List.getD_cons_succ, bare, gslot, List.getElem?_cons_zero, List.getElem?_cons_succ, Option.bind_some]
              repeat' ((try simp only [Act.put, List.setIfInBounds_toArray, List.set_cons_zero, List.set_cons_succ]); first | (refine lexL_quiet (v := ?_) wantB_none rfl ?_ ?_; rotate_left; focus (intro wq hq; obtain ⟨hcq, hfq⟩ := bcell hq; go_simp; try with_reducible rfl)) | (refine lexL_loud wantB_none rfl (fun K hK => ?_); go_simp; ((first | (go_at_call 9; (with_reducible refine (HMk.out _ bel).mono ?_); rintro e w6 ⟨s6, rfl, ho6, hb6⟩; obtain ⟨A6, c6, rfl, z1, z2, z3, z4⟩ := bys_of_own2 ho6; have HO6 := Lib.hid ho6; have HY6 := Lib.hid z1; have HZ6 := Lib.hid z3; clear ho6 z1 z2 z3) | skip) <;> (refine hK.out _ _ bel ?_; clear hK K))) | (refine lexL_on ?_ ?_; focus (simp only [List.getElem?_toArray, List.getElem?_cons_succ, List.getElem?_cons_zero, Bool.not_true, Bool.not_false]; done)) | (refine lexL_off ?_ ?_ ?_; (focus (simp only [List.getElem?_toArray, List.getElem?_cons_succ, List.getElem?_cons_zero, Bool.not_true, Bool.not_false]; done)); (focus (exact bel))) | (refine lexL_splitS (X := ?_) ?_ ?_ (fun hg => ?_) (fun hg => ?_); rotate_left; (focus (simp only [List.getElem?_toArray, List.getElem?_cons_succ, List.getElem?_cons_zero]; with_reducible rfl)); (focus (exact bel)); all_goals (try simp only [Bool.not_true, Bool.not_false] at hg)))
              (all_goals try simp only [Act.put, List.setIfInBounds_toArray, List.set_cons_zero, List.set_cons_succ]); all_goals (refine lexL_nil ?_)
              have hb6' : Below wr.heap.size wr w6 := (by clear hb; exact bel)
              clear hb6
              go_wp2_with fail
              refine wp_region_below [0, 1, 2, 3, 4, 5, 6, 7, 8, 9, 10, 11, 12, 14, 15, 16, 17, 18, 19, 20, 21, 22, 13, 23, 24, 25, 26] (by kernel_rfl) (by kernel_rfl) (fun _ _ d _ _ h => by cases d <;> exact h) ?_
              simp only [List.map_cons, List.map_nil, List.getD_cons_zero, List.getD_cons_succ, bare, gslot, List.getElem?_cons_zero, List.getElem?_cons_succ, Option.bind_some]
              repeat' ((try simp only [Act.put, List.setIfInBounds_toArray, List.set_cons_zero, List.set_cons_succ]); first | (refine lexL_on ?_ ?_; focus (simp only [List.getElem?_toArray, List.getElem?_cons_succ, List.getElem?_cons_zero, Bool.not_true, Bool.not_false]; done)) | (refine lexL_off ?_ ?_ ?_; (focus (simp only [List.getElem?_toArray, List.getElem?_cons_succ, List.getElem?_cons_zero, Bool.not_true, Bool.not_false]; done)); (focus (exact bel))) | (refine lexL_void ?_ ?_ ?_; (focus (simp only [List.getElem?_toArray, List.getElem?_cons_succ, List.getElem?_cons_zero, Bool.not_true, Bool.not_false]; done)); (focus (exact bel))) | (refine lexL_splitS (X := ?_) ?_ ?_ (fun hg => ?_) (fun hg => ?_); rotate_left; (focus (simp only [List.getElem?_toArray, List.getElem?_cons_succ, List.getElem?_cons_zero]; with_reducible rfl)); (focus (exact bel)); all_goals (try simp only [Bool.not_true, Bool.not_false] at hg)) | (refine lexL_quiet (v := ?_) wantB_none rfl ?_ ?_; rotate_left; focus (intro wq hq; obtain ⟨hcq, hfq⟩ := bcell hq; go_simp; try with_reducible rfl)) | (refine lexL_loud wantB_none rfl (fun K hK => ?_); go_simp; ((first | (go_at_call 10; skip) | skip) <;> (refine hK.out _ _ bel ?_; clear hK K))))
              (all_goals try simp only [Act.put, List.setIfInBounds_toArray, List.set_cons_zero, List.set_cons_succ]); all_goals (refine lexL_nil ?_)
              go_wp2_with fail
              go_roundw
              case rel => exact ⟨i + 1, by omega, by go_num, hb.trans (Below.mono (by clear hb; exact bel) hb.size)⟩
              case measure => simp [intOf]; omega
            have e0 : errV 0 = .nilIface := rfl
            rw [hck, e0] at hMk
            clear e0
            have hobs := fun (W : World) (hW : Below wr.heap.size wr W) => obs_one (obs_more (HL.out.below ((hb03.trans (hW.mono hb03.size)).mono hB)) (Nat.le_trans hBr hW.size)) HO.out
            have hquv := fun (W : World) (hW : Below wr.heap.size wr W) => qus_more (HQ.out.below ((hb03.trans (hW.mono hb03.size)).mono hB)) (Nat.le_trans hBr hW.size)
            have hptv := fun (W : World) (hW : Below wr.heap.size wr W) => pts_lift (HP.out.below ((hb03.trans (hW.mono hb03.size)).mono hB)) (Nat.le_trans hBr hW.size)
            have hol : ∀ x ∈ [(⟨ok, ol⟩ : Ob)], x.pts.length ≤ 400 := by intro x hx; simp at hx; subst hx; exact G4.out _ (List.mem_of_getElem? HO.out)
            have HCV := Lib.hid (fun (W : World) (A5 : Option Addr) (c5 cs : Nat) (hY5 : BysAt W W.heap.size A5 Y.length Y) (h3 : A5 = none → c5 = 0) (h4 : Y.length ≤ c5) (hW : Below wr.heap.size wr W) => clsCov_any kd bn one brk C HC.out Y hfm.1 hfm.2 W.heap.size c5 1 cs n2 c2 n3 c3 A5 (some ⟨b, off + i * 2, none⟩) A2 A3 [⟨ok, ol⟩] q p W hY5 h4 h3 (hobs W hW) (hquv W hW) (hptv W hW) (Nat.le_refl _) (by decide) (by omega) (by omega) (fun x hx => Nat.le_trans (hol x hx) (by decide)) (fun x hx => Nat.le_trans (G5.out x hx) (by decide)))
            have HCW := Lib.hid (fun (W : World) (A5 : Option Addr) (c5 cs : Nat) (hY5 : BysAt W W.heap.size A5 Y.length Y) (h3 : A5 = none → c5 = 0) (h4 : Y.length ≤ c5) (hW : Below wr.heap.size wr W) => Covers_any 23 (clV kd bn one brk) 31 32 Y (C.cons Y) (C.far Y) HCA.out.mC HCA.out.nC (HCA.out.cons Y hfm.1 hfm.2) HCA.out.mD HCA.out.nD (HCA.out.far Y hfm.1 hfm.2) W.heap.size c5 1 cs n2 c2 n3 c3 A5 (some ⟨b, off + i * 2, none⟩) A2 A3 [⟨ok, ol⟩] q p W hY5 h4 h3 hfm.2 (hobs W hW) (hquv W hW) (hptv W hW) (Nat.le_refl _) (by decide) (by omega) (by omega) (fun x hx => Nat.le_trans (hol x hx) (by decide)) (fun x hx => Nat.le_trans (G5.out x hx) (by decide)))
            have hcv : covN (C.cons Y) (C.far Y) [⟨ok, ol⟩] q p = 0 ↔ (asksS (C.cons Y) [⟨ok, ol⟩] q && nearsS (C.far Y) [⟨ok, ol⟩] p) = true := by
              unfold covN
              cases asksS (C.cons Y) [⟨ok, ol⟩] q <;> cases nearsS (C.far Y) [⟨ok, ol⟩] p <;> simp
            generalize covN (C.cons Y) (C.far Y) [⟨ok, ol⟩] q p = r at *
            generalize (asksS (C.cons Y) [⟨ok, ol⟩] q && nearsS (C.far Y) [⟨ok, ol⟩] p) = cv at *
            have HMk := Lib.hid hMk
            clear hMk hY hck hfm hobs hquv hptv hol
            go_wp2_with fail
            refine wp_region_belowI (by kernel_rfl) (by kernel_rfl) (fun _ _ d _ _ h => by cases d <;> exact h) ?_
            simp only [List.map_cons, List.map_nil, List.getD_cons_zero, List.getD_cons_succ, bare, gslot, List.getElem?_cons_zero, List.getElem?_cons_succ, Option.bind_some]
            repeat' ((try simp only [Act.put, List.setIfInBounds_toArray, List.set_cons_zero, List.set_cons_succ]); first | (refine lexL_quiet (v := ?_) wantB_none rfl ?_ ?_; rotate_left; focus (intro wq hq; obtain ⟨hcq, hfq⟩ := bcell hq; go_simp; try with_reducible rfl)) | (refine lexL_loud wantB_none rfl (fun K hK => ?_); go_simp; ((first | (go_at_call 9; (with_reducible refine (HMk.out _ bel).mono ?_); rintro e w6 ⟨s6, rfl, ho6, hb6⟩; obtain ⟨A6, c6, rfl, z1, z2, z3, z4⟩ := bys_of_own2 ho6; have HO6 := Lib.hid ho6; have HY6 := Lib.hid z1; have HZ6 := Lib.hid z3; clear ho6 z1 z2 z3) | skip) <;> (refine hK.out _ _ bel ?_; clear hK K))) | (refine lexL_on ?_ ?_; focus (simp only [List.getElem?_toArray, List.getElem?_cons_succ, List.getElem?_cons_zero, Bool.not_true, Bool.not_false]; done)) | (refine lexL_off ?_ ?_ ?_; (focus (simp only [List.getElem?_toArray, List.getElem?_cons_succ, List.getElem?_cons_zero, Bool.not_true, Bool.not_false]; done)); (focus (exact bel))) | (refine lexL_splitS (X := ?_) ?_ ?_ (fun hg => ?_) (fun hg => ?_); rotate_left; (focus (simp only [List.getElem?_toArray, List.getElem?_cons_succ, List.getElem?_cons_zero]; with_reducible rfl)); (focus (exact bel)); all_goals (try simp only [Bool.not_true, Bool.not_false] at hg)))
            (all_goals try simp only [Act.put, List.setIfInBounds_toArray, List.set_cons_zero, List.set_cons_succ]); all_goals (refine lexL_nil ?_)
            have hb6' : Below wr.heap.size wr w6 := (by clear hb; exact bel)
            have hb6z := hb6'.size
            obtain ⟨hc6, hf6⟩ := bcell hb6'
            have lX6 : w.heap.size < w6.heap.size := by omega
            have hbw6 : b < w6.heap.size := by omega
            clear hb6
            cases cv
            case false =>
              have hr : ¬ r = 0 := fun h => by have := hcv.1 h; cases this
              have hr2 : (((r : Nat) : Int) == 0) = false := by rw [beq_eq_false_iff_ne]; omega
              clear hcv
              go_wp2_with fail
              refine wp_region_below [0, 1, 2, 3, 4, 5, 6, 7, 8, 9, 10, 11, 12, 14, 15, 16, 17, 18, 19, 20, 21, 22, 13, 23, 24, 25, 26] (by kernel_rfl) (by kernel_rfl) (fun _ _ d _ _ h => by cases d <;> exact h) ?_
              simp only [List.map_cons, List.map_nil, List.getD_cons_zero, List.getD_cons_succ, bare, gslot, List.getElem?_cons_zero, List.getElem?_cons_succ, Option.bind_some]
              repeat' ((try simp only [Act.put, List.setIfInBounds_toArray, List.set_cons_zero, List.set_cons_succ]); first | (refine lexL_on ?_ ?_; focus (simp only [List.getElem?_toArray, List.getElem?_cons_succ, List.getElem?_cons_zero, Bool.not_true, Bool.not_false]; done)) | (refine lexL_off ?_ ?_ ?_; (focus (simp only [List.getElem?_toArray, List.getElem?_cons_succ, List.getElem?_cons_zero, Bool.not_true, Bool.not_false]; done)); (focus (exact bel))) | (refine lexL_void ?_ ?_ ?_; (focus (simp only [List.getElem?_toArray, List.getElem?_cons_succ, List.getElem?_cons_zero, Bool.not_true, Bool.not_false]; done)); (focus (exact bel))) | (refine lexL_splitS (X := ?_) ?_ ?_ (fun hg => ?_) (fun hg => ?_); rotate_left; (focus (simp only [List.getElem?_toArray, List.getElem?_cons_succ, List.getElem?_cons_zero]; with_reducible rfl)); (focus (exact bel)); all_goals (try simp only [Bool.not_true, Bool.not_false] at hg)) | (refine lexL_quiet (v := ?_) wantB_none rfl ?_ ?_; rotate_left; focus (intro wq hq; obtain ⟨hcq, hfq⟩ := bcell hq; go_simp; try with_reducible rfl)) | (refine lexL_loud wantB_none rfl (fun K hK => ?_); go_simp; ((first | (go_at_call 13; (with_reducible refine (HCW.out _ A6 c6 _ ((HY6.out.tr bel (Nat.le_refl _)).more (Below.size (B := w6.heap.size) bel)) HZ6.out z4 (by clear hb; exact bel)).mono ?_); rintro e w7 ⟨rfl, hb7⟩; obtain ⟨hc7, hf7⟩ := bcell hb7; have hb7z := hb7.size; (try simp at hb7z); have lX7 : w.heap.size < w7.heap.size := (by omega)) | (go_at_call 10; (with_reducible refine (HCV.out _ A6 c6 _ ((HY6.out.tr bel (Nat.le_refl _)).more (Below.size (B := w6.heap.size) bel)) HZ6.out z4 (by clear hb; exact bel)).mono ?_); rintro e w8 ⟨rfl, hb8⟩) | skip) <;> (refine hK.out _ _ bel ?_; clear hK K))))
              (all_goals try simp only [Act.put, List.setIfInBounds_toArray, List.set_cons_zero, List.set_cons_succ]); all_goals (refine lexL_nil ?_)
              go_wp2_with fail
              go_roundw
              case rel => exact ⟨i + 1, by omega, by go_num, hb.trans (Below.mono (by clear hb; exact bel) hb.size)⟩
              case measure => simp [intOf]; omega
            have hr : r = 0 := hcv.2 rfl
            subst hr
            clear hcv
            go_wp2_with fail
            refine wp_region_below [0, 1, 2, 3, 4, 5, 6, 7, 8, 9, 10, 11, 12, 14, 15, 16, 17, 18, 19, 20, 21, 22, 13, 23, 24, 25, 26] (by kernel_rfl) (by kernel_rfl) (fun _ _ d _ _ h => by cases d <;> exact h) ?_
            simp only [List.map_cons, List.map_nil, List.getD_cons_zero, List.getD_cons_succ, bare, gslot, List.getElem?_cons_zero, List.getElem?_cons_succ, Option.bind_some]
            repeat' ((try simp only [Act.put, List.setIfInBounds_toArray, List.set_cons_zero, List.set_cons_succ]); first | (refine lexL_on ?_ ?_; focus (simp only [List.getElem?_toArray, List.getElem?_cons_succ, List.getElem?_cons_zero, Bool.not_true, Bool.not_false]; done)) | (refine lexL_off ?_ ?_ ?_; (focus (simp only [List.getElem?_toArray, List.getElem?_cons_succ, List.getElem?_cons_zero, Bool.not_true, Bool.not_false]; done)); (focus (exact bel))) | (refine lexL_void ?_ ?_ ?_; (focus (simp only [List.getElem?_toArray, List.getElem?_cons_succ, List.getElem?_cons_zero, Bool.not_true, Bool.not_false]; done)); (focus (exact bel))) | (refine lexL_splitS (X := ?_) ?_ ?_ (fun hg => ?_) (fun hg => ?_); rotate_left; (focus (simp only [List.getElem?_toArray, List.getElem?_cons_succ, List.getElem?_cons_zero]; with_reducible rfl)); (focus (exact bel)); all_goals (try simp only [Bool.not_true, Bool.not_false] at hg)) | (refine lexL_quiet (v := ?_) wantB_none rfl ?_ ?_; rotate_left; focus (intro wq hq; obtain ⟨hcq, hfq⟩ := bcell hq; go_simp; try with_reducible rfl)) | (refine lexL_loud wantB_none rfl (fun K hK => ?_); go_simp; ((first | (go_at_call 13; (with_reducible refine (HCW.out _ A6 c6 _ ((HY6.out.tr bel (Nat.le_refl _)).more (Below.size (B := w6.heap.size) bel)) HZ6.out z4 (by clear hb; exact bel)).mono ?_); rintro e w7 ⟨rfl, hb7⟩; obtain ⟨hc7, hf7⟩ := bcell hb7; have hb7z := hb7.size; (try simp at hb7z); have lX7 : w.heap.size < w7.heap.size := (by omega)) | (go_at_call 10; (with_reducible refine (HCV.out _ A6 c6 _ ((HY6.out.tr bel (Nat.le_refl _)).more (Below.size (B := w6.heap.size) bel)) HZ6.out z4 (by clear hb; exact bel)).mono ?_); rintro e w8 ⟨rfl, hb8⟩) | skip) <;> (refine hK.out _ _ bel ?_; clear hK K))))
            (all_goals try simp only [Act.put, List.setIfInBounds_toArray, List.set_cons_zero, List.set_cons_succ]); all_goals (refine lexL_nil ?_)
            go_wp2_with fail
            go_roundw
            case rel => exact ⟨i + 1, by omega, by go_num, hb.trans (Below.mono (by clear hb; exact bel) hb.size)⟩
            case measure => simp [intOf]; omega
end Go.Proofs.YtahiaekoaokgnaaGreat
