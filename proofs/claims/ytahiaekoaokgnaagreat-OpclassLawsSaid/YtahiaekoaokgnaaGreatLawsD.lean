/-
  opclass.Laws of whatever class: which law is broken first, and where.
-/
import Derived.Test.YtahiaekoaokgnaaGreatLawsA
import Derived.Test.YtahiaekoaokgnaaGreatUnA
set_option linter.unusedSimpArgs false
set_option linter.unusedVariables false
namespace Go.Proofs.YtahiaekoaokgnaaGreat
open Go.RowKit Pg
theorem firstS_next {f : Ob → Nat} {l : List Ob} {i : Nat} {o : Ob} (h : firstS f (l.take i) 0 = none) (ho : l[i]? = some o) (hf : f o = 0) : firstS f (l.take (i + 1)) 0 = none := by
  rw [List.take_add_one, ho, firstS_append, h]
  simp [firstS, hf]
theorem firstS_here {f : Ob → Nat} {l : List Ob} {i : Nat} {o : Ob} (h : firstS f (l.take i) 0 = none) (ho : l[i]? = some o) (hf : f o ≠ 0) : firstS f l 0 = some (f o, i) := by
  have hi : i < l.length := by
    rcases Nat.lt_or_ge i l.length with h' | h'
    · exact h'
    · rw [List.getElem?_eq_none h'] at ho; cases ho
  have e : l = l.take i ++ (o :: l.drop (i + 1)) := by
    have h1 := List.drop_eq_getElem_cons hi
    rw [List.getElem?_eq_getElem hi] at ho
    injection ho with ho
    rw [ho] at h1
    rw [← h1, List.take_append_drop]
  have hl : (l.take i).length = i := by rw [List.length_take]; omega
  calc firstS f l 0 = firstS f (l.take i ++ (o :: l.drop (i + 1))) 0 := by rw [← e]
    _ = some (f o, i) := by
      rw [firstS_append, h]
      simp only
      rw [hl, Nat.zero_add, firstS, if_neg hf]
theorem firstS_done {f : Ob → Nat} {l : List Ob} {n : Nat} (hn : l.length = n) (h : firstS f (l.take n) 0 = none) : firstS f l 0 = none := by
  rw [List.take_of_length_le (by omega)] at h
  exact h
theorem takenS_yes {C : Cl} {l : List Ob} {i : Nat} {o : Ob} (h : l[i]? = some o) (hm : (C.make o).1 = 0) : takenS C (l.take (i + 1)) = takenS C (l.take i) ++ [o] := by
  unfold takenS
  rw [List.take_add_one, h, List.filter_append]
  simp [hm]
theorem takenS_no {C : Cl} {l : List Ob} {i : Nat} {o : Ob} (h : l[i]? = some o) (hm : (C.make o).1 ≠ 0) : takenS C (l.take (i + 1)) = takenS C (l.take i) := by
  unfold takenS
  rw [List.take_add_one, h, List.filter_append]
  simp [hm]
theorem takenS_len (C : Cl) (l : List Ob) (i : Nat) : (takenS C (l.take i)).length ≤ i := by
  unfold takenS
  exact Nat.le_trans (List.length_filter_le _ _) (by simp; omega)
theorem takenS_mem {C : Cl} {l : List Ob} {o : Ob} (h : o ∈ takenS C l) : o ∈ l := by
  unfold takenS at h
  exact (List.mem_filter.1 h).1
def keysT (C : Cl) (T : List Ob) : List (List Nat) := T.map fun o => (C.make o).2
theorem keysT_len (C : Cl) (T : List Ob) : (keysT C T).length = T.length := by unfold keysT; simp
theorem keysT_snoc (C : Cl) (T : List Ob) (o : Ob) : keysT C (T ++ [o]) = keysT C T ++ [(C.make o).2] := by unfold keysT; simp
/-- one object in a block of its own -/
theorem obs_blk {w : World} {g m c : Nat} {k : Int} {A : Option Addr} {l : List Pt} (h : Blk w g 34 #[.int .i64 k, .slice A m c]) (hp : PtsAt w w.heap.size A m l) : ObsAt w w.heap.size (some ⟨g, 0, none⟩) 1 [⟨k, l⟩] := by
  refine ⟨rfl, fun _ => ⟨g, 0, rfl, h.lt, fun j o ho => ?_⟩⟩
  match j, ho with
  | 0, ho =>
    simp at ho
    subst ho
    exact ⟨A, m, c, by rw [h.cell]; rfl, by rw [h.cell]; rfl, hp⟩
  | j + 1, ho => simp at ho
theorem own_bysD {w : World} {base n c : Nat} {e : TypeId} {A : Option Addr} {l : List Nat} (h : w.ownsRow base e 1 (.slice A n c) n (ycells l)) : BysAt w w.heap.size A n l := by
  obtain ⟨A', c', e, hB, _⟩ := bys_of_own h
  injection e with e1 e2 e3
  rw [e1]
  exact hB
theorem slice_oneD {A : Option Addr} {n c : Nat} : ∀ v ∈ [Value.slice A n c], v.oneCell' = true := by simp [Value.oneCell']
theorem obj_oneD {k : Int} {A : Option Addr} {n c : Nat} : ∀ v ∈ [Value.int .i64 k, Value.slice A n c], v.oneCell' = true := by simp [Value.oneCell']
theorem cell_oneD {w : World} {x : Value} {t : TypeId} : ∀ (j : Nat) (v : Value), [x][j]? = some v → (w.alloc (.cells #[x] t)).cell? ((⟨w.heap.size, 0, none⟩ : Addr).add j) = some v := by
  intro j v hj
  match j, hj with
  | 0, hj => simp at hj; subst hj; simp [Addr.add]
theorem cell_twoD {w : World} {x y : Value} {t : TypeId} : ∀ (j : Nat) (v : Value), [x, y][j]? = some v → (w.alloc (.cells #[x, y] t)).cell? ((⟨w.heap.size, 0, none⟩ : Addr).add j) = some v := by
  intro j v hj
  match j, hj with
  | 0, hj => simp at hj; subst hj; simp [Addr.add]
  | 1, hj => simp at hj; subst hj; simp [Addr.add]
set_option maxHeartbeats 8000000 in
set_option maxRecDepth 20000 in
theorem laws_any (t : TypeId) (rv : Value) (C : Cl) (fM fC fD fU fS : Nat) (hC : ClAt t rv C fM fC fD fU fS)
    (B n1 c1 n2 c2 n3 c3 : Nat) (A1 A2 A3 : Option Addr) (l : List Ob) (q : List Qu) (p : List Pt) (w : World) (hl : ObsAt w B A1 n1 l) (hq : QusAt w B A2 n2 q) (hp : PtsAt w B A3 n3 p) (hB : B ≤ w.heap.size)
    (hn1 : n1 ≤ 10000) (hn2 : n2 ≤ 10000) (hn3 : n3 ≤ 10000) (hlo : ∀ o ∈ l, o.pts.length ≤ 10000) (hqo : ∀ x ∈ q, x.ring.length ≤ 10000) :
    Calls Tryz.prog 7 #[.iface t rv, .slice A1 n1 c1, .slice A2 n2 c2, .slice A3 n3 c3] w (Ret w (.tuple #[.int .i64 (lawsS C l q p).1, .int .i64 (lawsS C l q p).2])) := by
  have hl1 := hl.1
  have HL := Lib.hid hl
  have HQ := Lib.hid hq
  have HP := Lib.hid hp
  have HLO := Lib.hid hlo
  have HQO := Lib.hid hqo
  have mM := hC.mM
  have mU := hC.mU
  have eM := hC.eM
  have eU := hC.eU
  have HC := Lib.hid hC
  clear hl hq hp hlo hqo hC
  go_enter Tryz.func7, Tryz.ntmps7
  go_wp2_with fail
  go_loopw [25] (fun vi wr => ∃ i : Nat, i ≤ n1 ∧ vi = .int .i64 i ∧ firstS (longS C) (l.take i) 0 = none ∧ Below w.heap.size w wr) (fun vi _ => n1 - (intOf vi).toNat)
  case atStart => exact ⟨0, by omega, rfl, rfl, bel⟩
  case round =>
    obtain ⟨i, hi, rfl, hf, hb⟩ := hrel
    have hbz := hb.size
    by_cases hlt : i < n1
    case neg =>
      obtain rfl : n1 = i := by omega
      have HF1 := Lib.hid (firstS_done hl1 hf)
      clear hf
      refine keep_world (R := fun w2 => Below w.heap.size w w2) bel ?_
      clear hb hbz
      intro w3 hb3
      go_wp2_with fail
      go_loopw [14, 15, 52] (fun vt vk vi w2 => ∃ i : Nat, i ≤ n1 ∧ vi = .int .i64 i ∧ KeysAt w2 w3.heap.size vk (keysT C (takenS C (l.take i))) ∧ TakAt w2 w3.heap.size B vt (takenS C (l.take i)) ∧ firstS (alone C q p) (l.take i) 0 = none ∧ Below w3.heap.size w3 w2) (fun _ _ vi _ => n1 - (intOf vi).toNat)
      case atStart => exact ⟨0, by omega, rfl, KeysAt.nil _ _, TakAt.nil _ _ _, rfl, Below.refl _ _⟩
      case round =>
        obtain ⟨i, hi, rfl, hK, hT, hf, hb⟩ := hrel
        have hb03 : Below w.heap.size w wr := hb3.trans (hb.mono hb3.size)
        have hBr : B ≤ wr.heap.size := Nat.le_trans hB hb03.size
        have hTl := takenS_len C l i
        by_cases hlt : i < n1
        case neg =>
          obtain rfl : n1 = i := by omega
          have HF2 := Lib.hid (firstS_done hl1 hf)
          rw [List.take_of_length_le (by omega)] at hK hT hTl
          have hK256 : ∀ x ∈ keysT C (takenS C l), (∀ y ∈ x, y < 256) ∧ x.length ≤ 1000000 := fun x hx => by
            unfold keysT at hx
            obtain ⟨o, _, rfl⟩ := List.mem_map.1 hx
            exact HC.out.form o
          have hmem : ∀ o ∈ takenS C l, o ∈ l := fun o h => takenS_mem h
          have hend : lawsS C l q p = if 0 < (keysT C (takenS C l)).length ∧ (decide ((C.un (keysT C (takenS C l))).length ≤ 64) && (asksS (C.cons (C.un (keysT C (takenS C l)))) (takenS C l) q && nearsS (C.far (C.un (keysT C (takenS C l)))) (takenS C l) p)) = false then (4, 0)
              else if 1 < (keysT C (takenS C l)).length ∧ splitOkS (keysT C (takenS C l)) (C.split (keysT C (takenS C l))) = false then (5, 0) else (0, -1) := by
            unfold lawsS
            rw [HF1.out, HF2.out]
            rfl
          have hKl := keysT_len C (takenS C l)
          generalize keysT C (takenS C l) = K at *
          generalize takenS C l = T at *
          obtain ⟨Ak, ck, rfl, hR⟩ := rbs_of_keys hK
          obtain ⟨At, ct, rfl, hO, hct⟩ := obs_of_tak hT hBr
          clear hK hT
          have hUn := fun (W : World) (hW : Below wr.heap.size wr W) => HC.out.un W wr.heap.size ck Ak K (hR.tr hW (Nat.le_refl _)) hW.size (by omega) (fun x hx => (hK256 x hx).1) (fun x hx => (hK256 x hx).2)
          have hSpA := HC.out.split K (by omega) (fun x hx => (hK256 x hx).1) (fun x hx => (hK256 x hx).2)
          have hSp := fun (W : World) (hW : Below wr.heap.size wr W) => opsplit_any t rv fS K (C.split K) HC.out.mS hSpA wr.heap.size ck Ak W (hR.tr hW (Nat.le_refl _)) hW.size
          have hfU := HC.out.formU K (fun x hx => (hK256 x hx).1) (fun x hx => (hK256 x hx).2)
          obtain ⟨U, hU⟩ : ∃ U, C.un K = U := ⟨_, rfl⟩
          rw [hU] at hUn hend hfU
          have hC1 := HC.out.cons U hfU.1 hfU.2
          have hD1 := HC.out.far U hfU.1 hfU.2
          have hCv := fun (W : World) A5 c5 (h1 : BysAt W W.heap.size A5 U.length U) (h2 : U.length ≤ c5) (h3 : A5 = none → c5 = 0) (h5 : Below wr.heap.size wr W) => Covers_any t rv fC fD U (C.cons U) (C.far U) HC.out.mC HC.out.nC hC1 HC.out.mD HC.out.nD hD1 W.heap.size c5 T.length ct n2 c2 n3 c3 A5 At A2 A3 T q p W h1 h2 h3 hfU.2 (obs_more (hO.tr h5 (Nat.le_refl _)) h5.size) (qus_more (HQ.out.below ((hb03.trans (h5.mono hb03.size)).mono hB)) (Nat.le_trans hBr h5.size)) (pts_lift (HP.out.below ((hb03.trans (h5.mono hb03.size)).mono hB)) (Nat.le_trans hBr h5.size)) (Nat.le_refl _) (by omega) (by omega) (by omega) (fun o ho => Nat.le_trans (HLO.out o (hmem o ho)) (by decide)) (fun x hx => Nat.le_trans (HQO.out x hx) (by decide))
          obtain ⟨cv, hcv⟩ : ∃ v, (asksS (C.cons U) T q && nearsS (C.far U) T p) = v := ⟨_, rfl⟩
          obtain ⟨sv, hsv⟩ : ∃ v, splitOkS K (C.split K) = v := ⟨_, rfl⟩
          rw [hcv] at hCv hend
          rw [hsv] at hSp hend
          obtain ⟨m, hm⟩ : ∃ m, T.length = m := ⟨_, rfl⟩
          rw [hm] at hKl hCv hTl
          rw [hKl] at hUn hSp hend
          simp only [hKl, hm]
          have HUn := Lib.hid hUn
          have HSp := Lib.hid hSp
          have HCv := Lib.hid hCv
          have HEND := Lib.hid hend
          clear hR hO hUn hSp hCv hend hC1 hD1 hfU hSpA hcv hsv hU hm hK256 hmem hct
          by_cases hm0 : m = 0
          case pos =>
            subst hm0
            have HR : Hid (lawsS C l q p = (0, -1)) := by unfold Hid; rw [HEND.out, if_neg (by simp), if_neg (by simp)]
            rw [HR.out]
            go_wp2_with fail
            go_ret2
            exact ⟨by (try rw [HR.out]); rfl, bel⟩
          have hm1 : (0 : Int) < (m : Int) := by omega
          by_cases hU64 : 64 < U.length
          case pos =>
            have hU64' : (64 : Int) < (U.length : Int) := by omega
            have HR : Hid (lawsS C l q p = (4, 0)) := by unfold Hid; rw [HEND.out, if_pos ⟨by omega, by rw [decide_eq_false (by omega)]; rfl⟩]
            rw [HR.out]
            go_wp2_with ((refine (HUn.out _ bel).mono ?_); rintro e w5 ⟨s5, rfl, ho5, hb5⟩; obtain ⟨A5, c5, rfl, hy5, y2, y3, y4⟩ := bys_of_own2 ho5; clear ho5; have hb5r : Below wr.heap.size wr w5 := (by clear hb; exact bel))
            go_ret2
            exact ⟨by (try rw [HR.out]); rfl, bel⟩
          have hU64' : ¬ (64 : Int) < (U.length : Int) := by omega
          cases cv
          case false =>
            have HR : Hid (lawsS C l q p = (4, 0)) := by unfold Hid; rw [HEND.out, if_pos ⟨by omega, by simp⟩]
            rw [HR.out]
            go_wp2_with (first | (go_at_call 13; (with_reducible refine (HCv.out w5 A5 c5 hy5 y4 y3 hb5r).mono ?_); rintro e w6 ⟨rfl, hb6⟩) | ((refine (HUn.out _ bel).mono ?_); rintro e w5 ⟨s5, rfl, ho5, hb5⟩; obtain ⟨A5, c5, rfl, hy5, y2, y3, y4⟩ := bys_of_own2 ho5; clear ho5; have hb5r : Below wr.heap.size wr w5 := (by clear hb; exact bel)))
            go_ret2
            exact ⟨by (try rw [HR.out]); rfl, bel⟩
          have hno4 : ¬ (0 < m ∧ (decide (U.length ≤ 64) && true) = false) := fun h => by
            rw [decide_eq_true (by omega : U.length ≤ 64)] at h
            cases h.2
          by_cases hm2 : 1 < m
          case neg =>
            have hm2' : ¬ (1 : Int) < (m : Int) := by omega
            have HR : Hid (lawsS C l q p = (0, -1)) := by unfold Hid; rw [HEND.out, if_neg hno4, if_neg (fun h => hm2 h.1)]
            rw [HR.out]
            clear hno4
            go_wp2_with (first | (go_at_call 13; (with_reducible refine (HCv.out w5 A5 c5 hy5 y4 y3 hb5r).mono ?_); rintro e w6 ⟨rfl, hb6⟩) | ((refine (HUn.out _ bel).mono ?_); rintro e w5 ⟨s5, rfl, ho5, hb5⟩; obtain ⟨A5, c5, rfl, hy5, y2, y3, y4⟩ := bys_of_own2 ho5; clear ho5; have hb5r : Below wr.heap.size wr w5 := (by clear hb; exact bel)))
            go_ret2
            exact ⟨by (try rw [HR.out]); rfl, bel⟩
          have hm2' : (1 : Int) < (m : Int) := by omega
          cases sv
          case false =>
            have HR : Hid (lawsS C l q p = (5, 0)) := by unfold Hid; rw [HEND.out, if_neg hno4, if_pos ⟨hm2, rfl⟩]
            rw [HR.out]
            clear hno4
            go_wp2_with (first | (go_at_call 13; (with_reducible refine (HCv.out w5 A5 c5 hy5 y4 y3 hb5r).mono ?_); rintro e w6 ⟨rfl, hb6⟩) | (go_at_call 23; (with_reducible refine (HSp.out _ (by clear hb; exact bel)).mono ?_); rintro e w7 ⟨rfl, hb7⟩) | ((refine (HUn.out _ bel).mono ?_); rintro e w5 ⟨s5, rfl, ho5, hb5⟩; obtain ⟨A5, c5, rfl, hy5, y2, y3, y4⟩ := bys_of_own2 ho5; clear ho5; have hb5r : Below wr.heap.size wr w5 := (by clear hb; exact bel)))
            go_ret2
            exact ⟨by (try rw [HR.out]); rfl, bel⟩
          have HR : Hid (lawsS C l q p = (0, -1)) := by unfold Hid; rw [HEND.out, if_neg hno4, if_neg (fun h => by cases h.2)]
          rw [HR.out]
          clear hno4
          go_wp2_with (first | (go_at_call 13; (with_reducible refine (HCv.out w5 A5 c5 hy5 y4 y3 hb5r).mono ?_); rintro e w6 ⟨rfl, hb6⟩) | (go_at_call 23; (with_reducible refine (HSp.out _ (by clear hb; exact bel)).mono ?_); rintro e w7 ⟨rfl, hb7⟩) | ((refine (HUn.out _ bel).mono ?_); rintro e w5 ⟨s5, rfl, ho5, hb5⟩; obtain ⟨A5, c5, rfl, hy5, y2, y3, y4⟩ := bys_of_own2 ho5; clear ho5; have hb5r : Below wr.heap.size wr w5 := (by clear hb; exact bel)))
          go_ret2
          exact ⟨by (try rw [HR.out]); rfl, bel⟩
        have hi1 : (i : Int) < (n1 : Int) := by omega
        obtain ⟨b, off, A', m, c', o, rfl, hab, ho, h0, h1, hpo⟩ := (HL.out.below (hb03.mono hB)).at_ hlt
        have hbw : b < wr.heap.size := by omega
        have hm1 : m ≤ 10000 := by rw [← hpo.1]; exact HLO.out o (List.mem_of_getElem? ho)
        obtain ⟨ok, ol⟩ := o
        simp only at h0 h1 hpo
        have HMk := Lib.hid (fun W (hW : Below wr.heap.size wr W) => HC.out.make W B m c' ok A' ol (hpo.tr hW hBr) (Nat.le_trans hBr hW.size) (by omega))
        obtain ⟨T, hTe⟩ : ∃ T, takenS C (l.take i) = T := ⟨_, rfl⟩
        rw [hTe] at hK hT hTl
        have HO := Lib.hid ho
        have HF := Lib.hid hf
        have HPO := Lib.hid hpo
        have HKK := Lib.hid hK
        have HTT := Lib.hid hT
        have hyes := fun h => (takenS_yes (C := C) ho h).trans (by rw [hTe])
        have hno := fun h => (takenS_no (C := C) ho h).trans hTe
        have hfm := HC.out.form ⟨ok, ol⟩
        have hal : alone C q p ⟨ok, ol⟩ = if (C.make ⟨ok, ol⟩).1 ≠ 0 then 0 else if asksS (C.cons (C.make ⟨ok, ol⟩).2) [⟨ok, ol⟩] q = false then 2 else if nearsS (C.far (C.make ⟨ok, ol⟩).2) [⟨ok, ol⟩] p = false then 3 else 0 := rfl
        have hkT := keysT_snoc C T ⟨ok, ol⟩
        obtain ⟨mk, hmk⟩ : ∃ x, C.make ⟨ok, ol⟩ = x := ⟨_, rfl⟩
        rw [hmk] at HMk hfm hal hkT hyes hno
        obtain ⟨me, Y⟩ := mk
        simp only at HMk hfm hal hkT hyes hno
        have HYES := Lib.hid hyes
        have HNO := Lib.hid hno
        have HKT := Lib.hid hkT
        clear ho hf hpo hK hT hTe hyes hno hkT
        by_cases hme : me = 0
        case neg =>
          have HAL : Hid (alone C q p ⟨ok, ol⟩ = 0) := by unfold Hid; rw [hal, if_pos hme]
          clear hal hmk
          go_wp2_with ((refine (HMk.out _ bel).mono ?_); rintro e w5 ⟨s5, v5, rfl, ho5, hz5, hn5, hb5⟩; obtain ⟨t5, u5, rfl⟩ := hn5 hme; clear ho5 hz5 hn5)
          have hbn : Below wr.heap.size wr _ := bel
          go_roundw
          case rel => exact ⟨i + 1, by omega, by go_num, by rw [HNO.out hme]; exact HKK.out.below (by clear hb; exact bel), by rw [HNO.out hme]; exact HTT.out.below (by clear hb; exact bel) hBr, firstS_next HF.out HO.out HAL.out, bel⟩
          case measure => simp [intOf]; omega
        subst hme
        rw [if_neg (by simp)] at hal
        have hC1 := HC.out.cons Y hfm.1 hfm.2
        have hD1 := HC.out.far Y hfm.1 hfm.2
        have HAs := Lib.hid (fun (W : World) A5 c5 g (h1 : BysAt W W.heap.size A5 Y.length Y) (h2 : Y.length ≤ c5) (h3 : A5 = none → c5 = 0) (h4 : Blk W g 34 #[.int .i64 ok, .slice A' m c']) (h5 : Below wr.heap.size wr W) => asks_any t rv fC Y (C.cons Y) HC.out.mC HC.out.nC hC1 W.heap.size c5 1 1 n2 c2 A5 (some ⟨g, 0, none⟩) A2 [⟨ok, ol⟩] q W h1 h2 h3 hfm.2 (obs_blk h4 (pts_lift (HPO.out.tr h5 hBr) (Nat.le_trans hBr h5.size))) (qus_more (HQ.out.below ((hb03.trans (h5.mono hb03.size)).mono hB)) (Nat.le_trans hBr h5.size)) (Nat.le_refl _) (by decide) (by omega) (by intro x hx; simp at hx; subst hx; show ol.length ≤ _; rw [HPO.out.1]; omega) (fun x hx => Nat.le_trans (HQO.out x hx) (by decide)))
        have HNr := Lib.hid (fun (W : World) A5 c5 g (h1 : BysAt W W.heap.size A5 Y.length Y) (h2 : Y.length ≤ c5) (h3 : A5 = none → c5 = 0) (h4 : Blk W g 34 #[.int .i64 ok, .slice A' m c']) (h5 : Below wr.heap.size wr W) => nears_any t rv fD Y (C.far Y) HC.out.mD HC.out.nD hD1 W.heap.size c5 1 1 n3 c3 A5 (some ⟨g, 0, none⟩) A3 [⟨ok, ol⟩] p W h1 h2 h3 hfm.2 (obs_blk h4 (pts_lift (HPO.out.tr h5 hBr) (Nat.le_trans hBr h5.size))) (pts_lift (HP.out.below ((hb03.trans (h5.mono hb03.size)).mono hB)) (Nat.le_trans hBr h5.size)) (Nat.le_refl _) (by decide) (by omega) (by intro x hx; simp at hx; subst hx; show ol.length ≤ _; rw [HPO.out.1]; omega))
        have hgo : ∀ k : Nat, alone C q p ⟨ok, ol⟩ = k → k ≠ 0 → lawsS C l q p = ((k : Int), (i : Int)) := fun k hk h0 => by
          have h := firstS_here HF.out HO.out (by rw [hk]; exact h0)
          unfold lawsS
          rw [HF1.out, h, hk]
        obtain ⟨av, hav⟩ : ∃ v, asksS (C.cons Y) [⟨ok, ol⟩] q = v := ⟨_, rfl⟩
        obtain ⟨nv, hnv⟩ : ∃ v, nearsS (C.far Y) [⟨ok, ol⟩] p = v := ⟨_, rfl⟩
        rw [hav] at HAs hal
        rw [hnv] at HNr hal
        have HAL := Lib.hid hal
        have HGO := Lib.hid hgo
        clear hav hnv hal hgo hC1 hD1 hmk
        cases av
        case false =>
          have HR := Lib.hid (HGO.out 2 (by rw [HAL.out]; rfl) (by decide))
          rw [HR.out]
          go_wp2_with (first | (go_at_call 20; (with_reducible refine (HAs.out _ A5 c5 w5.heap.size ((hy5.tr bel (Nat.le_refl _)).more (Below.size (B := w5.heap.size) bel)) y4 y3 blkA (by clear hb; exact bel)).mono ?_); rintro e w6 ⟨rfl, hb6⟩; obtain ⟨hc6, hf6⟩ := bcell hb6; have hz6' := hb6.size; (try simp at hz6'); (try have hy6' : wr.heap.size < w6.heap.size := (by omega))) | ((refine (HMk.out _ bel).mono ?_); rintro e w5 ⟨s5, v5, rfl, ho5, hz5, hn5, hb5⟩; obtain ⟨A5, c5, rfl, hy5, y2, y3, y4⟩ := bys_of_own2 ho5; obtain rfl := hz5 rfl; clear hz5 hn5; obtain ⟨hc5, hf5⟩ := bcell hb5; have hz5' := hb5.size; (try simp at hz5'); (try have hy5' : wr.heap.size < w5.heap.size := (by omega))))
          go_ret2
          exact ⟨rfl, bel⟩
        cases nv
        case false =>
          have HR := Lib.hid (HGO.out 3 (by rw [HAL.out]; rfl) (by decide))
          rw [HR.out]
          go_wp2_with (first | (go_at_call 20; (with_reducible refine (HAs.out _ A5 c5 w5.heap.size ((hy5.tr bel (Nat.le_refl _)).more (Below.size (B := w5.heap.size) bel)) y4 y3 blkA (by clear hb; exact bel)).mono ?_); rintro e w6 ⟨rfl, hb6⟩; obtain ⟨hc6, hf6⟩ := bcell hb6; have hz6' := hb6.size; (try simp at hz6'); (try have hy6' : wr.heap.size < w6.heap.size := (by omega))) | (go_at_call 21; (with_reducible refine (HNr.out _ A5 c5 w6.heap.size ((hy5.tr bel (Nat.le_refl _)).more (Below.size (B := w5.heap.size) bel)) y4 y3 blkA (by clear hb; exact bel)).mono ?_); rintro e w7 ⟨rfl, hb7⟩; obtain ⟨hc7, hf7⟩ := bcell hb7; have hz7' := hb7.size; (try simp at hz7'); (try have hy7' : wr.heap.size < w7.heap.size := (by omega))) | ((refine (HMk.out _ bel).mono ?_); rintro e w5 ⟨s5, v5, rfl, ho5, hz5, hn5, hb5⟩; obtain ⟨A5, c5, rfl, hy5, y2, y3, y4⟩ := bys_of_own2 ho5; obtain rfl := hz5 rfl; clear hz5 hn5; obtain ⟨hc5, hf5⟩ := bcell hb5; have hz5' := hb5.size; (try simp at hz5'); (try have hy5' : wr.heap.size < w5.heap.size := (by omega))))
          go_ret2
          exact ⟨rfl, bel⟩
        have HAL2 : Hid (alone C q p ⟨ok, ol⟩ = 0) := by unfold Hid; rw [HAL.out]; rfl
        clear HAL HGO
        obtain ⟨i0, qi, iz0, iz1, iz2⟩ := info_parts Tryz.infoYsU
        obtain ⟨i1, qj, jz0, jz1, jz2⟩ := info_parts Tryz.infoObU
        have hb3r := hb.size
        have hb3B : B ≤ w3.heap.size := Nat.le_trans hB hb3.size
        have hfm2 := hfm.2
        have HFM := Lib.hid hfm
        have HCl : Hid (∀ (W : World) B A c, BysAt W B A Y.length Y → B ≤ W.heap.size → Y.length ≤ c → (A = none → c = 0) → Calls Tryz.prog 22 #[.slice A Y.length c] W (RetB W Y)) := fun W B A c h1 h2 h3 h4 => cloneB_own B Y.length c A Y W h1 h2 hfm2 h3 h4
        clear hfm
        go_wp2_with (first | (at_builtin; go_must (refine wpList_append_own _ rfl _ _ 24 rfl w3.heap.size 34 i1 (.agg #[.int .i64 0, .slice none 0 0]) 2 32 Tryz.underlying24 qj jz0 jz1 jz2 rfl (by decide) _ _ _ rfl (hot.alloc _) ⟨w7.heap.size, 0, none⟩ 1 1 [.int .i64 ok, .slice A' m c'] rfl rfl cell_twoD obj_oneD ?d3 ?d4 ?d5 ?_)) | (go_at_call 20; (with_reducible refine (HAs.out _ A5 c5 w5.heap.size ((hy5.tr bel (Nat.le_refl _)).more (Below.size (B := w5.heap.size) bel)) y4 y3 blkA (by clear hb; exact bel)).mono ?_); rintro e w6 ⟨rfl, hb6⟩; obtain ⟨hc6, hf6⟩ := bcell hb6; have hz6' := hb6.size; (try simp at hz6'); (try have hy6' : wr.heap.size < w6.heap.size := (by omega))) | (go_at_call 21; (with_reducible refine (HNr.out _ A5 c5 w6.heap.size ((hy5.tr bel (Nat.le_refl _)).more (Below.size (B := w5.heap.size) bel)) y4 y3 blkA (by clear hb; exact bel)).mono ?_); rintro e w7 ⟨rfl, hb7⟩; have hb57 : Below w5.heap.size w5 w7 := bel; have hb7r : Below wr.heap.size wr w7 := (by clear hb; exact bel); obtain ⟨ct, hot, hct⟩ := HTT.out.below hb7r hBr; have HCT := Lib.hid hct; clear hct; obtain ⟨hc7, hf7⟩ := bcell hb7; have hz7' := hb7.size; (try simp at hz7'); (try have hy7' : wr.heap.size < w7.heap.size := (by omega))) | ((refine (HMk.out _ bel).mono ?_); rintro e w5 ⟨s5, v5, rfl, ho5, hz5, hn5, hb5⟩; obtain ⟨A5, c5, rfl, hy5, y2, y3, y4⟩ := bys_of_own2 ho5; obtain rfl := hz5 rfl; clear hz5 hn5; have HO5 := Lib.hid ho5; clear ho5; obtain ⟨hc5, hf5⟩ := bcell hb5; have hz5' := hb5.size; (try simp at hz5'); (try have hy5' : wr.heap.size < w5.heap.size := (by omega))))
        case d3 => unfold maxLen; omega
        case d4 => omega
        case d5 => have := hb7r.size; simp; omega
        intro v8 w8 hown8 hgrow8 _
        have hz7r := hb7r.size
        have hb37 : Below w3.heap.size w3 w7 := hb.trans (hb7r.mono hb3r)
        have hg8 : Below w3.heap.size (w7.alloc (.cells #[.int .i64 ok, .slice A' m c'] 34)) w8 := (Below.refl _ _).grown hgrow8 (by simp; omega) (fun k hk => (hot.lt k hk).1)
        have hal8 : Below w7.heap.size w7 (w7.alloc (.cells #[.int .i64 ok, .slice A' m c'] 34)) := (Below.refl _ _).alloc (Nat.le_refl _) _
        have hb38 : Below w3.heap.size w3 w8 := hb37.trans (((Below.refl _ _).alloc (by omega) _).trans hg8)
        have hK8 := keys_grown ((HKK.out.below hb7r).below hal8) (hot.alloc _) (by decide) (by decide) hgrow8
        have hT8 := tak_append (own_belowK hot hal8) (fun k o ho => by
          obtain ⟨A2, m2, c2, q1, q2, q3⟩ := HCT.out k o ho
          exact ⟨A2, m2, c2, q1, q2, q3.below (hal8.mono (by omega))⟩) ((HPO.out.tr hb7r hBr).below (hal8.mono (by omega))) hown8 (hg8.mono hb3B)
        have ho8 := own_grown (own_belowK (own_belowK HO5.out hb57) hal8) (hot.alloc _) (by decide) hgrow8
        have hy8 := own_bysD ho8
        have hg8z := hgrow8.size
        simp at hg8z
        have hz8 : wr.heap.size ≤ w8.heap.size := by omega
        obtain ⟨hc8, hf8⟩ := bcellB hb38
        have HT8 := Lib.hid hT8
        have HK8 := Lib.hid hK8
        have hbw3 : b < w3.heap.size := by omega
        clear hown8 hgrow8 hg8 hal8 hot hK8 hT8 ho8 hb37 hb7r hb57 HAs HNr HMk hc5 hf5 hc6 hf6 hc7 hf7 hb5 hb6 hb7 hy5
        go_wp2_with (first | (go_at_call 22; (with_reducible refine (HCl.out w8 _ A5 c5 hy8 (Nat.le_refl _) y4 y3).mono ?_); rintro e w9 ⟨s9, rfl, ho9, hb9⟩; obtain ⟨A9, c9, rfl, z1, z2, z3, z4⟩ := bys_of_own2 ho9; clear z1 z2 z3 z4; have HO9 := Lib.hid ho9; clear ho9; have hz9 := hb9.size; obtain ⟨cs, hcs, hkk⟩ := HK8.out.below hb9; have HKKK := Lib.hid hkk; clear hkk) | (at_builtin; go_must (refine wpList_append_own _ rfl _ _ 31 rfl w3.heap.size 35 i0 (.slice none 0 0) 1 24 Tryz.underlying31 qi iz0 iz1 iz2 rfl (by decide) _ _ _ rfl (hcs.alloc _) ⟨w9.heap.size, 0, none⟩ 1 1 [.slice A9 Y.length c9] rfl rfl cell_oneD slice_oneD ?c3 ?c4 ?c5 ?_)))
        case c3 => rw [keysT_len]; unfold maxLen; omega
        case c4 => rw [keysT_len]; omega
        case c5 => simp; omega
        intro v10 w10 hown10 hgrow10 _
        have hal9 : Below w9.heap.size w9 (w9.alloc (.cells #[.slice A9 Y.length c9] 35)) := (Below.refl _ _).alloc (Nat.le_refl _) _
        have hg10 : Below w3.heap.size (w9.alloc (.cells #[.slice A9 Y.length c9] 35)) w10 := (Below.refl _ _).grown hgrow10 (by simp; omega) (fun k hk => (hcs.lt k hk).1)
        have hKN := keys_append (hcs.alloc _) (fun j u hu => by
          obtain ⟨l', q1, q2⟩ := HKKK.out j u hu
          exact ⟨l', q1, q2.alloc _⟩) (own_belowK (ownB_base HO9.out (show w3.heap.size ≤ _ by omega)) hal9) hown10 hgrow10
        have hTN := tak_grown ((HT8.out.below hb9 (by omega)).below hal9 (by omega)) (hcs.alloc _) (by decide) hgrow10 (hg10.mono hb3B)
        have hb310 : Below w3.heap.size w3 w10 := hb38.trans ((hb9.mono (by omega)).trans (((Below.refl _ _).alloc (by omega) _).trans hg10))
        clear hown10 hgrow10 hg10 hal9 hcs hb9 hy8
        go_wp2
        go_roundw
        case rel => exact ⟨i + 1, by omega, by go_num, by rw [HYES.out (by simp), HKT.out]; exact hKN, by rw [HYES.out (by simp)]; exact hTN, firstS_next HF.out HO.out HAL2.out, hb310⟩
        case measure => simp [intOf]; omega
    have hi1 : (i : Int) < (n1 : Int) := by omega
    obtain ⟨b, off, A', m, c', o, rfl, hab, ho, h0, h1, hpo⟩ := (HL.out.below (hb.mono hB)).at_ hlt
    have hbw : b < wr.heap.size := by omega
    have hm1 : m ≤ 10000 := by rw [← hpo.1]; exact HLO.out o (List.mem_of_getElem? ho)
    have hBw : B ≤ wr.heap.size := by omega
    obtain ⟨ok, ol⟩ := o
    simp only at h0 h1 hpo
    have HO := Lib.hid ho
    have HF := Lib.hid hf
    have HMk := Lib.hid (fun W (hW : Below wr.heap.size wr W) => HC.out.make W B m c' ok A' ol (hpo.tr hW hBw) (Nat.le_trans hBw hW.size) (by omega))
    have HCk := Lib.hid (fun W (hW : Below wr.heap.size wr W) => Check_any B m c' ok A' ol W (hpo.tr hW hBw) (Nat.le_trans hBw hW.size) (by omega))
    have hfm := HC.out.form ⟨ok, ol⟩
    obtain ⟨mk, hmk⟩ : ∃ x, C.make ⟨ok, ol⟩ = x := ⟨_, rfl⟩
    obtain ⟨ckn, hckn⟩ : ∃ x, ckOb ⟨ok, ol⟩ = x := ⟨_, rfl⟩
    obtain ⟨lg, hlg⟩ : ∃ x, longS C ⟨ok, ol⟩ = x := ⟨_, rfl⟩
    have hlg2 := hlg
    unfold longS at hlg2
    rw [hmk] at HMk hfm hlg2
    rw [hckn] at HCk hlg2
    obtain ⟨me, Y⟩ := mk
    simp only at HMk hfm hlg2
    have HLG := Lib.hid hlg
    have HLG2 := Lib.hid hlg2
    clear ho hf hpo hmk hckn hlg hlg2
    by_cases hck : ckn = 0
    case neg =>
      by_cases hme : me = 0
      · go_wp2_with (first | (go_at_call 19; (with_reducible refine (HCk.out _ bel).mono ?_); rintro e w6 ⟨v6, rfl, hE6, hb6⟩; obtain ⟨t6, u6, rfl⟩ := errW_someP hE6 hck; clear hE6) | ((refine (HMk.out _ bel).mono ?_); rintro e w5 ⟨s5, v5, rfl, ho5, hz5, hn5, hb5⟩; obtain ⟨A5, c5, rfl, hy5, y2, y3, y4⟩ := bys_of_own2 ho5; obtain rfl := hz5 hme; clear ho5 hz5 hn5; obtain ⟨hc5, hf5⟩ := bcell hb5; have hz5' := hb5.size; (try simp at hz5'); (try have hy5' : wr.heap.size < w5.heap.size := (by omega))))
        go_roundw
        case rel => exact ⟨i + 1, by omega, by go_num, firstS_next HF.out HO.out (by rw [HLG.out, ← HLG2.out]; rw [if_neg (fun h => hck h.1)]), bel⟩
        case measure => simp [intOf]; omega
      · go_wp2_with (first | (go_at_call 19; (with_reducible refine (HCk.out _ bel).mono ?_); rintro e w6 ⟨v6, rfl, hE6, hb6⟩; obtain ⟨t6, u6, rfl⟩ := errW_someP hE6 hck; clear hE6) | ((refine (HMk.out _ bel).mono ?_); rintro e w5 ⟨s5, v5, rfl, ho5, hz5, hn5, hb5⟩; obtain ⟨A5, c5, rfl, hy5, y2, y3, y4⟩ := bys_of_own2 ho5; obtain ⟨t5, u5, rfl⟩ := hn5 hme; clear ho5 hz5 hn5; obtain ⟨hc5, hf5⟩ := bcell hb5; have hz5' := hb5.size; (try simp at hz5'); (try have hy5' : wr.heap.size < w5.heap.size := (by omega))))
        go_roundw
        case rel => exact ⟨i + 1, by omega, by go_num, firstS_next HF.out HO.out (by rw [HLG.out, ← HLG2.out]; rw [if_neg (fun h => hck h.1)]), bel⟩
        case measure => simp [intOf]; omega
    subst hck
    by_cases hme : me = 0
    case neg =>
      go_wp2_with (first | (go_at_call 19; (with_reducible refine (HCk.out _ bel).mono ?_); rintro e w6 ⟨v6, rfl, hE6, hb6⟩; obtain rfl := errW_zeroP hE6; clear hE6) | ((refine (HMk.out _ bel).mono ?_); rintro e w5 ⟨s5, v5, rfl, ho5, hz5, hn5, hb5⟩; obtain ⟨A5, c5, rfl, hy5, y2, y3, y4⟩ := bys_of_own2 ho5; obtain ⟨t5, u5, rfl⟩ := hn5 hme; clear ho5 hz5 hn5; obtain ⟨hc5, hf5⟩ := bcell hb5; have hz5' := hb5.size; (try simp at hz5'); (try have hy5' : wr.heap.size < w5.heap.size := (by omega))))
      go_roundw
      case rel => exact ⟨i + 1, by omega, by go_num, firstS_next HF.out HO.out (by rw [HLG.out, ← HLG2.out]; rw [if_neg (fun h => hme h.2.1)]), bel⟩
      case measure => simp [intOf]; omega
    by_cases h64 : 64 < Y.length
    case neg =>
      have h64' : ¬ (64 : Int) < (Y.length : Int) := by omega
      go_wp2_with (first | (go_at_call 19; (with_reducible refine (HCk.out _ bel).mono ?_); rintro e w6 ⟨v6, rfl, hE6, hb6⟩; obtain rfl := errW_zeroP hE6; clear hE6) | ((refine (HMk.out _ bel).mono ?_); rintro e w5 ⟨s5, v5, rfl, ho5, hz5, hn5, hb5⟩; obtain ⟨A5, c5, rfl, hy5, y2, y3, y4⟩ := bys_of_own2 ho5; obtain rfl := hz5 hme; clear ho5 hz5 hn5; obtain ⟨hc5, hf5⟩ := bcell hb5; have hz5' := hb5.size; (try simp at hz5'); (try have hy5' : wr.heap.size < w5.heap.size := (by omega))))
      go_roundw
      case rel => exact ⟨i + 1, by omega, by go_num, firstS_next HF.out HO.out (by rw [HLG.out, ← HLG2.out]; rw [if_neg (fun h => h64 h.2.2)]), bel⟩
      case measure => simp [intOf]; omega
    have h64' : (64 : Int) < (Y.length : Int) := by omega
    have HR : Hid (lawsS C l q p = (1, (i : Int))) := by
      have h := firstS_here HF.out HO.out (by rw [HLG.out, ← HLG2.out, if_pos ⟨rfl, hme, h64⟩]; decide)
      unfold Hid lawsS
      rw [h, HLG.out, ← HLG2.out, if_pos ⟨rfl, hme, h64⟩]
      rfl
    rw [HR.out]
    go_wp2_with (first | (go_at_call 19; (with_reducible refine (HCk.out _ bel).mono ?_); rintro e w6 ⟨v6, rfl, hE6, hb6⟩; obtain rfl := errW_zeroP hE6; clear hE6) | ((refine (HMk.out _ bel).mono ?_); rintro e w5 ⟨s5, v5, rfl, ho5, hz5, hn5, hb5⟩; obtain ⟨A5, c5, rfl, hy5, y2, y3, y4⟩ := bys_of_own2 ho5; obtain rfl := hz5 hme; clear ho5 hz5 hn5; obtain ⟨hc5, hf5⟩ := bcell hb5; have hz5' := hb5.size; (try simp at hz5'); (try have hy5' : wr.heap.size < w5.heap.size := (by omega))))
    go_ret2
    exact ⟨rfl, bel⟩
end Go.Proofs.YtahiaekoaokgnaaGreat
