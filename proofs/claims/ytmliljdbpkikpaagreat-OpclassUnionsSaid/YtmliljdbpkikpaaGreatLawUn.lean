/-
  The walk of the statement OpclassUnions.
-/
import Derived.Test.YtmliljdbpkikpaaGreatUnA
set_option linter.unusedSimpArgs false
set_option linter.unusedVariables false
namespace Go.Proofs.YtmliljdbpkikpaaGreat
open Go.RowKit Pg
/-- the objects that a boxes class takes, and their keys -/
def takO (kd : Int) (l : List Ob) : List Ob := l.filter fun o => decide (makeS kd o = 0)
def takK (T : List Ob) : List (List Nat) := T.map fun o => keyL (boundsS o)
theorem takO_yes {kd : Int} {l : List Ob} {i : Nat} {o : Ob} (h : l[i]? = some o) (hm : makeS kd o = 0) : takO kd (l.take (i + 1)) = takO kd (l.take i) ++ [o] := by
  unfold takO
  rw [List.take_add_one, h, List.filter_append]
  simp [hm]
theorem takO_no {kd : Int} {l : List Ob} {i : Nat} {o : Ob} (h : l[i]? = some o) (hm : makeS kd o ≠ 0) : takO kd (l.take (i + 1)) = takO kd (l.take i) := by
  unfold takO
  rw [List.take_add_one, h, List.filter_append]
  simp [hm]
theorem takO_ck {kd : Int} {l : List Ob} {o : Ob} (h : o ∈ takO kd l) : ckOb o = 0 ∧ o ∈ l := by
  unfold takO at h
  rw [List.mem_filter] at h
  refine ⟨?_, h.1⟩
  have h2 := of_decide_eq_true h.2
  unfold makeS at h2
  split at h2
  · exact h2
  · cases h2
theorem takO_len (kd : Int) (l : List Ob) (i : Nat) : (takO kd (l.take i)).length ≤ i := by
  unfold takO
  exact Nat.le_trans (List.length_filter_le _ _) (by simp; omega)
theorem takK_len (T : List Ob) : (takK T).length = T.length := by unfold takK; simp
theorem takK_snoc (T : List Ob) (o : Ob) : takK (T ++ [o]) = takK T ++ [keyL (boundsS o)] := by unfold takK; simp
/-- what the keys of taken objects are -/
structure TakF (T : List Ob) (r : Nat) (u u1 u2 : List Nat) : Prop where
  b256 : ∀ x ∈ u, x < 256
  len : u.length ≤ 1000000
  b256a : ∀ x ∈ u1, x < 256
  lena : u1.length ≤ 1000000
  b256b : ∀ x ∈ u2, x < 256
  lenb : u2.length ≤ 1000000
  all256 : ∀ l ∈ takK T, ∀ x ∈ l, x < 256
  alll : ∀ l ∈ takK T, l.length ≤ 1000000
  turn : unionK ((takK T).drop r ++ (takK T).take r) = u
  two : unionK [u1, u2] = u
  pen : ∀ o ∈ T, penS u (keyL (boundsS o)) = 0
  cov : ∀ (q : List Qu) (p : List Pt), (asksS (consS u) T q && nearsS (farS u) T p) = true
  cov1 : ∀ o ∈ T, ∀ (q : List Qu) (p : List Pt), (asksS (consS (keyL (boundsS o))) [o] q && nearsS (farS (keyL (boundsS o))) [o] p) = true
theorem unionK_form (L : List (List Nat)) : (∀ x ∈ unionK L, x < 256) ∧ (unionK L).length ≤ 1000000 := by
  unfold unionK
  split
  · refine ⟨fun x hx => keyL_byte hx, ?_⟩
    by_cases hne : boxesK L = []
    · rename_i h
      rw [hne] at h
      exact absurd h (by decide)
    · have := (keyL_len (okBx_in (union_all hne fun b hb => boxesK_ok hb).2.1)).2
      omega
  · exact ⟨by simp, by simp⟩
theorem takF_of {T : List Ob} (hT : T ≠ []) (hck : ∀ o ∈ T, ckOb o = 0) (r : Nat) : TakF T r (unionK (takK T)) (unionK ((takK T).drop r)) (unionK ((takK T).take r)) := by
  have e : takK T = (T.map boundsS).map keyL := by unfold takK; rw [List.map_map]; rfl
  have hne : T.map boundsS ≠ [] := by simpa using hT
  have hok : ∀ b ∈ T.map boundsS, okBx b = true := fun b hb => by
    obtain ⟨o, ho, rfl⟩ := List.mem_map.1 hb
    exact bounds_okBx (hck o ho)
  have hu := union_all hne hok
  have hk : ∀ l ∈ takK T, ∃ b, okBx b = true ∧ l = keyL b := fun l hl => by
    rw [e] at hl
    obtain ⟨b, hb, rfl⟩ := List.mem_map.1 hl
    exact ⟨b, hok b hb, rfl⟩
  refine ⟨(unionK_form _).1, (unionK_form _).2, (unionK_form _).1, (unionK_form _).2, (unionK_form _).1, (unionK_form _).2, ?_, ?_, ?_, ?_, ?_, ?_, ?_⟩
  · intro l hl x hx
    obtain ⟨b, _, rfl⟩ := hk l hl
    exact keyL_byte hx
  · intro l hl
    obtain ⟨b, hb, rfl⟩ := hk l hl
    have := (keyL_len (okBx_in hb)).2
    omega
  · rw [e]; exact unionK_turn hne hok r
  · rw [e]; exact unionK_two hne hok r
  · intro o ho
    rw [e]
    exact penS_zero hne hok (List.mem_map.2 ⟨o, ho, rfl⟩)
  · intro q p
    rw [e, unionK_keys hne hok, Bool.and_eq_true]
    exact cover_all hu.2.1 (fun o ho => ⟨hck o ho, hu.2.2 _ (List.mem_map.2 ⟨o, ho, rfl⟩)⟩) q p
  · intro o ho q p
    rw [Bool.and_eq_true]
    exact cover_all (bounds_okBx (hck o ho)) (fun x hx => by
      simp at hx
      subst hx
      exact ⟨hck _ ho, inB_self _⟩) q p
theorem errX_zeroU {w : World} {v : Value} {s : ByteArray} {id : Int} (h : ErrX w v 0 s id) : v = .nilIface := by
  rcases h with ⟨_, h⟩ | ⟨h, _⟩
  · exact h
  · exact absurd rfl h
theorem errX_someU {w : World} {v : Value} {k : Nat} {s : ByteArray} {id : Int} (h : ErrX w v k s id) (hk : k ≠ 0) : ∃ t u, v = .iface t u := by
  rcases h with ⟨h, _⟩ | ⟨_, g, d, inner, rfl, _⟩
  · exact absurd h hk
  · exact ⟨_, _, rfl⟩
theorem slice_one {A : Option Addr} {n c : Nat} : ∀ v ∈ [Value.slice A n c], v.oneCell' = true := by simp [Value.oneCell']
theorem obj_one {k : Int} {A : Option Addr} {n c : Nat} : ∀ v ∈ [Value.int .i64 k, Value.slice A n c], v.oneCell' = true := by simp [Value.oneCell']
theorem cell_one {w : World} {x : Value} {t : TypeId} : ∀ (j : Nat) (v : Value), [x][j]? = some v → (w.alloc (.cells #[x] t)).cell? ((⟨w.heap.size, 0, none⟩ : Addr).add j) = some v := by
  intro j v hj
  match j, hj with
  | 0, hj => simp at hj; subst hj; simp [Addr.add]
theorem cell_two {w : World} {x y : Value} {t : TypeId} : ∀ (j : Nat) (v : Value), [x, y][j]? = some v → (w.alloc (.cells #[x, y] t)).cell? ((⟨w.heap.size, 0, none⟩ : Addr).add j) = some v := by
  intro j v hj
  match j, hj with
  | 0, hj => simp at hj; subst hj; simp [Addr.add]
  | 1, hj => simp at hj; subst hj; simp [Addr.add]

set_option maxHeartbeats 8000000 in
set_option maxRecDepth 20000 in
theorem opclassUnions_walk (B n1 c1 n2 c2 n3 c3 : Nat) (k : Int) (A1 A2 A3 : Option Addr) (l : List Ob) (q : List Qu) (p : List Pt) (w : World) (hl : ObsAt w B A1 n1 l) (hq : QusAt w B A2 n2 q) (hp : PtsAt w B A3 n3 p) (hB : B ≤ w.heap.size) (hn1 : n1 ≤ 9223372036854775807) (hn2 : n2 ≤ 9223372036854775807) :
    Calls Tryz.prog 3 #[.slice A1 n1 c1, .int .i64 k, .slice A2 n2 c2, .slice A3 n3 c3] w (Ret w (.bool true)) := by
  have HSM := Lib.hid (fun W (hW : Below w.heap.size w W) => small16_any B n1 c1 n2 c2 n3 c3 A1 A2 A3 l q W (hl.tr hW hB) (hq.tr hW hB) (Nat.le_trans hB hW.size) hn1 hn2)
  have HL := Lib.hid hl
  have HQ := Lib.hid hq
  have HP := Lib.hid hp
  clear hl hq hp
  have mM := methodMakeU
  have mU := methodUnionU
  have mC := methodConsU
  have mP := methodPenU
  have mD := methodDistU
  have nC := nilAheadUC
  have nD := nilAheadUD
  have nP := nilAheadUP
  have nU := nilAheadUU
  have nM := nilAheadUM
  go_enter Tryz.func3, Tryz.ntmps3
  go_wp2_with (first | (go_at_call 6; (with_reducible refine (HSM.out _ (by repeat (first | with_reducible exact Below.refl _ _ | with_reducible assumption | with_reducible refine al ?_ _ | with_reducible refine Below.drew ?_ | with_reducible refine Below.setCell ?_ (by first | (simp; done) | (simp; omega)) _ | with_reducible refine tr ?_ (by with_reducible assumption)))).mono ?_); rintro e w1 ⟨v, rfl, hv, hb1⟩; rcases hv with rfl | ⟨rfl, g1, g2, g3, g4, g5⟩) | (go_at_call 7; refine (awake16_true _).mono ?_; rintro e w9 ⟨rfl, hb9⟩))
  · go_ret
    exact ⟨rfl, (by repeat (first | with_reducible exact Below.refl _ _ | with_reducible assumption | with_reducible refine al ?_ _ | with_reducible refine Below.drew ?_ | with_reducible refine Below.setCell ?_ (by first | (simp; done) | (simp; omega)) _ | with_reducible refine tr ?_ (by with_reducible assumption)))⟩
  have G4 := Lib.hid g4
  have G5 := Lib.hid g5
  clear g4 g5 HSM
  go_loopw [9] (fun vk wr => ∃ kd : Nat, 1 ≤ kd ∧ kd ≤ 5 ∧ vk = .int .i64 kd ∧ Below w.heap.size w wr) (fun vk _ => 5 - (intOf vk).toNat)
  case atStart => exact ⟨1, by omega, by omega, rfl, (by repeat (first | with_reducible exact Below.refl _ _ | with_reducible assumption | with_reducible refine al ?_ _ | with_reducible refine Below.drew ?_ | with_reducible refine Below.setCell ?_ (by first | (simp; done) | (simp; omega)) _ | with_reducible refine tr ?_ (by with_reducible assumption)))⟩
  case round =>
    clear hb1
    obtain ⟨kd, hk1, hk5, rfl, hb⟩ := hrel
    by_cases hk4 : kd ≤ 4
    case neg =>
      obtain rfl : kd = 5 := by omega
      go_wp2_with (go_at_call 7; refine (awake16_true _).mono ?_; rintro e w9 ⟨rfl, hb9⟩)
      go_ret
      exact ⟨rfl, (by repeat (first | with_reducible exact Below.refl _ _ | with_reducible assumption | with_reducible refine al ?_ _ | with_reducible refine Below.drew ?_ | with_reducible refine Below.setCell ?_ (by first | (simp; done) | (simp; omega)) _ | with_reducible refine tr ?_ (by with_reducible assumption)))⟩
    have hk4' : (kd : Int) ≤ 4 := by omega
    have HBo := Lib.hid (fun w => Boxes_ok (kd : Int) w (by omega) (by omega))
    have hbz := hb.size
    go_wp2_with (go_at_call 8; (with_reducible refine (HBo.out _).mono ?_); rintro e w2 ⟨rfl, hb2⟩)
    refine keep_world (R := fun w2 => Below w.heap.size w w2) (by repeat (first | with_reducible exact Below.refl _ _ | with_reducible assumption | with_reducible refine al ?_ _ | with_reducible refine Below.drew ?_ | with_reducible refine Below.setCell ?_ (by first | (simp; done) | (simp; omega)) _ | with_reducible refine tr ?_ (by with_reducible assumption))) ?_
    clear hb hb2 hbz
    intro w3 hb3
    go_loopw [12, 13, 14] (fun vk vt vi wr => ∃ i : Nat, i ≤ n1 ∧ vi = .int .i64 i ∧ KeysAt wr w3.heap.size vk (takK (takO kd (l.take i))) ∧ TakAt wr w3.heap.size B vt (takO kd (l.take i)) ∧ Below w3.heap.size w3 wr) (fun _ _ vi _ => n1 - (intOf vi).toNat)
    case atStart => exact ⟨0, by omega, rfl, KeysAt.nil _ _, TakAt.nil _ _ _, Below.refl _ _⟩
    case round =>
      obtain ⟨i, hi, rfl, hK, hT, hb⟩ := hrel
      have hb03 : Below w.heap.size w wr := hb3.trans (hb.mono hb3.size)
      have hBr : B ≤ wr.heap.size := Nat.le_trans hB hb03.size
      have hTl := takO_len (kd : Int) l i
      by_cases hlt : i < n1
      case pos =>
        have hi1 : (i : Int) < (n1 : Int) := by omega
        obtain ⟨b, off, A', m, c', o, rfl, hab, ho, h0, h1, hpo⟩ := (HL.out.below (hb03.mono hB)).at_ hlt
        have hbw : b < wr.heap.size := by omega
        have hm1 : m ≤ 400 := by rw [← hpo.1]; exact G4.out o (List.mem_of_getElem? ho)
        obtain ⟨ok, ol⟩ := o
        simp only at h0 h1 hpo
        have HMk := Lib.hid (fun W (hW : Below wr.heap.size wr W) => Make_any B m c' (kd : Int) ok A' ol W (hpo.tr hW hBr) (Nat.le_trans hBr hW.size) (by omega))
        by_cases hms : makeS (kd : Int) ⟨ok, ol⟩ = 0
        case neg =>
          have hno := takO_no ho hms
          obtain ⟨e0, he0⟩ : ∃ e0, makeS (kd : Int) ⟨ok, ol⟩ = e0 := ⟨_, rfl⟩
          rw [he0] at HMk hms
          have HNO := Lib.hid hno
          have HMS := Lib.hid hms
          have HKK := Lib.hid hK
          have HTT := Lib.hid hT
          clear hno hms he0 hK hT ho hpo hTl
          go_wp2_with fail
          refine wp_region_belowI (by kernel_rfl) (by kernel_rfl) (fun _ _ d _ _ h => by cases d <;> exact h) ?_
          simp only [List.map_cons, List.map_nil, List.getD_cons_zero, List.getD_cons_succ, bare, gslot, List.getElem?_cons_zero, List.getElem?_cons_succ, Option.bind_some]
          repeat' ((try simp only [Act.put, List.setIfInBounds_toArray, List.set_cons_zero, List.set_cons_succ]); first | (refine lexL_quiet (v := ?_) wantB_none rfl ?_ ?_; rotate_left; focus (intro wq hq; obtain ⟨hcq, hfq⟩ := bcell hq; go_simp; try with_reducible rfl)) | (refine lexL_loud wantB_none rfl (fun K hK => ?_); go_simp; ((first | (go_at_call 185; (with_reducible refine (HMk.out _ (by repeat (first | with_reducible exact Below.refl _ _ | with_reducible assumption | with_reducible refine al ?_ _ | with_reducible refine Below.drew ?_ | with_reducible refine Below.setCell ?_ (by first | (simp; done) | (simp; omega)) _ | with_reducible refine tr ?_ (by with_reducible assumption)))).mono ?_); rintro e w6 ⟨s6, v6, rfl, ho6, hE6, hb6⟩; obtain ⟨t6, u6, rfl⟩ := errX_someU hE6 HMS.out; clear hE6 ho6) | skip) <;> (refine hK.out _ _ (by repeat (first | with_reducible exact Below.refl _ _ | with_reducible assumption | with_reducible refine al ?_ _ | with_reducible refine Below.drew ?_ | with_reducible refine Below.setCell ?_ (by first | (simp; done) | (simp; omega)) _ | with_reducible refine tr ?_ (by with_reducible assumption))) ?_; clear hK K))) | (refine lexL_on ?_ ?_; focus (simp only [List.getElem?_toArray, List.getElem?_cons_succ, List.getElem?_cons_zero, Bool.not_true, Bool.not_false]; done)) | (refine lexL_off ?_ ?_ ?_; (focus (simp only [List.getElem?_toArray, List.getElem?_cons_succ, List.getElem?_cons_zero, Bool.not_true, Bool.not_false]; done)); (focus (exact (by repeat (first | with_reducible exact Below.refl _ _ | with_reducible assumption | with_reducible refine al ?_ _ | with_reducible refine Below.drew ?_ | with_reducible refine Below.setCell ?_ (by first | (simp; done) | (simp; omega)) _ | with_reducible refine tr ?_ (by with_reducible assumption)))))) | (refine lexL_splitS (X := ?_) ?_ ?_ (fun hg => ?_) (fun hg => ?_); rotate_left; (focus (simp only [List.getElem?_toArray, List.getElem?_cons_succ, List.getElem?_cons_zero]; with_reducible rfl)); (focus (exact (by repeat (first | with_reducible exact Below.refl _ _ | with_reducible assumption | with_reducible refine al ?_ _ | with_reducible refine Below.drew ?_ | with_reducible refine Below.setCell ?_ (by first | (simp; done) | (simp; omega)) _ | with_reducible refine tr ?_ (by with_reducible assumption))))); all_goals (try simp only [Bool.not_true, Bool.not_false] at hg)))
          (all_goals try simp only [Act.put, List.setIfInBounds_toArray, List.set_cons_zero, List.set_cons_succ]); all_goals (refine lexL_nil ?_)
          go_wp2_with fail
          have hbn : Below wr.heap.size wr _ := (by repeat (first | with_reducible exact Below.refl _ _ | with_reducible assumption | with_reducible refine al ?_ _ | with_reducible refine Below.drew ?_ | with_reducible refine Below.setCell ?_ (by first | (simp; done) | (simp; omega)) _ | with_reducible refine tr ?_ (by with_reducible assumption)))
          go_roundw
          case rel => exact ⟨i + 1, by omega, by go_num, by rw [HNO.out]; exact HKK.out.below (by clear hb; exact (by repeat (first | with_reducible exact Below.refl _ _ | with_reducible assumption | with_reducible refine al ?_ _ | with_reducible refine Below.drew ?_ | with_reducible refine Below.setCell ?_ (by first | (simp; done) | (simp; omega)) _ | with_reducible refine tr ?_ (by with_reducible assumption)))), by rw [HNO.out]; exact HTT.out.below (by clear hb; exact (by repeat (first | with_reducible exact Below.refl _ _ | with_reducible assumption | with_reducible refine al ?_ _ | with_reducible refine Below.drew ?_ | with_reducible refine Below.setCell ?_ (by first | (simp; done) | (simp; omega)) _ | with_reducible refine tr ?_ (by with_reducible assumption)))) hBr, (by repeat (first | with_reducible exact Below.refl _ _ | with_reducible assumption | with_reducible refine al ?_ _ | with_reducible refine Below.drew ?_ | with_reducible refine Below.setCell ?_ (by first | (simp; done) | (simp; omega)) _ | with_reducible refine tr ?_ (by with_reducible assumption)))⟩
          case measure => simp [intOf]; omega
        have hyes := takO_yes ho hms
        have hbk : makeK (kd : Int) ⟨ok, ol⟩ = keyL (boundsS ⟨ok, ol⟩) := by unfold makeK; rw [if_pos hms]
        rw [hms, hbk] at HMk
        obtain ⟨Y, hY⟩ : ∃ Y, keyL (boundsS ⟨ok, ol⟩) = Y := ⟨_, rfl⟩
        rw [hY] at HMk
        obtain ⟨T, hTe⟩ : ∃ T, takO (kd : Int) (l.take i) = T := ⟨_, rfl⟩
        rw [hTe] at hK hT hyes hTl
        have HYE := Lib.hid hyes
        have HY := Lib.hid hY
        have HKK := Lib.hid hK
        have HTT := Lib.hid hT
        have HPO := Lib.hid hpo
        obtain ⟨i0, qi, iz0, iz1, iz2⟩ := info_parts Tryz.infoYsU
        obtain ⟨i1, qj, jz0, jz1, jz2⟩ := info_parts Tryz.infoObU
        have hb3r := hb.size
        have hb3B := Nat.le_trans hB hb3.size
        clear hyes hms hbk hY hTe hK hT ho hpo
        go_wp2_with fail
        refine wp_region_belowI (by kernel_rfl) (by kernel_rfl) (fun _ _ d _ _ h => by cases d <;> exact h) ?_
        simp only [List.map_cons, List.map_nil, List.getD_cons_zero, List.getD_cons_succ, bare, gslot, List.getElem?_cons_zero, List.getElem?_cons_succ, Option.bind_some]
        repeat' ((try simp only [Act.put, List.setIfInBounds_toArray, List.set_cons_zero, List.set_cons_succ]); first | (refine lexL_quiet (v := ?_) wantB_none rfl ?_ ?_; rotate_left; focus (intro wq hq; obtain ⟨hcq, hfq⟩ := bcell hq; go_simp; try with_reducible rfl)) | (refine lexL_loud wantB_none rfl (fun K hK => ?_); go_simp; ((first | (go_at_call 185; (with_reducible refine (HMk.out _ (by repeat (first | with_reducible exact Below.refl _ _ | with_reducible assumption | with_reducible refine al ?_ _ | with_reducible refine Below.drew ?_ | with_reducible refine Below.setCell ?_ (by first | (simp; done) | (simp; omega)) _ | with_reducible refine tr ?_ (by with_reducible assumption)))).mono ?_); rintro e w6 ⟨s6, v6, rfl, ho6, hE6, hb6⟩; obtain rfl := errX_zeroU hE6; obtain ⟨A6, c6, rfl, z1, z2, z3, z4⟩ := bys_of_own2 ho6; clear z1 z2 z3 z4 hE6; have hb6' : Below wr.heap.size wr w6 := (by repeat (first | with_reducible exact Below.refl _ _ | with_reducible assumption | with_reducible refine al ?_ _ | with_reducible refine Below.drew ?_ | with_reducible refine Below.setCell ?_ (by first | (simp; done) | (simp; omega)) _ | with_reducible refine tr ?_ (by with_reducible assumption))); have hb6z := hb6'.size) | skip) <;> (refine hK.out _ _ (by repeat (first | with_reducible exact Below.refl _ _ | with_reducible assumption | with_reducible refine al ?_ _ | with_reducible refine Below.drew ?_ | with_reducible refine Below.setCell ?_ (by first | (simp; done) | (simp; omega)) _ | with_reducible refine tr ?_ (by with_reducible assumption))) ?_; clear hK K))) | (refine lexL_on ?_ ?_; focus (simp only [List.getElem?_toArray, List.getElem?_cons_succ, List.getElem?_cons_zero, Bool.not_true, Bool.not_false]; done)) | (refine lexL_off ?_ ?_ ?_; (focus (simp only [List.getElem?_toArray, List.getElem?_cons_succ, List.getElem?_cons_zero, Bool.not_true, Bool.not_false]; done)); (focus (exact (by repeat (first | with_reducible exact Below.refl _ _ | with_reducible assumption | with_reducible refine al ?_ _ | with_reducible refine Below.drew ?_ | with_reducible refine Below.setCell ?_ (by first | (simp; done) | (simp; omega)) _ | with_reducible refine tr ?_ (by with_reducible assumption)))))) | (refine lexL_splitS (X := ?_) ?_ ?_ (fun hg => ?_) (fun hg => ?_); rotate_left; (focus (simp only [List.getElem?_toArray, List.getElem?_cons_succ, List.getElem?_cons_zero]; with_reducible rfl)); (focus (exact (by repeat (first | with_reducible exact Below.refl _ _ | with_reducible assumption | with_reducible refine al ?_ _ | with_reducible refine Below.drew ?_ | with_reducible refine Below.setCell ?_ (by first | (simp; done) | (simp; omega)) _ | with_reducible refine tr ?_ (by with_reducible assumption))))); all_goals (try simp only [Bool.not_true, Bool.not_false] at hg)))
        (all_goals try simp only [Act.put, List.setIfInBounds_toArray, List.set_cons_zero, List.set_cons_succ]); all_goals (refine lexL_nil ?_)
        have hb36 : Below w3.heap.size w3 w6 := hb.trans (hb6'.mono hb3r)
        obtain ⟨cs, hcs, hkk⟩ := HKK.out.below hb6'
        have hs6 := ownB_base ho6 (show w3.heap.size ≤ _ by (try simp); omega)
        have hT6 := HTT.out.below hb6' hBr
        have hp6 := HPO.out.tr hb6' hBr
        clear ho6
        go_wp2_with (at_builtin; go_must (refine wpList_append_own _ rfl _ _ 33 rfl w3.heap.size 34 i0 (.slice none 0 0) 1 24 Tryz.underlying33 qi iz0 iz1 iz2 rfl (by decide) _ _ _ rfl (hcs.alloc _) ⟨w6.heap.size, 0, none⟩ 1 1 [.slice A6 Y.length c6] rfl rfl cell_one slice_one ?c3 ?c4 ?c5 ?_))
        case c3 => rw [takK_len]; unfold maxLen; omega
        case c4 => rw [takK_len]; omega
        case c5 => simp; omega
        intro v' w7 hown' hgrow _
        have hKN := keys_append (hcs.alloc _) (fun j u hu => by
          obtain ⟨l', q1, q2⟩ := hkk j u hu
          exact ⟨l', q1, q2.alloc _⟩) (hs6.alloc _) hown' hgrow
        have hal : Below w6.heap.size w6 (w6.alloc (.cells #[.slice A6 Y.length c6] 34)) := (Below.refl _ _).alloc (Nat.le_refl _) _
        have hg7 : Below w3.heap.size (w6.alloc (.cells #[.slice A6 Y.length c6] 34)) w7 := (Below.refl _ _).grown hgrow (by simp; omega) (fun k hk => (hcs.lt k hk).1)
        have hb67 : Below w3.heap.size w6 w7 := ((Below.refl _ _).alloc (by omega) _).trans hg7
        obtain ⟨ct, hot, hct⟩ := tak_grown (hT6.below hal (by omega)) (hcs.alloc _) (by decide) hgrow (hg7.mono hb3B)
        have hp7 := hp6.below (hb67.mono hb3B)
        have hb37 : Below w3.heap.size w3 w7 := hb36.trans hb67
        obtain ⟨hc7, hf7⟩ := bcellB ((hb6'.mono hb3r).trans hb67)
        have hbw3 : b < w3.heap.size := by omega
        have hz7 := hb37.size
        clear hown' hgrow hs6 hT6 hp6 hkk hcs hal hg7 hb67
        go_wp2_with (at_builtin; go_must (refine wpList_append_own _ rfl _ _ 22 rfl w3.heap.size 38 i1 (.agg #[.int .i64 0, .slice none 0 0]) 2 32 Tryz.underlying22 qj jz0 jz1 jz2 rfl (by decide) _ _ _ rfl (hot.alloc _) ⟨w7.heap.size, 0, none⟩ 1 1 [.int .i64 ok, .slice A' m c'] rfl rfl cell_two obj_one ?d3 ?d4 ?d5 ?_))
        case d3 => unfold maxLen; omega
        case d4 => omega
        case d5 => simp; omega
        intro v8 w8 hown8 hgrow8 _
        have hg8 : Below w3.heap.size (w7.alloc (.cells #[.int .i64 ok, .slice A' m c'] 38)) w8 := (Below.refl _ _).grown hgrow8 (by simp; omega) (fun k hk => (hot.lt k hk).1)
        have hal8 : Below w7.heap.size w7 (w7.alloc (.cells #[.int .i64 ok, .slice A' m c'] 38)) := (Below.refl _ _).alloc (Nat.le_refl _) _
        have hb38 : Below w3.heap.size w3 w8 := hb37.trans (((Below.refl _ _).alloc hz7 _).trans hg8)
        have hK8 := keys_grown (hKN.below hal8) (hot.alloc _) (by decide) (by decide) hgrow8
        have hT8 := tak_append (own_belowK hot hal8) (fun k o ho => by
          obtain ⟨A2, m2, c2, q1, q2, q3⟩ := hct k o ho
          exact ⟨A2, m2, c2, q1, q2, q3.below (hal8.mono (by omega))⟩) (hp7.below (hal8.mono (by omega))) hown8 (hg8.mono hb3B)
        clear hown8 hgrow8 hg8 hal8 hKN hot hct hp7 hb37 hc7 hf7
        go_wp2
        go_roundw
        case rel => exact ⟨i + 1, by omega, by go_num, by rw [HYE.out, takK_snoc, HY.out]; exact hK8, by rw [HYE.out]; exact hT8, hb38⟩
        case measure => simp [intOf]; omega
      obtain rfl : n1 = i := by omega
      rw [List.take_of_length_le (by rw [HL.out.1]; omega)] at hK hT hTl
      have hck : ∀ o ∈ takO (kd : Int) l, ckOb o = 0 ∧ o ∈ l := fun o h => takO_ck h
      obtain ⟨T, hTe⟩ : ∃ T, takO (kd : Int) l = T := ⟨_, rfl⟩
      rw [hTe] at hK hT hTl hck
      obtain ⟨Ak, ck, rfl, hR⟩ := rbs_of_keys hK
      obtain ⟨At, ct, rfl, hO, hct⟩ := obs_of_tak hT hBr
      have hkc := keys_cap hK
      have hKl := takK_len T
      obtain ⟨m, hm⟩ : ∃ m, T.length = m := ⟨_, rfl⟩
      rw [hm] at hKl hct hO hTl
      rw [hKl] at hR hkc
      simp only [hKl, hm]
      clear hK hT hTe
      have HCK := Lib.hid hck
      have HR := Lib.hid hR
      have HO := Lib.hid hO
      by_cases hm0 : m = 0
      case pos =>
        subst hm0
        clear hR hO hck
        go_wp2_with fail
        go_roundw
        case rel => exact ⟨kd + 1, by omega, by omega, by go_num, hb03⟩
        case measure => simp [intOf]; omega
      have hm1 : 0 < m := by omega
      obtain ⟨bk, okk, rfl, hbk, _⟩ := hR.2 hm1
      obtain ⟨bt, ot, rfl, hbt, _⟩ := hO.2 hm1
      have hm0' : ((m : Int) == 0) = false := by rw [beq_eq_false_iff_ne]; omega
      have hr1 := roundS_lt (k := k) (n := m + 1) (by omega)
      obtain ⟨r, hr⟩ : ∃ r, roundS k (m + 1) = r := ⟨_, rfl⟩
      have HRd : Hid (∀ W, Calls Tryz.prog 9 #[.int .i64 k, .int .i64 ((m : Int) + 1)] W (Ret W (.int .i64 (r : Nat)))) := fun W => by
        have h := round_any k (m + 1) (by omega) (by omega) W
        rw [hr] at h
        exact h
      rw [hr] at hr1
      have HF := Lib.hid (takF_of (T := T) (by intro e; rw [e] at hm; simp at hm; omega) (fun o h => (hck o h).1) r)
      obtain ⟨u, hu⟩ : ∃ u, unionK (takK T) = u := ⟨_, rfl⟩
      obtain ⟨u1, hu1⟩ : ∃ u, unionK ((takK T).drop r) = u := ⟨_, rfl⟩
      obtain ⟨u2, hu2⟩ : ∃ u, unionK ((takK T).take r) = u := ⟨_, rfl⟩
      rw [hu, hu1, hu2] at HF
      have hK256 : ∀ l ∈ takK T, ∀ x ∈ l, x < 256 := HF.out.all256
      have hKlen : ∀ l ∈ takK T, l.length ≤ 1000000 := HF.out.alll
      have HU1 : Hid (∀ W B A c, RbsAt W B A m (takK T) → B ≤ W.heap.size → Calls Tryz.prog 188 #[.agg #[.int .i64 kd], .slice A m c] W (RetB W u)) := fun W B A c h1 h2 => by
        have := Union_any (.int .i64 kd) B m c A _ W h1 h2 (by omega) hK256 hKlen
        rw [hu] at this
        exact this
      have HU2 : Hid (∀ W B A c, RbsAt W B A m ((takK T).drop r ++ (takK T).take r) → B ≤ W.heap.size → Calls Tryz.prog 188 #[.agg #[.int .i64 kd], .slice A m c] W (RetB W u)) := fun W B A c h1 h2 => by
        have := Union_any (.int .i64 kd) B m c A _ W h1 h2 (by omega) (fun l hl => by
          rcases List.mem_append.1 hl with h | h
          · exact hK256 l (List.mem_of_mem_drop h)
          · exact hK256 l (List.mem_of_mem_take h)) (fun l hl => by
          rcases List.mem_append.1 hl with h | h
          · exact hKlen l (List.mem_of_mem_drop h)
          · exact hKlen l (List.mem_of_mem_take h))
        rw [HF.out.turn] at this
        exact this
      have HU3 : Hid (∀ W B A c, RbsAt W B A (m - r) ((takK T).drop r) → B ≤ W.heap.size → Calls Tryz.prog 188 #[.agg #[.int .i64 kd], .slice A (m - r) c] W (RetB W u1)) := fun W B A c h1 h2 => by
        have := Union_any (.int .i64 kd) B (m - r) c A _ W h1 h2 (by omega) (fun l hl => hK256 l (List.mem_of_mem_drop hl)) (fun l hl => hKlen l (List.mem_of_mem_drop hl))
        rw [hu1] at this
        exact this
      have HU4 : Hid (∀ W B A c, RbsAt W B A r ((takK T).take r) → B ≤ W.heap.size → Calls Tryz.prog 188 #[.agg #[.int .i64 kd], .slice A r c] W (RetB W u2)) := fun W B A c h1 h2 => by
        have := Union_any (.int .i64 kd) B r c A _ W h1 h2 (by omega) (fun l hl => hK256 l (List.mem_of_mem_take hl)) (fun l hl => hKlen l (List.mem_of_mem_take hl))
        rw [hu2] at this
        exact this
      have HU5 : Hid (∀ W B A c, RbsAt W B A 2 [u1, u2] → B ≤ W.heap.size → Calls Tryz.prog 188 #[.agg #[.int .i64 kd], .slice A 2 c] W (RetB W u)) := fun W B A c h1 h2 => by
        have := Union_any (.int .i64 kd) B 2 c A _ W h1 h2 (by omega) (fun l hl => by
          simp at hl
          rcases hl with rfl | rfl
          · exact HF.out.b256a
          · exact HF.out.b256b) (fun l hl => by
          simp at hl
          rcases hl with rfl | rfl
          · exact HF.out.lena
          · exact HF.out.lenb)
        rw [HF.out.two] at this
        exact this
      clear hR hO hck hK256 hKlen hu hu1 hu2 hr
      go_wp2_with (first | (go_at_call 9; (with_reducible refine (HRd.out _).mono ?_); rintro e w4 ⟨rfl, hb4⟩) | (go_at_call 188; (with_reducible refine (HU1.out _ wr.heap.size _ _ (HR.out.tr (by repeat (first | with_reducible exact Below.refl _ _ | with_reducible assumption | with_reducible refine al ?_ _ | with_reducible refine Below.drew ?_ | with_reducible refine Below.setCell ?_ (by first | (simp; done) | (simp; omega)) _ | with_reducible refine tr ?_ (by with_reducible assumption))) (Nat.le_refl _)) ?_).mono ?_); (focus exact Below.size (by repeat (first | with_reducible exact Below.refl _ _ | with_reducible assumption | with_reducible refine al ?_ _ | with_reducible refine Below.drew ?_ | with_reducible refine Below.setCell ?_ (by first | (simp; done) | (simp; omega)) _ | with_reducible refine tr ?_ (by with_reducible assumption)))); rintro e w5 ⟨s5, rfl, ho5, hb5⟩; obtain ⟨A5, c5, rfl, hy5, z2, z3, z4⟩ := bys_of_own2 ho5))
      have hb5r : Below wr.heap.size wr w5 := (by repeat (first | with_reducible exact Below.refl _ _ | with_reducible assumption | with_reducible refine al ?_ _ | with_reducible refine Below.drew ?_ | with_reducible refine Below.setCell ?_ (by first | (simp; done) | (simp; omega)) _ | with_reducible refine tr ?_ (by with_reducible assumption)))
      have hz5 := hb5r.size
      have hR5 := HR.out.tr hb5r (Nat.le_refl _)
      have hrm : r ≤ m := by omega
      have hrk : r ≤ ck := by omega
      obtain ⟨AD, hAD⟩ : ∃ A : Option Addr, (if ck = r then some ⟨bk, okk, none⟩ else some ⟨bk, okk + r, none⟩) = A := ⟨_, rfl⟩
      have hADs : ∃ b off, AD = some ⟨b, off, none⟩ := by
        rw [← hAD]
        split <;> exact ⟨_, _, rfl⟩
      have hd5 : RbsAt w5 wr.heap.size AD (m - r) ((takK T).drop r) := by
        have h := rbs_drop hR5 hrm
        rw [← hAD]
        split
        · exact ⟨h.1, fun h0 => absurd h0 (by omega)⟩
        · exact h
      have ht5 := rbs_take hR5 hrm
      have HD5 := Lib.hid (fun W (hW : Below w5.heap.size w5 W) => hd5.tr hW hz5)
      have HT5 := Lib.hid (fun W (hW : Below w5.heap.size w5 W) => ht5.tr hW hz5)
      have hdl : ((takK T).drop r).length = m - r := by rw [List.length_drop, hKl]
      have htl : ((takK T).drop r ++ (takK T).take r).length = m := by rw [List.length_append, hdl, List.length_take, hKl]; omega
      clear hd5 ht5 hb4 ho5
      refine wp_region_below [0, 2, 3, 4, 6, 7, 8, 10, 11, 12, 1, 5, 9, 13, 14] (by kernel_rfl) (by kernel_rfl) (fun _ _ d _ _ h => by cases d <;> exact h) ?_
      simp only [List.map_cons, List.map_nil, List.getD_cons_zero, List.getD_cons_succ, bare, gslot, List.getElem?_cons_zero, List.getElem?_cons_succ, Option.bind_some]
      repeat' ((try simp only [Act.put, List.setIfInBounds_toArray, List.set_cons_zero, List.set_cons_succ]); first | (refine lexL_quiet (v := ?_) wantB_none rfl ?_ ?_; rotate_left; focus (intro wq hq; obtain ⟨hcq, hfq⟩ := bcell hq; go_simp; try with_reducible rfl)) | (refine lexL_loud wantB_none rfl (fun K hK => ?_); (first | (refine rows_app (.tmp 86) (.tmp 89) w5.heap.size wr.heap.size (m - r) (ck - r) AD (.slice (some ⟨w5.heap.size, 0, none⟩) 0 0) [] ((takK T).drop r) rfl rfl (rows_lit (by repeat (first | with_reducible assumption | with_reducible exact Blk.new (by simp) rfl | with_reducible refine Blk.alloc ?_ _ | with_reducible refine Blk.drew ?_ | with_reducible refine Blk.far ?_ (by first | (simp; done) | (simp; omega)) _ | with_reducible refine Blk.tr ?_ (by with_reducible assumption))) (Nat.le_refl _)) rfl hADs (HD5.out _ (by repeat (first | with_reducible exact Below.refl _ _ | with_reducible assumption | with_reducible refine al ?_ _ | with_reducible refine Below.drew ?_ | with_reducible refine Below.setCell ?_ (by first | (simp; done) | (simp; omega)) _ | with_reducible refine tr ?_ (by with_reducible assumption)))) hz5 (Below.size (B := w5.heap.size) (by repeat (first | with_reducible exact Below.refl _ _ | with_reducible assumption | with_reducible refine al ?_ _ | with_reducible refine Below.drew ?_ | with_reducible refine Below.setCell ?_ (by first | (simp; done) | (simp; omega)) _ | with_reducible refine tr ?_ (by with_reducible assumption)))) (by simp only [List.length_nil]; omega) ?_; intro v8 w8 hv8 hb8 hz8; have hb58 : Below w5.heap.size w5 w8 := Below.trans (by repeat (first | with_reducible exact Below.refl _ _ | with_reducible assumption | with_reducible refine al ?_ _ | with_reducible refine Below.drew ?_ | with_reducible refine Below.setCell ?_ (by first | (simp; done) | (simp; omega)) _ | with_reducible refine tr ?_ (by with_reducible assumption))) hb8; rw [List.nil_append] at hv8) | (refine rows_app (.tmp 90) (.tmp 93) w5.heap.size wr.heap.size r ck (some ⟨bk, okk, none⟩) v8 ((takK T).drop r) ((takK T).take r) rfl rfl hv8 rfl ⟨_, _, rfl⟩ (HT5.out _ (by repeat (first | with_reducible exact Below.refl _ _ | with_reducible assumption | with_reducible refine al ?_ _ | with_reducible refine Below.drew ?_ | with_reducible refine Below.setCell ?_ (by first | (simp; done) | (simp; omega)) _ | with_reducible refine tr ?_ (by with_reducible assumption)))) hz5 (Below.size (B := w5.heap.size) (by repeat (first | with_reducible exact Below.refl _ _ | with_reducible assumption | with_reducible refine al ?_ _ | with_reducible refine Below.drew ?_ | with_reducible refine Below.setCell ?_ (by first | (simp; done) | (simp; omega)) _ | with_reducible refine tr ?_ (by with_reducible assumption)))) (by rw [hdl]; omega) ?_; intro v9 w9 hv9 hb9 hz9; have hb59 : Below w5.heap.size w5 w9 := Below.trans (by repeat (first | with_reducible exact Below.refl _ _ | with_reducible assumption | with_reducible refine al ?_ _ | with_reducible refine Below.drew ?_ | with_reducible refine Below.setCell ?_ (by first | (simp; done) | (simp; omega)) _ | with_reducible refine tr ?_ (by with_reducible assumption))) hb9; have hv9' := rbs_of_rows hv9 (Nat.le_trans hz5 hb59.size); rw [htl] at hv9'; obtain ⟨A9, c9, rfl, hR9⟩ := hv9'; clear hv9 hv8)); refine hK.out _ _ (by repeat (first | with_reducible exact Below.refl _ _ | with_reducible assumption | with_reducible refine al ?_ _ | with_reducible refine Below.drew ?_ | with_reducible refine Below.setCell ?_ (by first | (simp; done) | (simp; omega)) _ | with_reducible refine tr ?_ (by with_reducible assumption))) ?_; clear hK K) | (refine lexL_loud wantB_none rfl (fun K hK => ?_); go_simp; ((first | ((with_reducible refine (HU2.out _ w9.heap.size _ _ (hR9.tr (by repeat (first | with_reducible exact Below.refl _ _ | with_reducible assumption | with_reducible refine al ?_ _ | with_reducible refine Below.drew ?_ | with_reducible refine Below.setCell ?_ (by first | (simp; done) | (simp; omega)) _ | with_reducible refine tr ?_ (by with_reducible assumption))) (Nat.le_refl _)) ?_).mono ?_); (focus (first | exact Nat.le_refl _ | (simp; done))); rintro e w10 ⟨s10, rfl, ho10, hb10⟩; obtain ⟨A10, c10, rfl, hy10, z12, z13, z14⟩ := bys_of_own2 ho10; clear ho10)  | skip) <;> (refine hK.out _ _ (by repeat (first | with_reducible exact Below.refl _ _ | with_reducible assumption | with_reducible refine al ?_ _ | with_reducible refine Below.drew ?_ | with_reducible refine Below.setCell ?_ (by first | (simp; done) | (simp; omega)) _ | with_reducible refine tr ?_ (by with_reducible assumption))) ?_; clear hK K))) | (refine lexL_on ?_ ?_; focus (simp only [List.getElem?_toArray, List.getElem?_cons_succ, List.getElem?_cons_zero, Bool.not_true, Bool.not_false]; done)) | (refine lexL_off ?_ ?_ ?_; (focus (simp only [List.getElem?_toArray, List.getElem?_cons_succ, List.getElem?_cons_zero, Bool.not_true, Bool.not_false]; done)); (focus (exact (by repeat (first | with_reducible exact Below.refl _ _ | with_reducible assumption | with_reducible refine al ?_ _ | with_reducible refine Below.drew ?_ | with_reducible refine Below.setCell ?_ (by first | (simp; done) | (simp; omega)) _ | with_reducible refine tr ?_ (by with_reducible assumption)))))) | (refine lexL_splitS (X := ?_) ?_ ?_ (fun hg => ?_) (fun hg => ?_); rotate_left; (focus (simp only [List.getElem?_toArray, List.getElem?_cons_succ, List.getElem?_cons_zero]; with_reducible rfl)); (focus (exact (by repeat (first | with_reducible exact Below.refl _ _ | with_reducible assumption | with_reducible refine al ?_ _ | with_reducible refine Below.drew ?_ | with_reducible refine Below.setCell ?_ (by first | (simp; done) | (simp; omega)) _ | with_reducible refine tr ?_ (by with_reducible assumption))))); all_goals (try simp only [Bool.not_true, Bool.not_false] at hg)))
      (all_goals try simp only [Act.put, List.setIfInBounds_toArray, List.set_cons_zero, List.set_cons_succ]); all_goals (refine lexL_nil ?_)
      have hb510 : Below w5.heap.size w5 w10 := (by repeat (first | with_reducible exact Below.refl _ _ | with_reducible assumption | with_reducible refine al ?_ _ | with_reducible refine Below.drew ?_ | with_reducible refine Below.setCell ?_ (by first | (simp; done) | (simp; omega)) _ | with_reducible refine tr ?_ (by with_reducible assumption)))
      have hz10 := hb510.size
      have hy5' := (hy5.tr hb510 (Nat.le_refl _)).more hz10
      have HD10 := Lib.hid (fun W (hW : Below w10.heap.size w10 W) => HD5.out W (hb510.trans (hW.mono hz10)))
      have HT10 := Lib.hid (fun W (hW : Below w10.heap.size w10 W) => HT5.out W (hb510.trans (hW.mono hz10)))
      have hbr10 : Below wr.heap.size wr w10 := hb5r.trans (hb510.mono hz5)
      have hzr10 := hbr10.size
      have hy18 := Lib.hid (And.intro hy5' hy10)
      clear hb10 hb8 hb9 hz8 hz9 hb58 hb59 hR9 HD5 HT5 hR5 hb5 hy5 hy5' hy10 hb5r hz5 hb510
      go_wp2_with fail
      refine wp_region_below [0, 1, 2, 3, 4, 5, 6, 7, 9, 10, 11, 12, 13, 14, 15, 18, 19, 20, 8, 16, 17, 21, 22] (by kernel_rfl) (by kernel_rfl) (fun _ _ d _ _ h => by cases d <;> exact h) ?_
      simp only [List.map_cons, List.map_nil, List.getD_cons_zero, List.getD_cons_succ, bare, gslot, List.getElem?_cons_zero, List.getElem?_cons_succ, Option.bind_some]
      repeat' ((try simp only [Act.put, List.setIfInBounds_toArray, List.set_cons_zero, List.set_cons_succ]); first | (refine lexL_quiet (v := ?_) wantB_none rfl ?_ ?_; rotate_left; focus (intro wq hq; obtain ⟨hcq, hfq⟩ := bcell hq; go_simp; try with_reducible rfl)) | (refine lexL_loud wantB_none rfl (fun K hK => ?_); go_simp; ((first | ((with_reducible refine (HU3.out _ wr.heap.size AD _ (HD10.out _ (by repeat (first | with_reducible exact Below.refl _ _ | with_reducible assumption | with_reducible refine al ?_ _ | with_reducible refine Below.drew ?_ | with_reducible refine Below.setCell ?_ (by first | (simp; done) | (simp; omega)) _ | with_reducible refine tr ?_ (by with_reducible assumption)))) ?_).mono ?_); (focus exact Nat.le_trans hzr10 (Below.size (B := w10.heap.size) (by repeat (first | with_reducible exact Below.refl _ _ | with_reducible assumption | with_reducible refine al ?_ _ | with_reducible refine Below.drew ?_ | with_reducible refine Below.setCell ?_ (by first | (simp; done) | (simp; omega)) _ | with_reducible refine tr ?_ (by with_reducible assumption))))); rintro e w11 ⟨s11, rfl, ho11, hb11⟩; obtain ⟨A11, c11, rfl, hy11, q12, q13, q14⟩ := bys_of_own2 ho11; clear ho11) | ((with_reducible refine (HU4.out _ wr.heap.size (some ⟨bk, okk, none⟩) _ (HT10.out _ (by repeat (first | with_reducible exact Below.refl _ _ | with_reducible assumption | with_reducible refine al ?_ _ | with_reducible refine Below.drew ?_ | with_reducible refine Below.setCell ?_ (by first | (simp; done) | (simp; omega)) _ | with_reducible refine tr ?_ (by with_reducible assumption)))) ?_).mono ?_); (focus exact Nat.le_trans hzr10 (Below.size (B := w10.heap.size) (by repeat (first | with_reducible exact Below.refl _ _ | with_reducible assumption | with_reducible refine al ?_ _ | with_reducible refine Below.drew ?_ | with_reducible refine Below.setCell ?_ (by first | (simp; done) | (simp; omega)) _ | with_reducible refine tr ?_ (by with_reducible assumption))))); rintro e w12 ⟨s12, rfl, ho12, hb12⟩; obtain ⟨A12, c12, rfl, hy12, r12, r13, r14⟩ := bys_of_own2 ho12; clear ho12) | ((with_reducible refine (HU5.out _ _ (some ⟨w12.heap.size, 0, none⟩) _ (rbs_pair (by repeat (first | with_reducible assumption | with_reducible exact Blk.new (by simp) rfl | with_reducible refine Blk.alloc ?_ _ | with_reducible refine Blk.drew ?_ | with_reducible refine Blk.far ?_ (by first | (simp; done) | (simp; omega)) _ | with_reducible refine Blk.tr ?_ (by with_reducible assumption))) ((hy11.tr (by repeat (first | with_reducible exact Below.refl _ _ | with_reducible assumption | with_reducible refine al ?_ _ | with_reducible refine Below.drew ?_ | with_reducible refine Below.setCell ?_ (by first | (simp; done) | (simp; omega)) _ | with_reducible refine tr ?_ (by with_reducible assumption))) (Nat.le_refl _)).more (Below.size (B := w11.heap.size) (by repeat (first | with_reducible exact Below.refl _ _ | with_reducible assumption | with_reducible refine al ?_ _ | with_reducible refine Below.drew ?_ | with_reducible refine Below.setCell ?_ (by first | (simp; done) | (simp; omega)) _ | with_reducible refine tr ?_ (by with_reducible assumption))))) ((hy12.tr (by repeat (first | with_reducible exact Below.refl _ _ | with_reducible assumption | with_reducible refine al ?_ _ | with_reducible refine Below.drew ?_ | with_reducible refine Below.setCell ?_ (by first | (simp; done) | (simp; omega)) _ | with_reducible refine tr ?_ (by with_reducible assumption))) (Nat.le_refl _)).more (Below.size (B := w12.heap.size) (by repeat (first | with_reducible exact Below.refl _ _ | with_reducible assumption | with_reducible refine al ?_ _ | with_reducible refine Below.drew ?_ | with_reducible refine Below.setCell ?_ (by first | (simp; done) | (simp; omega)) _ | with_reducible refine tr ?_ (by with_reducible assumption))))) q13 r13 q14 r14) (Nat.le_refl _)).mono ?_); rintro e w13 ⟨s13, rfl, ho13, hb13⟩; obtain ⟨A13, c13, rfl, hy13, t12, t13, t14⟩ := bys_of_own2 ho13; clear ho13) | skip) <;> (refine hK.out _ _ (by repeat (first | with_reducible exact Below.refl _ _ | with_reducible assumption | with_reducible refine al ?_ _ | with_reducible refine Below.drew ?_ | with_reducible refine Below.setCell ?_ (by first | (simp; done) | (simp; omega)) _ | with_reducible refine tr ?_ (by with_reducible assumption))) ?_; clear hK K))) | (refine lexL_on ?_ ?_; focus (simp only [List.getElem?_toArray, List.getElem?_cons_succ, List.getElem?_cons_zero, Bool.not_true, Bool.not_false]; done)) | (refine lexL_off ?_ ?_ ?_; (focus (simp only [List.getElem?_toArray, List.getElem?_cons_succ, List.getElem?_cons_zero, Bool.not_true, Bool.not_false]; done)); (focus (exact (by repeat (first | with_reducible exact Below.refl _ _ | with_reducible assumption | with_reducible refine al ?_ _ | with_reducible refine Below.drew ?_ | with_reducible refine Below.setCell ?_ (by first | (simp; done) | (simp; omega)) _ | with_reducible refine tr ?_ (by with_reducible assumption)))))) | (refine lexL_splitS (X := ?_) ?_ ?_ (fun hg => ?_) (fun hg => ?_); rotate_left; (focus (simp only [List.getElem?_toArray, List.getElem?_cons_succ, List.getElem?_cons_zero]; with_reducible rfl)); (focus (exact (by repeat (first | with_reducible exact Below.refl _ _ | with_reducible assumption | with_reducible refine al ?_ _ | with_reducible refine Below.drew ?_ | with_reducible refine Below.setCell ?_ (by first | (simp; done) | (simp; omega)) _ | with_reducible refine tr ?_ (by with_reducible assumption))))); all_goals (try simp only [Bool.not_true, Bool.not_false] at hg)))
      (all_goals try simp only [Act.put, List.setIfInBounds_toArray, List.set_cons_zero, List.set_cons_succ]); all_goals (refine lexL_nil ?_)
      have hb1013 : Below w10.heap.size w10 w13 := (by repeat (first | with_reducible exact Below.refl _ _ | with_reducible assumption | with_reducible refine al ?_ _ | with_reducible refine Below.drew ?_ | with_reducible refine Below.setCell ?_ (by first | (simp; done) | (simp; omega)) _ | with_reducible refine tr ?_ (by with_reducible assumption)))
      have hz13 := hb1013.size
      have YU := (hy18.out.1.tr hb1013 (Nat.le_refl _)).more hz13
      have YV := (hy18.out.2.tr hb1013 (Nat.le_refl _)).more hz13
      have hbr13 : Below wr.heap.size wr w13 := hbr10.trans (hb1013.mono hzr10)
      have hzr13 := hbr13.size
      have hb013 : Below w.heap.size w w13 := hb03.trans (hbr13.mono hb03.size)
      have hB13 := Nat.le_trans hB hb013.size
      have OT := obs_more (HO.out.tr hbr13 (Nat.le_refl _)) hzr13
      have QT := qus_more (HQ.out.tr hb013 hB) hB13
      have PT := pts_lift (HP.out.tr hb013 hB) hB13
      have RT := rbs_more (HR.out.tr hbr13 (Nat.le_refl _)) hzr13
      have hTlen : ∀ o ∈ T, o.pts.length ≤ 1000000 := fun o h => Nat.le_trans (G4.out o (HCK.out o h).2) (by decide)
      have hqlen : ∀ x ∈ q, x.ring.length ≤ 1000000 := fun x h => Nat.le_trans (G5.out x h) (by decide)
      have HB1 : Hid (∀ W, Below w13.heap.size w13 W → Calls Tryz.prog 10 #[.slice A5 u.length c5, .slice A10 u.length c10] W (Ret W (.bool true))) := fun W hW => by
        have := bytes_any w13.heap.size u.length c5 u.length c10 A5 A10 u u W (YU.tr hW (Nat.le_refl _)) (YV.tr hW (Nat.le_refl _)) hW.size HF.out.len
        rw [decide_eq_true rfl] at this
        exact this
      have HB2 : Hid (∀ W, Below w13.heap.size w13 W → Calls Tryz.prog 10 #[.slice A5 u.length c5, .slice A13 u.length c13] W (Ret W (.bool true))) := fun W hW => by
        have := bytes_any w13.heap.size u.length c5 u.length c13 A5 A13 u u W (YU.tr hW (Nat.le_refl _)) (hy13.tr hW (Nat.le_refl _)) hW.size HF.out.len
        rw [decide_eq_true rfl] at this
        exact this
      have HC1 : Hid (∀ W, Below w13.heap.size w13 W → Calls Tryz.prog 11 #[clsV kd, .slice A5 u.length c5, .slice (some ⟨bt, ot, none⟩) m ct, .slice A2 n2 c2, .slice A3 n3 c3] W (Ret W (.bool true))) := fun W hW => by
        have := Covers_any 65 (.agg #[.int .i64 kd]) 183 184 u (consS u) (farS u) (fun w => mC _ w) (fun w => nC _ w) (consAt_box _ u HF.out.b256 HF.out.len) (fun w => mD _ w) (fun w => nD _ w) (distAt_box _ u HF.out.b256 HF.out.len) w13.heap.size c5 m ct n2 c2 n3 c3 A5 (some ⟨bt, ot, none⟩) A2 A3 T q p W (YU.tr hW (Nat.le_refl _)) z4 z3 HF.out.len (OT.tr hW (Nat.le_refl _)) (QT.tr hW (Nat.le_refl _)) (PT.tr hW (Nat.le_refl _)) hW.size (by omega) (by omega) (by omega) hTlen hqlen
        rw [HF.out.cov] at this
        exact this
      have HC2 : Hid (∀ W (i : Nat) o A' c' cc, Below w13.heap.size w13 W → T[i]? = some o → BysAt W w13.heap.size A' (keyL (boundsS o)).length (keyL (boundsS o)) → (keyL (boundsS o)).length ≤ c' → (A' = none → c' = 0) → Calls Tryz.prog 11 #[clsV kd, .slice A' (keyL (boundsS o)).length c', .slice (some ⟨bt, ot + i * 2, none⟩) 1 cc, .slice A2 n2 c2, .slice A3 n3 c3] W (Ret W (.bool true))) := fun W i o A' c' cc hW ho hy hc hz => by
        have hmem := List.mem_of_getElem? ho
        have hmk : keyL (boundsS o) ∈ takK T := List.mem_map.2 ⟨o, hmem, rfl⟩
        have := Covers_any 65 (.agg #[.int .i64 kd]) 183 184 (keyL (boundsS o)) (consS (keyL (boundsS o))) (farS (keyL (boundsS o))) (fun w => mC _ w) (fun w => nC _ w) (consAt_box _ _ (HF.out.all256 _ hmk) (HF.out.alll _ hmk)) (fun w => mD _ w) (fun w => nD _ w) (distAt_box _ _ (HF.out.all256 _ hmk) (HF.out.alll _ hmk)) w13.heap.size c' 1 cc n2 c2 n3 c3 A' (some ⟨bt, ot + i * 2, none⟩) A2 A3 [o] q p W hy hc hz (HF.out.alll _ hmk) (obs_one (OT.tr hW (Nat.le_refl _)) ho) (QT.tr hW (Nat.le_refl _)) (PT.tr hW (Nat.le_refl _)) hW.size (by omega) (by omega) (by omega) (fun x hx => by
          simp at hx
          subst hx
          exact hTlen _ hmem) hqlen
        rw [HF.out.cov1 o hmem] at this
        exact this
      have HPn : Hid (∀ W (i : Nat) o A' c', Below w13.heap.size w13 W → T[i]? = some o → BysAt W w13.heap.size A' (keyL (boundsS o)).length (keyL (boundsS o)) → (keyL (boundsS o)).length ≤ c' → Calls Tryz.prog 186 #[.agg #[.int .i64 kd], .slice A5 u.length c5, .slice A' (keyL (boundsS o)).length c'] W (Ret W (.int .i64 0))) := fun W i o A' c' hW ho hy hc => by
        have hmem := List.mem_of_getElem? ho
        have hmk : keyL (boundsS o) ∈ takK T := List.mem_map.2 ⟨o, hmem, rfl⟩
        have := Pen_any (.int .i64 kd) w13.heap.size u.length c5 (keyL (boundsS o)).length c' A5 A' u (keyL (boundsS o)) W (YU.tr hW (Nat.le_refl _)) HF.out.b256 hy (HF.out.all256 _ hmk) hW.size HF.out.len z4 (HF.out.alll _ hmk) hc
        rw [HF.out.pen o hmem] at this
        exact this
      have hOT1 := OT.1
      have HRT := Lib.hid RT
      clear hy11 hy12 hy13 YU YV OT QT PT RT hTlen hqlen HD10 HT10 HU1 HU2 HU3 HU4 HU5 hb11 hb12 hb13 hb1013 hbr10 hbr13 hzr10 hzr13 hz10 hz13 hy18 hADs hAD hdl htl HR HO HRd
      clear mM mU nM nU
      go_wp2_with (first | (go_at_call 10; (with_reducible refine (HB1.out _ (by repeat (first | with_reducible exact Below.refl _ _ | with_reducible assumption | with_reducible refine al ?_ _ | with_reducible refine Below.drew ?_ | with_reducible refine Below.setCell ?_ (by first | (simp; done) | (simp; omega)) _ | with_reducible refine tr ?_ (by with_reducible assumption)))).mono ?_); rintro e w14 ⟨rfl, hb14⟩) | (go_at_call 10; (with_reducible refine (HB2.out _ (by repeat (first | with_reducible exact Below.refl _ _ | with_reducible assumption | with_reducible refine al ?_ _ | with_reducible refine Below.drew ?_ | with_reducible refine Below.setCell ?_ (by first | (simp; done) | (simp; omega)) _ | with_reducible refine tr ?_ (by with_reducible assumption)))).mono ?_); rintro e w15 ⟨rfl, hb15⟩) | (go_at_call 11; (with_reducible refine (HC1.out _ (by repeat (first | with_reducible exact Below.refl _ _ | with_reducible assumption | with_reducible refine al ?_ _ | with_reducible refine Below.drew ?_ | with_reducible refine Below.setCell ?_ (by first | (simp; done) | (simp; omega)) _ | with_reducible refine tr ?_ (by with_reducible assumption)))).mono ?_); rintro e w16 ⟨rfl, hb16⟩))
      go_loopw [21] (fun vi w4 => ∃ i : Nat, i ≤ m ∧ vi = .int .i64 i ∧ Below w13.heap.size w13 w4) (fun vi _ => m - (intOf vi).toNat)
      case atStart => exact ⟨0, by omega, rfl, (by repeat (first | with_reducible exact Below.refl _ _ | with_reducible assumption | with_reducible refine al ?_ _ | with_reducible refine Below.drew ?_ | with_reducible refine Below.setCell ?_ (by first | (simp; done) | (simp; omega)) _ | with_reducible refine tr ?_ (by with_reducible assumption)))⟩
      case round =>
        obtain ⟨i, hi, rfl, hbi⟩ := hrel
        by_cases hlt2 : i < m
        case neg =>
          obtain rfl : i = m := by omega
          go_wp2_with fail
          go_roundw
          case rel => exact ⟨kd + 1, by omega, by omega, by go_num, hb013.trans (hbi.mono hb013.size)⟩
          case measure => simp [intOf]; omega
        have hi1 : (i : Int) < (m : Int) := by omega
        obtain ⟨b', off', A', n', c', e1, hab, hcell, hby, he, hz, hnc⟩ := (HRT.out.below hbi).at_ hlt2
        injection e1 with e1
        injection e1 with e2 e3
        subst e2 e3
        obtain ⟨o, ho⟩ : ∃ o, T[i]? = some o := ⟨_, List.getElem?_eq_getElem (by omega)⟩
        have hkey : (takK T)[i]? = some (keyL (boundsS o)) := by
          unfold takK
          rw [List.getElem?_map, ho]
          rfl
        have hY : (takK T).getD i [] = keyL (boundsS o) := by
          rw [hkey] at he
          injection he with he
          exact he.symm
        rw [hY] at hby
        obtain rfl : (keyL (boundsS o)).length = n' := hby.1
        have hbw : bk < wr.heap.size := by have := hbi.size; omega
        have hcc : ¬ ct = i := by omega
        have hic : (i : Int) + 1 ≤ (ct : Int) := by omega
        have hwr : IntKind.i64.wrap ((i : Int) + 1) = (i : Int) + 1 := IntWalk.i64_in ((i : Int) + 1) ⟨by omega, by omega⟩
        have hin : ((i : Int) + 1).toNat = i + 1 := by omega
        have hi0 : 0 ≤ (i : Int) + 1 := by omega
        have HPi := Lib.hid (fun W (hW : Below wr.heap.size wr W) => HPn.out W i o A' c' (hbi.trans (hW.mono hbi.size)) ho (hby.below (hW.mono hbi.size)) hnc)
        have HCi := Lib.hid (fun W cc (hW : Below wr.heap.size wr W) => HC2.out W i o A' c' cc (hbi.trans (hW.mono hbi.size)) ho (hby.below (hW.mono hbi.size)) hnc hz)
        clear hby he hkey hY ho
        generalize (keyL (boundsS o)).length = yl at *
        go_wp2_with fail
        refine wp_region_belowI (by kernel_rfl) (by kernel_rfl) (fun _ _ d _ _ h => by cases d <;> exact h) ?_
        simp only [List.map_cons, List.map_nil, List.getD_cons_zero, List.getD_cons_succ, bare, gslot, List.getElem?_cons_zero, List.getElem?_cons_succ, Option.bind_some]
        repeat' ((try simp only [Act.put, List.setIfInBounds_toArray, List.set_cons_zero, List.set_cons_succ]); first | (refine lexL_on ?_ ?_; focus (simp only [List.getElem?_toArray, List.getElem?_cons_succ, List.getElem?_cons_zero, Bool.not_true, Bool.not_false]; done)) | (refine lexL_off ?_ ?_ ?_; (focus (simp only [List.getElem?_toArray, List.getElem?_cons_succ, List.getElem?_cons_zero, Bool.not_true, Bool.not_false]; done)); (focus (exact (by repeat (first | with_reducible exact Below.refl _ _ | with_reducible assumption | with_reducible refine al ?_ _ | with_reducible refine Below.drew ?_ | with_reducible refine Below.setCell ?_ (by first | (simp; done) | (simp; omega)) _ | with_reducible refine tr ?_ (by with_reducible assumption)))))) | (refine lexL_splitS (X := ?_) ?_ ?_ (fun hg => ?_) (fun hg => ?_); rotate_left; (focus (simp only [List.getElem?_toArray, List.getElem?_cons_succ, List.getElem?_cons_zero]; with_reducible rfl)); (focus (exact (by repeat (first | with_reducible exact Below.refl _ _ | with_reducible assumption | with_reducible refine al ?_ _ | with_reducible refine Below.drew ?_ | with_reducible refine Below.setCell ?_ (by first | (simp; done) | (simp; omega)) _ | with_reducible refine tr ?_ (by with_reducible assumption))))); all_goals (try simp only [Bool.not_true, Bool.not_false] at hg)) | (refine lexL_quiet (v := ?_) wantB_none rfl ?_ ?_; rotate_left; focus (intro wq hq; obtain ⟨hcq, hfq⟩ := bcell hq; go_simp; try with_reducible rfl)) | (refine lexL_loud wantB_none rfl (fun K hK => ?_); go_simp; ((first |  (go_at_call 186; (with_reducible refine (HPi.out _ (by repeat (first | with_reducible exact Below.refl _ _ | with_reducible assumption | with_reducible refine al ?_ _ | with_reducible refine Below.drew ?_ | with_reducible refine Below.setCell ?_ (by first | (simp; done) | (simp; omega)) _ | with_reducible refine tr ?_ (by with_reducible assumption)))).mono ?_); rintro e w17 ⟨rfl, hb17⟩) | (go_at_call 11; (with_reducible refine (HCi.out _ _ (by repeat (first | with_reducible exact Below.refl _ _ | with_reducible assumption | with_reducible refine al ?_ _ | with_reducible refine Below.drew ?_ | with_reducible refine Below.setCell ?_ (by first | (simp; done) | (simp; omega)) _ | with_reducible refine tr ?_ (by with_reducible assumption)))).mono ?_); rintro e w18 ⟨rfl, hb18⟩) | skip) <;> (refine hK.out _ _ (by repeat (first | with_reducible exact Below.refl _ _ | with_reducible assumption | with_reducible refine al ?_ _ | with_reducible refine Below.drew ?_ | with_reducible refine Below.setCell ?_ (by first | (simp; done) | (simp; omega)) _ | with_reducible refine tr ?_ (by with_reducible assumption))) ?_; clear hK K))))
        (all_goals try simp only [Act.put, List.setIfInBounds_toArray, List.set_cons_zero, List.set_cons_succ]); all_goals (refine lexL_nil ?_)
        go_wp2_with fail
        go_roundw
        case rel => exact ⟨i + 1, by omega, by go_num, (by repeat (first | with_reducible exact Below.refl _ _ | with_reducible assumption | with_reducible refine al ?_ _ | with_reducible refine Below.drew ?_ | with_reducible refine Below.setCell ?_ (by first | (simp; done) | (simp; omega)) _ | with_reducible refine tr ?_ (by with_reducible assumption)))⟩
        case measure => simp [intOf]; omega
end Go.Proofs.YtmliljdbpkikpaaGreat
