/-
  The walk of the statement OpclassSplits, joined with its plain law.
-/
import Derived.Test.YtmaogalgganhgaaSplC
import Derived.Test.YtmaogalgganhgaaEncK
import Derived.Test.YtmaogalgganhgaaEncJ
import Derived.Test.YtmaogalgganhgaaRef1
set_option linter.unusedSimpArgs false
set_option linter.unusedVariables false
namespace Go.Proofs.Ytmaogalgganhgaa
open Go.RowKit Pg
theorem methodSplit (v : Value) (w : World) : (Go.method 240 50 v "Split").run Try.prog w = .ok (35, v) w := by kernel_rfl
theorem Try.infoYs : (Try.prog.info? 36).map (fun i => (i.zero, i.size, i.bytes)) = some (some (.slice none 0 0), 1, 24) := by kernel_rfl
theorem boxK_key {b : Bx} (h : okBx b = true) : boxK (keyL b) = b := by
  unfold boxK
  rw [unkey_key (okBx_in h), if_pos h]
  rfl
theorem boxK_keys {l : List Bx} (h : ∀ b ∈ l, okBx b = true) : (l.map keyL).map boxK = l := by
  rw [List.map_map]
  have : l.map (boxK ∘ keyL) = l.map id := List.map_congr_left fun b hb => boxK_key (h b hb)
  rw [this, List.map_id]
theorem key_one {A : Option Addr} {n c : Nat} : ∀ v ∈ [Value.slice A n c], v.oneCell' = true := by simp [Value.oneCell']

set_option maxHeartbeats 8000000 in
set_option maxRecDepth 20000 in
theorem opclassSplits_walk (B n c : Nat) (A : Option Addr) (l : List Bx) (w : World) (hl : BxsAt w B A n l) (hB : B ≤ w.heap.size) :
    Calls Try.prog 3 #[.slice A n c] w (Ret w (.bool true)) := by
  by_cases hn2 : n < 2
  · have h2 : (n : Int) < 2 := by omega
    clear hl
    go_enter Try.func3, Try.ntmps3
    go_wp2_with (go_at_call 4; refine (awake16_true _).mono ?_; rintro e w9 ⟨rfl, hb9⟩)
    go_ret
    exact ⟨rfl, (by repeat (first | with_reducible exact Below.refl _ _ | with_reducible assumption | with_reducible refine al ?_ _ | with_reducible refine Below.drew ?_ | with_reducible refine Below.setCell ?_ (by first | (simp; done) | (simp; omega)) _ | with_reducible refine tr ?_ (by with_reducible assumption)))⟩
  by_cases hn60 : 60 < n
  · have h2 : ¬ (n : Int) < 2 := by omega
    have h3 : (60 : Int) < (n : Int) := by omega
    clear hl
    go_enter Try.func3, Try.ntmps3
    go_wp2_with (go_at_call 4; refine (awake16_true _).mono ?_; rintro e w9 ⟨rfl, hb9⟩)
    go_ret
    exact ⟨rfl, (by repeat (first | with_reducible exact Below.refl _ _ | with_reducible assumption | with_reducible refine al ?_ _ | with_reducible refine Below.drew ?_ | with_reducible refine Below.setCell ?_ (by first | (simp; done) | (simp; omega)) _ | with_reducible refine tr ?_ (by with_reducible assumption)))⟩
  have h2 : ¬ (n : Int) < 2 := by omega
  have h3 : ¬ (60 : Int) < (n : Int) := by omega
  obtain ⟨i0, hi, iz0, iz1, iz2⟩ := info_parts Try.infoYs
  have mS := methodSplit
  have HL := Lib.hid hl
  clear hl
  go_enter Try.func3, Try.ntmps3
  go_wp2_with (go_at_call 5; (with_reducible refine (Boxes_ok _ _ (by decide) (by decide)).mono ?_); rintro e w1 ⟨rfl, hb1⟩; obtain ⟨hc1, hf1⟩ := bcell hb1; have hz1 := hb1.size; (try simp at hz1))
  go_loopw [5, 6] (fun vk vi wr => ∃ k : Nat, k ≤ n ∧ vi = .int .i64 k ∧ KeysAt wr w.heap.size vk ((l.take k).map keyL) ∧ (∀ b ∈ l.take k, okBx b = true) ∧ Below w.heap.size w wr) (fun _ vi _ => n - (intOf vi).toNat)
  case atStart => exact ⟨0, by omega, rfl, KeysAt.nil _ _, fun b h => by simp at h, hb1⟩
  case round =>
    clear hc1 hf1 hb1
    obtain ⟨k, hk, rfl, hK, hok, hb⟩ := hrel
    by_cases hlt : k < n
    · obtain ⟨b, off, rfl, hab, a0, a1, a2, a3⟩ := (HL.out.below (hb.mono hB)).at_ hlt
      have hkl : l[k]? = some (bx l k) := bx_of (by rw [HL.out.1]; exact hlt)
      obtain ⟨p, hp⟩ : ∃ p, bx l k = p := ⟨_, rfl⟩
      rw [hp] at a0 a1 a2 a3 hkl
      clear hp
      have hbw : b < wr.heap.size := by have := hb.size; omega
      have hk0 : (k : Int) < (n : Int) := by omega
      have hbz := hb.size
      by_cases hck : ckBox p = 0
      · have HC : Hid (∀ w', Calls Try.prog 6 #[bxV p.lo.x p.lo.y p.hi.x p.hi.y] w' (Ret w' (.int .i64 0))) := fun w' => by
          have h := rcheckBox_any p.lo.x p.lo.y p.hi.x p.hi.y w'
          rw [show (⟨⟨p.lo.x, p.lo.y⟩, ⟨p.hi.x, p.hi.y⟩⟩ : Bx) = p from rfl, hck] at h
          exact h
        have hokp : okBx p = true := by unfold okBx; rw [hck]; rfl
        have HK : Hid (∀ w', Calls Try.prog 7 #[bxV p.lo.x p.lo.y p.hi.x p.hi.y] w' (RetB w' (keyL p))) := fun w' => key_any p.lo.x p.lo.y p.hi.x p.hi.y (okBx_in hokp) w'
        have HKP := Lib.hid hkl
        have HOK := Lib.hid hok
        obtain ⟨Lk, hLk⟩ : ∃ L', (l.take k).map keyL = L' := ⟨_, rfl⟩
        have hlk : Lk.length = k := by rw [← hLk, List.length_map, List.length_take, HL.out.1]; omega
        rw [hLk] at hK
        have HKS := Lib.hid hK
        have HLK := Lib.hid hLk
        have HLN := Lib.hid hlk
        clear hLk hlk
        clear hkl hok hck hK
        go_wp2_with (first | (go_at_call 6; (with_reducible refine (HC.out _).mono ?_); rintro e w5 ⟨rfl, hb5⟩; obtain ⟨hc5, hf5⟩ := bcell hb5; have hz5 := hb5.size; (try simp at hz5)) | (go_at_call 7; (with_reducible refine (HK.out _).mono ?_); rintro e w6 ⟨s6, rfl, ho6, hb6⟩; obtain ⟨A6, c6, rfl, hB6, hl6, hn6, hm6⟩ := bys_of_own2 ho6; clear hB6 hl6 hn6 hm6; have hb6' : Below wr.heap.size wr w6 := (by repeat (first | with_reducible exact Below.refl _ _ | with_reducible assumption | with_reducible refine al ?_ _ | with_reducible refine Below.drew ?_ | with_reducible refine Below.setCell ?_ (by first | (simp; done) | (simp; omega)) _ | with_reducible refine tr ?_ (by with_reducible assumption))); obtain ⟨cs, hcs, hkk⟩ := HKS.out.below hb6'; have hs6 := ownB_base ho6 (show w.heap.size ≤ _ by (try simp); omega); have hz6 := hb6.size; (try simp at hz6); have hs7 : Below w.heap.size w w6 := (by repeat (first | with_reducible exact Below.refl _ _ | with_reducible assumption | with_reducible refine al ?_ _ | with_reducible refine Below.drew ?_ | with_reducible refine Below.setCell ?_ (by first | (simp; done) | (simp; omega)) _ | with_reducible refine tr ?_ (by with_reducible assumption)))) | (at_builtin; go_must (refine wpList_append_own _ rfl _ _ 30 rfl w.heap.size 36 i0 (.slice none 0 0) 1 24 Try.underlying30 hi iz0 iz1 iz2 rfl (by decide) _ _ _ rfl (hcs.alloc _) ⟨w6.heap.size, 0, none⟩ 1 1 [.slice A6 (keyL p).length c6] rfl rfl one_at ?c2 ?c3 ?c4 ?c5 ?_)))
        case c2 => exact key_one
        case c3 => rw [HLN.out]; unfold maxLen; omega
        case c4 => rw [HLN.out]; omega
        case c5 => simp; omega
        intro v' w7 hown' hgrow _
        have hKN := keys_append (hcs.alloc _) (fun j u hu => by
          obtain ⟨l', q1, q2⟩ := hkk j u hu
          exact ⟨l', q1, q2.alloc _⟩) (hs6.alloc _) hown' hgrow
        have hnx1 : Below w.heap.size w w7 := (hs7.alloc (by have := hs7.size; omega) _).grown hgrow (by have := hs7.size; simp; omega) (fun k hk => (hcs.lt k hk).1)
        go_wp2
        go_roundw
        case rel =>
          refine ⟨k + 1, by omega, by go_num, ?_, ?_, hnx1⟩
          · rw [List.take_add_one, HKP.out, List.map_append, HLK.out]
            exact hKN
          · intro b hb
            rw [List.take_add_one, HKP.out] at hb
            rcases List.mem_append.1 hb with h | h
            · exact HOK.out b h
            · simp at h
              subst h
              exact hokp
        case measure => simp [intOf]; omega
      · have HC : Hid (∀ w', Calls Try.prog 6 #[bxV p.lo.x p.lo.y p.hi.x p.hi.y] w' (Ret w' (.int .i64 (ckBox p : Nat)))) := fun w' => rcheckBox_any p.lo.x p.lo.y p.hi.x p.hi.y w'
        obtain ⟨ck, hck2⟩ : ∃ ck, ckBox p = ck := ⟨_, rfl⟩
        rw [hck2] at HC hck
        have hcki : ((ck : Int) == 0) = false := (by rw [beq_eq_false_iff_ne]; omega)
        clear hkl hok hK hck2
        go_wp2_with (first | (go_at_call 6; (with_reducible refine (HC.out _).mono ?_); rintro e w5 ⟨rfl, hb5⟩; obtain ⟨hc5, hf5⟩ := bcell hb5; have hz5 := hb5.size; (try simp at hz5)) | (go_at_call 4; refine (awake16_true _).mono ?_; rintro e w9 ⟨rfl, hb9⟩))
        go_ret
        exact ⟨rfl, (by repeat (first | with_reducible exact Below.refl _ _ | with_reducible assumption | with_reducible refine al ?_ _ | with_reducible refine Below.drew ?_ | with_reducible refine Below.setCell ?_ (by first | (simp; done) | (simp; omega)) _ | with_reducible refine tr ?_ (by with_reducible assumption)))⟩
    · obtain rfl : n = k := by omega
      have et : l.take n = l := List.take_of_length_le (by rw [HL.out.1]; exact Nat.le_refl _)
      rw [et] at hK hok
      obtain ⟨Ak, ck, rfl, hR⟩ := rbs_of_keys hK
      have hKL : (l.map keyL).length = n := by rw [List.length_map, HL.out.1]
      rw [hKL] at hR
      have HSP : Hid (∀ w', Below wr.heap.size wr w' → Calls Try.prog 35 #[.agg #[.int .i64 3], .slice Ak n ck] w' fun e w2 => ∃ g, e = .returned (.slice (some ⟨g, 0, none⟩) n n) ∧ Blk w2 g 4 ((splitS l).map Value.bool).toArray ∧ Below w'.heap.size w' w2) := fun w' h => by
        have h := Split_any (.int .i64 3) wr.heap.size n ck Ak (l.map keyL) w' (hR.below h) h.size (by omega) (by omega) (fun r hr x hx => by
          obtain ⟨b, hb, rfl⟩ := List.mem_map.1 hr
          exact keyL_byte hx) (fun r hr => by
          obtain ⟨b, hb, rfl⟩ := List.mem_map.1 hr
          have := keyL_len (okBx_in (hok b hb))
          omega)
        rw [boxK_keys hok] at h
        exact h
      have HOK := Lib.hid hok
      clear hok hR hK et hKL
      rw [show (l.map keyL).length = n by rw [List.length_map, HL.out.1]]
      go_wp2_with (go_at_call 35; (with_reducible refine (HSP.out _ ?_).mono ?_); (focus exact (by repeat (first | with_reducible exact Below.refl _ _ | with_reducible assumption | with_reducible refine al ?_ _ | with_reducible refine Below.drew ?_ | with_reducible refine Below.setCell ?_ (by first | (simp; done) | (simp; omega)) _ | with_reducible refine tr ?_ (by with_reducible assumption)))); rintro e w2 ⟨g, rfl, hG, hb2⟩)
      obtain ⟨S, hS⟩ : ∃ S, splitS l = S := ⟨_, rfl⟩
      rw [hS] at hG
      have HLn := Lib.hid HL.out.1
      have HSL : Hid (S.length = n) := by unfold Hid; rw [← hS, splitS_len, HL.out.1]
      have HCN : Hid (S.countP (fun b => b) = n / 2) := by unfold Hid; rw [← hS, splitS_count, HL.out.1]
      have HS := Lib.hid hS
      have hbb : Below w.heap.size w w2 := (by repeat (first | with_reducible exact Below.refl _ _ | with_reducible assumption | with_reducible refine al ?_ _ | with_reducible refine Below.drew ?_ | with_reducible refine Below.setCell ?_ (by first | (simp; done) | (simp; omega)) _ | with_reducible refine tr ?_ (by with_reducible assumption)))
      obtain ⟨b, off, rfl, hab, hce⟩ := HL.out.2 (by omega)
      have HCE := Lib.hid hce
      have hab2 : b < w.heap.size := by omega
      clear hce hS HSP hb2 hb HL mS hi iz0 iz1 iz2 hlt
      have lG := hG.lt
      go_loopw [8, 9] (fun vn vi w3 => ∃ k : Nat, k ≤ n ∧ vi = .int .i64 k ∧ vn = .int .i64 ((S.take k).countP (fun b => b) : Nat) ∧ Blk w3 g 4 (S.map Value.bool).toArray ∧ Below w.heap.size w w3) (fun _ vi _ => n - (intOf vi).toNat)
      case atStart => exact ⟨0, by omega, rfl, rfl, hG, hbb⟩
      case round =>
        clear hG hbb lG
        obtain ⟨k, hk, rfl, rfl, hG, hbb⟩ := hrel
        by_cases hlt : k < n
        case neg =>
          obtain rfl : n = k := by omega
          have et : S.take n = S := List.take_of_length_le (by rw [HSL.out]; exact Nat.le_refl _)
          obtain ⟨m2, hm2⟩ : ∃ m, n / 2 = m := ⟨_, rfl⟩
          rw [et, HCN.out, hm2]
          have q1 : (n : Int).tdiv 2 = (m2 : Int) := by rw [← hm2]; rfl
          have q2 : (n : Int) / 2 = (m2 : Int) := by omega
          have q4 : IntKind.i64.wrap (m2 : Int) = m2 := by simp [IntKind.wrap, IntKind.bits, IntKind.signed]; omega
          clear hlt et hm2 hk
          go_wp2_with (go_at_call 4; refine (awake16_true _).mono ?_; rintro e w9 ⟨rfl, hb9⟩)
          go_ret
          exact ⟨rfl, (by repeat (first | with_reducible exact Below.refl _ _ | with_reducible assumption | with_reducible refine al ?_ _ | with_reducible refine Below.drew ?_ | with_reducible refine Below.setCell ?_ (by first | (simp; done) | (simp; omega)) _ | with_reducible refine tr ?_ (by with_reducible assumption)))⟩
        obtain ⟨sk, hsk⟩ : ∃ x, S[k]? = some x := ⟨_, List.getElem?_eq_getElem (by rw [HSL.out]; exact hlt)⟩
        have hk0 : (k : Int) < (n : Int) := by omega
        have cS : wr.cell? ⟨g, k, none⟩ = some (.bool sk) := by rw [hG.cell, List.getElem?_toArray, List.getElem?_map, hsk]; rfl
        have lG := hG.lt
        have hcn : (S.take k).countP (fun b => b) ≤ k := Nat.le_trans List.countP_le_length (by simp; omega)
        obtain ⟨m, hm⟩ : ∃ m, (S.take k).countP (fun b => b) = m := ⟨_, rfl⟩
        have hcp : (S.take (k + 1)).countP (fun b => b) = m + (if sk then 1 else 0) := by
          rw [List.take_add_one, hsk, List.countP_append, hm]
          cases sk <;> simp
        rw [hm] at hcn
        simp only [hm]
        clear hm
        have HCP := Lib.hid hcp
        clear hcp
        cases sk
        case false =>
          go_wp2
          go_loopw [10] (fun vj w4 => ∃ j : Nat, j ≤ n ∧ vj = .int .i64 j ∧ Blk w4 g 4 (S.map Value.bool).toArray ∧ Below w.heap.size w w4) (fun vj _ => n - (intOf vj).toNat)
          case atStart => exact ⟨0, by omega, rfl, hG, hbb⟩
          case round =>
            clear hG hbb cS
            obtain ⟨j, hj, rfl, hG, hbb⟩ := hrel
            by_cases hlt2 : j < n
            · have hj0 : (j : Int) < (n : Int) := by omega
              obtain ⟨sj, hsj⟩ : ∃ x, S[j]? = some x := ⟨_, List.getElem?_eq_getElem (by rw [HSL.out]; exact hlt2)⟩
              have cK : wr.cell? ⟨g, k, none⟩ = some (.bool false) := by rw [hG.cell, List.getElem?_toArray, List.getElem?_map, hsk]; rfl
              have cJ : wr.cell? ⟨g, j, none⟩ = some (.bool sj) := by rw [hG.cell, List.getElem?_toArray, List.getElem?_map, hsj]; rfl
              have lG := hG.lt
              have hbz := hbb.size
              have hbw : b < wr.heap.size := by omega
              cases sj
              · go_wp2_with fail
                refine wp_region_belowI (by kernel_rfl) (by kernel_rfl) (fun _ _ d _ _ h => by cases d <;> exact h) ?_
                simp only [List.map_cons, List.map_nil, List.getD_cons_zero, List.getD_cons_succ, bare, gslot, List.getElem?_cons_zero, List.getElem?_cons_succ, Option.bind_some]
                repeat' ((try simp only [Act.put, List.setIfInBounds_toArray, List.set_cons_zero, List.set_cons_succ]); first | (refine lexL_on ?_ ?_; focus (simp only [List.getElem?_toArray, List.getElem?_cons_succ, List.getElem?_cons_zero, Bool.not_true, Bool.not_false]; done)) | (refine lexL_off ?_ ?_ ?_; (focus (simp only [List.getElem?_toArray, List.getElem?_cons_succ, List.getElem?_cons_zero, Bool.not_true, Bool.not_false]; done)); (focus (exact (by repeat (first | with_reducible exact Below.refl _ _ | with_reducible assumption | with_reducible refine al ?_ _ | with_reducible refine Below.drew ?_ | with_reducible refine Below.setCell ?_ (by first | (simp; done) | (simp; omega)) _ | with_reducible refine tr ?_ (by with_reducible assumption)))))) | (refine lexL_splitS (X := ?_) ?_ ?_ (fun hg => ?_) (fun hg => ?_); rotate_left; (focus (simp only [List.getElem?_toArray, List.getElem?_cons_succ, List.getElem?_cons_zero]; with_reducible rfl)); (focus (exact (by repeat (first | with_reducible exact Below.refl _ _ | with_reducible assumption | with_reducible refine al ?_ _ | with_reducible refine Below.drew ?_ | with_reducible refine Below.setCell ?_ (by first | (simp; done) | (simp; omega)) _ | with_reducible refine tr ?_ (by with_reducible assumption))))); all_goals (try simp only [Bool.not_true, Bool.not_false] at hg)) | (refine lexL_quiet (v := ?_) wantB_none rfl ?_ ?_; rotate_left; focus (intro wq hq; obtain ⟨hcq, hfq⟩ := bcell hq; go_simp; try with_reducible rfl)) | (refine lexL_loud wantB_none rfl (fun K hK => ?_); go_simp; ((first |  fail | skip) <;> (refine hK.out _ _ (by repeat (first | with_reducible exact Below.refl _ _ | with_reducible assumption | with_reducible refine al ?_ _ | with_reducible refine Below.drew ?_ | with_reducible refine Below.setCell ?_ (by first | (simp; done) | (simp; omega)) _ | with_reducible refine tr ?_ (by with_reducible assumption))) ?_; clear hK K))))
                (all_goals try simp only [Act.put, List.setIfInBounds_toArray, List.set_cons_zero, List.set_cons_succ]); all_goals (refine lexL_nil ?_)
                go_wp2
                go_roundw
                case rel => exact ⟨j + 1, by omega, by go_num, hG, (by repeat (first | with_reducible exact Below.refl _ _ | with_reducible assumption | with_reducible refine al ?_ _ | with_reducible refine Below.drew ?_ | with_reducible refine Below.setCell ?_ (by first | (simp; done) | (simp; omega)) _ | with_reducible refine tr ?_ (by with_reducible assumption)))⟩
                case measure => simp [intOf]; omega
              · go_wp2_with fail
                refine wp_region_belowI (by kernel_rfl) (by kernel_rfl) (fun _ _ d _ _ h => by cases d <;> exact h) ?_
                simp only [List.map_cons, List.map_nil, List.getD_cons_zero, List.getD_cons_succ, bare, gslot, List.getElem?_cons_zero, List.getElem?_cons_succ, Option.bind_some]
                repeat' ((try simp only [Act.put, List.setIfInBounds_toArray, List.set_cons_zero, List.set_cons_succ]); first | (refine lexL_on ?_ ?_; focus (simp only [List.getElem?_toArray, List.getElem?_cons_succ, List.getElem?_cons_zero, Bool.not_true, Bool.not_false]; done)) | (refine lexL_off ?_ ?_ ?_; (focus (simp only [List.getElem?_toArray, List.getElem?_cons_succ, List.getElem?_cons_zero, Bool.not_true, Bool.not_false]; done)); (focus (exact (by repeat (first | with_reducible exact Below.refl _ _ | with_reducible assumption | with_reducible refine al ?_ _ | with_reducible refine Below.drew ?_ | with_reducible refine Below.setCell ?_ (by first | (simp; done) | (simp; omega)) _ | with_reducible refine tr ?_ (by with_reducible assumption)))))) | (refine lexL_splitS (X := ?_) ?_ ?_ (fun hg => ?_) (fun hg => ?_); rotate_left; (focus (simp only [List.getElem?_toArray, List.getElem?_cons_succ, List.getElem?_cons_zero]; with_reducible rfl)); (focus (exact (by repeat (first | with_reducible exact Below.refl _ _ | with_reducible assumption | with_reducible refine al ?_ _ | with_reducible refine Below.drew ?_ | with_reducible refine Below.setCell ?_ (by first | (simp; done) | (simp; omega)) _ | with_reducible refine tr ?_ (by with_reducible assumption))))); all_goals (try simp only [Bool.not_true, Bool.not_false] at hg)) | (refine lexL_quiet (v := ?_) wantB_none rfl ?_ ?_; rotate_left; focus (intro wq hq; obtain ⟨hcq, hfq⟩ := bcell hq; go_simp; try with_reducible rfl)) | (refine lexL_loud wantB_none rfl (fun K hK => ?_); go_simp; ((first |  fail | skip) <;> (refine hK.out _ _ (by repeat (first | with_reducible exact Below.refl _ _ | with_reducible assumption | with_reducible refine al ?_ _ | with_reducible refine Below.drew ?_ | with_reducible refine Below.setCell ?_ (by first | (simp; done) | (simp; omega)) _ | with_reducible refine tr ?_ (by with_reducible assumption))) ?_; clear hK K))))
                (all_goals try simp only [Act.put, List.setIfInBounds_toArray, List.set_cons_zero, List.set_cons_succ]); all_goals (refine lexL_nil ?_)
                go_wp2
                go_roundw
                case rel => exact ⟨j + 1, by omega, by go_num, hG, (by repeat (first | with_reducible exact Below.refl _ _ | with_reducible assumption | with_reducible refine al ?_ _ | with_reducible refine Below.drew ?_ | with_reducible refine Below.setCell ?_ (by first | (simp; done) | (simp; omega)) _ | with_reducible refine tr ?_ (by with_reducible assumption)))⟩
                case measure => simp [intOf]; omega
            · obtain rfl : n = j := by omega
              clear hlt2
              go_wp2
              go_roundw
              case rel => exact ⟨k + 1, by omega, by go_num, by rw [HCP.out]; rfl, hG, hbb⟩
              case measure => simp [intOf]; omega
        case true =>
          go_wp2
          go_loopw [10] (fun vj w4 => ∃ j : Nat, j ≤ n ∧ vj = .int .i64 j ∧ Blk w4 g 4 (S.map Value.bool).toArray ∧ Below w.heap.size w w4) (fun vj _ => n - (intOf vj).toNat)
          case atStart => exact ⟨0, by omega, rfl, hG, hbb⟩
          case round =>
            clear hG hbb cS
            obtain ⟨j, hj, rfl, hG, hbb⟩ := hrel
            by_cases hlt2 : j < n
            · have hj0 : (j : Int) < (n : Int) := by omega
              obtain ⟨sj, hsj⟩ : ∃ x, S[j]? = some x := ⟨_, List.getElem?_eq_getElem (by rw [HSL.out]; exact hlt2)⟩
              have cK : wr.cell? ⟨g, k, none⟩ = some (.bool true) := by rw [hG.cell, List.getElem?_toArray, List.getElem?_map, hsk]; rfl
              have cJ : wr.cell? ⟨g, j, none⟩ = some (.bool sj) := by rw [hG.cell, List.getElem?_toArray, List.getElem?_map, hsj]; rfl
              have lG := hG.lt
              have hbz := hbb.size
              have hbw : b < wr.heap.size := by omega
              cases sj
              · obtain ⟨a0, a1, a2, a3⟩ := HCE.out k _ (bx_of (by rw [HLn.out]; exact hlt))
                obtain ⟨d0, d1, d2, d3⟩ := HCE.out j _ (bx_of (by rw [HLn.out]; exact hlt2))
                have b0 := (hbb.cell (p := ⟨b, off + k * 4, none⟩) hab2).trans a0
                have b2 := (hbb.cell (p := ⟨b, off + k * 4 + 2, none⟩) hab2).trans a2
                have e0 := (hbb.cell (p := ⟨b, off + j * 4, none⟩) hab2).trans d0
                have e2 := (hbb.cell (p := ⟨b, off + j * 4 + 2, none⟩) hab2).trans d2
                have hnl := splitS_parts (l := l) (by rw [HLn.out]; exact hlt) (by rw [HLn.out]; exact hlt2) (by rw [HS.out]; exact hsk) (by rw [HS.out]; exact hsj)
                have x1 := small_bx (.inl (HOK.out (bx l k) (List.mem_of_getElem? (bx_of (by rw [HLn.out]; exact hlt)))))
                have x2 := small_bx (.inl (HOK.out (bx l j) (List.mem_of_getElem? (bx_of (by rw [HLn.out]; exact hlt2)))))
                have s1 := wrap_sum x1.1 x1.2.2.1
                have s3 := wrap_sum x2.1 x2.2.2.1
                change ¬ cX (bx l k) < cX (bx l j) at hnl
                unfold cX at hnl
                clear a0 a1 a2 a3 d0 d1 d2 d3 x1 x2 hsj
                generalize bx l k = p at *
                generalize bx l j = q at *
                generalize p.lo.x = p1 at *
                generalize p.hi.x = p3 at *
                generalize q.lo.x = q1 at *
                generalize q.hi.x = q3 at *
                clear p q
                go_wp2_with fail
                refine wp_region_belowI (by kernel_rfl) (by kernel_rfl) (fun _ _ d _ _ h => by cases d <;> exact h) ?_
                simp only [List.map_cons, List.map_nil, List.getD_cons_zero, List.getD_cons_succ, bare, gslot, List.getElem?_cons_zero, List.getElem?_cons_succ, Option.bind_some]
                repeat' ((try simp only [Act.put, List.setIfInBounds_toArray, List.set_cons_zero, List.set_cons_succ]); first | (refine lexL_on ?_ ?_; focus (simp only [List.getElem?_toArray, List.getElem?_cons_succ, List.getElem?_cons_zero, Bool.not_true, Bool.not_false]; done)) | (refine lexL_off ?_ ?_ ?_; (focus (simp only [List.getElem?_toArray, List.getElem?_cons_succ, List.getElem?_cons_zero, Bool.not_true, Bool.not_false]; done)); (focus (exact (by repeat (first | with_reducible exact Below.refl _ _ | with_reducible assumption | with_reducible refine al ?_ _ | with_reducible refine Below.drew ?_ | with_reducible refine Below.setCell ?_ (by first | (simp; done) | (simp; omega)) _ | with_reducible refine tr ?_ (by with_reducible assumption)))))) | (refine lexL_splitS (X := ?_) ?_ ?_ (fun hg => ?_) (fun hg => ?_); rotate_left; (focus (simp only [List.getElem?_toArray, List.getElem?_cons_succ, List.getElem?_cons_zero]; with_reducible rfl)); (focus (exact (by repeat (first | with_reducible exact Below.refl _ _ | with_reducible assumption | with_reducible refine al ?_ _ | with_reducible refine Below.drew ?_ | with_reducible refine Below.setCell ?_ (by first | (simp; done) | (simp; omega)) _ | with_reducible refine tr ?_ (by with_reducible assumption))))); all_goals (try simp only [Bool.not_true, Bool.not_false] at hg)) | (refine lexL_quiet (v := ?_) wantB_none rfl ?_ ?_; rotate_left; focus (intro wq hq; obtain ⟨hcq, hfq⟩ := bcell hq; go_simp; try with_reducible rfl)) | (refine lexL_loud wantB_none rfl (fun K hK => ?_); go_simp; ((first |  fail | skip) <;> (refine hK.out _ _ (by repeat (first | with_reducible exact Below.refl _ _ | with_reducible assumption | with_reducible refine al ?_ _ | with_reducible refine Below.drew ?_ | with_reducible refine Below.setCell ?_ (by first | (simp; done) | (simp; omega)) _ | with_reducible refine tr ?_ (by with_reducible assumption))) ?_; clear hK K))))
                (all_goals try simp only [Act.put, List.setIfInBounds_toArray, List.set_cons_zero, List.set_cons_succ]); all_goals (refine lexL_nil ?_)
                go_wp2
                go_roundw
                case rel => exact ⟨j + 1, by omega, by go_num, hG, (by repeat (first | with_reducible exact Below.refl _ _ | with_reducible assumption | with_reducible refine al ?_ _ | with_reducible refine Below.drew ?_ | with_reducible refine Below.setCell ?_ (by first | (simp; done) | (simp; omega)) _ | with_reducible refine tr ?_ (by with_reducible assumption)))⟩
                case measure => simp [intOf]; omega
              · go_wp2_with fail
                refine wp_region_belowI (by kernel_rfl) (by kernel_rfl) (fun _ _ d _ _ h => by cases d <;> exact h) ?_
                simp only [List.map_cons, List.map_nil, List.getD_cons_zero, List.getD_cons_succ, bare, gslot, List.getElem?_cons_zero, List.getElem?_cons_succ, Option.bind_some]
                repeat' ((try simp only [Act.put, List.setIfInBounds_toArray, List.set_cons_zero, List.set_cons_succ]); first | (refine lexL_on ?_ ?_; focus (simp only [List.getElem?_toArray, List.getElem?_cons_succ, List.getElem?_cons_zero, Bool.not_true, Bool.not_false]; done)) | (refine lexL_off ?_ ?_ ?_; (focus (simp only [List.getElem?_toArray, List.getElem?_cons_succ, List.getElem?_cons_zero, Bool.not_true, Bool.not_false]; done)); (focus (exact (by repeat (first | with_reducible exact Below.refl _ _ | with_reducible assumption | with_reducible refine al ?_ _ | with_reducible refine Below.drew ?_ | with_reducible refine Below.setCell ?_ (by first | (simp; done) | (simp; omega)) _ | with_reducible refine tr ?_ (by with_reducible assumption)))))) | (refine lexL_splitS (X := ?_) ?_ ?_ (fun hg => ?_) (fun hg => ?_); rotate_left; (focus (simp only [List.getElem?_toArray, List.getElem?_cons_succ, List.getElem?_cons_zero]; with_reducible rfl)); (focus (exact (by repeat (first | with_reducible exact Below.refl _ _ | with_reducible assumption | with_reducible refine al ?_ _ | with_reducible refine Below.drew ?_ | with_reducible refine Below.setCell ?_ (by first | (simp; done) | (simp; omega)) _ | with_reducible refine tr ?_ (by with_reducible assumption))))); all_goals (try simp only [Bool.not_true, Bool.not_false] at hg)) | (refine lexL_quiet (v := ?_) wantB_none rfl ?_ ?_; rotate_left; focus (intro wq hq; obtain ⟨hcq, hfq⟩ := bcell hq; go_simp; try with_reducible rfl)) | (refine lexL_loud wantB_none rfl (fun K hK => ?_); go_simp; ((first |  fail | skip) <;> (refine hK.out _ _ (by repeat (first | with_reducible exact Below.refl _ _ | with_reducible assumption | with_reducible refine al ?_ _ | with_reducible refine Below.drew ?_ | with_reducible refine Below.setCell ?_ (by first | (simp; done) | (simp; omega)) _ | with_reducible refine tr ?_ (by with_reducible assumption))) ?_; clear hK K))))
                (all_goals try simp only [Act.put, List.setIfInBounds_toArray, List.set_cons_zero, List.set_cons_succ]); all_goals (refine lexL_nil ?_)
                go_wp2
                go_roundw
                case rel => exact ⟨j + 1, by omega, by go_num, hG, (by repeat (first | with_reducible exact Below.refl _ _ | with_reducible assumption | with_reducible refine al ?_ _ | with_reducible refine Below.drew ?_ | with_reducible refine Below.setCell ?_ (by first | (simp; done) | (simp; omega)) _ | with_reducible refine tr ?_ (by with_reducible assumption)))⟩
                case measure => simp [intOf]; omega
            · obtain rfl : n = j := by omega
              clear hlt2
              go_wp2
              go_roundw
              case rel => exact ⟨k + 1, by omega, by go_num, by rw [HCP.out]; go_num, hG, hbb⟩
              case measure => simp [intOf]; omega
end Go.Proofs.Ytmaogalgganhgaa
