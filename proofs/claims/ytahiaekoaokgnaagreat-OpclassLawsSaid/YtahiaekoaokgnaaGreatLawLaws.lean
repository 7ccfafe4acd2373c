/-
  What the statement OpclassLaws reckons itself: covers.
-/
import Derived.Test.YtahiaekoaokgnaaGreatLawsD
import Derived.Test.YtahiaekoaokgnaaGreatClsA
import Derived.Test.YtahiaekoaokgnaaGreatRefEH
set_option linter.unusedSimpArgs false
set_option linter.unusedVariables false
namespace V16
section
open Go Go.RowKit Pg
variable {P : Program} {Q : Exit → Act → World → Prop} {S : World → Prop}
theorem lexL_void {r : List (Oper × Option (Option Tmp × Bool))} {o : Oper} {d : Nat} {want : Bool} {a : Act} {w : World} (hv : a.tmps[d]? = some undef) (hS : S w) (h : lexL P Q S r (a.put o.dst undef) w) :
    lexL P Q S ((o, some (some d, want)) :: r) a w := lexL_skip (by simp [wantB, hv, undef]) hS h
end
end V16
namespace Go.Proofs.YtahiaekoaokgnaaGreat
open Go.RowKit Pg V16
/-- does a key cover objects? 2: not for a query; 3: not for a point -/
def covN (cons : Qu → Bool) (far : Pt → Fr) (l : List Ob) (q : List Qu) (p : List Pt) : Nat := if asksS cons l q = false then 2 else if nearsS far l p = false then 3 else 0
def byN (b : Bool) : Nat := if b = true then 0 else 3
def askO (cons : Qu → Bool) (o : Ob) (x : Qu) : Bool := !matchS o x || cons x
def nearO (far : Pt → Fr) (o : Ob) (x : Pt) : Bool := !okPt x || (decide ((far x).den ≠ 0) && decide (cmpF (far x) (distF o x) ≤ 0))
theorem asksS_step {cons : Qu → Bool} {l : List Ob} {q : List Qu} {i : Nat} {o : Ob} (h : l[i]? = some o) : asksS cons (l.take (i + 1)) q = (asksS cons (l.take i) q && q.all (askO cons o)) := all_take_succ h
theorem nearsS_step {far : Pt → Fr} {l : List Ob} {p : List Pt} {i : Nat} {o : Ob} (h : l[i]? = some o) : nearsS far (l.take (i + 1)) p = (nearsS far (l.take i) p && (decide (ckOb o ≠ 0) || p.all (nearO far o))) := all_take_succ h
theorem askO_bad {cons : Qu → Bool} {o : Ob} {q : List Qu} (h : ckOb o ≠ 0) : q.all (askO cons o) = true := by
  rw [List.all_eq_true]
  intro x _
  unfold askO
  rw [match_bad1 h]
  rfl

theorem obs_getL {w : World} {B b off n i : Nat} {l : List Ob} {o : Ob} (h : ObsAt w B (some ⟨b, off, none⟩) n l) (ho : l[i]? = some o) :
    b < B ∧ ∃ A' m c, w.cell? ⟨b, off + i * 2, none⟩ = some (.int .i64 o.kind) ∧ w.cell? ⟨b, off + i * 2 + 1, none⟩ = some (.slice A' m c) ∧ PtsAt w B A' m o.pts := by
  have hi : i < n := by
    rw [← h.1]
    rcases Nat.lt_or_ge i l.length with h | h
    · exact h
    · rw [List.getElem?_eq_none h] at ho; cases ho
  obtain ⟨b', off', e, hb, hc⟩ := h.2 (by omega)
  injection e with e
  injection e with e1 e2
  subst e1 e2
  exact ⟨hb, hc i o ho⟩

set_option maxHeartbeats 8000000 in
set_option maxRecDepth 20000 in
theorem covers_any (k0 k1 k3 : Int) (k2 : Bool) (Y : List Nat) (cons : Qu → Bool) (far : Pt → Fr) (hYl : Y.length ≤ 1000000)
    (HCC : Hid (∀ (W : World) (B : Nat) A c q A' m c', BysAt W B A Y.length Y → B ≤ W.heap.size → PtsAt W B A' m q.ring → m ≤ 1000000 → Y.length ≤ c → (A = none → c = 0) → Calls Tryz.prog 31 #[.agg #[.int .i64 k0, .int .i64 k1, .bool k2, .int .i64 k3], .slice A Y.length c, quV q.kind q.box A' m c'] W (Ret W (.bool (cons q)))))
    (HDD : Hid (∀ (W : World) (B : Nat) A c x y, BysAt W B A Y.length Y → B ≤ W.heap.size → Y.length ≤ c → (A = none → c = 0) → Calls Tryz.prog 32 #[.agg #[.int .i64 k0, .int .i64 k1, .bool k2, .int .i64 k3], .slice A Y.length c, ptV x y] W (Ret W (fV (far ⟨x, y⟩)))))
    (HFO : Hid (∀ x, FrOk (far x)))
    (B c n1 c1 n2 c2 n3 c3 : Nat) (A A1 A2 A3 : Option Addr) (l : List Ob) (q : List Qu) (p : List Pt) (w : World) (hK : BysAt w B A Y.length Y) (hKc : Y.length ≤ c) (hKA : A = none → c = 0) (hl : ObsAt w B A1 n1 l) (hq : QusAt w B A2 n2 q) (hp : PtsAt w B A3 n3 p) (hB : B ≤ w.heap.size)
    (hn1 : n1 ≤ 10000) (hn2 : n2 ≤ 10000) (hn3 : n3 ≤ 10000) (hlo : ∀ o ∈ l, o.pts.length ≤ 10000) (hqo : ∀ x ∈ q, x.ring.length ≤ 10000) :
    Calls Tryz.prog 10 #[.agg #[.int .i64 k0, .int .i64 k1, .bool k2, .int .i64 k3], .slice A Y.length c, .slice A1 n1 c1, .slice A2 n2 c2, .slice A3 n3 c3] w (Ret w (.int .i64 (covN cons far l q p : Nat))) := by
  have hl1 := hl.1
  have hq1 := hq.1
  have hp1 := hp.1
  have HL := Lib.hid hl
  have HQ := Lib.hid hq
  have HP := Lib.hid hp
  have HK := Lib.hid hK
  have HKA := Lib.hid hKA
  have HLO := Lib.hid hlo
  have HQO := Lib.hid hqo
  clear hl hq hp hK hKA hlo hqo
  go_enter Tryz.func10, Tryz.ntmps10
  go_wp2_with fail
  go_loopw [11, 12] (fun vb vi wr => ∃ i : Nat, i ≤ n1 ∧ vi = .int .i64 i ∧ vb = .int .i64 (byN (nearsS far (l.take i) p) : Nat) ∧ asksS cons (l.take i) q = true ∧ Blk wr w.heap.size 23 #[.int .i64 k0, .int .i64 k1, .bool k2, .int .i64 k3] ∧ Below w.heap.size w wr) (fun _ vi _ => n1 - (intOf vi).toNat)
  case atStart => exact ⟨0, by omega, rfl, rfl, rfl, blkA, bel⟩
  case round =>
    obtain ⟨i, hi, rfl, rfl, ha, hX, hb⟩ := hrel
    have hbz := hb.size
    by_cases hlt : i < n1
    case neg =>
      obtain rfl : n1 = i := by omega
      have HF : Hid (covN cons far l q p = byN (nearsS far (l.take n1) p)) := by
        unfold Hid covN byN
        rw [List.take_of_length_le (by omega)] at ha ⊢
        rw [ha]
        cases nearsS far l p <;> rfl
      clear ha
      go_wp2_with fail
      go_ret
      exact ⟨by rw [HF.out]; rfl, bel⟩
    have hi1 : (i : Int) < (n1 : Int) := by omega
    obtain ⟨b, off, A', m, c', o, rfl, hab, ho, h0, h1, hpo⟩ := (HL.out.below (hb.mono hB)).at_ hlt
    have hbw : b < wr.heap.size := by omega
    have hm1 : m ≤ 10000 := by rw [← hpo.1]; exact HLO.out o (List.mem_of_getElem? ho)
    have hBw : B ≤ wr.heap.size := by omega
    obtain ⟨ok, ol⟩ := o
    simp only at h0 h1 hpo
    have HO := Lib.hid ho
    have HA := Lib.hid ha
    have HPO := Lib.hid hpo
    have HCk := Lib.hid (fun W (hW : Below wr.heap.size wr W) => rcheck_any B m c' ok A' ol W (hpo.tr hW hBw) (Nat.le_trans hBw hW.size) (by omega))
    rw [← ckOb_eq] at HCk
    by_cases hck : ckOb ⟨ok, ol⟩ = 0
    case neg =>
      have HX1 : Hid (asksS cons (l.take (i + 1)) q = true) := by unfold Hid; rw [asksS_step ho, ha, askO_bad hck]; rfl
      have HX2 : Hid (nearsS far (l.take (i + 1)) p = nearsS far (l.take i) p) := by unfold Hid; rw [nearsS_step ho, decide_eq_true (show ckOb ⟨ok, ol⟩ ≠ 0 from hck), Bool.true_or, Bool.and_true]
      have hck2 : ((ckOb ⟨ok, ol⟩ : Nat) : Int) ≠ 0 := by omega
      have hck3 : (((ckOb ⟨ok, ol⟩ : Nat) : Int) != 0) = true := by rw [bne_iff_ne]; exact hck2
      generalize ckOb ⟨ok, ol⟩ = ck at *
      clear ho ha hpo hck hck2
      go_wp2_with (go_at_call 8; (with_reducible refine (HCk.out _ bel).mono ?_); rintro e w3 ⟨rfl, hb3⟩)
      go_roundw
      case rel => exact ⟨i + 1, by omega, by go_num, by rw [HX2.out], HX1.out, blkA, bel⟩
      case measure => simp [intOf]; omega
    rw [hck] at HCk
    have HCK := Lib.hid hck
    clear ho ha hpo hck
    go_wp2_with (go_at_call 8; (with_reducible refine (HCk.out _ bel).mono ?_); rintro e w3 ⟨rfl, hb3⟩)
    refine keep_world (R := fun w2 => Blk w2 w.heap.size 23 #[.int .i64 k0, .int .i64 k1, .bool k2, .int .i64 k3] ∧ Below w.heap.size w w2) ⟨blkA, bel⟩ ?_
    clear hX hb3 h0 h1 hbw HCk HPO hBw hbz hb
    rintro w2 ⟨hX, hb2⟩
    go_loopw [13] (fun vj w4 => ∃ j : Nat, j ≤ n2 ∧ vj = .int .i64 j ∧ (q.take j).all (askO cons ⟨ok, ol⟩) = true ∧ Blk w4 w.heap.size 23 #[.int .i64 k0, .int .i64 k1, .bool k2, .int .i64 k3] ∧ Below w.heap.size w w4) (fun vj _ => n2 - (intOf vj).toNat)
    case atStart => exact ⟨0, by omega, rfl, rfl, hX, hb2⟩
    case round =>
      clear hX hb2
      obtain ⟨j, hj, rfl, hqj, hX, hb⟩ := hrel
      have hbz := hb.size
      have cX := hX.cell
      have lX := hX.lt
      have hBw : B ≤ wr.heap.size := by omega
      by_cases hlt2 : j < n2
      case neg =>
        obtain rfl : n2 = j := by omega
        rw [List.take_of_length_le (by omega)] at hqj
        have HA1 : Hid (asksS cons (l.take (i + 1)) q = true) := by unfold Hid; rw [asksS_step HO.out, HA.out, hqj]; rfl
        clear hqj cX lX
        go_wp2_with fail
        go_loopw [11, 14] (fun vb vj w4 => ∃ j : Nat, j ≤ n3 ∧ vj = .int .i64 j ∧ vb = .int .i64 (byN (nearsS far (l.take i) p && (p.take j).all (nearO far ⟨ok, ol⟩)) : Nat) ∧ Blk w4 w.heap.size 23 #[.int .i64 k0, .int .i64 k1, .bool k2, .int .i64 k3] ∧ Below w.heap.size w w4) (fun _ vj _ => n3 - (intOf vj).toNat)
        case atStart => exact ⟨0, by omega, rfl, by rw [List.take_zero, List.all_nil, Bool.and_true], hX, hb⟩
        case round =>
          clear hX hb hbz hBw
          obtain ⟨j, hj, rfl, rfl, hX, hb⟩ := hrel
          have hbz := hb.size
          have cX := hX.cell
          have lX := hX.lt
          have hBw : B ≤ wr.heap.size := by omega
          by_cases hlt3 : j < n3
          case neg =>
            obtain rfl : n3 = j := by omega
            have HN : Hid (nearsS far (l.take (i + 1)) p = (nearsS far (l.take i) p && (p.take n3).all (nearO far ⟨ok, ol⟩))) := by
              unfold Hid
              rw [nearsS_step HO.out, decide_eq_false (fun h : ckOb ⟨ok, ol⟩ ≠ 0 => h HCK.out), Bool.false_or, List.take_of_length_le (l := p) (by omega)]
            clear cX lX
            go_wp2_with fail
            go_roundw
            case rel => exact ⟨i + 1, by omega, by go_num, by rw [HN.out], HA1.out, hX, hb⟩
            case measure => simp [intOf]; omega
          have hj1 : (j : Int) < (n3 : Int) := by omega
          obtain ⟨_, A'', mo, co, h0, h1, hpo⟩ := obs_getL (HL.out.below (hb.mono hB)) HO.out
          simp only at h0 h1 hpo
          have hmo : mo ≤ 10000 := by rw [← hpo.1]; exact HLO.out _ (List.mem_of_getElem? HO.out)
          obtain ⟨b2, off2, rfl, hab2, hx, g0, g1⟩ := pts_atN (HP.out.below (hb.mono hB)) hlt3
          have hbw : b < wr.heap.size := by omega
          have hbw2 : b2 < wr.heap.size := by omega
          have hst := all_take_succ (p := nearO far ⟨ok, ol⟩) hx
          generalize pt p j = x at *
          obtain ⟨px, py⟩ := x
          simp only at g0 g1
          have hno : nearO far ⟨ok, ol⟩ ⟨px, py⟩ = (!okPt ⟨px, py⟩ || (decide ((far ⟨px, py⟩).den ≠ 0) && decide (cmpF (far ⟨px, py⟩) (distF ⟨ok, ol⟩ ⟨px, py⟩) ≤ 0))) := rfl
          have hPt := fun W => rpoint_any px py W
          have hD2 := fun (W : World) (hW : Below wr.heap.size wr W) => HDD.out W B A c px py (HK.out.below ((hb.trans (hW.mono hbz)).mono hB)) (Nat.le_trans hBw hW.size) hKc HKA.out
          have hDi := fun (W : World) (hW : Below wr.heap.size wr W) => rDist_any B mo co ok A'' ol px py W (hpo.tr hW hBw) (Nat.le_trans hBw hW.size) (by omega)
          have hFo := HFO.out ⟨px, py⟩
          obtain ⟨dv, hdv⟩ : ∃ v, far ⟨px, py⟩ = v := ⟨_, rfl⟩
          obtain ⟨ov, hov⟩ : ∃ v, distF ⟨ok, ol⟩ ⟨px, py⟩ = v := ⟨_, rfl⟩
          have hov2 : okPt ⟨px, py⟩ = true → FrOk ov := fun h => by rw [← hov]; exact distF_okC HCK.out h
          rw [hdv] at hD2 hno hFo
          rw [hov] at hDi hno
          have hCm := fun (h : okPt ⟨px, py⟩ = true) (W : World) => rCmpD_any dv ov hFo (hov2 h) W
          obtain ⟨dn, hdn⟩ : ∃ v, dv.den = v := ⟨_, rfl⟩
          obtain ⟨d1, hd1⟩ : ∃ v : Nat, dv.num / 18446744073709551616 = v := ⟨_, rfl⟩
          obtain ⟨d2, hd2⟩ : ∃ v : Nat, dv.num % 18446744073709551616 = v := ⟨_, rfl⟩
          have fd : fV dv = .agg #[.int .u64 (d1 : Nat), .int .u64 (d2 : Nat), .int .u64 (dn : Nat)] := by rw [← hdn, ← hd1, ← hd2]
          have fo : fV ov = .agg (fcs ov).toArray := rfl
          obtain ⟨o1, o2, o3, eo⟩ := fcs_ex ov
          rw [eo] at fo
          rw [fd] at hD2 hCm
          rw [fo] at hDi hCm
          rw [hdn] at hno
          obtain ⟨cm, hcm⟩ : ∃ v, cmpF dv ov = v := ⟨_, rfl⟩
          rw [hcm] at hno hCm
          obtain ⟨op, hop⟩ : ∃ v, okPt ⟨px, py⟩ = v := ⟨_, rfl⟩
          rw [hop] at hno hCm hPt
          have HPt := Lib.hid hPt
          have HD2 := Lib.hid hD2
          have HDi := Lib.hid hDi
          have HST := Lib.hid hst
          have HNO := Lib.hid hno
          have HX := Lib.hid hx
          clear hst hno hPt hD2 hDi hov hdv hcm hdn hd1 hd2 eo fo fd hx hpo hov2 hFo
          go_wp2_with fail
          refine wp_region_alloc' [0, 1, 2, 3, 4, 5, 6] [7] [8] (fun _ => #[.int .u64 0, .int .u64 0, .int .u64 0]) (by kernel_rfl) (by kernel_rfl) (fun _ _ d _ _ h => by cases d <;> exact h) (by intro i hi w; simp only [List.mem_cons, List.not_mem_nil, or_false] at hi; rcases hi with rfl <;> simp only [List.getD_cons_zero, List.getD_cons_succ, tyOf] <;> kernel_rfl) (fun KN hKN => ?_)
          simp only [List.map_cons, List.map_nil, List.getD_cons_zero, List.getD_cons_succ, bare, gslot, List.getElem?_cons_zero, List.getElem?_cons_succ, Option.bind_some]
          repeat ((try simp only [Act.put, List.setIfInBounds_toArray, List.set_cons_zero, List.set_cons_succ]); first | (refine lexN_quiet (v := ?_) rfl ?_ ?_; rotate_left; focus (intro wq hq; obtain ⟨hcq, hfq⟩ := bcell hq; go_simp; try with_reducible rfl)) | (refine lexN_loud (v := ?_) rfl ?_ ?_; rotate_left; focus (intro wq hq K hK; obtain ⟨hcq, hfq⟩ := bcell hq; go_simp; (first | (go_at_call 32; (with_reducible refine (HD2.out _ bel).mono ?_); rintro e w1 ⟨rfl, hb1⟩; obtain ⟨hc1, hf1⟩ := bcell hb1; have hz1 := hb1.size; (try simp at hz1))); refine hK.out _ _ ?_ bel; simp only [Act.put, List.setIfInBounds_toArray, List.set_cons_zero, List.set_cons_succ]; try with_reducible rfl)))
          (try simp only [Act.put, List.setIfInBounds_toArray, List.set_cons_zero, List.set_cons_succ])
          refine lexN_nil (hKN.out _ ?_)
          clear hKN KN
          intro gs wf hwf hgs hds
          simp only [List.map_cons, List.map_nil, List.getD_cons_zero, List.getD_cons_succ, bare, gslot, List.getElem?_cons_zero, List.getElem?_cons_succ, Option.bind_some, List.foldl_cons, List.foldl_nil, ptrV]
          obtain ⟨hg7, HB7⟩ := hgs 7 (by decide)
          simp only [List.getD_cons_zero, List.getD_cons_succ, tyOf] at HB7
          clear hgs hds
          generalize gs 7 = g7 at *
          have cg7 := HB7.cell
          have fg7 := HB7.frozen
          repeat ((try simp only [Act.put, List.setIfInBounds_toArray, List.set_cons_zero, List.set_cons_succ]); first | (refine lexL_loud wantB_none rfl (fun K hK => ?_); go_simp; refine hK.out _ _ bel ?_; clear hK K) | (refine lexL_quiet (v := ?_) wantB_none rfl ?_ ?_; rotate_left; focus (intro wq hq; go_simp; try with_reducible rfl)))
          refine lexL_nil ?_
          refine keep_world (R := fun w2 => Below w.heap.size w w2 ∧ Blk w2 g7 75 #[.int .u64 (d1 : Nat), .int .u64 (d2 : Nat), .int .u64 (dn : Nat)] ∧ Blk w2 w.heap.size 23 #[.int .i64 k0, .int .i64 k1, .bool k2, .int .i64 k3] ∧ Below wr.heap.size wr w2) ⟨bel, (((HB7.set_ 0 _).set_ 1 _).set_ 2 _).eq_ (by simp), blkA, bel⟩ ?_
          rintro w2 ⟨hb2, h7, hE0, hE1⟩
          clear cg7 fg7 HB7
          have cg7 := h7.cell
          have fg7 := h7.frozen
          have lg7 := h7.lt
          obtain ⟨hc2, hf2⟩ := bcell hb2
          obtain ⟨hcE, hfE⟩ := bcell hE1
          have hzE := hE1.size
          have hbwE : b < w2.heap.size := by omega
          have hbwE2 : b2 < w2.heap.size := by omega
          have cX2 := hE0.cell
          have lX2 := hE0.lt
          clear hc2 hf2 cX lX hX
          cases op
          case false =>
            go_wp2_with fail
            refine wp_region_belowI (by kernel_rfl) (by kernel_rfl) (fun _ _ d _ _ h => by cases d <;> exact h) ?_
            simp only [List.map_cons, List.map_nil, List.getD_cons_zero, List.getD_cons_succ, bare, gslot, List.getElem?_cons_zero, List.getElem?_cons_succ, Option.bind_some]
            repeat' ((try simp only [Act.put, List.setIfInBounds_toArray, List.set_cons_zero, List.set_cons_succ]); first | (refine lexL_on ?_ ?_; focus (simp only [List.getElem?_toArray, List.getElem?_cons_succ, List.getElem?_cons_zero, Bool.not_true, Bool.not_false]; done)) | (refine lexL_off ?_ ?_ ?_; (focus (simp only [List.getElem?_toArray, List.getElem?_cons_succ, List.getElem?_cons_zero, Bool.not_true, Bool.not_false]; done)); (focus (exact bel))) | (refine lexL_void ?_ ?_ ?_; (focus (simp only [List.getElem?_toArray, List.getElem?_cons_succ, List.getElem?_cons_zero, Bool.not_true, Bool.not_false]; done)); (focus (exact bel))) | (refine lexL_splitS (X := ?_) ?_ ?_ (fun hg => ?_) (fun hg => ?_); rotate_left; (focus (simp only [List.getElem?_toArray, List.getElem?_cons_succ, List.getElem?_cons_zero]; with_reducible rfl)); (focus (exact bel)); all_goals (try simp only [Bool.not_true, Bool.not_false] at hg)) | (refine lexL_quiet (v := ?_) wantB_none rfl ?_ ?_; rotate_left; focus (intro wq hq; obtain ⟨hcq, hfq⟩ := bcell hq; go_simp; try with_reducible rfl)) | (refine lexL_loud wantB_none rfl (fun K hK => ?_); go_simp; ((first |  (go_at_call 24; (with_reducible refine (HPt.out _).mono ?_); rintro e w5 ⟨rfl, hb5⟩; obtain ⟨hc5, hf5⟩ := bcell hb5; have hz5 := hb5.size; (try simp at hz5)) | (go_at_call 34; (with_reducible refine (HDi.out _ bel).mono ?_); rintro e w6 ⟨rfl, hb6⟩) | (go_at_call 33; (with_reducible refine (HCm.out _).mono ?_); rintro e w7 ⟨rfl, hb7⟩) | skip) <;> (refine hK.out _ _ bel ?_; clear hK K))))
            (all_goals try simp only [Act.put, List.setIfInBounds_toArray, List.set_cons_zero, List.set_cons_succ]); all_goals (refine lexL_nil ?_)
            go_wp2_with fail
            go_roundw
            case rel => exact ⟨j + 1, by omega, by go_num, by rw [HST.out, HNO.out]; simp [byN], blkA, bel⟩
            case measure => simp [intOf]; omega
          have HCm := Lib.hid (hCm rfl)
          clear hCm
          by_cases hdz : dn = 0
          case pos =>
            subst hdz
            go_wp2_with fail
            refine wp_region_belowI (by kernel_rfl) (by kernel_rfl) (fun _ _ d _ _ h => by cases d <;> exact h) ?_
            simp only [List.map_cons, List.map_nil, List.getD_cons_zero, List.getD_cons_succ, bare, gslot, List.getElem?_cons_zero, List.getElem?_cons_succ, Option.bind_some]
            repeat' ((try simp only [Act.put, List.setIfInBounds_toArray, List.set_cons_zero, List.set_cons_succ]); first | (refine lexL_on ?_ ?_; focus (simp only [List.getElem?_toArray, List.getElem?_cons_succ, List.getElem?_cons_zero, Bool.not_true, Bool.not_false]; done)) | (refine lexL_off ?_ ?_ ?_; (focus (simp only [List.getElem?_toArray, List.getElem?_cons_succ, List.getElem?_cons_zero, Bool.not_true, Bool.not_false]; done)); (focus (exact bel))) | (refine lexL_void ?_ ?_ ?_; (focus (simp only [List.getElem?_toArray, List.getElem?_cons_succ, List.getElem?_cons_zero, Bool.not_true, Bool.not_false]; done)); (focus (exact bel))) | (refine lexL_splitS (X := ?_) ?_ ?_ (fun hg => ?_) (fun hg => ?_); rotate_left; (focus (simp only [List.getElem?_toArray, List.getElem?_cons_succ, List.getElem?_cons_zero]; with_reducible rfl)); (focus (exact bel)); all_goals (try simp only [Bool.not_true, Bool.not_false] at hg)) | (refine lexL_quiet (v := ?_) wantB_none rfl ?_ ?_; rotate_left; focus (intro wq hq; obtain ⟨hcq, hfq⟩ := bcell hq; go_simp; try with_reducible rfl)) | (refine lexL_loud wantB_none rfl (fun K hK => ?_); go_simp; ((first |  (go_at_call 24; (with_reducible refine (HPt.out _).mono ?_); rintro e w5 ⟨rfl, hb5⟩; obtain ⟨hc5, hf5⟩ := bcell hb5; have hz5 := hb5.size; (try simp at hz5)) | (go_at_call 34; (with_reducible refine (HDi.out _ bel).mono ?_); rintro e w6 ⟨rfl, hb6⟩) | (go_at_call 33; (with_reducible refine (HCm.out _).mono ?_); rintro e w7 ⟨rfl, hb7⟩) | skip) <;> (refine hK.out _ _ bel ?_; clear hK K))))
            (all_goals try simp only [Act.put, List.setIfInBounds_toArray, List.set_cons_zero, List.set_cons_succ]); all_goals (refine lexL_nil ?_)
            go_wp2_with fail
            go_roundw
            case rel => exact ⟨j + 1, by omega, by go_num, by rw [HST.out, HNO.out]; simp [byN], blkA, bel⟩
            case measure => simp [intOf]; omega
          have hdz' : ((dn : Int) == 0) = false := by rw [beq_eq_false_iff_ne]; omega
          by_cases hcm : 0 < cm
          case pos =>
            have hcq2 : ¬ cm ≤ 0 := by omega
            go_wp2_with fail
            refine wp_region_belowI (by kernel_rfl) (by kernel_rfl) (fun _ _ d _ _ h => by cases d <;> exact h) ?_
            simp only [List.map_cons, List.map_nil, List.getD_cons_zero, List.getD_cons_succ, bare, gslot, List.getElem?_cons_zero, List.getElem?_cons_succ, Option.bind_some]
            repeat' ((try simp only [Act.put, List.setIfInBounds_toArray, List.set_cons_zero, List.set_cons_succ]); first | (refine lexL_on ?_ ?_; focus (simp only [List.getElem?_toArray, List.getElem?_cons_succ, List.getElem?_cons_zero, Bool.not_true, Bool.not_false]; done)) | (refine lexL_off ?_ ?_ ?_; (focus (simp only [List.getElem?_toArray, List.getElem?_cons_succ, List.getElem?_cons_zero, Bool.not_true, Bool.not_false]; done)); (focus (exact bel))) | (refine lexL_void ?_ ?_ ?_; (focus (simp only [List.getElem?_toArray, List.getElem?_cons_succ, List.getElem?_cons_zero, Bool.not_true, Bool.not_false]; done)); (focus (exact bel))) | (refine lexL_splitS (X := ?_) ?_ ?_ (fun hg => ?_) (fun hg => ?_); rotate_left; (focus (simp only [List.getElem?_toArray, List.getElem?_cons_succ, List.getElem?_cons_zero]; with_reducible rfl)); (focus (exact bel)); all_goals (try simp only [Bool.not_true, Bool.not_false] at hg)) | (refine lexL_quiet (v := ?_) wantB_none rfl ?_ ?_; rotate_left; focus (intro wq hq; obtain ⟨hcq, hfq⟩ := bcell hq; go_simp; try with_reducible rfl)) | (refine lexL_loud wantB_none rfl (fun K hK => ?_); go_simp; ((first |  (go_at_call 24; (with_reducible refine (HPt.out _).mono ?_); rintro e w5 ⟨rfl, hb5⟩; obtain ⟨hc5, hf5⟩ := bcell hb5; have hz5 := hb5.size; (try simp at hz5)) | (go_at_call 34; (with_reducible refine (HDi.out _ bel).mono ?_); rintro e w6 ⟨rfl, hb6⟩) | (go_at_call 33; (with_reducible refine (HCm.out _).mono ?_); rintro e w7 ⟨rfl, hb7⟩) | skip) <;> (refine hK.out _ _ bel ?_; clear hK K))))
            (all_goals try simp only [Act.put, List.setIfInBounds_toArray, List.set_cons_zero, List.set_cons_succ]); all_goals (refine lexL_nil ?_)
            go_wp2_with fail
            go_roundw
            case rel => exact ⟨j + 1, by omega, by go_num, by rw [HST.out, HNO.out, decide_eq_false (show ¬ cm ≤ 0 by omega)]; simp [byN], blkA, bel⟩
            case measure => simp [intOf]; omega
          have hcm2 : cm ≤ 0 := by omega
          go_wp2_with fail
          refine wp_region_belowI (by kernel_rfl) (by kernel_rfl) (fun _ _ d _ _ h => by cases d <;> exact h) ?_
          simp only [List.map_cons, List.map_nil, List.getD_cons_zero, List.getD_cons_succ, bare, gslot, List.getElem?_cons_zero, List.getElem?_cons_succ, Option.bind_some]
          repeat' ((try simp only [Act.put, List.setIfInBounds_toArray, List.set_cons_zero, List.set_cons_succ]); first | (refine lexL_on ?_ ?_; focus (simp only [List.getElem?_toArray, List.getElem?_cons_succ, List.getElem?_cons_zero, Bool.not_true, Bool.not_false]; done)) | (refine lexL_off ?_ ?_ ?_; (focus (simp only [List.getElem?_toArray, List.getElem?_cons_succ, List.getElem?_cons_zero, Bool.not_true, Bool.not_false]; done)); (focus (exact bel))) | (refine lexL_void ?_ ?_ ?_; (focus (simp only [List.getElem?_toArray, List.getElem?_cons_succ, List.getElem?_cons_zero, Bool.not_true, Bool.not_false]; done)); (focus (exact bel))) | (refine lexL_splitS (X := ?_) ?_ ?_ (fun hg => ?_) (fun hg => ?_); rotate_left; (focus (simp only [List.getElem?_toArray, List.getElem?_cons_succ, List.getElem?_cons_zero]; with_reducible rfl)); (focus (exact bel)); all_goals (try simp only [Bool.not_true, Bool.not_false] at hg)) | (refine lexL_quiet (v := ?_) wantB_none rfl ?_ ?_; rotate_left; focus (intro wq hq; obtain ⟨hcq, hfq⟩ := bcell hq; go_simp; try with_reducible rfl)) | (refine lexL_loud wantB_none rfl (fun K hK => ?_); go_simp; ((first |  (go_at_call 24; (with_reducible refine (HPt.out _).mono ?_); rintro e w5 ⟨rfl, hb5⟩; obtain ⟨hc5, hf5⟩ := bcell hb5; have hz5 := hb5.size; (try simp at hz5)) | (go_at_call 34; (with_reducible refine (HDi.out _ bel).mono ?_); rintro e w6 ⟨rfl, hb6⟩) | (go_at_call 33; (with_reducible refine (HCm.out _).mono ?_); rintro e w7 ⟨rfl, hb7⟩) | skip) <;> (refine hK.out _ _ bel ?_; clear hK K))))
          (all_goals try simp only [Act.put, List.setIfInBounds_toArray, List.set_cons_zero, List.set_cons_succ]); all_goals (refine lexL_nil ?_)
          go_wp2_with fail
          go_roundw
          case rel => exact ⟨j + 1, by omega, by go_num, by rw [HST.out, HNO.out]; simp [byN, hcm2, hdz], blkA, bel⟩
          case measure => simp [intOf]; omega
      have hj1 : (j : Int) < (n2 : Int) := by omega
      obtain ⟨_, A'', mo, co, h0, h1, hpo⟩ := obs_getL (HL.out.below (hb.mono hB)) HO.out
      simp only at h0 h1 hpo
      have hmo : mo ≤ 10000 := by rw [← hpo.1]; exact HLO.out _ (List.mem_of_getElem? HO.out)
      obtain ⟨b2, off2, A2', m2, c2', x, rfl, hab2, hx, ⟨g0, g1, g2, g3, g4, g5⟩, hpx⟩ := (HQ.out.below (hb.mono hB)).at_ hlt2
      have hbw : b < wr.heap.size := by omega
      have hbw2 : b2 < wr.heap.size := by omega
      have hm2 : m2 ≤ 10000 := by rw [← hpx.1]; exact HQO.out x (List.mem_of_getElem? hx)
      have hst := all_take_succ (p := askO cons ⟨ok, ol⟩) hx
      have hfl := fun h => all_false (p := askO cons ⟨ok, ol⟩) hx h
      obtain ⟨xk, xb, xr⟩ := x
      simp only at g0 g1 g2 g3 g4 g5 hpx
      have hao : askO cons ⟨ok, ol⟩ ⟨xk, xb, xr⟩ = (!matchS ⟨ok, ol⟩ ⟨xk, xb, xr⟩ || cons ⟨xk, xb, xr⟩) := rfl
      have hM := fun (W : World) (hW : Below wr.heap.size wr W) => rMatch_any B mo co m2 c2' ok xk xb A'' A2' ol xr W (hpo.tr hW hBw) (hpx.tr hW hBw) (Nat.le_trans hBw hW.size) (by omega) (by omega)
      have hC2 := fun (W : World) (hW : Below wr.heap.size wr W) => HCC.out W B A c ⟨xk, xb, xr⟩ A2' m2 c2' (HK.out.below ((hb.trans (hW.mono hbz)).mono hB)) (Nat.le_trans hBw hW.size) (hpx.tr hW hBw) (by omega) hKc HKA.out
      obtain ⟨mv, hmv⟩ : ∃ v, matchS ⟨ok, ol⟩ ⟨xk, xb, xr⟩ = v := ⟨_, rfl⟩
      obtain ⟨cv, hcv⟩ : ∃ v, cons ⟨xk, xb, xr⟩ = v := ⟨_, rfl⟩
      rw [hmv] at hM hao
      rw [hcv] at hC2 hao
      rw [hqj, Bool.true_and] at hst
      have HM := Lib.hid hM
      have HC2 := Lib.hid hC2
      have HST := Lib.hid hst
      have HFL := Lib.hid hfl
      have HAO := Lib.hid hao
      clear hst hfl hao hM hC2 hmv hcv hqj hx hpx hpo
      cases mv
      case false =>
        go_wp2_with fail
        refine wp_region_belowI (by kernel_rfl) (by kernel_rfl) (fun _ _ d _ _ h => by cases d <;> exact h) ?_
        simp only [List.map_cons, List.map_nil, List.getD_cons_zero, List.getD_cons_succ, bare, gslot, List.getElem?_cons_zero, List.getElem?_cons_succ, Option.bind_some]
        repeat' ((try simp only [Act.put, List.setIfInBounds_toArray, List.set_cons_zero, List.set_cons_succ]); first | (refine lexL_on ?_ ?_; focus (simp only [List.getElem?_toArray, List.getElem?_cons_succ, List.getElem?_cons_zero, Bool.not_true, Bool.not_false]; done)) | (refine lexL_off ?_ ?_ ?_; (focus (simp only [List.getElem?_toArray, List.getElem?_cons_succ, List.getElem?_cons_zero, Bool.not_true, Bool.not_false]; done)); (focus (exact bel))) | (refine lexL_splitS (X := ?_) ?_ ?_ (fun hg => ?_) (fun hg => ?_); rotate_left; (focus (simp only [List.getElem?_toArray, List.getElem?_cons_succ, List.getElem?_cons_zero]; with_reducible rfl)); (focus (exact bel)); all_goals (try simp only [Bool.not_true, Bool.not_false] at hg)) | (refine lexL_quiet (v := ?_) wantB_none rfl ?_ ?_; rotate_left; focus (intro wq hq; obtain ⟨hcq, hfq⟩ := bcell hq; go_simp; try with_reducible rfl)) | (refine lexL_loud wantB_none rfl (fun K hK => ?_); go_simp; ((first |  (go_at_call 30; (with_reducible refine (HM.out _ bel).mono ?_); rintro e w5 ⟨rfl, hb5⟩; obtain ⟨hc5, hf5⟩ := bcell hb5; have hz5 := hb5.size; (try simp at hz5)) | (go_at_call 31; (with_reducible refine (HC2.out _ bel).mono ?_); rintro e w7 ⟨rfl, hb7⟩) | skip) <;> (refine hK.out _ _ bel ?_; clear hK K))))
        (all_goals try simp only [Act.put, List.setIfInBounds_toArray, List.set_cons_zero, List.set_cons_succ]); all_goals (refine lexL_nil ?_)
        go_wp2_with fail
        go_roundw
        case rel => exact ⟨j + 1, by omega, by go_num, by rw [HST.out, HAO.out]; rfl, blkA, bel⟩
        case measure => simp [intOf]; omega
      case true =>
        cases cv
        case false =>
          have HR : Hid (covN cons far l q p = 2) := by
            unfold Hid covN
            have h := all_false (p := fun o => q.all (askO cons o)) HO.out (HFL.out (by rw [HAO.out]; rfl))
            rw [if_pos (show asksS cons l q = false from h)]
          go_wp2_with fail
          refine wp_region_belowI (by kernel_rfl) (by kernel_rfl) (fun _ _ d _ _ h => by cases d <;> exact h) ?_
          simp only [List.map_cons, List.map_nil, List.getD_cons_zero, List.getD_cons_succ, bare, gslot, List.getElem?_cons_zero, List.getElem?_cons_succ, Option.bind_some]
          repeat' ((try simp only [Act.put, List.setIfInBounds_toArray, List.set_cons_zero, List.set_cons_succ]); first | (refine lexL_on ?_ ?_; focus (simp only [List.getElem?_toArray, List.getElem?_cons_succ, List.getElem?_cons_zero, Bool.not_true, Bool.not_false]; done)) | (refine lexL_off ?_ ?_ ?_; (focus (simp only [List.getElem?_toArray, List.getElem?_cons_succ, List.getElem?_cons_zero, Bool.not_true, Bool.not_false]; done)); (focus (exact bel))) | (refine lexL_splitS (X := ?_) ?_ ?_ (fun hg => ?_) (fun hg => ?_); rotate_left; (focus (simp only [List.getElem?_toArray, List.getElem?_cons_succ, List.getElem?_cons_zero]; with_reducible rfl)); (focus (exact bel)); all_goals (try simp only [Bool.not_true, Bool.not_false] at hg)) | (refine lexL_quiet (v := ?_) wantB_none rfl ?_ ?_; rotate_left; focus (intro wq hq; obtain ⟨hcq, hfq⟩ := bcell hq; go_simp; try with_reducible rfl)) | (refine lexL_loud wantB_none rfl (fun K hK => ?_); go_simp; ((first |  (go_at_call 30; (with_reducible refine (HM.out _ bel).mono ?_); rintro e w5 ⟨rfl, hb5⟩; obtain ⟨hc5, hf5⟩ := bcell hb5; have hz5 := hb5.size; (try simp at hz5)) | (go_at_call 31; (with_reducible refine (HC2.out _ bel).mono ?_); rintro e w7 ⟨rfl, hb7⟩) | skip) <;> (refine hK.out _ _ bel ?_; clear hK K))))
          (all_goals try simp only [Act.put, List.setIfInBounds_toArray, List.set_cons_zero, List.set_cons_succ]); all_goals (refine lexL_nil ?_)
          go_wp2_with fail
          go_ret
          exact ⟨by rw [HR.out]; rfl, bel⟩
        case true =>
          go_wp2_with fail
          refine wp_region_belowI (by kernel_rfl) (by kernel_rfl) (fun _ _ d _ _ h => by cases d <;> exact h) ?_
          simp only [List.map_cons, List.map_nil, List.getD_cons_zero, List.getD_cons_succ, bare, gslot, List.getElem?_cons_zero, List.getElem?_cons_succ, Option.bind_some]
          repeat' ((try simp only [Act.put, List.setIfInBounds_toArray, List.set_cons_zero, List.set_cons_succ]); first | (refine lexL_on ?_ ?_; focus (simp only [List.getElem?_toArray, List.getElem?_cons_succ, List.getElem?_cons_zero, Bool.not_true, Bool.not_false]; done)) | (refine lexL_off ?_ ?_ ?_; (focus (simp only [List.getElem?_toArray, List.getElem?_cons_succ, List.getElem?_cons_zero, Bool.not_true, Bool.not_false]; done)); (focus (exact bel))) | (refine lexL_splitS (X := ?_) ?_ ?_ (fun hg => ?_) (fun hg => ?_); rotate_left; (focus (simp only [List.getElem?_toArray, List.getElem?_cons_succ, List.getElem?_cons_zero]; with_reducible rfl)); (focus (exact bel)); all_goals (try simp only [Bool.not_true, Bool.not_false] at hg)) | (refine lexL_quiet (v := ?_) wantB_none rfl ?_ ?_; rotate_left; focus (intro wq hq; obtain ⟨hcq, hfq⟩ := bcell hq; go_simp; try with_reducible rfl)) | (refine lexL_loud wantB_none rfl (fun K hK => ?_); go_simp; ((first |  (go_at_call 30; (with_reducible refine (HM.out _ bel).mono ?_); rintro e w5 ⟨rfl, hb5⟩; obtain ⟨hc5, hf5⟩ := bcell hb5; have hz5 := hb5.size; (try simp at hz5)) | (go_at_call 31; (with_reducible refine (HC2.out _ bel).mono ?_); rintro e w7 ⟨rfl, hb7⟩) | skip) <;> (refine hK.out _ _ bel ?_; clear hK K))))
          (all_goals try simp only [Act.put, List.setIfInBounds_toArray, List.set_cons_zero, List.set_cons_succ]); all_goals (refine lexL_nil ?_)
          go_wp2_with fail
          go_roundw
          case rel => exact ⟨j + 1, by omega, by go_num, by rw [HST.out, HAO.out]; rfl, blkA, bel⟩
          case measure => simp [intOf]; omega
end Go.Proofs.YtahiaekoaokgnaaGreat
