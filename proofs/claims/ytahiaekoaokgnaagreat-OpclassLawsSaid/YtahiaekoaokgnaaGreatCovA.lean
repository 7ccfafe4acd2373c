/-
  Contracts: slices.Clone of bytes; what a key covers: opclass.asks, nears, Covers, of whatever class.
-/
import Derived.Test.YtahiaekoaokgnaaGreatOpcA
import Derived.Test.YtahiaekoaokgnaaGreatPlainCov
import Derived.Test.YtahiaekoaokgnaaGreatRatio
import Derived.Test.YtahiaekoaokgnaaGreatDist4
set_option linter.unusedSimpArgs false
set_option linter.unusedVariables false
namespace Go.Proofs.YtahiaekoaokgnaaGreat
open Go.RowKit Pg

theorem bys_cells {w : World} {B n b off : Nat} {l : List Nat} (h : BysAt w B (some ⟨b, off, none⟩) n l) (hn : 0 < n) : ∀ (j : Nat) (u : Value), (ycells l)[j]? = some u → w.cell? ((⟨b, off, none⟩ : Addr).add j) = some u := BysAt.news h hn

set_option maxHeartbeats 2000000 in
set_option maxRecDepth 20000 in
theorem cloneB_any (B n c : Nat) (A : Option Addr) (l : List Nat) (w : World) (hl : BysAt w B A n l) (hB : B ≤ w.heap.size) (hn2 : n ≤ 1000000) (hnc : n ≤ c) (hAn : A = none → c = 0) :
    Calls Tryz.prog 22 #[.slice A n c] w fun e w' => ∃ A' c', e = .returned (.slice A' n c') ∧ BysAt w' w'.heap.size A' n l ∧ n ≤ c' ∧ (A' = none → c' = 0) ∧ Below w.heap.size w w' := by
  obtain ⟨i0, hi, iz0, iz1, iz2⟩ := info_parts Tryz.infoByte
  have q22 : ∀ (w : World) (a : Option Addr) (n c n' c' : Nat), (binOp .eql 35 (.slice a n c) (.slice none n' c')).run Tryz.prog w = .ok (.bool a.isNone) w := fun w a n c n' c' => Lib.run_eql_slice_nil w _ _ a n c n' c' Tryz.underlying35
  cases A with
  | none =>
    have hc0 := hAn rfl
    have hn0 : n = 0 := by omega
    subst hc0 hn0
    have hl0 : l = [] := List.eq_nil_of_length_eq_zero hl.1
    subst hl0
    clear hl
    go_enter Tryz.func22, Tryz.ntmps22
    go_wp2
    go_ret
    refine ⟨none, 0, rfl, ⟨rfl, fun h => absurd h (by omega)⟩, ?_⟩
    first | exact ⟨Nat.le_refl _, fun _ => rfl, bel⟩ | exact ⟨fun _ => rfl, bel⟩
  | some ad =>
  have hnews : ∀ (j : Nat) (u : Value), (ycells l)[j]? = some u → w.cell? (ad.add j) = some u := by
    intro j u hj
    rcases Nat.eq_zero_or_pos n with h0 | hn
    · have hl0 : l = [] := List.eq_nil_of_length_eq_zero (hl.1.trans h0)
      subst hl0
      simp [ycells] at hj
    · obtain ⟨b, off, e, _⟩ := hl.2 hn
      injection e with e
      subst e
      exact BysAt.news hl hn j u hj
  have hln := hl.1
  have HN := Lib.hid hnews
  clear hl hnews
  go_enter Tryz.func22, Tryz.ntmps22
  go_wp2_with (at_builtin; refine wpList_append_own _ rfl _ _ 35 rfl w.heap.size 5 i0 (.int .u8 0) 1 1 Tryz.underlying35 hi iz0 iz1 iz2 rfl (by decide) _ _ _ rfl (World.ownsRow_made w #[] 0 (Nat.le_refl _) (Nat.zero_le _) rfl) ad n c (ycells l) rfl ?qc1 ?qc2 ?qc3 ?qc4 ?qc5 ?qc6 ?_)
  case qc1 => simp [ycells, hln]
  case qc2 =>
    intro j u hj
    exact Lib.cell?_alloc_some _ (HN.out j u hj)
  case qc3 => exact ycells_one l
  case qc4 => unfold maxLen; omega
  case qc5 => omega
  case qc6 => simp
  intro v' w1 hown hgrow hnil
  try rw [Nat.zero_add] at hown
  obtain ⟨A1, c1, rfl, h1, h2, h3, h4⟩ := bys_of_own2 (l := l) hown
  go_wp2
  go_ret
  exact ⟨A1, c1, rfl, h1, h4, h3, ((Below.refl _ w).alloc (Nat.le_refl _) _).grown hgrow (by simp) (by intro k hk; simp [Value.ownBlock] at hk; omega)⟩

/-- does a key, by what it is consistent with, cover objects for queries? -/
def asksS (cons : Qu → Bool) (l : List Ob) (q : List Qu) : Bool := l.all fun o => q.all fun x => !matchS o x || cons x
theorem all_take_succ {α : Type} {p : α → Bool} {l : List α} {k : Nat} {x : α} (h : l[k]? = some x) : (l.take (k + 1)).all p = ((l.take k).all p && p x) := by
  rw [List.take_add_one, h]
  simp
theorem all_take_all {α : Type} {p : α → Bool} {l : List α} {n : Nat} (hn : l.length = n) : (l.take n).all p = l.all p := by rw [List.take_of_length_le (by omega)]
theorem all_false {α : Type} {p : α → Bool} {l : List α} {k : Nat} {x : α} (h : l[k]? = some x) (hp : p x = false) : l.all p = false := by
  rw [List.all_eq_false]
  exact ⟨x, List.mem_of_getElem? h, by simp [hp]⟩
theorem pts_lift {w : World} {B B' n : Nat} {A : Option Addr} {l : List Pt} (h : PtsAt w B A n l) (hB : B ≤ B') : PtsAt w B' A n l :=
  ⟨h.1, fun hn => by
    obtain ⟨b, off, e, hb, hc⟩ := h.2 hn
    exact ⟨b, off, e, by omega, hc⟩⟩
/-- a class's method Consistent, at one key: f is its function -/
structure ConsAt (rv : Value) (f : Nat) (Y : List Nat) (cons : Qu → Bool) : Prop where
  enter : ∀ (args : Array Value) (w : World), (callFunc f args).run Tryz.prog w = .ok (.enter f args) w
  calls : ∀ (W : World) (A : Option Addr) (c : Nat) (q : Qu) (A' : Option Addr) (m c' : Nat), BysAt W W.heap.size A Y.length Y → Y.length ≤ c → (A = none → c = 0) → PtsAt W W.heap.size A' m q.ring → m ≤ 1000000 →
    Calls Tryz.prog f #[rv, .slice A Y.length c, quV q.kind q.box A' m c'] W (Ret W (.bool (cons q)))

set_option maxHeartbeats 8000000 in
set_option maxRecDepth 20000 in
theorem asks_any (t : TypeId) (rv : Value) (f : Nat) (Y : List Nat) (cons : Qu → Bool) (hmC : ∀ w, (Go.method 329 t rv "Consistent").run Tryz.prog w = .ok (f, rv) w) (hnC : ∀ w, (nilAhead 329 t rv "Consistent").run Tryz.prog w = .ok (some false) w) (hC : ConsAt rv f Y cons)
    (B c n1 c1 n2 c2 : Nat) (A A1 A2 : Option Addr) (l : List Ob) (q : List Qu) (w : World) (hK : BysAt w B A Y.length Y) (hKc : Y.length ≤ c) (hKA : A = none → c = 0) (hK1 : Y.length ≤ 1000000) (hl : ObsAt w B A1 n1 l) (hq : QusAt w B A2 n2 q) (hB : B ≤ w.heap.size)
    (hn1 : n1 ≤ 1000000) (hn2 : n2 ≤ 1000000) (hlo : ∀ o ∈ l, o.pts.length ≤ 1000000) (hqo : ∀ x ∈ q, x.ring.length ≤ 1000000) :
    Calls Tryz.prog 20 #[.iface t rv, .slice A Y.length c, .slice A1 n1 c1, .slice A2 n2 c2] w (Ret w (.bool (asksS cons l q))) := by
  have hl1 := hl.1
  have hq1 := hq.1
  have HL := Lib.hid hl
  have HQ := Lib.hid hq
  have HLO := Lib.hid hlo
  have HQO := Lib.hid hqo
  have HCl := Lib.hid (fun W (hW : Below w.heap.size w W) => cloneB_any B Y.length c A Y W (hK.tr hW hB) (Nat.le_trans hB hW.size) hK1 hKc hKA)
  have HCC := Lib.hid hC.calls
  have hEn := hC.enter
  clear hl hq hlo hqo hK hC
  go_enter Tryz.func20, Tryz.ntmps20
  go_wp2_with fail
  go_loopw [15] (fun vi wr => ∃ i : Nat, i ≤ n1 ∧ vi = .int .i64 i ∧ asksS cons (l.take i) q = true ∧ Below w.heap.size w wr) (fun vi _ => n1 - (intOf vi).toNat)
  case atStart => exact ⟨0, by omega, rfl, rfl, bel⟩
  case round =>
    obtain ⟨i, hi, rfl, ha, hb⟩ := hrel
    have hbz := hb.size
    by_cases hlt : i < n1
    case neg =>
      obtain rfl : n1 = i := by omega
      have HF : Hid (asksS cons l q = true) := by
        unfold Hid
        unfold asksS at ha ⊢
        rw [all_take_all hl1] at ha
        exact ha
      clear ha
      go_wp2_with fail
      go_ret
      exact ⟨ret_bool HF.out.symm, bel⟩
    have hi1 : (i : Int) < (n1 : Int) := by omega
    obtain ⟨b, off, A', m, c', o, rfl, hab, ho, h0, h1, hpo⟩ := (HL.out.below (hb.mono hB)).at_ hlt
    have hbw : b < wr.heap.size := by omega
    have hm1 : m ≤ 1000000 := by rw [← hpo.1]; exact HLO.out o (List.mem_of_getElem? ho)
    have HO := Lib.hid ho
    have HP := Lib.hid hpo
    have HA := Lib.hid ha
    obtain ⟨ok, ol⟩ := o
    simp only at h0 h1 hpo
    clear ho hpo ha
    go_wp2_with fail
    obtain ⟨G, hG⟩ : ∃ G, wr.heap.size = G := ⟨_, rfl⟩
    refine keep_world (R := fun w2 => Blk w2 G 34 #[.int .i64 ok, .slice A' m c'] ∧ PtsAt w2 B A' m ol ∧ Below w.heap.size w w2) ⟨by subst hG; exact blkA, HP.out.keep (fun p hp => by rw [World.cell?_alloc_lt _ _ _ (by omega)]), bel⟩ ?_
    clear h0 h1 HP hbw hb hbz
    rintro w2 ⟨hO, hPo, hb⟩
    simp only [hG]
    go_loopw [21] (fun vj w4 => ∃ j : Nat, j ≤ n2 ∧ vj = .int .i64 j ∧ (q.take j).all (fun x => !matchS ⟨ok, ol⟩ x || cons x) = true ∧ Blk w4 G 34 #[.int .i64 ok, .slice A' m c'] ∧ PtsAt w4 B A' m ol ∧ Below w.heap.size w w4) (fun vj _ => n2 - (intOf vj).toNat)
    case atStart => exact ⟨0, by omega, rfl, rfl, hO, hPo, hb⟩
    case round =>
      clear hO hPo hb
      obtain ⟨j, hj, rfl, ha, hO, hPo, hb⟩ := hrel
      have hbz := hb.size
      have cO := hO.cell
      have lO := hO.lt
      by_cases hlt2 : j < n2
      case neg =>
        obtain rfl : n2 = j := by omega
        have HX : Hid (asksS cons (l.take (i + 1)) q = true) := by
          unfold Hid
          have h1 := HA.out
          unfold asksS at h1 ⊢
          rw [all_take_succ HO.out, h1, Bool.true_and]
          rw [all_take_all hq1] at ha
          exact ha
        clear ha hPo
        go_wp2_with fail
        go_roundw
        case rel => exact ⟨i + 1, by omega, by go_num, HX.out, bel⟩
        case measure => simp [intOf]; omega
      have hj1 : (j : Int) < (n2 : Int) := by omega
      obtain ⟨b2, off2, A2', m2, c2', x, rfl, hab2, hx, ⟨g0, g1, g2, g3, g4, g5⟩, hpx⟩ := (HQ.out.below (hb.mono hB)).at_ hlt2
      have hbw : b2 < wr.heap.size := by omega
      have hm2 : m2 ≤ 1000000 := by rw [← hpx.1]; exact HQO.out x (List.mem_of_getElem? hx)
      have HX := Lib.hid hx
      have HA2 := Lib.hid ha
      have HPo := Lib.hid hPo
      obtain ⟨xk, xb, xr⟩ := x
      simp only at g0 g1 g2 g3 g4 g5 hpx
      have hBw : B ≤ wr.heap.size := by omega
      have HM := Lib.hid (fun W (hW : Below wr.heap.size wr W) => match_any B m c' m2 c2' ok xk xb A' A2' ol xr W (hPo.tr hW hBw) (hpx.tr hW hBw) (Nat.le_trans hBw hW.size) hm1 hm2)
      have HXP := Lib.hid (fun W (hW : Below wr.heap.size wr W) => pts_lift (hpx.tr hW hBw) (Nat.le_trans hBw hW.size))
      obtain ⟨mv, hmv⟩ : ∃ v, matchS ⟨ok, ol⟩ ⟨xk, xb, xr⟩ = v := ⟨_, rfl⟩
      obtain ⟨cv, hcv⟩ : ∃ v, cons ⟨xk, xb, xr⟩ = v := ⟨_, rfl⟩
      rw [hmv] at HM
      have hcc : ∀ W A c A' m c', BysAt W W.heap.size A Y.length Y → Y.length ≤ c → (A = none → c = 0) → PtsAt W W.heap.size A' m xr → m ≤ 1000000 → Calls Tryz.prog f #[rv, .slice A Y.length c, quV xk xb A' m c'] W (Ret W (.bool cv)) := fun W A c A' m c' h1 h2 h3 h4 h5 => by
        have := HCC.out W A c ⟨xk, xb, xr⟩ A' m c' h1 h2 h3 h4 h5
        rw [hcv] at this
        exact this
      have HC2 := Lib.hid hcc
      have HMV := Lib.hid hmv
      have HCV := Lib.hid hcv
      clear hx ha hPo hpx hmv hcv hcc
      obtain ⟨⟨xa, xb'⟩, ⟨xc, xd⟩⟩ := xb
      simp only at g1 g2 g3 g4
      cases mv
      case false =>
        go_wp2_with fail
        refine wp_region_below [0, 1, 2, 3, 4, 5, 7, 8, 9, 10, 6, 11, 12, 13] (by kernel_rfl) (by kernel_rfl) (fun _ _ d _ _ h => by cases d <;> exact h) ?_
        simp only [List.map_cons, List.map_nil, List.getD_cons_zero, List.getD_cons_succ, bare, gslot, List.getElem?_cons_zero, List.getElem?_cons_succ, Option.bind_some]
        repeat' ((try simp only [Act.put, List.setIfInBounds_toArray, List.set_cons_zero, List.set_cons_succ]); first | (refine lexL_on ?_ ?_; focus (simp only [List.getElem?_toArray, List.getElem?_cons_succ, List.getElem?_cons_zero, Bool.not_true, Bool.not_false]; done)) | (refine lexL_off ?_ ?_ ?_; (focus (simp only [List.getElem?_toArray, List.getElem?_cons_succ, List.getElem?_cons_zero, Bool.not_true, Bool.not_false]; done)); (focus (exact bel))) | (refine lexL_splitS (X := ?_) ?_ ?_ (fun hg => ?_) (fun hg => ?_); rotate_left; (focus (simp only [List.getElem?_toArray, List.getElem?_cons_succ, List.getElem?_cons_zero]; with_reducible rfl)); (focus (exact bel)); all_goals (try simp only [Bool.not_true, Bool.not_false] at hg)) | (refine lexL_quiet (v := ?_) wantB_none rfl ?_ ?_; rotate_left; focus (intro wq hq; obtain ⟨hcq, hfq⟩ := bcell hq; go_simp; try with_reducible rfl)) | (refine lexL_loud wantB_none rfl (fun K hK => ?_); go_simp; ((first |  (go_at_call 42; (with_reducible refine (HM.out _ bel).mono ?_); rintro e w5 ⟨rfl, hb5⟩) | (go_at_call 22; (with_reducible refine (HCl.out _ bel).mono ?_); rintro e w6 ⟨Ac, cc, rfl, hBc, hnc, hzc, hb6⟩) | ((refine (HC2.out _ _ _ A2' m2 c2' hBc hnc hzc ?_ hm2).mono ?_); (focus exact HXP.out _ bel); rintro e w7 ⟨rfl, hb7⟩) | skip) <;> (refine hK.out _ _ bel ?_; clear hK K))))
        (all_goals try simp only [Act.put, List.setIfInBounds_toArray, List.set_cons_zero, List.set_cons_succ]); all_goals (refine lexL_nil ?_)
        go_wp2_with fail
        go_roundw
        case rel => exact ⟨j + 1, by omega, by go_num, by rw [all_take_succ HX.out, HA2.out, HMV.out, HCV.out]; rfl, by clear hb; exact blkA, HPo.out.keep (fun p hp => by exact Below.cell (B := wr.heap.size) bel (by omega)), bel⟩
        case measure => simp [intOf]; omega
      case true =>
        cases cv
        case false =>
          have HF : Hid (asksS cons l q = false) := all_false HO.out (all_false HX.out (by rw [HMV.out, HCV.out]; rfl))
          go_wp2_with fail
          refine wp_region_below [0, 1, 2, 3, 4, 5, 7, 8, 9, 10, 6, 11, 12, 13] (by kernel_rfl) (by kernel_rfl) (fun _ _ d _ _ h => by cases d <;> exact h) ?_
          simp only [List.map_cons, List.map_nil, List.getD_cons_zero, List.getD_cons_succ, bare, gslot, List.getElem?_cons_zero, List.getElem?_cons_succ, Option.bind_some]
          repeat' ((try simp only [Act.put, List.setIfInBounds_toArray, List.set_cons_zero, List.set_cons_succ]); first | (refine lexL_on ?_ ?_; focus (simp only [List.getElem?_toArray, List.getElem?_cons_succ, List.getElem?_cons_zero, Bool.not_true, Bool.not_false]; done)) | (refine lexL_off ?_ ?_ ?_; (focus (simp only [List.getElem?_toArray, List.getElem?_cons_succ, List.getElem?_cons_zero, Bool.not_true, Bool.not_false]; done)); (focus (exact bel))) | (refine lexL_splitS (X := ?_) ?_ ?_ (fun hg => ?_) (fun hg => ?_); rotate_left; (focus (simp only [List.getElem?_toArray, List.getElem?_cons_succ, List.getElem?_cons_zero]; with_reducible rfl)); (focus (exact bel)); all_goals (try simp only [Bool.not_true, Bool.not_false] at hg)) | (refine lexL_quiet (v := ?_) wantB_none rfl ?_ ?_; rotate_left; focus (intro wq hq; obtain ⟨hcq, hfq⟩ := bcell hq; go_simp; try with_reducible rfl)) | (refine lexL_loud wantB_none rfl (fun K hK => ?_); go_simp; ((first |  (go_at_call 42; (with_reducible refine (HM.out _ bel).mono ?_); rintro e w5 ⟨rfl, hb5⟩) | (go_at_call 22; (with_reducible refine (HCl.out _ bel).mono ?_); rintro e w6 ⟨Ac, cc, rfl, hBc, hnc, hzc, hb6⟩) | ((refine (HC2.out _ _ _ A2' m2 c2' hBc hnc hzc ?_ hm2).mono ?_); (focus exact HXP.out _ bel); rintro e w7 ⟨rfl, hb7⟩) | skip) <;> (refine hK.out _ _ bel ?_; clear hK K))))
          (all_goals try simp only [Act.put, List.setIfInBounds_toArray, List.set_cons_zero, List.set_cons_succ]); all_goals (refine lexL_nil ?_)
          go_wp2_with fail
          go_ret
          exact ⟨ret_bool HF.out.symm, bel⟩
        case true =>
          go_wp2_with fail
          refine wp_region_below [0, 1, 2, 3, 4, 5, 7, 8, 9, 10, 6, 11, 12, 13] (by kernel_rfl) (by kernel_rfl) (fun _ _ d _ _ h => by cases d <;> exact h) ?_
          simp only [List.map_cons, List.map_nil, List.getD_cons_zero, List.getD_cons_succ, bare, gslot, List.getElem?_cons_zero, List.getElem?_cons_succ, Option.bind_some]
          repeat' ((try simp only [Act.put, List.setIfInBounds_toArray, List.set_cons_zero, List.set_cons_succ]); first | (refine lexL_on ?_ ?_; focus (simp only [List.getElem?_toArray, List.getElem?_cons_succ, List.getElem?_cons_zero, Bool.not_true, Bool.not_false]; done)) | (refine lexL_off ?_ ?_ ?_; (focus (simp only [List.getElem?_toArray, List.getElem?_cons_succ, List.getElem?_cons_zero, Bool.not_true, Bool.not_false]; done)); (focus (exact bel))) | (refine lexL_splitS (X := ?_) ?_ ?_ (fun hg => ?_) (fun hg => ?_); rotate_left; (focus (simp only [List.getElem?_toArray, List.getElem?_cons_succ, List.getElem?_cons_zero]; with_reducible rfl)); (focus (exact bel)); all_goals (try simp only [Bool.not_true, Bool.not_false] at hg)) | (refine lexL_quiet (v := ?_) wantB_none rfl ?_ ?_; rotate_left; focus (intro wq hq; obtain ⟨hcq, hfq⟩ := bcell hq; go_simp; try with_reducible rfl)) | (refine lexL_loud wantB_none rfl (fun K hK => ?_); go_simp; ((first |  (go_at_call 42; (with_reducible refine (HM.out _ bel).mono ?_); rintro e w5 ⟨rfl, hb5⟩) | (go_at_call 22; (with_reducible refine (HCl.out _ bel).mono ?_); rintro e w6 ⟨Ac, cc, rfl, hBc, hnc, hzc, hb6⟩) | ((refine (HC2.out _ _ _ A2' m2 c2' hBc hnc hzc ?_ hm2).mono ?_); (focus exact HXP.out _ bel); rintro e w7 ⟨rfl, hb7⟩) | skip) <;> (refine hK.out _ _ bel ?_; clear hK K))))
          (all_goals try simp only [Act.put, List.setIfInBounds_toArray, List.set_cons_zero, List.set_cons_succ]); all_goals (refine lexL_nil ?_)
          go_wp2_with fail
          go_roundw
          case rel => exact ⟨j + 1, by omega, by go_num, by rw [all_take_succ HX.out, HA2.out, HMV.out, HCV.out]; rfl, by clear hb; exact blkA, HPo.out.keep (fun p hp => by exact Below.cell (B := wr.heap.size) bel (by omega)), bel⟩
          case measure => simp [intOf]; omega

/-- is a key, by how far it is, as near as objects are to points? -/
def nearsS (d : Pt → Fr) (l : List Ob) (p : List Pt) : Bool := l.all fun o => decide (ckOb o ≠ 0) || p.all fun x => !okPt x || (decide ((d x).den ≠ 0) && decide (cmpF (d x) (distF o x) ≤ 0))
/-- a class's method Dist, at one key: f is its function -/
structure DistAt (rv : Value) (f : Nat) (Y : List Nat) (d : Pt → Fr) : Prop where
  enter : ∀ (args : Array Value) (w : World), (callFunc f args).run Tryz.prog w = .ok (.enter f args) w
  ok : ∀ p, FrOk (d p)
  calls : ∀ (W : World) (B : Nat) (A : Option Addr) (c : Nat) (x y : Int), BysAt W B A Y.length Y → B ≤ W.heap.size → Y.length ≤ c → (A = none → c = 0) →
    Calls Tryz.prog f #[rv, .slice A Y.length c, ptV x y] W (Ret W (fV (d ⟨x, y⟩)))
theorem bxF_okC (b : Bx) (p : Pt) : FrOk (bxF b p) := by
  unfold bxF
  split
  · rename_i h
    rw [Bool.and_eq_true] at h
    obtain ⟨⟨o1, o2⟩, o3, o4⟩ := (Pg.okBx_iff _).1 h.1
    obtain ⟨p1, p2, p3, p4⟩ := okPt_range h.2
    obtain ⟨q1, q2, q3, q4⟩ := okPt_range o1
    obtain ⟨r1, r2, r3, r4⟩ := okPt_range o2
    have g1 : 0 ≤ gap p.x b.lo.x b.hi.x ∧ gap p.x b.lo.x b.hi.x ≤ 2147483646 := by unfold gap; omega
    have g2 : 0 ≤ gap p.y b.lo.y b.hi.y ∧ gap p.y b.lo.y b.hi.y ≤ 2147483646 := by unfold gap; omega
    exact ⟨sqs_lt2 (by omega) (by omega) (by omega) (by omega), by simp only; omega⟩
  · exact ⟨by decide, by decide⟩
theorem distF_okC {o : Ob} {p : Pt} (ho : ckOb o = 0) (op : okPt p = true) : FrOk (distF o p) := by
  rcases ck_kinds ho with ⟨h1, h2⟩ | ⟨_, h1, h2⟩
  · rw [distF_box ho op h1]
    have := bxF_okC (obBox o) p
    unfold bxF at this
    rw [h2, op] at this
    exact this
  · rw [distF_poly ho op h1]
    split
    · exact ⟨by decide, by decide⟩
    · have h3 := (ring_lens h2).2.2
      refine minF_ok fun z hz => ?_
      obtain ⟨i, hi, e⟩ := mem_segsF hz
      rw [← e]
      exact segF_ok (okPt_pt h3 hi) (okPt_nx h3 hi) op
theorem pts_atN {w : World} {B n m : Nat} {A : Option Addr} {l : List Pt} (hl : PtsAt w B A n l) (hm : m < n) :
    ∃ b off, A = some ⟨b, off, none⟩ ∧ b < B ∧ l[m]? = some (pt l m) ∧ w.cell? ⟨b, off + m * 2, none⟩ = some (.int .i64 (pt l m).x) ∧ w.cell? ⟨b, off + m * 2 + 1, none⟩ = some (.int .i64 (pt l m).y) := by
  obtain ⟨b', o', e, hb, c0, c1⟩ := hl.at_ hm
  exact ⟨b', o', e, hb, by unfold pt; rw [List.getD_eq_getElem?_getD, List.getElem?_eq_getElem (by rw [hl.1]; exact hm)]; rfl, c0, c1⟩

set_option maxHeartbeats 8000000 in
set_option maxRecDepth 20000 in
theorem nears_any (t : TypeId) (rv : Value) (f : Nat) (Y : List Nat) (d : Pt → Fr) (hmD : ∀ w, (Go.method 329 t rv "Dist").run Tryz.prog w = .ok (f, rv) w) (hnD : ∀ w, (nilAhead 329 t rv "Dist").run Tryz.prog w = .ok (some false) w) (hD : DistAt rv f Y d)
    (B c n1 c1 n2 c2 : Nat) (A A1 A2 : Option Addr) (l : List Ob) (p : List Pt) (w : World) (hK : BysAt w B A Y.length Y) (hKc : Y.length ≤ c) (hKA : A = none → c = 0) (hK1 : Y.length ≤ 1000000) (hl : ObsAt w B A1 n1 l) (hp : PtsAt w B A2 n2 p) (hB : B ≤ w.heap.size)
    (hn1 : n1 ≤ 1000000) (hn2 : n2 ≤ 1000000) (hlo : ∀ o ∈ l, o.pts.length ≤ 1000000) :
    Calls Tryz.prog 21 #[.iface t rv, .slice A Y.length c, .slice A1 n1 c1, .slice A2 n2 c2] w (Ret w (.bool (nearsS d l p))) := by
  have hl1 := hl.1
  have hp1 := hp.1
  have HL := Lib.hid hl
  have HQ := Lib.hid hp
  have HLO := Lib.hid hlo
  have HCl := Lib.hid (fun W (hW : Below w.heap.size w W) => cloneB_any B Y.length c A Y W (hK.tr hW hB) (Nat.le_trans hB hW.size) hK1 hKc hKA)
  have HDD := Lib.hid hD.calls
  have HOK := Lib.hid hD.ok
  have hEn := hD.enter
  clear hl hp hlo hK hD
  go_enter Tryz.func21, Tryz.ntmps21
  go_wp2_with fail
  go_loopw [16] (fun vi wr => ∃ i : Nat, i ≤ n1 ∧ vi = .int .i64 i ∧ nearsS d (l.take i) p = true ∧ Below w.heap.size w wr) (fun vi _ => n1 - (intOf vi).toNat)
  case atStart => exact ⟨0, by omega, rfl, rfl, bel⟩
  case round =>
    obtain ⟨i, hi, rfl, ha, hb⟩ := hrel
    have hbz := hb.size
    by_cases hlt : i < n1
    case neg =>
      obtain rfl : n1 = i := by omega
      have HF : Hid (nearsS d l p = true) := by
        unfold Hid
        unfold nearsS at ha ⊢
        rw [all_take_all hl1] at ha
        exact ha
      clear ha
      go_wp2_with fail
      go_ret
      exact ⟨ret_bool HF.out.symm, bel⟩
    have hi1 : (i : Int) < (n1 : Int) := by omega
    obtain ⟨b, off, A', m, c', o, rfl, hab, ho, h0, h1, hpo⟩ := (HL.out.below (hb.mono hB)).at_ hlt
    have hbw : b < wr.heap.size := by omega
    have hm1 : m ≤ 1000000 := by rw [← hpo.1]; exact HLO.out o (List.mem_of_getElem? ho)
    have HO := Lib.hid ho
    have HP := Lib.hid hpo
    have HA := Lib.hid ha
    have hBw : B ≤ wr.heap.size := by omega
    obtain ⟨ok, ol⟩ := o
    simp only at h0 h1 hpo
    have HCk := Lib.hid (fun W (hW : Below wr.heap.size wr W) => Check_any B m c' ok A' ol W (hpo.tr hW hBw) (Nat.le_trans hBw hW.size) hm1)
    by_cases hck : ckOb ⟨ok, ol⟩ = 0
    case neg =>
      have HX : Hid (nearsS d (l.take (i + 1)) p = true) := by
        unfold Hid
        unfold nearsS at ha ⊢
        rw [all_take_succ ho, ha, decide_eq_true (show ckOb ⟨ok, ol⟩ ≠ 0 from hck)]
        rfl
      have HCK := Lib.hid hck
      clear ho hpo ha hck
      go_wp2_with (go_at_call 19; (with_reducible refine (HCk.out _ bel).mono ?_); rintro e w3 ⟨v, rfl, hE, hb3⟩; obtain ⟨t3, u3, rfl⟩ := errW_someP hE HCK.out; clear hE)
      go_roundw
      case rel => exact ⟨i + 1, by omega, by go_num, HX.out, bel⟩
      case measure => simp [intOf]; omega
    rw [hck] at HCk
    have HCK := Lib.hid hck
    clear ho hpo ha hck
    go_wp2_with (go_at_call 19; (with_reducible refine (HCk.out _ bel).mono ?_); rintro e w3 ⟨v, rfl, hE, hb3⟩; obtain rfl := errW_zeroP hE; clear hE)
    obtain ⟨G, hG⟩ : ∃ G, wr.heap.size = G := ⟨_, rfl⟩
    refine keep_world (R := fun w2 => Blk w2 G 34 #[.int .i64 ok, .slice A' m c'] ∧ PtsAt w2 B A' m ol ∧ Below w.heap.size w w2) ⟨by subst hG; clear hb; exact blkA, HP.out.keep (fun p hp => by exact Below.cell (B := wr.heap.size) (by clear hb; exact bel) (by omega)), bel⟩ ?_
    clear h0 h1 HP hbw hb hbz hb3 HCk hBw
    rintro w2 ⟨hO, hPo, hb⟩
    simp only [hG]
    go_loopw [25] (fun vj w4 => ∃ j : Nat, j ≤ n2 ∧ vj = .int .i64 j ∧ (p.take j).all (fun x => !okPt x || (decide ((d x).den ≠ 0) && decide (cmpF (d x) (distF ⟨ok, ol⟩ x) ≤ 0))) = true ∧ Blk w4 G 34 #[.int .i64 ok, .slice A' m c'] ∧ PtsAt w4 B A' m ol ∧ Below w.heap.size w w4) (fun vj _ => n2 - (intOf vj).toNat)
    case atStart => exact ⟨0, by omega, rfl, rfl, hO, hPo, hb⟩
    case round =>
      clear hO hPo hb
      obtain ⟨j, hj, rfl, ha, hO, hPo, hb⟩ := hrel
      have hbz := hb.size
      have cO := hO.cell
      have lO := hO.lt
      by_cases hlt2 : j < n2
      case neg =>
        obtain rfl : n2 = j := by omega
        have HX : Hid (nearsS d (l.take (i + 1)) p = true) := by
          unfold Hid
          have h1 := HA.out
          unfold nearsS at h1 ⊢
          rw [all_take_succ HO.out, h1, Bool.true_and, decide_eq_false (fun h : ckOb ⟨ok, ol⟩ ≠ 0 => h HCK.out), Bool.false_or]
          rw [all_take_all hp1] at ha
          exact ha
        clear ha hPo
        go_wp2_with fail
        go_roundw
        case rel => exact ⟨i + 1, by omega, by go_num, HX.out, bel⟩
        case measure => simp [intOf]; omega
      have hj1 : (j : Int) < (n2 : Int) := by omega
      obtain ⟨b2, off2, rfl, hab2, hx, g0, g1⟩ := pts_atN (HQ.out.below (hb.mono hB)) hlt2
      have hbw : b2 < wr.heap.size := by omega
      have HX := Lib.hid hx
      have HA2 := Lib.hid ha
      have HPo := Lib.hid hPo
      have hBw : B ≤ wr.heap.size := by omega
      generalize pt p j = x at *
      obtain ⟨px, py⟩ := x
      simp only at g0 g1
      have HPt := fun W => checkPoint_any px py W
      cases op : okPt ⟨px, py⟩
      case false =>
        rw [op] at HPt
        have HPC : Hid (∀ W, Calls Tryz.prog 43 #[ptV px py] W (Ret W (.iface 69 (.int .i64 2)))) := HPt
        have HOP := Lib.hid op
        clear hx ha hPo op HPt
        go_wp2_with (go_at_call 43; (with_reducible refine (HPC.out _).mono ?_); rintro e w5 ⟨rfl, hb5⟩)
        go_roundw
        case rel => exact ⟨j + 1, by omega, by go_num, by rw [all_take_succ HX.out, HA2.out, HOP.out]; rfl, by clear hb; exact blkA, HPo.out.keep (fun p hp => by exact Below.cell (B := wr.heap.size) (by clear hb; exact bel) (by omega)), bel⟩
        case measure => simp [intOf]; omega
      rw [op] at HPt
      have HPC : Hid (∀ W, Calls Tryz.prog 43 #[ptV px py] W (Ret W .nilIface)) := HPt
      have HOP := Lib.hid op
      have HDi := Lib.hid (fun W (hW : Below wr.heap.size wr W) => relDist_any B m c' ok A' ol px py W (hPo.tr hW hBw) (Nat.le_trans hBw hW.size) hm1)
      have HCm := Lib.hid (fun W => rCmp_any (d ⟨px, py⟩) (distF ⟨ok, ol⟩ ⟨px, py⟩) (HOK.out _) (distF_okC HCK.out op) W)
      obtain ⟨dv, hdv⟩ : ∃ v, d ⟨px, py⟩ = v := ⟨_, rfl⟩
      obtain ⟨ov, hov⟩ : ∃ v, distF ⟨ok, ol⟩ ⟨px, py⟩ = v := ⟨_, rfl⟩
      have HD2 : Hid (∀ (W : World) (B : Nat) (A : Option Addr) (c : Nat), BysAt W B A Y.length Y → B ≤ W.heap.size → Y.length ≤ c → (A = none → c = 0) → Calls Tryz.prog f #[rv, .slice A Y.length c, ptV px py] W (Ret W (fV dv))) := fun W B A c h1 h2 h3 h4 => by
        have := HDD.out W B A c px py h1 h2 h3 h4
        rw [hdv] at this
        exact this
      rw [hdv, hov] at HCm
      rw [hov] at HDi
      have HDV := Lib.hid hdv
      have HOV := Lib.hid hov
      clear hx ha hPo op HPt hdv hov
      obtain ⟨gt, hgt⟩ : ∃ v, cmpF dv ov = v := ⟨_, rfl⟩
      rw [hgt] at HCm
      have HGT := Lib.hid hgt
      clear hgt
      have HSd : Hid (∀ W, Calls Tryz.prog 44 #[fV dv] W (Ret W (.bool (decide (dv.den ≠ 0))))) := fun W => sound_any _ _ _ W
      obtain ⟨sd, hsd⟩ : ∃ v, decide (dv.den ≠ 0) = v := ⟨_, rfl⟩
      rw [hsd] at HSd
      have HSD := Lib.hid hsd
      clear hsd
      have fd : fV dv = .agg (fcs dv).toArray := rfl
      obtain ⟨d1, d2, d3, ed⟩ := fcs_ex dv
      rw [ed] at fd
      rw [fd] at HD2 HSd HCm
      clear ed fd
      go_wp2_with (go_at_call 43; (with_reducible refine (HPC.out _).mono ?_); rintro e w5 ⟨rfl, hb5⟩)
      obtain ⟨GX, hGX⟩ : ∃ G, wr.heap.size = G := ⟨_, rfl⟩
      refine keep_world (R := fun w2 => Blk w2 G 34 #[.int .i64 ok, .slice A' m c'] ∧ Blk w2 GX 52 #[.int .i64 px, .int .i64 py] ∧ Below wr.heap.size wr w2 ∧ Below w.heap.size w w2) ⟨by clear hb; exact blkA, by subst hGX; clear hb; exact blkA, by clear hb; exact bel, bel⟩ ?_
      clear hO cO lO hb5
      rintro w6 ⟨hO, hQ, hb6, hb06⟩
      have cO := hO.cell
      have lO := hO.lt
      have cQ := hQ.cell
      have lQ := hQ.lt
      simp only [hGX]
      have hbw2 : b2 < w6.heap.size := by have := hb6.size; omega
      clear g0 g1 hbw
      have HCl2 := Lib.hid (fun W (hW : Below w6.heap.size w6 W) => HCl.out W (hb06.trans (hW.mono hb06.size)))
      refine wp_region_treeR (.one 0 (.one 1 (.one 3 (.one 4 (.one 5 (.one 6 (.two 2 8 (.two 7 8 (.one 8 (.one 9 .done)) (.one 7 (.one 9 .done))) (.one 2 (.one 7 (.one 9 .done)))))))))) (fun a8 a9 w9 => ∃ (s34 s36 s37 : Value) (g : Nat), a9 = puts a8 [(32, .iface t rv), (33, .slice A Y.length c), (34, s34), (35, .agg #[.int .i64 px, .int .i64 py]), (36, s36), (37, s37), (38, .iface t rv), (39, .agg #[.int .u64 d1, .int .u64 d2, .int .u64 d3]), (13, .pointer (some ⟨g, 0, none⟩))] ∧ Blk w9 g 75 #[.int .u64 d1, .int .u64 d2, .int .u64 d3] ∧ Below w6.heap.size w6 w9) (by kernel_rfl) (by kernel_rfl) (fun _ _ d _ _ h => by cases d <;> exact h) ?_ ?_
      · intro LL hLL QQ hQQ
        have oo0 := treeAt hLL 0 (by kernel_rfl)
        have oo1 := treeAt hLL 1 (by kernel_rfl)
        have oo2 := treeAt hLL 2 (by kernel_rfl)
        have oo3 := treeAt hLL 3 (by kernel_rfl)
        have oo4 := treeAt hLL 4 (by kernel_rfl)
        have oo5 := treeAt hLL 5 (by kernel_rfl)
        have oo6 := treeAt hLL 6 (by kernel_rfl)
        have oo7 := treeAt hLL 7 (by kernel_rfl)
        have oo8 := treeAt hLL 8 (by kernel_rfl)
        have oo9 := treeAt hLL 9 (by kernel_rfl)
        simp only [List.getD_cons_zero, List.getD_cons_succ, bare] at oo0 oo1 oo2 oo3 oo4 oo5 oo6 oo7 oo8 oo9
        clear hLL
        repeat' ((try simp only [Act.put, List.setIfInBounds_toArray, List.set_cons_zero, List.set_cons_succ]); first | (refine tree_three ?_ ?_ ?_) | (refine tree_two ?_ ?_) | (refine tree_quiet (v := ?_) (by assumption) rfl ?_ ?_; rotate_left; focus (intro wq hq; obtain ⟨hcq, hfq⟩ := bcell hq; go_simp; try with_reducible rfl)) | (refine tree_one ?_) | (refine tree_loud (by assumption) rfl (fun K hK => ?_); go_simp; ((first | (go_at_call 22; (with_reducible refine (HCl2.out _ bel).mono ?_); rintro e w7 ⟨Ac, cc, rfl, hBc, hnc, hzc, hb7⟩; obtain ⟨hc7, hf7⟩ := bcell hb7; have hz7 := hb7.size; (try simp at hz7); (try have hy7 : w6.heap.size < w7.heap.size := (by omega))) | (refine (HD2.out _ _ Ac cc (hBc.tr bel (Nat.le_refl _)) ?_ hnc hzc).mono ?_; (focus (first | (exact Nat.le_refl _) | (simp; done) | (simp; omega) | omega)); rintro e w8 ⟨rfl, hb8⟩; obtain ⟨hc8, hf8⟩ := bcell hb8; have hz8 := hb8.size; (try simp at hz8); (try have hy8 : w6.heap.size < w8.heap.size := (by omega)); (try have hy87 : w7.heap.size < w8.heap.size := (by omega)))  | skip) <;> (refine hK.out _ _ bel ?_; clear hK K))))
        all_goals (refine tree_done hQQ ?_)
        all_goals (refine ⟨?_, ?_, ?_, ?_, ?_, ?_, ?_⟩; rotate_left 4; (focus (simp only [puts, List.foldl_cons, List.foldl_nil, Act.put, List.setIfInBounds_toArray, List.set_cons_zero, List.set_cons_succ]; rfl)); (focus exact (by repeat (first | with_reducible exact three_put (x := .int .u64 0) (y := .int .u64 0) (z := .int .u64 0) blkA | (with_reducible refine Blk.new ?_ rfl; focus (simp; done)) | with_reducible refine Blk.alloc ?_ _ | with_reducible refine Blk.drew ?_))); (focus exact bel))
      rintro a' w9 ⟨s34, s36, s37, g, rfl, hDb, hb9⟩
      simp only [puts, List.foldl_cons, List.foldl_nil, Act.put, List.setIfInBounds_toArray, List.set_cons_zero, List.set_cons_succ]
      have hO9 := hO.tr hb9
      have hQ9 := hQ.tr hb9
      have hbr9 : Below wr.heap.size wr w9 := hb6.trans (hb9.mono hb6.size)
      have hb09 : Below w.heap.size w w9 := hb06.trans (hb9.mono hb06.size)
      have lD := hDb.lt
      have cD := hDb.cell
      clear hO cO lO hQ cQ lQ hb6 hb9 hb06 hbw2 HCl2
      have cO := hO9.cell
      have lO := hO9.lt
      have cQ := hQ9.cell
      have lQ := hQ9.lt
      have HQF : Hid (∀ z, (!okPt ⟨px, py⟩ || z) = z) := fun z => by rw [HOP.out]; rfl
      cases sd
      case false =>
        have HF : Hid (nearsS d l p = false) := all_false HO.out (by rw [decide_eq_false (fun h : ckOb ⟨ok, ol⟩ ≠ 0 => h HCK.out), Bool.false_or]; exact all_false HX.out (by rw [HOP.out, HDV.out, HSD.out]; rfl))
        go_wp2_with fail
        refine wp_region_belowI (by kernel_rfl) (by kernel_rfl) (fun _ _ d _ _ h => by cases d <;> exact h) ?_
        simp only [List.map_cons, List.map_nil, List.getD_cons_zero, List.getD_cons_succ, bare, gslot, List.getElem?_cons_zero, List.getElem?_cons_succ, Option.bind_some]
        repeat' ((try simp only [Act.put, List.setIfInBounds_toArray, List.set_cons_zero, List.set_cons_succ]); first | (refine lexL_on ?_ ?_; focus (simp only [List.getElem?_toArray, List.getElem?_cons_succ, List.getElem?_cons_zero, Bool.not_true, Bool.not_false]; done)) | (refine lexL_off ?_ ?_ ?_; (focus (simp only [List.getElem?_toArray, List.getElem?_cons_succ, List.getElem?_cons_zero, Bool.not_true, Bool.not_false]; done)); (focus (exact bel))) | (refine lexL_splitS (X := ?_) ?_ ?_ (fun hg => ?_) (fun hg => ?_); rotate_left; (focus (simp only [List.getElem?_toArray, List.getElem?_cons_succ, List.getElem?_cons_zero]; with_reducible rfl)); (focus (exact bel)); all_goals (try simp only [Bool.not_true, Bool.not_false] at hg)) | (refine lexL_quiet (v := ?_) wantB_none rfl ?_ ?_; rotate_left; focus (intro wq hq; obtain ⟨hcq, hfq⟩ := bcell hq; go_simp; try with_reducible rfl)) | (refine lexL_loud wantB_none rfl (fun K hK => ?_); go_simp; ((first |  (go_at_call 44; (with_reducible refine (HSd.out _).mono ?_); rintro e w10 ⟨rfl, hb10⟩) | (go_at_call 46; (with_reducible refine (HDi.out _ bel).mono ?_); rintro e w11 ⟨rfl, hb11⟩) | (go_at_call 45; (with_reducible refine (HCm.out _).mono ?_); rintro e w12 ⟨rfl, hb12⟩) | skip) <;> (refine hK.out _ _ bel ?_; clear hK K))))
        (all_goals try simp only [Act.put, List.setIfInBounds_toArray, List.set_cons_zero, List.set_cons_succ]); all_goals (refine lexL_nil ?_)
        go_wp2_with fail
        go_ret
        exact ⟨ret_bool HF.out.symm, bel⟩
      by_cases hg : 0 < gt
      case pos =>
        have HF : Hid (nearsS d l p = false) := all_false HO.out (by rw [decide_eq_false (fun h : ckOb ⟨ok, ol⟩ ≠ 0 => h HCK.out), Bool.false_or]; exact all_false HX.out (by rw [HOP.out, HDV.out, HSD.out, HOV.out, HGT.out, decide_eq_false (by omega)]; rfl))
        go_wp2_with fail
        refine wp_region_belowI (by kernel_rfl) (by kernel_rfl) (fun _ _ d _ _ h => by cases d <;> exact h) ?_
        simp only [List.map_cons, List.map_nil, List.getD_cons_zero, List.getD_cons_succ, bare, gslot, List.getElem?_cons_zero, List.getElem?_cons_succ, Option.bind_some]
        repeat' ((try simp only [Act.put, List.setIfInBounds_toArray, List.set_cons_zero, List.set_cons_succ]); first | (refine lexL_on ?_ ?_; focus (simp only [List.getElem?_toArray, List.getElem?_cons_succ, List.getElem?_cons_zero, Bool.not_true, Bool.not_false]; done)) | (refine lexL_off ?_ ?_ ?_; (focus (simp only [List.getElem?_toArray, List.getElem?_cons_succ, List.getElem?_cons_zero, Bool.not_true, Bool.not_false]; done)); (focus (exact bel))) | (refine lexL_splitS (X := ?_) ?_ ?_ (fun hg => ?_) (fun hg => ?_); rotate_left; (focus (simp only [List.getElem?_toArray, List.getElem?_cons_succ, List.getElem?_cons_zero]; with_reducible rfl)); (focus (exact bel)); all_goals (try simp only [Bool.not_true, Bool.not_false] at hg)) | (refine lexL_quiet (v := ?_) wantB_none rfl ?_ ?_; rotate_left; focus (intro wq hq; obtain ⟨hcq, hfq⟩ := bcell hq; go_simp; try with_reducible rfl)) | (refine lexL_loud wantB_none rfl (fun K hK => ?_); go_simp; ((first |  (go_at_call 44; (with_reducible refine (HSd.out _).mono ?_); rintro e w10 ⟨rfl, hb10⟩) | (go_at_call 46; (with_reducible refine (HDi.out _ bel).mono ?_); rintro e w11 ⟨rfl, hb11⟩) | (go_at_call 45; (with_reducible refine (HCm.out _).mono ?_); rintro e w12 ⟨rfl, hb12⟩) | skip) <;> (refine hK.out _ _ bel ?_; clear hK K))))
        (all_goals try simp only [Act.put, List.setIfInBounds_toArray, List.set_cons_zero, List.set_cons_succ]); all_goals (refine lexL_nil ?_)
        go_wp2_with fail
        go_ret
        exact ⟨ret_bool HF.out.symm, bel⟩
      case neg =>
        have hg2 : gt ≤ 0 := by omega
        go_wp2_with fail
        refine wp_region_belowI (by kernel_rfl) (by kernel_rfl) (fun _ _ d _ _ h => by cases d <;> exact h) ?_
        simp only [List.map_cons, List.map_nil, List.getD_cons_zero, List.getD_cons_succ, bare, gslot, List.getElem?_cons_zero, List.getElem?_cons_succ, Option.bind_some]
        repeat' ((try simp only [Act.put, List.setIfInBounds_toArray, List.set_cons_zero, List.set_cons_succ]); first | (refine lexL_on ?_ ?_; focus (simp only [List.getElem?_toArray, List.getElem?_cons_succ, List.getElem?_cons_zero, Bool.not_true, Bool.not_false]; done)) | (refine lexL_off ?_ ?_ ?_; (focus (simp only [List.getElem?_toArray, List.getElem?_cons_succ, List.getElem?_cons_zero, Bool.not_true, Bool.not_false]; done)); (focus (exact bel))) | (refine lexL_splitS (X := ?_) ?_ ?_ (fun hg => ?_) (fun hg => ?_); rotate_left; (focus (simp only [List.getElem?_toArray, List.getElem?_cons_succ, List.getElem?_cons_zero]; with_reducible rfl)); (focus (exact bel)); all_goals (try simp only [Bool.not_true, Bool.not_false] at hg)) | (refine lexL_quiet (v := ?_) wantB_none rfl ?_ ?_; rotate_left; focus (intro wq hq; obtain ⟨hcq, hfq⟩ := bcell hq; go_simp; try with_reducible rfl)) | (refine lexL_loud wantB_none rfl (fun K hK => ?_); go_simp; ((first |  (go_at_call 44; (with_reducible refine (HSd.out _).mono ?_); rintro e w10 ⟨rfl, hb10⟩) | (go_at_call 46; (with_reducible refine (HDi.out _ bel).mono ?_); rintro e w11 ⟨rfl, hb11⟩) | (go_at_call 45; (with_reducible refine (HCm.out _).mono ?_); rintro e w12 ⟨rfl, hb12⟩) | skip) <;> (refine hK.out _ _ bel ?_; clear hK K))))
        (all_goals try simp only [Act.put, List.setIfInBounds_toArray, List.set_cons_zero, List.set_cons_succ]); all_goals (refine lexL_nil ?_)
        go_wp2_with fail
        go_roundw
        case rel => exact ⟨j + 1, by omega, by go_num, by rw [all_take_succ HX.out, HA2.out, HOP.out, HDV.out, HSD.out, HOV.out, HGT.out, decide_eq_true hg2]; rfl, by clear hb; exact blkA, HPo.out.keep (fun p hp => by exact Below.cell (B := wr.heap.size) (by clear hb; exact bel) (by omega)), bel⟩
        case measure => simp [intOf]; omega
end Go.Proofs.YtahiaekoaokgnaaGreat
