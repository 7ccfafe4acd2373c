/-
  The walk of the statement OpclassFour.
  The statement OpclassFour: for every input that can be read the law returns true, and its arguments read behind the call as they read before.
-/
import Derived.Test.YtahiaekoaokgnaaGreatLawsD
import Derived.Test.YtahiaekoaokgnaaGreatClsA
import Derived.Test.YtahiaekoaokgnaaGreatOpenB
import Derived.ProofKit
import Derived.SizedLaws
set_option linter.unusedSimpArgs false
set_option linter.unusedVariables false
namespace Go.Proofs.YtahiaekoaokgnaaGreat
open Go.RowKit Pg

set_option maxHeartbeats 2000000 in
theorem clsMay_any (kd bits : Int) (one : Bool) (brk : Int) (w : World) :
    Calls Tryz.prog 15 #[.agg #[.int .i64 kd, .int .i64 bits, .bool one, .int .i64 brk]] w (Ret w (.bool (decide (brk = 0 ∧ 0 ≤ bits ∧ bits ≤ 20)))) := by
  go_enter Tryz.func15, Tryz.ntmps15
  go_wp2
  all_goals go_ret
  all_goals exact ⟨ret_bool (by simp [*]; try omega), bel⟩
set_option maxHeartbeats 2000000 in
theorem laws_nil (A1 A2 A3 : Option Addr) (n1 c1 n2 c2 n3 c3 : Nat) (w : World) :
    Calls Tryz.prog 7 #[.nilIface, .slice A1 n1 c1, .slice A2 n2 c2, .slice A3 n3 c3] w (Ret w (.tuple #[.int .i64 1, .int .i64 0])) := by
  go_enter Tryz.func7, Tryz.ntmps7
  go_wp2
  go_ret2
  exact ⟨rfl, bel⟩

set_option maxHeartbeats 8000000 in
set_option maxRecDepth 20000 in
theorem opclassFour_walk (B n1 c1 n2 c2 n3 c3 : Nat) (kd bits brk : Int) (one : Bool) (A1 A2 A3 : Option Addr) (l : List Ob) (q : List Qu) (p : List Pt) (w : World) (hl : ObsAt w B A1 n1 l) (hq : QusAt w B A2 n2 q) (hp : PtsAt w B A3 n3 p) (hB : B ≤ w.heap.size) (hn1 : n1 ≤ 9223372036854775807) (hn2 : n2 ≤ 9223372036854775807) :
    Calls Tryz.prog 4 #[.agg #[.int .i64 kd, .int .i64 bits, .bool one, .int .i64 brk], .slice A1 n1 c1, .slice A2 n2 c2, .slice A3 n3 c3] w (Ret w (.bool true)) := by
  have HSM := Lib.hid (fun W (hW : Below w.heap.size w W) => small16_any B n1 c1 n2 c2 n3 c3 A1 A2 A3 l q W (hl.tr hW hB) (hq.tr hW hB) (Nat.le_trans hB hW.size) hn1 hn2)
  have HL := Lib.hid hl
  have HQ := Lib.hid hq
  have HP := Lib.hid hp
  clear hl hq hp
  go_enter Tryz.func4, Tryz.ntmps4
  go_wp2_with (first | (go_at_call 5; (with_reducible refine (HSM.out _ bel).mono ?_); rintro e w1 ⟨v, rfl, hv, hb1⟩; rcases hv with rfl | ⟨rfl, g1, g2, g3, g4, g5⟩) | (go_at_call 6; refine (awake16_true _).mono ?_; rintro e w9 ⟨rfl, hb9⟩))
  · go_ret
    exact ⟨rfl, bel⟩
  have HLa := Lib.hid (fun (t : TypeId) (rv : Value) (C : Cl) (fM fC fD fU fS : Nat) (hC : ClAt t rv C fM fC fD fU fS) W (hW : Below w.heap.size w W) => laws_any t rv C fM fC fD fU fS hC B n1 c1 n2 c2 n3 c3 A1 A2 A3 l q p W (HL.out.tr hW hB) (HQ.out.tr hW hB) (HP.out.tr hW hB) (Nat.le_trans hB hW.size) (by omega) (by omega) (by omega) (fun o ho => Nat.le_trans (g4 o ho) (by decide)) (fun x hx => Nat.le_trans (g5 x hx) (by decide)))
  have HLB : Hid (∀ (kk : Int) W, Below w.heap.size w W → Calls Tryz.prog 7 #[.iface 81 (.agg #[.int .i64 kk]), .slice A1 n1 c1, .slice A2 n2 c2, .slice A3 n3 c3] W (Ret W (.tuple #[.int .i64 0, .int .i64 (-1)]))) := fun kk W hW => by
    have h := HLa.out _ _ _ _ _ _ _ _ (clAt_box kk) W hW
    have e := laws_box kk l q p
    unfold boxC at h
    rw [e] at h
    exact h
  refine keep_world (R := fun w2 => Blk w2 w.heap.size 23 #[.int .i64 kd, .int .i64 bits, .bool one, .int .i64 brk] ∧ Below w.heap.size w w2) ⟨blkA, bel⟩ ?_
  clear g4 g5 HSM hb1
  rintro w2 ⟨hX2, hb2⟩
  go_wp2_with fail
  go_loopw [9] (fun vk wr => ∃ kk : Nat, 1 ≤ kk ∧ kk ≤ 5 ∧ vk = .int .i64 kk ∧ Blk wr w.heap.size 23 #[.int .i64 kd, .int .i64 bits, .bool one, .int .i64 brk] ∧ Below w.heap.size w wr) (fun vk _ => 5 - (intOf vk).toNat)
  case atStart => exact ⟨1, by omega, by omega, rfl, hX2, hb2⟩
  case round =>
    clear hX2 hb2
    obtain ⟨kk, hk1, hk5, rfl, hX, hb⟩ := hrel
    have cX := hX.cell
    have lX := hX.lt
    by_cases hk4 : kk ≤ 4
    case pos =>
      have hk4' : (kk : Int) ≤ 4 := by omega
      have HBo := Lib.hid (fun w => Boxes_ok (kk : Int) w (by omega) (by omega))
      have HLK := Lib.hid (HLB.out kk)
      go_wp2_with (first | (go_at_call 14; (with_reducible refine (HBo.out _).mono ?_); rintro e w3 ⟨rfl, hb3⟩) | (go_at_call 7; (with_reducible refine (HLK.out _ bel).mono ?_); rintro e w4 ⟨rfl, hb4⟩))
      go_roundw
      case rel => exact ⟨kk + 1, by omega, by omega, by go_num, blkA, bel⟩
      case measure => simp [intOf]; omega
    obtain rfl : kk = 5 := by omega
    have x0 := cX 0
    have x1 := cX 1
    have x2 := cX 2
    have x3 := cX 3
    simp at x0 x1 x2 x3
    clear cX
    have HM := Lib.hid (clsMay_any kd bits one brk)
    by_cases hmay : brk = 0 ∧ 0 ≤ bits ∧ bits ≤ 20
    case neg =>
      rw [decide_eq_false hmay] at HM
      clear hmay
      go_wp2_with (first | (go_at_call 15; (with_reducible refine (HM.out _).mono ?_); rintro e w3 ⟨rfl, hb3⟩) | (go_at_call 6; refine (awake16_true _).mono ?_; rintro e w9 ⟨rfl, hb9⟩))
      go_ret
      exact ⟨rfl, bel⟩
    rw [decide_eq_true hmay] at HM
    obtain ⟨h1, h2, h3⟩ := hmay
    obtain ⟨bn, rfl⟩ : ∃ bn : Nat, bits = bn := ⟨bits.toNat, by omega⟩
    subst h1
    have HLC : Hid (∀ W, Below w.heap.size w W → Calls Tryz.prog 7 #[.iface 23 (clV kd bn one 0), .slice A1 n1 c1, .slice A2 n2 c2, .slice A3 n3 c3] W (Ret W (.tuple #[.int .i64 0, .int .i64 (-1)]))) := fun W hW => by
      have h := HLa.out _ _ _ _ _ _ _ _ (clAt_cls kd bn one 0 (by omega)) W hW
      rw [laws_cls] at h
      exact h
    have HLN := Lib.hid (laws_nil A1 A2 A3 n1 c1 n2 c2 n3 c3)
    clear HLa HLB h2 h3
    go_wp2_with (first | (go_at_call 15; (with_reducible refine (HM.out _).mono ?_); rintro e w3 ⟨rfl, hb3⟩; obtain ⟨hc3, hf3⟩ := bcell hb3) | (go_at_call 7; (with_reducible refine (HLN.out _).mono ?_); rintro e w5 ⟨rfl, hb5⟩) | (go_at_call 7; (with_reducible refine (HLC.out _ bel).mono ?_); rintro e w4 ⟨rfl, hb4⟩) | (go_at_call 6; refine (awake16_true _).mono ?_; rintro e w9 ⟨rfl, hb9⟩))
    go_ret
    exact ⟨rfl, bel⟩
end Go.Proofs.YtahiaekoaokgnaaGreat
set_option linter.unusedSimpArgs false
set_option linter.unusedVariables false
namespace Go.Proofs.YtahiaekoaokgnaaGreat
open Go.ChangeShapes Go.WideShapes Go.ChangeAt Go.RowKit Pg
theorem Tryz.ownS4 : ownKnob Tryz.prog.godebug = none := by kernel_rfl
theorem Tryz.laidOutS4 : laidOutB Tryz.prog = true := by kernel_rfl
theorem cBool4 : Tryz.prog.cellsOf 4 = 1 := by kernel_rfl
set_option maxRecDepth 100000 in
theorem open_cls4 {H : Type} {enc : TypeId × Value → H} {W : World} {r : Reach} {b0 base : Nat} {spare : Nat → Bool} {held : Bool} {v : Value} {d : DataW H} {p : List MemPlace} (hv : Value.okWide Tryz.prog W r b0 23 v) (h : DataW.Trod enc Tryz.prog W base spare held 23 v d p) :
    ∃ (k b : Int) (one : Bool) (brk : Int), v = .agg #[.int .i64 k, .int .i64 b, .bool one, .int .i64 brk] := by
  obtain ⟨cs, rfl, hsz⟩ := okWide_struct Tryz.underlying23 hv
  obtain ⟨l⟩ := cs
  rw [show Tryz.prog.cellsOf 23 = 4 by kernel_rfl] at hsz
  obtain ⟨c0, c1, c2, c3, rfl⟩ := Go.Proofs.YtahiaekoaokgnaaGreat.list4 (by simpa using hsz)
  focus
    obtain ⟨fuel, hf⟩ := h
    obtain ⟨xs, m, _, _, _, hlen, hg⟩ := DataW.trod_struct Tryz.underlying23 hf
    obtain ⟨y0, y1, y2, y3, rfl⟩ : ∃ a b c d, xs = [a, b, c, d] := by
      match xs, hlen with
      | [a, b, c, d], _ => exact ⟨a, b, c, d, rfl⟩
    have h0 : DataW.trod enc Tryz.prog W base spare held m 3 (([c0, c1, c2, c3].drop 0).take (Tryz.prog.cellsOf 3)) = some y0 := hg 0 _ rfl
    have h1 : DataW.trod enc Tryz.prog W base spare held m 3 (([c0, c1, c2, c3].drop 1).take (Tryz.prog.cellsOf 3)) = some y1 := hg 1 _ rfl
    have h2 : DataW.trod enc Tryz.prog W base spare held m 4 (([c0, c1, c2, c3].drop 2).take (Tryz.prog.cellsOf 4)) = some y2 := hg 2 _ rfl
    have h3 : DataW.trod enc Tryz.prog W base spare held m 3 (([c0, c1, c2, c3].drop 3).take (Tryz.prog.cellsOf 3)) = some y3 := hg 3 _ rfl
    rw [cInt] at h0 h1 h3
    rw [cBool4] at h2
    obtain ⟨k, e0⟩ := open_int1 h0
    obtain ⟨b, e1⟩ := open_int1 h1
    obtain ⟨o, e2, _⟩ := DataW.trod_bool Tryz.underlying4 h2
    obtain ⟨s, e3⟩ := open_int1 h3
    simp at e0 e1 e2 e3
    exact ⟨k, b, o, s, by rw [e0, e1, e2, e3]⟩

set_option maxRecDepth 100000 in
theorem opclassFour_contract (H : Type) (enc : TypeId × Value → H) (W : World) (args : Array Value) (ds gs : List (DataW H)) (before : List MemPlace)
    (hval : ∀ (j : Nat) t v, Tryz.f4.params[j]? = some t → args[j]? = some v → ∃ base, Value.okWide Tryz.prog W .any base t v)
    (hW : DataW.Whole enc Tryz.prog Tryz.f4.params.toList Rows.opclassFourSpec.vars false W args.toList ds gs before) :
    Calls Tryz.prog 4 args W fun e W' => ∃ v, e = .returned v ∧ Rows.opclassFourSpec.post enc Tryz.prog Tryz.f4 false true false false W args v W' := by
  have hW' := hW
  obtain ⟨p, q, hA0, hV, rfl, hfz, hnd⟩ := hW
  have hA : DataW.TrodAll enc Tryz.prog W 0 (fun _ => true) true Tryz.f4.params.toList args.toList ds p := hA0
  have hV : DataW.TrodVars enc Tryz.prog W (fun _ => true) [] gs q := hV
  obtain ⟨rfl, rfl⟩ := trodVars_none hV
  rw [Tryz.params4] at hA hval
  obtain ⟨v0, vs0, d0, ds0, p0, q0, hargs0, rfl, rfl, h0, r0⟩ := trodAll_cons hA
  obtain ⟨v1, vs1, d1, ds1, p1, q1, hargs1, rfl, rfl, h1, r1⟩ := trodAll_cons r0
  obtain ⟨v2, vs2, d2, ds2, p2, q2, hargs2, rfl, rfl, h2, r2⟩ := trodAll_cons r1
  obtain ⟨v3, vs3, d3, ds3, p3, q3, hargs3, rfl, rfl, h3, r3⟩ := trodAll_cons r2
  obtain ⟨rfl, rfl, rfl⟩ := trodAll_nil r3
  subst hargs3
  subst hargs2
  subst hargs1
  obtain ⟨args⟩ := args
  simp only at hargs0
  subst hargs0
  obtain ⟨b0, hv0⟩ := hval 0 _ v0 rfl rfl
  obtain ⟨kd, bi, one, brk, rfl⟩ := open_cls4 hv0 h0
  obtain ⟨b1, hv1⟩ := hval 1 _ v1 rfl rfl
  obtain ⟨A1, n1, c1, l1, rfl, hl1, hn1⟩ := open_obsV hv1 h1
  obtain ⟨b2, hv2⟩ := hval 2 _ v2 rfl rfl
  obtain ⟨A2, n2, c2, l2, rfl, hl2, hn2⟩ := open_qusV hv2 h2
  obtain ⟨b3, hv3⟩ := hval 3 _ v3 rfl rfl
  obtain ⟨A3, n3, c3, l3, rfl, hl3⟩ := open_ptsV hv3 h3
  refine (opclassFour_walk W.heap.size n1 c1 n2 c2 n3 c3 kd bi brk one A1 A2 A3 l1 l2 l3 W hl1 hl2 hl3 (Nat.le_refl _) hn1 hn2).mono fun e W' ⟨he, hb⟩ => ?_
  subst he
  exact ⟨_, rfl, law_post Tryz.laidOutS4 (by kernel_rfl) (by kernel_rfl) Tryz.underlying4 rfl (by rfl) hW' hb⟩

set_option maxRecDepth 100000 in
theorem opclassFour_lifted (os : Os) (started : os.Started) (H : Type) (enc : TypeId × Value → H) :
    ReturnsInHanded {} Tryz.checked os 4 .any (Rows.opclassFourSpec.pre6 enc Tryz.prog Tryz.f4 Rows.opclassFourRow.domain false) (Rows.opclassFourSpec.post enc Tryz.prog Tryz.f4 false true false false) := by
  refine returnsInHanded_of_change (C := Tryz.checked) Tryz.ownS4 started (by kernel_rfl) Tryz.func4
    (ChangeSpec.witness6 (enc := enc) (C := Tryz.checked) false ⟨#[], #[.agg #[.int .i64 0, .int .i64 0, .bool false, .int .i64 0], .slice none 0 0, .slice none 0 0, .slice none 0 0], []⟩ 8 (by kernel_rfl) (by kernel_rfl) (by kernel_rfl) (by kernel_rfl)) ?_
  intro W base args ds gs before hval hW _ _
  exact opclassFour_contract H enc W args ds gs before (fun j t v h1 h2 => ⟨_, hval j t v h1 h2⟩) hW

theorem opclassFour_holds : Rows.OpclassFourSaid :=
  OpenClaim.holds_of_wide 4 Tryz.f4 rfl rfl rfl rfl rfl rfl rfl ⟨rfl, rfl, rfl, rfl, rfl⟩ rfl rfl rfl rfl rfl (by kernel_rfl) Tryz.func4 (by kernel_rfl)
    (of_decide_eq_true (by kernel_rfl)) (by unfold Func.isWrapper; rw [if_neg (of_decide_eq_false (by kernel_rfl))]; exact ⟨rfl, rfl⟩)
    (fun os started H enc _ => opclassFour_lifted os started H enc)
#print axioms opclassFour_holds
end Go.Proofs.YtahiaekoaokgnaaGreat
