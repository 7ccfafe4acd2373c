/-
  The statement OpclassLaws: for every input that can be read the law returns true, and its arguments read behind the call as they read before.
-/
import Derived.Test.YtahiaekoaokgnaaGreatLawOpl
import Derived.Test.YtahiaekoaokgnaaGreatOpenB
import Derived.ProofKit
import Derived.SizedLaws
set_option linter.unusedSimpArgs false
set_option linter.unusedVariables false
namespace Go.Proofs.YtahiaekoaokgnaaGreat
open Go.ChangeShapes Go.WideShapes Go.ChangeAt Go.RowKit Pg
section
variable {H : Type} {enc : TypeId × Value → H} {W : World} {base : Nat} {spare : Nat → Bool} {held : Bool} {fuel : Nat} {cs : List Value} {x : DataW H × List MemPlace}
set_option maxRecDepth 100000 in
theorem open_obsC (h : DataW.trod enc Tryz.prog W base spare held fuel 24 cs = some x) : ∃ (A : Option Addr) (n c : Nat) (l : List Ob), cs = [.slice A n c] ∧ ObsAt W W.heap.size A n l ∧ n ≤ 9223372036854775807 ∧ n ≤ c := by
  obtain ⟨A, n, c, l, rfl, ⟨h1, h2, h3⟩, _, hnc, hcm⟩ := open_list (α := Ob) (R := fun o cs => ∃ A n c, cs = [.int .i64 o.kind, .slice A n c] ∧ PtsAt W W.heap.size A n o.pts) Tryz.underlying24 cObO (by decide)
    (fun n cs' y ht => by
      obtain ⟨y0, y1, m, _, hl, h0, h1⟩ := trod_struct2 Tryz.underlying34 ht
      rw [cObO] at hl
      obtain ⟨c0, c1, rfl⟩ := list2 hl
      simp only [cInt, cPts] at h0 h1
      obtain ⟨k, e0⟩ := open_int1 h0
      obtain ⟨A, n, c, l, e1, hp⟩ := open_pts h1
      simp at e0 e1
      exact ⟨⟨k, l⟩, ⟨A, n, c, by rw [e0, e1], hp⟩, by simp⟩) h
  refine ⟨A, n, c, l, rfl, ⟨h1, fun hn => ?_⟩, by unfold maxLen at hcm; omega, hnc⟩
  obtain ⟨b, off, rfl, hb⟩ := h2 hn
  refine ⟨b, off, rfl, hb, fun k p hp => ?_⟩
  obtain ⟨cs, ⟨A', n', c', rfl, hp2⟩, hat⟩ := h3 b off k p rfl hp
  exact ⟨A', n', c', hat 0 _ rfl, hat 1 _ rfl, hp2⟩
end
section
variable {H : Type} {enc : TypeId × Value → H} {W : World} {r : Reach} {b0 base : Nat} {spare : Nat → Bool} {held : Bool} {v : Value} {d : DataW H} {p : List MemPlace}
set_option maxRecDepth 100000 in
theorem open_obsVC (hv : Value.okWide Tryz.prog W r b0 24 v) (h : DataW.Trod enc Tryz.prog W base spare held 24 v d p) :
    ∃ (A : Option Addr) (n c : Nat) (L : List Ob), v = .slice A n c ∧ ObsAt W W.heap.size A n L ∧ n ≤ 9223372036854775807 ∧ n ≤ c := by
  obtain ⟨fuel, hf⟩ := h
  obtain ⟨A, n, c, l, e, hp⟩ := open_obsC hf
  obtain ⟨a', n', c', rfl⟩ := okWide_slice Tryz.underlying24 hv
  simp [Value.cells] at e
  exact ⟨A, n, c, l, by rw [e.1, e.2.1, e.2.2], hp⟩
end
theorem Tryz.ownSL : ownKnob Tryz.prog.godebug = none := by kernel_rfl
theorem Tryz.laidOutSL : laidOutB Tryz.prog = true := by kernel_rfl
theorem cBoolL : Tryz.prog.cellsOf 4 = 1 := by kernel_rfl
set_option maxRecDepth 100000 in
theorem open_clsL {H : Type} {enc : TypeId × Value → H} {W : World} {r : Reach} {b0 base : Nat} {spare : Nat → Bool} {held : Bool} {v : Value} {d : DataW H} {p : List MemPlace} (hv : Value.okWide Tryz.prog W r b0 23 v) (h : DataW.Trod enc Tryz.prog W base spare held 23 v d p) :
    ∃ (k b : Int) (one : Bool) (brk : Int), v = .agg #[.int .i64 k, .int .i64 b, .bool one, .int .i64 brk] := by
  obtain ⟨cs, rfl, hsz⟩ := okWide_struct Tryz.underlying23 hv
  obtain ⟨l⟩ := cs
  rw [show Tryz.prog.cellsOf 23 = 4 by kernel_rfl] at hsz
  obtain ⟨c0, c1, c2, c3, rfl⟩ := Go.Proofs.YtahiaekoaokgnaaGreat.list4 (by simpa using hsz)
  focus
    obtain ⟨fuel, hf⟩ := h
    obtain ⟨xs, m, _, _, _, hlen, hg⟩ := DataW.trod_struct Tryz.underlying23 hf
    obtain ⟨y0, y1, y2, y3, rfl⟩ : ∃ a b c d, xs = [a, b, c, d] := by
      match xs, hlen with
      | [a, b, c, d], _ => exact ⟨a, b, c, d, rfl⟩
    have h0 : DataW.trod enc Tryz.prog W base spare held m 3 (([c0, c1, c2, c3].drop 0).take (Tryz.prog.cellsOf 3)) = some y0 := hg 0 _ rfl
    have h1 : DataW.trod enc Tryz.prog W base spare held m 3 (([c0, c1, c2, c3].drop 1).take (Tryz.prog.cellsOf 3)) = some y1 := hg 1 _ rfl
    have h2 : DataW.trod enc Tryz.prog W base spare held m 4 (([c0, c1, c2, c3].drop 2).take (Tryz.prog.cellsOf 4)) = some y2 := hg 2 _ rfl
    have h3 : DataW.trod enc Tryz.prog W base spare held m 3 (([c0, c1, c2, c3].drop 3).take (Tryz.prog.cellsOf 3)) = some y3 := hg 3 _ rfl
    rw [cInt] at h0 h1 h3
    rw [cBoolL] at h2
    obtain ⟨k, e0⟩ := open_int1 h0
    obtain ⟨b, e1⟩ := open_int1 h1
    obtain ⟨o, e2, _⟩ := DataW.trod_bool Tryz.underlying4 h2
    obtain ⟨s, e3⟩ := open_int1 h3
    simp at e0 e1 e2 e3
    exact ⟨k, b, o, s, by rw [e0, e1, e2, e3]⟩

set_option maxRecDepth 100000 in
theorem opclassLaws_contract (H : Type) (enc : TypeId × Value → H) (W : World) (args : Array Value) (ds gs : List (DataW H)) (before : List MemPlace)
    (hval : ∀ (j : Nat) t v, Tryz.f3.params[j]? = some t → args[j]? = some v → ∃ base, Value.okWide Tryz.prog W .any base t v)
    (hW : DataW.Whole enc Tryz.prog Tryz.f3.params.toList Rows.opclassLawsSpec.vars false W args.toList ds gs before) :
    Calls Tryz.prog 3 args W fun e W' => ∃ v, e = .returned v ∧ Rows.opclassLawsSpec.post enc Tryz.prog Tryz.f3 false true false false W args v W' := by
  have hW' := hW
  obtain ⟨p, q, hA0, hV, rfl, hfz, hnd⟩ := hW
  have hA : DataW.TrodAll enc Tryz.prog W 0 (fun _ => true) true Tryz.f3.params.toList args.toList ds p := hA0
  have hV : DataW.TrodVars enc Tryz.prog W (fun _ => true) [] gs q := hV
  obtain ⟨rfl, rfl⟩ := trodVars_none hV
  rw [Tryz.params3] at hA hval
  obtain ⟨v0, vs0, d0, ds0, p0, q0, hargs0, rfl, rfl, h0, r0⟩ := trodAll_cons hA
  obtain ⟨v1, vs1, d1, ds1, p1, q1, hargs1, rfl, rfl, h1, r1⟩ := trodAll_cons r0
  obtain ⟨v2, vs2, d2, ds2, p2, q2, hargs2, rfl, rfl, h2, r2⟩ := trodAll_cons r1
  obtain ⟨v3, vs3, d3, ds3, p3, q3, hargs3, rfl, rfl, h3, r3⟩ := trodAll_cons r2
  obtain ⟨rfl, rfl, rfl⟩ := trodAll_nil r3
  subst hargs3
  subst hargs2
  subst hargs1
  obtain ⟨args⟩ := args
  simp only at hargs0
  subst hargs0
  obtain ⟨b0, hv0⟩ := hval 0 _ v0 rfl rfl
  obtain ⟨kd, bi, one, brk, rfl⟩ := open_clsL hv0 h0
  obtain ⟨b1, hv1⟩ := hval 1 _ v1 rfl rfl
  obtain ⟨A1, n1, c1, l1, rfl, hl1, hn1, hnc⟩ := open_obsVC hv1 h1
  obtain ⟨b2, hv2⟩ := hval 2 _ v2 rfl rfl
  obtain ⟨A2, n2, c2, l2, rfl, hl2, hn2⟩ := open_qusV hv2 h2
  obtain ⟨b3, hv3⟩ := hval 3 _ v3 rfl rfl
  obtain ⟨A3, n3, c3, l3, rfl, hl3⟩ := open_ptsV hv3 h3
  refine (opclassLaws_walk W.heap.size n1 c1 n2 c2 n3 c3 kd bi brk one A1 A2 A3 l1 l2 l3 W hl1 hl2 hl3 (Nat.le_refl _) hn1 hn2 hnc).mono fun e W' ⟨he, hb⟩ => ?_
  subst he
  exact ⟨_, rfl, law_post Tryz.laidOutSL (by kernel_rfl) (by kernel_rfl) Tryz.underlying4 rfl (by rfl) hW' hb⟩

set_option maxRecDepth 100000 in
theorem opclassLaws_lifted (os : Os) (started : os.Started) (H : Type) (enc : TypeId × Value → H) :
    ReturnsInHanded {} Tryz.checked os 3 .any (Rows.opclassLawsSpec.pre6 enc Tryz.prog Tryz.f3 Rows.opclassLawsRow.domain false) (Rows.opclassLawsSpec.post enc Tryz.prog Tryz.f3 false true false false) := by
  refine returnsInHanded_of_change (C := Tryz.checked) Tryz.ownSL started (by kernel_rfl) Tryz.func3
    (ChangeSpec.witness6 (enc := enc) (C := Tryz.checked) false ⟨#[], #[.agg #[.int .i64 0, .int .i64 0, .bool false, .int .i64 0], .slice none 0 0, .slice none 0 0, .slice none 0 0], []⟩ 8 (by kernel_rfl) (by kernel_rfl) (by kernel_rfl) (by kernel_rfl)) ?_
  intro W base args ds gs before hval hW _ _
  exact opclassLaws_contract H enc W args ds gs before (fun j t v h1 h2 => ⟨_, hval j t v h1 h2⟩) hW

theorem opclassLaws_holds : Rows.OpclassLawsSaid :=
  OpenClaim.holds_of_wide 3 Tryz.f3 rfl rfl rfl rfl rfl rfl rfl ⟨rfl, rfl, rfl, rfl, rfl⟩ rfl rfl rfl rfl rfl (by kernel_rfl) Tryz.func3 (by kernel_rfl)
    (of_decide_eq_true (by kernel_rfl)) (by unfold Func.isWrapper; rw [if_neg (of_decide_eq_false (by kernel_rfl))]; exact ⟨rfl, rfl⟩)
    (fun os started H enc _ => opclassLaws_lifted os started H enc)
#print axioms opclassLaws_holds
end Go.Proofs.YtahiaekoaokgnaaGreat
