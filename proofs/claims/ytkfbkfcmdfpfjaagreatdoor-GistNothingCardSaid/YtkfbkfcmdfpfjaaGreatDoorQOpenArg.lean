/-
  Arguments opened: points, boxes, lists of points, objects, queries; and the last step of a law that answers true and leaves its arguments alone.
-/
import Derived.Test.YtkfbkfcmdfpfjaaGreatDoorQWords
import Derived.Test.YtkfbkfcmdfpfjaaGreatDoorQPlainSplit
import Derived.Test.YtkfbkfcmdfpfjaaGreatDoorRows
import Derived.Deep.Slices
import Derived.ChangeSame
import Derived.OpenShut
import Derived.WideKeyArgs
import Derived.WalkKit
set_option linter.unusedSimpArgs false
set_option linter.unusedVariables false
set_option maxRecDepth 100000
namespace Go.Proofs.YtkfbkfcmdfpfjaaGreatDoor
open Go.RowKit Go.ChangeShapes Go.WideShapes Go.Deep Pg

theorem list2 {l : List Value} (h : l.length = 2) : ∃ a b, l = [a, b] := by
  match l, h with
  | [a, b], _ => exact ⟨a, b, rfl⟩
theorem cInt : Tryz.prog.cellsOf 3 = 1 := by kernel_rfl
theorem cPt : Tryz.prog.cellsOf 38 = 2 := by kernel_rfl
section
variable {H : Type} {enc : TypeId × Value → H} {W : World} {base : Nat} {spare : Nat → Bool} {held : Bool} {fuel : Nat} {cs : List Value} {x : DataW H × List MemPlace}
theorem open_int1 (h : DataW.trod enc Tryz.prog W base spare held fuel 3 cs = some x) : ∃ a : Int, cs = [.int .i64 a] := by
  obtain ⟨a, e, _⟩ := DataW.trod_int Tryz.underlying3 h
  exact ⟨a, e⟩
theorem open_point (h : DataW.trod enc Tryz.prog W base spare held fuel 38 cs = some x) : ∃ p : Pt, cs = [.int .i64 p.x, .int .i64 p.y] := by
  obtain ⟨y0, y1, m, _, hl, h0, h1⟩ := trod_struct2 Tryz.underlying38 h
  rw [cPt] at hl
  obtain ⟨c0, c1, rfl⟩ := list2 hl
  focus
    simp only [cInt] at h0 h1
    obtain ⟨a, e0⟩ := open_int1 h0
    obtain ⟨b, e1⟩ := open_int1 h1
    simp at e0 e1
    exact ⟨⟨a, b⟩, by rw [e0, e1]⟩
end

section
variable {H : Type} {enc : TypeId × Value → H} {W : World} {r : Reach} {b0 base : Nat} {spare : Nat → Bool} {held : Bool} {v : Value} {d : DataW H} {p : List MemPlace}
theorem open_pointV (hv : Value.okWide Tryz.prog W r b0 38 v) (h : DataW.Trod enc Tryz.prog W base spare held 38 v d p) :
    ∃ q : Pt, v = .agg #[.int .i64 q.x, .int .i64 q.y] := by
  obtain ⟨cs, rfl, hsz⟩ := okWide_struct Tryz.underlying38 hv
  obtain ⟨l⟩ := cs
  rw [cPt] at hsz
  obtain ⟨c0, c1, rfl⟩ := list2 (by simpa using hsz)
  focus
    obtain ⟨fuel, hf⟩ := h
    obtain ⟨q, e⟩ := open_point hf
    simp [Value.cells] at e
    exact ⟨q, by rw [e.1, e.2]⟩
end

/-- the arguments read as they did, if below the heap's old size nothing has turned -/
theorem trodAll_kept {H : Type} {enc : TypeId × Value → H} {P : Program} (hl : laidOutB P = true) {W W' : World} (hb : Below W.heap.size W W') {sp : Nat → Bool} :
    ∀ {ts : List TypeId} {vs : List Value} {ds : List (DataW H)} {ps : List MemPlace}, (ts.all fun t => P.readableRec t && decide (t < P.types.size)) = true → (∀ p ∈ ps, p.block < W.heap.size) → (∀ p ∈ ps, sp p.block = true) →
      DataW.TrodAll enc P W 0 (fun _ => true) true ts vs ds ps → DataW.TrodAll enc P W' 0 sp true ts vs ds ps := by
  intro ts
  induction ts with
  | nil =>
    intro vs ds ps _ _ _ h
    obtain ⟨rfl, rfl, rfl⟩ := trodAll_nil h
    exact trodAll_mk0
  | cons t ts ih =>
    intro vs ds ps hr hlt hs h
    obtain ⟨v, vs', d, ds', p, q, rfl, rfl, rfl, h1, h2⟩ := trodAll_cons h
    simp only [List.all_cons, Bool.and_eq_true, decide_eq_true_eq] at hr
    refine trodAll_cons_mk (WideElems.Trod_stays hl hr.1.1 hr.1.2 h1 (fun x hx => hb.same (hlt x (by simp [hx]))) (fun x hx => hs x (by simp [hx]))) (ih ?_ (fun x hx => hlt x (by simp [hx])) (fun x hx => hs x (by simp [hx])) h2)
    simpa using hr.2

/-- THE LAST STEP OF A LAW: it answered true, nothing old has turned -/
theorem law_post {H : Type} {enc : TypeId × Value → H} {P : Program} {f : Func} {s : ChangeSpec} {apart fresh handsOn again : Bool} {W W' : World} {args : Array Value} {ds gs : List (DataW H)} {before : List MemPlace} {tb : TypeId}
    (hl : laidOutB P = true) (hr : (f.params.toList.all fun t => P.readableRec t && decide (t < P.types.size)) = true) (hrt : f.resultTypes = #[tb]) (htb : P.underlying tb = some .bool) (hvars : s.vars = [])
    (hs : s.fn H (ds ++ gs) = { results := [.lit (.bool true)], args := ds })
    (hW : DataW.Whole enc P f.params.toList s.vars apart W args.toList ds gs before) (hb : Below W.heap.size W W') : s.post enc P f apart fresh handsOn again W args (.bool true) W' := by
  have hlt : ∀ p ∈ before, p.block < W.heap.size := fun p hp => hW.lt p hp
  have hW2 := hW
  obtain ⟨p, q, hA, hV, rfl, hz, hn⟩ := hW2
  rw [hvars] at hV
  obtain ⟨rfl, rfl⟩ := trodVars_none hV
  have hA : DataW.TrodAll enc P W 0 (fun _ => true) true f.params.toList args.toList ds p := hA
  simp only [List.append_nil] at hW hlt hs hz hn
  have hargs : ∀ sp : Nat → Bool, (∀ x ∈ p, sp x.block = true) → DataW.TrodAll enc P W' 0 sp true f.params.toList args.toList ds p := fun sp hsp => trodAll_kept hl hb hr hlt hsp hA
  have hres : ∀ (b : Nat) (sp : Nat → Bool) (hd : Bool), DataW.TrodAll enc P W' b sp hd f.resultTypes.toList ((Value.bool true).resultList f.resultTypes.size) [.lit (.bool true)] [] := by
    intro b sp hd
    rw [hrt]
    exact trodAll_mk1 (shut_bool htb true)
  have e1 : (s.fn H (ds ++ [])).results = [.lit (.bool true)] := by rw [List.append_nil, hs]
  have e2 : (s.fn H (ds ++ [])).args = ds := by rw [List.append_nil, hs]
  have e3 : (s.fn H (ds ++ [])).vars = [] := by rw [List.append_nil, hs]
  refine ⟨ds, [], p, [], p, [], hW, by rw [e1]; exact hres _ _ _, by rw [e2]; exact hargs _ (fun x hx => by simpa using hlt x hx), by rw [e3, hvars]; exact rfl, World.keptBut_mono (fun x hx => ⟨hx, .inr (by simpa using hx)⟩) (hb.frame (· ∈ p)), fun _ => ?_⟩
  have h12 := trodAll_append (hargs (fun _ => true) (fun _ _ => rfl)) (hres 0 (fun _ => true) true)
  refine ⟨ok_one hrt rfl (okWide_bool_mk htb _), _, [], [] ++ p, ⟨[] ++ p, [], h12, by rw [hvars]; exact rfl, by simp, fun b off hp => ?_, fun ha => by simpa using hn ha⟩, fun x hx _ => by simpa using hx⟩
  have hp : MemPlace.cell b off ∈ p := by simpa using hp
  rw [hb.frozen (hlt _ hp)]
  exact hz b off hp
end Go.Proofs.YtkfbkfcmdfpfjaaGreatDoor
