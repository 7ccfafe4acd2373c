/-
  Arguments opened: points, boxes, lists of points, objects, queries; and the last step of a law that answers true and leaves its arguments alone.
-/
import Derived.Test.YtahiaekoaokgnaaGreatWords
import Derived.Test.YtahiaekoaokgnaaGreatGeo
import Derived.Test.YtahiaekoaokgnaaGreatRows
import Derived.Deep.Slices
import Derived.ChangeSame
import Derived.OpenShut
import Derived.WideKeyArgs
import Derived.WalkKit
set_option linter.unusedSimpArgs false
set_option linter.unusedVariables false
set_option maxRecDepth 100000
namespace Go.Proofs.YtahiaekoaokgnaaGreat
open Go.RowKit Go.ChangeShapes Go.WideShapes Go.Deep Pg

theorem list2 {l : List Value} (h : l.length = 2) : ∃ a b, l = [a, b] := by
  match l, h with
  | [a, b], _ => exact ⟨a, b, rfl⟩
theorem list4 {l : List Value} (h : l.length = 4) : ∃ a b c d, l = [a, b, c, d] := by
  match l, h with
  | [a, b, c, d], _ => exact ⟨a, b, c, d, rfl⟩
theorem list6 {l : List Value} (h : l.length = 6) : ∃ a b c d e f, l = [a, b, c, d, e, f] := by
  match l, h with
  | [a, b, c, d, e, f], _ => exact ⟨a, b, c, d, e, f, rfl⟩
theorem list3 {α : Type} {l : List α} (h : l.length = 3) : ∃ a b c, l = [a, b, c] := by
  match l, h with
  | [a, b, c], _ => exact ⟨a, b, c, rfl⟩
theorem cInt : Tryz.prog.cellsOf 3 = 1 := by kernel_rfl
theorem cPt : Tryz.prog.cellsOf 52 = 2 := by kernel_rfl
theorem cBx : Tryz.prog.cellsOf 54 = 4 := by kernel_rfl
theorem cPts : Tryz.prog.cellsOf 26 = 1 := by kernel_rfl

section
variable {H : Type} {enc : TypeId × Value → H} {W : World} {base : Nat} {spare : Nat → Bool} {held : Bool} {fuel : Nat} {cs : List Value} {x : DataW H × List MemPlace}
theorem open_int1 (h : DataW.trod enc Tryz.prog W base spare held fuel 3 cs = some x) : ∃ a : Int, cs = [.int .i64 a] := by
  obtain ⟨a, e, _⟩ := DataW.trod_int Tryz.underlying3 h
  exact ⟨a, e⟩
theorem open_point (h : DataW.trod enc Tryz.prog W base spare held fuel 52 cs = some x) : ∃ p : Pt, cs = [.int .i64 p.x, .int .i64 p.y] := by
  obtain ⟨y0, y1, m, _, hl, h0, h1⟩ := trod_struct2 Tryz.underlying52 h
  rw [cPt] at hl
  obtain ⟨c0, c1, rfl⟩ := list2 hl
  focus
    simp only [cInt] at h0 h1
    obtain ⟨a, e0⟩ := open_int1 h0
    obtain ⟨b, e1⟩ := open_int1 h1
    simp at e0 e1
    exact ⟨⟨a, b⟩, by rw [e0, e1]⟩
theorem open_box (h : DataW.trod enc Tryz.prog W base spare held fuel 54 cs = some x) : ∃ b : Bx, cs = [.int .i64 b.lo.x, .int .i64 b.lo.y, .int .i64 b.hi.x, .int .i64 b.hi.y] := by
  obtain ⟨y0, y1, m, _, hl, h0, h1⟩ := trod_struct2 Tryz.underlying54 h
  rw [cBx] at hl
  obtain ⟨c0, c1, c2, c3, rfl⟩ := list4 hl
  focus
    simp only [cPt] at h0 h1
    obtain ⟨p, e0⟩ := open_point h0
    obtain ⟨q, e1⟩ := open_point h1
    simp at e0 e1
    exact ⟨⟨p, q⟩, by rw [e0.1, e0.2, e1.1, e1.2]⟩
/-- a list of points -/
theorem open_pts (h : DataW.trod enc Tryz.prog W base spare held fuel 26 cs = some x) : ∃ (A : Option Addr) (n c : Nat) (l : List Pt), cs = [.slice A n c] ∧ PtsAt W W.heap.size A n l := by
  rcases open_slice Tryz.underlying26 h with ⟨h0, _⟩ | ⟨a, n, c, m, k, D, Pl, h0, _, hnc, _, hm, _, hi⟩
  · exact ⟨none, 0, 0, [], h0, rfl, fun h => absurd h (by omega)⟩
  · have hnm : n ≤ m := by rw [hm]; split <;> omega
    have key : ∀ i, i < n → ∃ p : Pt, W.cell? (a.add (i * 2)) = some (.int .i64 p.x) ∧ W.cell? (a.add (i * 2 + 1)) = some (.int .i64 p.y) := by
      intro i hin
      obtain ⟨cs', hc, ht⟩ := hi i (by omega)
      rw [cPt] at hc
      obtain ⟨p, e⟩ := open_point ht
      obtain ⟨_, _, hat⟩ := World.cells?_some hc
      have h0 := hat 0 (by omega)
      have h1 := hat 1 (by omega)
      rw [e] at h0 h1
      simp only [List.getElem?_cons_zero, List.getElem?_cons_succ] at h0 h1
      refine ⟨p, by simpa [Addr.add] using h0, ?_⟩
      rw [← h1]
      congr 1
      unfold Addr.add
      by_cases hz : i * 2 = 0
      · simp [hz]
      · simp [hz]; omega
    have hpick : ∃ f : Nat → Pt, ∀ i, i < n → W.cell? (a.add (i * 2)) = some (.int .i64 (f i).x) ∧ W.cell? (a.add (i * 2 + 1)) = some (.int .i64 (f i).y) :=
      ⟨fun i => if h : i < n then Classical.choose (key i h) else ⟨0, 0⟩, fun i h => by simp only [dif_pos h]; exact Classical.choose_spec (key i h)⟩
    obtain ⟨f, hf⟩ := hpick
    refine ⟨some a, n, c, (List.range n).map f, h0, by simp, fun hn => ?_⟩
    obtain ⟨b, off, sp⟩ := a
    have hsp : sp = none := by
      have := World.cell?_spot (hf 0 hn).1
      simpa [Addr.add] using this
    subst hsp
    have hb : b < W.heap.size := by
      have := (hf 0 hn).1
      rcases Nat.lt_or_ge b W.heap.size with h | h
      · exact h
      · simp [Addr.add, World.cell?, Array.getElem?_eq_none h] at this
    refine ⟨b, off, rfl, hb, fun k p hp => ?_⟩
    have hk : k < n := by
      rcases Nat.lt_or_ge k n with h | h
      · exact h
      · rw [List.getElem?_eq_none (by simpa using h)] at hp; cases hp
    have ep : p = f k := by
      rw [List.getElem?_map, List.getElem?_range hk] at hp
      simpa using hp.symm
    subst ep
    have h1 := (hf k hk).1
    have h2 := (hf k hk).2
    have e1 : (⟨b, off, none⟩ : Addr).add (k * 2) = ⟨b, off + k * 2, none⟩ := by
      unfold Addr.add
      split <;> simp_all
    have e2 : (⟨b, off, none⟩ : Addr).add (k * 2 + 1) = ⟨b, off + k * 2 + 1, none⟩ := by
      unfold Addr.add
      simp [Nat.add_assoc]
    rw [e1] at h1
    rw [e2] at h2
    exact ⟨h1, h2⟩
end

section
variable {H : Type} {enc : TypeId × Value → H} {W : World} {r : Reach} {b0 base : Nat} {spare : Nat → Bool} {held : Bool} {v : Value} {d : DataW H} {p : List MemPlace}
theorem open_obj (hv : Value.okWide Tryz.prog W r b0 34 v) (h : DataW.Trod enc Tryz.prog W base spare held 34 v d p) :
    ∃ (k : Int) (A : Option Addr) (n c : Nat) (l : List Pt), v = .agg #[.int .i64 k, .slice A n c] ∧ PtsAt W W.heap.size A n l := by
  obtain ⟨cs, rfl, hsz⟩ := okWide_struct Tryz.underlying34 hv
  obtain ⟨l⟩ := cs
  rw [show Tryz.prog.cellsOf 34 = 2 by kernel_rfl] at hsz
  obtain ⟨c0, c1, rfl⟩ := list2 (by simpa using hsz)
  focus
    obtain ⟨fuel, hf⟩ := h
    obtain ⟨y0, y1, m, _, _, h0, h1⟩ := trod_struct2 Tryz.underlying34 hf
    simp only [cInt, cPts] at h0 h1
    obtain ⟨k, e0⟩ := open_int1 h0
    obtain ⟨A, n, c, l, e1, hp⟩ := open_pts h1
    simp [Value.cells] at e0 e1
    exact ⟨k, A, n, c, l, by rw [e0, e1], hp⟩
theorem open_query (hv : Value.okWide Tryz.prog W r b0 56 v) (h : DataW.Trod enc Tryz.prog W base spare held 56 v d p) :
    ∃ (k : Int) (b : Bx) (A : Option Addr) (n c : Nat) (l : List Pt), v = .agg #[.int .i64 k, .int .i64 b.lo.x, .int .i64 b.lo.y, .int .i64 b.hi.x, .int .i64 b.hi.y, .slice A n c] ∧ PtsAt W W.heap.size A n l := by
  obtain ⟨cs, rfl, hsz⟩ := okWide_struct Tryz.underlying56 hv
  obtain ⟨l⟩ := cs
  rw [show Tryz.prog.cellsOf 56 = 6 by kernel_rfl] at hsz
  obtain ⟨c0, c1, c2, c3, c4, c5, rfl⟩ := list6 (by simpa using hsz)
  focus
    obtain ⟨fuel, hf⟩ := h
    obtain ⟨xs, m, _, _, _, hlen, hg⟩ := DataW.trod_struct Tryz.underlying56 hf
    obtain ⟨y0, y1, y2, rfl⟩ := list3 hlen
    focus
      have h0 : DataW.trod enc Tryz.prog W base spare held m 3 (([c0, c1, c2, c3, c4, c5].drop 0).take (Tryz.prog.cellsOf 3)) = some y0 := hg 0 _ rfl
      have h1 : DataW.trod enc Tryz.prog W base spare held m 54 (([c0, c1, c2, c3, c4, c5].drop 1).take (Tryz.prog.cellsOf 54)) = some y1 := hg 1 _ rfl
      have h2 : DataW.trod enc Tryz.prog W base spare held m 26 (([c0, c1, c2, c3, c4, c5].drop 5).take (Tryz.prog.cellsOf 26)) = some y2 := hg 2 _ rfl
      rw [cInt] at h0
      rw [cBx] at h1
      rw [cPts] at h2
      obtain ⟨k, e0⟩ := open_int1 h0
      obtain ⟨b, e1⟩ := open_box h1
      obtain ⟨A, n, c, l, e2, hp⟩ := open_pts h2
      simp [Value.cells] at e0
      simp [Value.cells] at e1
      simp [Value.cells] at e2
      exact ⟨k, b, A, n, c, l, by rw [e0, e1.1, e1.2.1, e1.2.2.1, e1.2.2.2, e2], hp⟩
theorem open_boxV (hv : Value.okWide Tryz.prog W r b0 54 v) (h : DataW.Trod enc Tryz.prog W base spare held 54 v d p) :
    ∃ b : Bx, v = .agg #[.int .i64 b.lo.x, .int .i64 b.lo.y, .int .i64 b.hi.x, .int .i64 b.hi.y] := by
  obtain ⟨cs, rfl, hsz⟩ := okWide_struct Tryz.underlying54 hv
  obtain ⟨l⟩ := cs
  rw [cBx] at hsz
  obtain ⟨c0, c1, c2, c3, rfl⟩ := list4 (by simpa using hsz)
  focus
    obtain ⟨fuel, hf⟩ := h
    obtain ⟨b, e⟩ := open_box hf
    simp [Value.cells] at e
    exact ⟨b, by rw [e.1, e.2.1, e.2.2.1, e.2.2.2]⟩
theorem open_pointV (hv : Value.okWide Tryz.prog W r b0 52 v) (h : DataW.Trod enc Tryz.prog W base spare held 52 v d p) :
    ∃ q : Pt, v = .agg #[.int .i64 q.x, .int .i64 q.y] := by
  obtain ⟨cs, rfl, hsz⟩ := okWide_struct Tryz.underlying52 hv
  obtain ⟨l⟩ := cs
  rw [cPt] at hsz
  obtain ⟨c0, c1, rfl⟩ := list2 (by simpa using hsz)
  focus
    obtain ⟨fuel, hf⟩ := h
    obtain ⟨q, e⟩ := open_point hf
    simp [Value.cells] at e
    exact ⟨q, by rw [e.1, e.2]⟩
theorem open_ptsV (hv : Value.okWide Tryz.prog W r b0 26 v) (h : DataW.Trod enc Tryz.prog W base spare held 26 v d p) :
    ∃ (A : Option Addr) (n c : Nat) (l : List Pt), v = .slice A n c ∧ PtsAt W W.heap.size A n l := by
  obtain ⟨fuel, hf⟩ := h
  obtain ⟨A, n, c, l, e, hp⟩ := open_pts hf
  obtain ⟨a', n', c', rfl⟩ := okWide_slice Tryz.underlying26 hv
  simp [Value.cells] at e
  exact ⟨A, n, c, l, by rw [e.1, e.2.1, e.2.2], hp⟩
end

/-- the arguments read as they did, if below the heap's old size nothing has turned -/
theorem trodAll_kept {H : Type} {enc : TypeId × Value → H} {P : Program} (hl : laidOutB P = true) {W W' : World} (hb : Below W.heap.size W W') {sp : Nat → Bool} :
    ∀ {ts : List TypeId} {vs : List Value} {ds : List (DataW H)} {ps : List MemPlace}, (ts.all fun t => P.readableRec t && decide (t < P.types.size)) = true → (∀ p ∈ ps, p.block < W.heap.size) → (∀ p ∈ ps, sp p.block = true) →
      DataW.TrodAll enc P W 0 (fun _ => true) true ts vs ds ps → DataW.TrodAll enc P W' 0 sp true ts vs ds ps := by
  intro ts
  induction ts with
  | nil =>
    intro vs ds ps _ _ _ h
    obtain ⟨rfl, rfl, rfl⟩ := trodAll_nil h
    exact trodAll_mk0
  | cons t ts ih =>
    intro vs ds ps hr hlt hs h
    obtain ⟨v, vs', d, ds', p, q, rfl, rfl, rfl, h1, h2⟩ := trodAll_cons h
    simp only [List.all_cons, Bool.and_eq_true, decide_eq_true_eq] at hr
    refine trodAll_cons_mk (WideElems.Trod_stays hl hr.1.1 hr.1.2 h1 (fun x hx => hb.same (hlt x (by simp [hx]))) (fun x hx => hs x (by simp [hx]))) (ih ?_ (fun x hx => hlt x (by simp [hx])) (fun x hx => hs x (by simp [hx])) h2)
    simpa using hr.2

/-- THE LAST STEP OF A LAW: it answered true, nothing old has turned -/
theorem law_post {H : Type} {enc : TypeId × Value → H} {P : Program} {f : Func} {s : ChangeSpec} {apart fresh handsOn again : Bool} {W W' : World} {args : Array Value} {ds gs : List (DataW H)} {before : List MemPlace} {tb : TypeId}
    (hl : laidOutB P = true) (hr : (f.params.toList.all fun t => P.readableRec t && decide (t < P.types.size)) = true) (hrt : f.resultTypes = #[tb]) (htb : P.underlying tb = some .bool) (hvars : s.vars = [])
    (hs : s.fn H (ds ++ gs) = { results := [.lit (.bool true)], args := ds })
    (hW : DataW.Whole enc P f.params.toList s.vars apart W args.toList ds gs before) (hb : Below W.heap.size W W') : s.post enc P f apart fresh handsOn again W args (.bool true) W' := by
  have hlt : ∀ p ∈ before, p.block < W.heap.size := fun p hp => hW.lt p hp
  have hW2 := hW
  obtain ⟨p, q, hA, hV, rfl, hz, hn⟩ := hW2
  rw [hvars] at hV
  obtain ⟨rfl, rfl⟩ := trodVars_none hV
  have hA : DataW.TrodAll enc P W 0 (fun _ => true) true f.params.toList args.toList ds p := hA
  simp only [List.append_nil] at hW hlt hs hz hn
  have hargs : ∀ sp : Nat → Bool, (∀ x ∈ p, sp x.block = true) → DataW.TrodAll enc P W' 0 sp true f.params.toList args.toList ds p := fun sp hsp => trodAll_kept hl hb hr hlt hsp hA
  have hres : ∀ (b : Nat) (sp : Nat → Bool) (hd : Bool), DataW.TrodAll enc P W' b sp hd f.resultTypes.toList ((Value.bool true).resultList f.resultTypes.size) [.lit (.bool true)] [] := by
    intro b sp hd
    rw [hrt]
    exact trodAll_mk1 (shut_bool htb true)
  have e1 : (s.fn H (ds ++ [])).results = [.lit (.bool true)] := by rw [List.append_nil, hs]
  have e2 : (s.fn H (ds ++ [])).args = ds := by rw [List.append_nil, hs]
  have e3 : (s.fn H (ds ++ [])).vars = [] := by rw [List.append_nil, hs]
  refine ⟨ds, [], p, [], p, [], hW, by rw [e1]; exact hres _ _ _, by rw [e2]; exact hargs _ (fun x hx => by simpa using hlt x hx), by rw [e3, hvars]; exact rfl, World.keptBut_mono (fun x hx => ⟨hx, .inr (by simpa using hx)⟩) (hb.frame (· ∈ p)), fun _ => ?_⟩
  have h12 := trodAll_append (hargs (fun _ => true) (fun _ _ => rfl)) (hres 0 (fun _ => true) true)
  refine ⟨ok_one hrt rfl (okWide_bool_mk htb _), _, [], [] ++ p, ⟨[] ++ p, [], h12, by rw [hvars]; exact rfl, by simp, fun b off hp => ?_, fun ha => by simpa using hn ha⟩, fun x hx _ => by simpa using hx⟩
  have hp : MemPlace.cell b off ∈ p := by simpa using hp
  rw [hb.frozen (hlt _ hp)]
  exact hz b off hp
end Go.Proofs.YtahiaekoaokgnaaGreat
