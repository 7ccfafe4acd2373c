/-
  gist: take at a leaf; choose, refresh, split, add, insert where the root is a leaf that has room.
-/
import Derived.Test.YtkfbkfcmdfpfjaaGreatDoorQGisB
set_option linter.unusedSimpArgs false
set_option linter.unusedVariables false
namespace Go.Proofs.YtkfbkfcmdfpfjaaGreatDoor
open Go Go.RowKit Pg
/-- an object's entry -/
def entG (x : It) (id : Int) : En := ⟨x.kv, x.kb, id, 0⟩
/-- a leaf's entries: the leaf of the first k of them is told -/
def takeLf (t : Tr) (n : Nat) (es : List En) (v : Value) (k : Nat) : Tr := { t with es := updT t.es n es, sl := updT t.sl n v, leaf := fun i => if i ∈ (es.take k).map En.id then n else t.leaf i }
theorem takeLf_next {t : Tr} {n : Nat} {es : List En} {v : Value} {k : Nat} {e : En} (he : es[k]? = some e) : { takeLf t n es v k with leaf := updT (takeLf t n es v k).leaf e.id n } = takeLf t n es v (k + 1) := by
  have hf : updT (fun i => if i ∈ (es.take k).map En.id then n else t.leaf i) e.id n = fun i => if i ∈ (es.take (k + 1)).map En.id then n else t.leaf i := by
    funext i
    unfold updT
    simp only [List.take_add_one, he, Option.toList_some, List.map_append, List.map_cons, List.map_nil, List.mem_append, List.mem_singleton]
    by_cases h1 : i = e.id
    · simp [h1]
    · simp [h1]
  unfold takeLf
  rw [← hf]
theorem taken_next {L : Int → Prop} {es : List En} {k : Nat} {e : En} (he : es[k]? = some e) (i : Int) : ((L i ∧ i ∉ (es.take k).map En.id) ∧ i ≠ e.id) ↔ (L i ∧ i ∉ (es.take (k + 1)).map En.id) := by
  simp only [List.take_add_one, he, Option.toList_some, List.map_append, List.map_cons, List.map_nil, List.mem_append, List.mem_singleton, not_or]
  constructor
  · rintro ⟨⟨h1, h2⟩, h3⟩; exact ⟨h1, h2, h3⟩
  · rintro ⟨h1, h2, h3⟩; exact ⟨⟨h1, h2⟩, h3⟩
section
variable {w : World} {own imm : Nat → Prop} {tb mb : Nat} {cl : Value} {t : Tr} {H : Nat → Prop} {L : Int → Prop}
theorem getK_items {id : Int} {x : It} (h : getK id t.items = some x) : getK id (t.items.map fun p => (p.1, gP p.2.blk)) = some (gP x.blk) := by
  have : ∀ m : List (Int × It), getK id (m.map fun p => (p.1, gP p.2.blk)) = (getK id m).map fun y => gP y.blk := by
    intro m
    induction m with
    | nil => rfl
    | cons p r ih =>
      rw [List.map_cons, getK_cons, getK_cons, ih]
      split <;> rfl
  rw [this, h]
  rfl
theorem getK_itemsN {id : Int} (h : getK id t.items = none) : getK id (t.items.map fun p => (p.1, gP p.2.blk)) = none := by
  have : ∀ m : List (Int × It), getK id (m.map fun p => (p.1, gP p.2.blk)) = (getK id m).map fun y => gP y.blk := by
    intro m
    induction m with
    | nil => rfl
    | cons p r ih =>
      rw [List.map_cons, getK_cons, getK_cons, ih]
      split <;> rfl
  rw [this, h]
  rfl
theorem Tryz.zeroItG (w : World) : (zeroValue 93).run Tryz.prog w = .ok (.pointer none) w := by kernel_rfl
set_option maxHeartbeats 4000000 in
set_option maxRecDepth 20000 in
theorem takeLeaf_any (h : Lay w own imm tb mb cl t H L) {n : Nat} (hn : t.lv n = some 0) (es : List En) (v : Value) (hrow : w.ownsRow 0 102 3 v es.length (ecells true es))
    (hv : ∀ g, v.ownBlock = some g → own g ∧ ∀ b' l', t.lv b' = some l' → b' ≠ n → ¬ H b' → (t.sl b').ownBlock ≠ some g) (hkey : ∀ e ∈ es, KeyIn w imm e.kv e.kb)
    (hid : ∀ e ∈ es, (∃ x, getK e.id t.items = some x) ∧ -9223372036854775808 ≤ e.id ∧ e.id ≤ 9223372036854775807) (hes : es.length ≤ 1000000) :
    Calls Tryz.prog 71 #[gP tb, gP n, v] w fun e w' => e = .returned (.tuple #[]) ∧ Lay w' own imm tb mb cl (takeLf t n es v es.length) (fun x => H x ∧ x ≠ n) (fun i => L i ∧ i ∉ es.map En.id) ∧ TurnF own w w' := by
  obtain ⟨n0, n1, n2, nlt⟩ := h.n0 hn
  have fN := (h.nd n 0 hn).frozen
  obtain ⟨A, c, rfl, hnc, hAn, hAb⟩ := row_form hrow
  have h1 := h.setRow hn hrow hv hkey
  have HI := Lib.hid hid
  have ho := h.oN n 0 hn
  have HOwn := Lib.hid ho
  generalize hl : es.length = m at *
  clear hrow hv hkey h hid hnc hAn hAb ho
  try simp only [gP] at *
  go_enter Tryz.func71, Tryz.ntmps71
  go_wp2_with fail
  refine wp_genG (fun w2 => Lay w2 own imm tb mb cl (takeLf t n es (.slice A m c) 0) (fun x => H x ∧ x ≠ n) (fun i => L i ∧ i ∉ (es.take 0).map En.id) ∧ TurnF own w w2) ⟨?_, (TurnF.refl own w).set_ (p := ⟨n, 2, none⟩) (.inl HOwn.out) _⟩ ?_
  · have e : takeLf t n es (.slice A m c) 0 = { t with es := updT t.es n es, sl := updT t.sl n (.slice A m c) } := by simp [takeLf]
    rw [e]
    exact h1.less (fun _ q => q) (fun i q => ⟨q, by simp⟩)
  clear h1 n0 n1 n2 nlt fN
  rintro w2 ⟨h2, ht2⟩
  go_loopw [14] (fun vi wr => ∃ k : Nat, k ≤ m ∧ vi = .int .i64 k ∧ Lay wr own imm tb mb cl (takeLf t n es (.slice A m c) k) (fun x => H x ∧ x ≠ n) (fun i => L i ∧ i ∉ (es.take k).map En.id) ∧ TurnF own w wr) (fun vi _ => m - (Go.RowKit.intOf vi).toNat)
  case atStart => exact ⟨0, Nat.zero_le _, rfl, h2, ht2⟩
  case round =>
    clear h2 ht2
    obtain ⟨k, hk, rfl, hL, ht⟩ := hrel
    by_cases hlt : k < m
    case neg =>
      obtain rfl : m = k := by omega
      have HL := Lib.hid hL
      have HT := Lib.hid ht
      clear hL ht
      go_wp2_with fail
      go_end0
      have hx : Lay _ own imm tb mb cl _ _ _ := HL.out
      refine ⟨rfl, ?_, HT.out⟩
      refine hx.less (fun _ q => q) fun i q => ?_
      rw [List.take_of_length_le (by omega)] at q
      exact q
    have hk0 : (k : Int) < (m : Int) := by omega
    obtain ⟨x, hx⟩ : ∃ x, es[k]? = some x := ⟨es[k]'(by omega), List.getElem?_eq_getElem _⟩
    obtain ⟨⟨it, hit⟩, hi0, hi1⟩ := HI.out x (List.mem_of_getElem? hx)
    have hsl : (takeLf t n es (.slice A m c) k).sl n = .slice A m c := updT_same
    have hes' : (takeLf t n es (.slice A m c) k).es n = es := updT_same
    have hr := hL.row n 0 hn (fun q => q.2 rfl)
    rw [hsl, hes'] at hr
    obtain ⟨g, c', hv, hgl, r0, r1, r2⟩ := row_at hr hx
    rw [hl] at hv
    injection hv with hv1 hv2 hv3
    subst hv1 hv3
    simp only [decide_true, if_true] at r2
    obtain ⟨t0, t1, t2, t3, tlt⟩ := hL.c0
    obtain ⟨n0, n1, n2, nlt⟩ := hL.n0 hn
    obtain ⟨z, hB, _⟩ := hL.it x.id it hit
    have hm := hL.mp
    have hg2 : getK x.id ((takeLf t n es (.slice (some ⟨g, 0, none⟩) m c) k).items.map fun p => (p.1, gP p.2.blk)) = some (gP it.blk) := getK_items hit
    have hkx := hL.ekey n 0 x hn (by rw [hes']; exact List.mem_of_getElem? hx)
    have hsz := ht.size
    have i3 := hB.cell 3
    simp only [List.getElem?_toArray, List.getElem?_cons_zero, List.getElem?_cons_succ] at i3
    have hBl := hB.lt
    have fI := hB.frozen
    have HL := Lib.hid hL
    have HT := Lib.hid ht
    have HX := Lib.hid hx
    have HM := Lib.hid hm
    have HIt := Lib.hid hit
    have HG := Lib.hid hg2
    have HOI := Lib.hid (hL.oI x.id it hit)
    clear hL ht hr hv2 hsl hes' hB hm hx hit hg2
    obtain ⟨_, _, Ak, ck, ek, _⟩ := hkx
    obtain ⟨xkv, xkb, xid, xkid⟩ := x
    simp only at *
    subst ek
    go_wp2_with fail
    refine wp_region_seq [0, 1, 2, 3, 4, 5, 7, 6] [8, 9, 10] (by kernel_rfl) (by kernel_rfl) (fun _ _ d _ _ h => by cases d <;> exact h) ?_
    simp only [List.map_cons, List.map_nil, List.getD_cons_zero, List.getD_cons_succ, bare, gslot, List.getElem?_cons_zero, List.getElem?_cons_succ, Option.bind_some, pureK, Option.isNone_none, Bool.and_true, Bool.true_and, Bool.false_and, Bool.and_self]
    repeat ((try simp only [Act.put, List.setIfInBounds_toArray, List.set_cons_zero, List.set_cons_succ]); first | (refine lexM_pure (v := ?_) wantB_none rfl ?_ ?_; rotate_left; focus (intro wq; go_simp; try with_reducible rfl)) | (refine lexM_quiet (v := ?_) wantB_none rfl ?_ ?_; rotate_left; focus (intro wq hq; obtain ⟨hcq, hfq⟩ := bcell hq; go_simp; try with_reducible rfl)) | (refine lexM_loud wantB_none rfl (fun K hK => ?_); (refine wp_lookV1 _ _ _ _ rfl rfl rfl (show MapO _ _ _ (some mb) _ from MapAt.tr HM.out bel) Tryz.underlying3 Tryz.underlying90 (Tryz.zeroItG _) hi0 hi1 ?_; rw [HG.out]; simp only [Option.getD_some]); refine hK.out _ _ bel ?_; clear hK K) | (refine lexM_loud wantB_none rfl (fun K hK => ?_); go_simp; ((first | fail | skip) <;> (refine hK.out _ _ bel ?_; clear hK K))))
    (all_goals try simp only [Act.put, List.setIfInBounds_toArray, List.set_cons_zero, List.set_cons_succ])
    refine lexM_seq ?_
    refine seqL_step (fun K hK => ?_)
    go_simp
    refine hK.out _ _ ?_
    clear hK K
    (try simp only [Act.put, List.setIfInBounds_toArray, List.set_cons_zero, List.set_cons_succ])
    refine seqL_step (fun K hK => ?_)
    go_simp
    refine hK.out _ _ ?_
    clear hK K
    (try simp only [Act.put, List.setIfInBounds_toArray, List.set_cons_zero, List.set_cons_succ])
    refine seqL_step (fun K hK => ?_)
    go_simp
    refine hK.out _ _ ?_
    clear hK K
    (try simp only [Act.put, List.setIfInBounds_toArray, List.set_cons_zero, List.set_cons_succ])
    refine seqL_nil ?_
    go_wp2
    go_roundw
    case rel =>
      refine ⟨k + 1, by omega, by go_num, ?_, ?_⟩
      · refine Lay.less ?_ (fun _ q => q) (fun i q => (taken_next HX.out i).1 q)
        rw [← takeLf_next HX.out]
        repeat (first | with_reducible refine Lay.drew ?_ | with_reducible refine Lay.alloc ?_ _)
        exact Lay.setLeaf HL.out HIt.out
      · repeat (first | with_reducible refine TurnF.drew ?_ | with_reducible refine TurnF.alloc ?_ _)
        exact HT.out.set_ (p := ⟨it.blk, 3, none⟩) (.inl HOI.out) _
    case measure => simp [Go.RowKit.intOf]; omega
theorem chooseLeaf_any (h : Lay w own imm tb mb cl t H L) (hr : t.lv t.root = some 0) (A : Option Addr) (n c : Nat) : Calls Tryz.prog 70 #[gP tb, .slice A n c] w (Ret w (gP t.root)) := by
  obtain ⟨t0, t1, t2, t3, tlt⟩ := h.c0
  obtain ⟨n0, n1, n2, nlt⟩ := h.n0 hr
  simp only [decide_true] at n1
  clear h
  try simp only [gP] at *
  go_enter Tryz.func70, Tryz.ntmps70
  go_wp2
  refine wp_loop_rounds 1 ?_
  rw [rounds_succ]
  go_wp2
  go_ret
  exact ⟨rfl, bel⟩
theorem refreshRoot_any (h : Lay w own imm tb mb cl t H L) {n l : Nat} (hn : t.lv n = some l) (hu : t.up n = none) : Calls Tryz.prog 72 #[gP tb, gP n] w (Ret w (.tuple #[])) := by
  obtain ⟨n0, n1, n2, nlt⟩ := h.n0 hn
  rw [hu] at n0
  simp only [gO] at n0
  clear h
  try simp only [gP] at *
  go_enter Tryz.func72, Tryz.ntmps72
  go_wp2
  refine wp_loop_rounds 1 ?_
  rw [rounds_succ]
  go_wp2
  go_end0
  exact ⟨rfl, bel⟩
theorem splitSmall_any (h : Lay w own imm tb mb cl t H L) {n l : Nat} (hn : t.lv n = some l) (hu : t.up n = none) (hH : ¬ H n) (hf : (t.es n).length ≤ t.fan) : Calls Tryz.prog 73 #[gP tb, gP n] w (Ret w (.tuple #[])) := by
  obtain ⟨t0, t1, t2, t3, tlt⟩ := h.c0
  obtain ⟨n0, n1, n2, nlt⟩ := h.n0 hn
  have HR := Lib.hid (fun W (hW : Below w.heap.size w W) => refreshRoot_any (h.tr hW) hn hu)
  obtain ⟨A, c, hs, _⟩ := row_form (h.row n l hn hH)
  rw [hs] at n2
  have hf' : ¬ ((t.fan : Nat) : Int) < (((t.es n).length : Nat) : Int) := by omega
  rw [hu] at n0
  simp only [gO] at n0
  clear h hs
  generalize (t.es n).length = m at *
  generalize t.fan = f at *
  try simp only [gP] at *
  go_enter Tryz.func73, Tryz.ntmps73
  go_wp2
  refine wp_loop_rounds 1 ?_
  rw [rounds_succ]
  go_wp2_with fail
  refine wp_region_belowI (by kernel_rfl) (by kernel_rfl) (fun _ _ d _ _ h => by cases d <;> exact h) ?_
  simp only [List.map_cons, List.map_nil, List.getD_cons_zero, List.getD_cons_succ, bare, gslot, List.getElem?_cons_zero, List.getElem?_cons_succ, Option.bind_some]
  repeat' ((try simp only [Act.put, List.setIfInBounds_toArray, List.set_cons_zero, List.set_cons_succ]); first | (refine lexL_quiet (v := ?_) wantB_none rfl ?_ ?_; rotate_left; focus (intro wq hq; obtain ⟨hcq, hfq⟩ := bcell hq; go_simp; try with_reducible rfl)) | (refine lexL_loud wantB_none rfl (fun K hK => ?_); go_simp; ((first | fail | skip) <;> (refine hK.out _ _ bel ?_; clear hK K))) | (refine lexL_on ?_ ?_; focus (simp only [List.getElem?_toArray, List.getElem?_cons_succ, List.getElem?_cons_zero, Bool.not_true, Bool.not_false]; done)) | (refine lexL_off ?_ ?_ ?_; (focus (simp only [List.getElem?_toArray, List.getElem?_cons_succ, List.getElem?_cons_zero, Bool.not_true, Bool.not_false]; done)); (focus (exact bel))) | (refine lexL_splitS (X := ?_) ?_ ?_ (fun hg => ?_) (fun hg => ?_); rotate_left; (focus (simp only [List.getElem?_toArray, List.getElem?_cons_succ, List.getElem?_cons_zero]; with_reducible rfl)); (focus (exact bel)); all_goals (try simp only [Bool.not_true, Bool.not_false] at hg)))
  (all_goals try simp only [Act.put, List.setIfInBounds_toArray, List.set_cons_zero, List.set_cons_succ]); all_goals (refine lexL_nil ?_)
  go_wp2_with (go_at_call 72; (with_reducible refine (HR.out _ bel).mono ?_); rintro e w1 ⟨rfl, hb1⟩; obtain ⟨hc1, hf1⟩ := bcell hb1; have hz1 := hb1.size; (try simp at hz1))
  go_end0
  exact ⟨rfl, bel⟩
theorem three_atG {w : World} {a b c : Value} {t : TypeId} : ∀ (j : Nat) (v : Value), [a, b, c][j]? = some v → (w.alloc (.cells #[a, b, c] t)).cell? ((⟨w.heap.size, 0, none⟩ : Addr).add j) = some v := by
  intro j v hj
  match j, hj with
  | 0, hj => simp at hj; subst hj; simp [Addr.add]
  | 1, hj => simp at hj; subst hj; simp [Addr.add]
  | 2, hj => simp at hj; subst hj; simp [Addr.add]
set_option maxHeartbeats 4000000 in
set_option maxRecDepth 20000 in
/-- an id into a leaf that has room -/
theorem addLeaf_any (h : Lay w own imm tb mb cl t (fun _ => False) L) (hr : t.lv t.root = some 0) (hup : t.up t.root = none) (hroom : (t.es t.root).length < t.fan) (hfan : t.fan ≤ 1000) {id : Int} {x : It} (hx : getK id t.items = some x)
    (h0 : -9223372036854775808 ≤ id) (h1 : id ≤ 9223372036854775807) (hids : ∀ e ∈ t.es t.root, (∃ x, getK e.id t.items = some x) ∧ -9223372036854775808 ≤ e.id ∧ e.id ≤ 9223372036854775807) :
    Calls Tryz.prog 44 #[gP tb, .int .i64 id] w fun e w' => e = .returned (.tuple #[]) ∧ ∃ v own', Lay w' own' imm tb mb cl (takeLf t t.root (t.es t.root ++ [entG x id]) v (t.es t.root ++ [entG x id]).length) (fun _ => False) (fun i => L i ∧ i ∉ (t.es t.root ++ [entG x id]).map En.id) ∧ Grow w w' own imm own' imm := by
  obtain ⟨i0, hi, iz0, iz1, iz2⟩ := info_parts Tryz.infoEnG
  obtain ⟨t0, t1, t2, t3, tlt⟩ := h.c0
  obtain ⟨n0, n1, n2, nlt⟩ := h.n0 hr
  obtain ⟨z, hB, _⟩ := h.it id x hx
  have x2 := hB.cell 2
  simp only [List.getElem?_toArray, List.getElem?_cons_zero, List.getElem?_cons_succ] at x2
  have hBl := hB.lt
  have hk := (h.ikey id x hx).1
  obtain ⟨_, _, Ak, ck, ek, _, _, _⟩ := hk
  have HG := Lib.hid (getK_items hx)
  have HM := Lib.hid h.mp
  have hrow := h.row t.root 0 hr (fun q => q)
  simp only [decide_true] at hrow
  obtain ⟨A, c, hs, hnc, hAn, hAb⟩ := row_form hrow
  have HROW := Lib.hid (fun W (hW : Below w.heap.size w W) => own_kept hrow (grown_below hW) (by simp))
  have HCh := Lib.hid (fun W (hW : Below w.heap.size w W) A n c => chooseLeaf_any (h.tr hW) hr A n c)
  -- take, behind the append
  have HTk : Hid (∀ (W : World) (w1 : World) (v : Value), Below w.heap.size w W → w1.ownsRow 0 102 3 v ((t.es t.root).length + 1) (ecells true (t.es t.root) ++ [x.kv, .int .i64 id, .pointer none]) → W.grownBy w1 (t.sl t.root).ownBlock → (v.ownBlock = (t.sl t.root).ownBlock ∨ v.ownBlock = some W.heap.size) →
      Calls Tryz.prog 71 #[gP tb, gP t.root, v] w1 fun e w' => e = .returned (.tuple #[]) ∧ ∃ own', Lay w' own' imm tb mb cl (takeLf t t.root (t.es t.root ++ [entG x id]) v (t.es t.root ++ [entG x id]).length) (fun _ => False) (fun i => L i ∧ i ∉ (t.es t.root ++ [entG x id]).map En.id) ∧ Grow w w' own imm own' imm) := fun W w1 v hW hv hg hwh => by
    have hLW := h.tr hW
    have hsz := hW.size
    have hL1 := hLW.rowLost hr (fun q => q) hg
    have hlim := h.lim
    have hL2 : Lay w1 (fun k => own k ∨ v.ownBlock = some k) imm tb mb cl t (fun b => False ∨ b = t.root) L := by
      refine hL1.more (fun b q => .inl q) (fun _ q => q) ?_ ?_
      · intro b hb hi
        rcases hb with q | q
        · exact h.sep b q hi
        · rcases hwh with e | e
          · rw [e] at q
            exact h.sep b (h.oR t.root 0 b hr (fun q => q) q) hi
          · rw [e] at q
            cases q
            have := hlim _ (.inr hi)
            omega
      · intro b hb
        rcases hb with (q | q) | q
        · exact hL1.lim b (.inl q)
        · exact (hv.lt b q).2
        · exact hL1.lim b (.inr q)
    have hlen : (t.es t.root ++ [entG x id]).length = (t.es t.root).length + 1 := by simp
    refine (takeLeaf_any hL2 hr (t.es t.root ++ [entG x id]) v (by rw [hlen, ecells_append]; exact hv) ?_ ?_ ?_ (by rw [hlen]; omega)).mono ?_
    · intro g hg'
      refine ⟨.inr hg', fun b' l' hb' hne hH q => ?_⟩
      rcases hwh with e | e
      · rw [e] at hg'
        exact hne (h.apR b' t.root l' 0 g hb' hr (fun q => q) (fun q => q) q hg')
      · rw [e] at hg'
        cases hg'
        have := (hLW.row b' l' hb' (fun q => q)).lt _ q
        omega
    · intro e he
      rcases List.mem_append.1 he with q | q
      · exact hL1.ekey t.root 0 e hr q
      · rw [List.mem_singleton.1 q]
        exact (hL1.ikey id x hx).1
    · intro e he
      rcases List.mem_append.1 he with q | q
      · exact hids e q
      · rw [List.mem_singleton.1 q]
        exact ⟨⟨x, hx⟩, h0, h1⟩
    · rintro e w' ⟨rfl, hL', ht'⟩
      refine ⟨rfl, _, hL'.less (fun b q => ?_) (fun _ q => q), ?_⟩
      · rcases q.1 with q1 | q1
        · exact q1
        · exact q.2 q1
      · have ht1 : TurnF own w w1 := ((TurnF.refl own w).below hW).grown hg (fun k e => .inl (h.oR t.root 0 k hr (fun q => q) e))
        have hsz1 := ht1.size
        have hoo : ∀ b, (own b ∨ v.ownBlock = some b) → own b ∨ w.heap.size ≤ b := fun b q => by
          rcases q with q | q
          · exact .inl q
          · rcases hwh with e | e
            · rw [e] at q
              exact .inl (h.oR t.root 0 b hr (fun q => q) q)
            · rw [e] at q
              cases q
              exact .inr hsz
        exact ⟨ht1.trans ht' hoo, hoo, fun b q => .inl q, fun b q => .inl q, fun b q => q⟩
  have HRf := Lib.hid (fun W own' v (hL : Lay W own' imm tb mb cl (takeLf t t.root (t.es t.root ++ [entG x id]) v (t.es t.root ++ [entG x id]).length) (fun _ => False) (fun i => L i ∧ i ∉ (t.es t.root ++ [entG x id]).map En.id)) => refreshRoot_any hL hr hup)
  have HSp := Lib.hid (fun W own' v (hL : Lay W own' imm tb mb cl (takeLf t t.root (t.es t.root ++ [entG x id]) v (t.es t.root ++ [entG x id]).length) (fun _ => False) (fun i => L i ∧ i ∉ (t.es t.root ++ [entG x id]).map En.id)) => splitSmall_any hL hr hup (fun q => q) (by
    show ((updT t.es t.root _) t.root).length ≤ t.fan
    rw [updT_same]
    simp
    omega))
  rw [ek] at x2 HTk
  clear h hB hrow hids ek
  generalize (t.es t.root).length = m at *
  generalize ecells true (t.es t.root) = cells at *
  generalize hts : t.sl t.root = ts at *
  subst hs
  generalize htr : t.root = tr at *
  obtain ⟨xblk, xob, xov, xkv, xkb⟩ := x
  simp only at *
  try simp only [gP] at *
  go_enter Tryz.func44, Tryz.ntmps44
  go_wp2_with (first | (at_lookup; go_must (refine wpList_lookV1 _ rfl _ _ _ rfl rfl rfl (show MapO _ _ _ (some mb) _ from MapAt.tr HM.out bel) Tryz.underlying3 Tryz.underlying90 (Tryz.zeroItG _) h0 h1 ?_; rw [HG.out]; simp only [Option.getD_some])) | (go_at_call 70; (with_reducible refine (HCh.out _ bel _ _ _).mono ?_); rintro e w1 ⟨rfl, hb1⟩; obtain ⟨hc1, hf1⟩ := bcell hb1; have hz1 := hb1.size; (try simp at hz1); have n2' := (hc1 _ 2 nlt).trans n2; have x2' := (hc1 _ 2 hBl).trans x2; have nlt1 := Nat.lt_of_lt_of_le nlt hz1; have xlt1 := Nat.lt_of_lt_of_le hBl hz1; clear n0 n1 n2 x2 t0 t1 t2 t3 tlt hc1 hf1))
  refine wp_region_seq [0, 1, 2, 3, 4, 5, 6, 7, 8, 9, 10, 11, 12] [13, 14] (by kernel_rfl) (by kernel_rfl) (fun _ _ d _ _ h => by cases d <;> exact h) ?_
  simp only [List.map_cons, List.map_nil, List.getD_cons_zero, List.getD_cons_succ, bare, gslot, List.getElem?_cons_zero, List.getElem?_cons_succ, Option.bind_some, pureK, Option.isNone_none, Bool.and_true, Bool.true_and, Bool.false_and, Bool.and_self]
  repeat ((try simp only [Act.put, List.setIfInBounds_toArray, List.set_cons_zero, List.set_cons_succ]); first | (refine lexM_pure (v := ?_) wantB_none rfl ?_ ?_; rotate_left; focus (intro wq; go_simp; try with_reducible rfl)) | (refine lexM_quiet (v := ?_) wantB_none rfl ?_ ?_; rotate_left; focus (intro wq hq; obtain ⟨hcq, hfq⟩ := bcell hq; go_simp; try with_reducible rfl)) | (refine lexM_loud wantB_none rfl (fun K hK => ?_); go_simp; ((first | fail | skip) <;> (refine hK.out _ _ bel ?_; clear hK K))))
  (all_goals try simp only [Act.put, List.setIfInBounds_toArray, List.set_cons_zero, List.set_cons_succ])
  refine lexM_seq ?_
  refine seqL_step (fun K hK => ?_)
  (refine wp_append_at _ _ _ 87 rfl 102 i0 (.agg #[.slice none 0 0, .int .i64 0, .pointer none]) 3 40 Tryz.underlying87 hi iz0 iz1 iz2 rfl (by decide) (.slice A m c) m cells rfl (HROW.out _ bel) ⟨w1.heap.size, 0, none⟩ 1 1 [.slice Ak xkb.length ck, .int .i64 id, .pointer none] rfl rfl ?_ ?_ ?_ ?_ ?_ ?_); (focus (exact three_atG)); (focus (simp [Value.oneCell'])); (focus (unfold maxLen; omega)); (focus omega); (focus (decide)); intro v' w3 hown' hgrow hwh
  refine hK.out _ _ ?_
  clear hK K
  (try simp only [Act.put, List.setIfInBounds_toArray, List.set_cons_zero, List.set_cons_succ])
  refine seqL_step (fun K hK => ?_)
  go_simp
  go_at_call 71; (refine (HTk.out _ _ _ (show Below w.heap.size w ((w1.alloc (.cells #[.slice Ak xkb.length ck, .int .i64 id, .pointer none] 102)).drew) from bel) hown' hgrow hwh).mono ?_); rintro e w5 ⟨rfl, own5, hL5, hg5⟩; have HL5 := Lib.hid hL5; clear hL5
  refine hK.out _ _ ?_
  clear hK K
  (try simp only [Act.put, List.setIfInBounds_toArray, List.set_cons_zero, List.set_cons_succ])
  refine seqL_nil ?_
  go_wp2_with (first | (go_at_call 72; (refine (HRf.out _ _ _ HL5.out).mono ?_); rintro e w6 ⟨rfl, hb6⟩; have HL6 := Lib.hid (HL5.out.tr hb6)) | (go_at_call 73; (refine (HSp.out _ _ _ HL6.out).mono ?_); rintro e w7 ⟨rfl, hb7⟩; have HL7 := Lib.hid (HL6.out.tr hb7)))
  go_end0
  exact ⟨rfl, _, _, HL7.out, hg5.trans ((Grow.of_below hb6).trans (Grow.of_below hb7))⟩
end
end Go.Proofs.YtkfbkfcmdfpfjaaGreatDoor
