/-
  The reference's way round points: pergolaref3.Hull.
-/
import Derived.Test.YtjdgibpjlhpanaaGreatDoorRefF
import Derived.Test.YtjdgibpjlhpanaaGreatDoorHulH
set_option linter.unusedSimpArgs false
set_option linter.unusedVariables false
namespace Pg
section
open Go Go.RowKit
variable {P : Program} {Q : Exit → Act → World → Prop} {S : World → Prop}
theorem lexL_void {r : List (Oper × Option (Option Tmp × Bool))} {o : Oper} {d : Nat} {want : Bool} {a : Act} {w : World} (hv : a.tmps[d]? = some undef) (hS : S w) (h : lexL P Q S r (a.put o.dst undef) w) :
    lexL P Q S ((o, some (some d, want)) :: r) a w := lexL_skip (by simp [wantB, hv, undef]) hS h
end
theorem minG_snoc (l : List Pt) (q p : Pt) : minG (l ++ [q]) p = if ltP q (minG l p) then q else minG l p := by
  unfold minG
  rw [List.foldl_append]
  rfl
theorem wrapG_snoc (a : Pt) (l : List Pt) (q nx : Pt) : wrapG a (l ++ [q]) nx = if wrapB a (wrapG a l nx) q then q else wrapG a l nx := by
  unfold wrapG
  rw [List.foldl_append]
  rfl
theorem takeS {l : List Pt} {k : Nat} (h : k < l.length) : l.take (k + 1) = l.take k ++ [pt l k] := by
  rw [List.take_add_one]
  congr 1
  unfold pt
  rw [List.getD_eq_getElem?_getD, List.getElem?_eq_getElem h]
  rfl
structure HullW (l H : List Pt) : Prop where
  min : minG l (pt l 0) = pt H 0
  next : ∀ k, k < H.length → wrapG (pt H k) l (pt H k) = pt H ((k + 1) % H.length)
  le : H.length ≤ l.length
  pos : 0 < H.length
  nodup : ∀ i k, i < H.length → k < H.length → i ≠ k → pt H i ≠ pt H k
  sub : ∀ k, k < H.length → okPt (pt H k) = true
theorem hullW_of {l : List Pt} (hl : 0 < l.length) (hok : ∀ q ∈ l, okPt q = true) : HullW l (hullS l) := by
  have hne : l ≠ [] := by intro e; rw [e] at hl; simp at hl
  have hI := hullS_is hne hok
  refine ⟨hI.min hl, fun k hk => ?_, hI.le, hI.pos, fun i k hi hk hik e => hik (pt_inj hI.nodup hi hk e), fun k hk => hok _ (hI.sub _ (ptIn hk))⟩
  rcases Decidable.em ((hullS l).length = 1) with h1 | h1
  · have hI2 := hI
    rcases hI with ⟨p, e, hp, hq⟩ | ⟨t, t', ht, h2, e⟩
    · have hk0 : k = 0 := by omega
      subst hk0
      rw [h1, e]
      exact wrap_one l hq
    · have := (ht.poly h2).1.two
      rw [← e] at this
      omega
  · exact wrap_step hI h1 hok hk l _ (fun q hq => hq) (hI.sub _ (ptIn hk)) (.inr (hI.sub _ (ptIn (nx_mod hk))))
theorem pt_cases (p q : Pt) : p = q ∨ ¬ p.x = q.x ∨ (p.x = q.x ∧ ¬ p.y = q.y) := by
  by_cases hx : p.x = q.x
  · by_cases hy : p.y = q.y
    · exact .inl (Pt.ext' hx hy)
    · exact .inr (.inr ⟨hx, hy⟩)
  · exact .inr (.inl hx)
end Pg
namespace Go.Proofs.YtjdgibpjlhpanaaGreatDoor
open Go.RowKit Pg
def pcells (p : Pt) : Array Value := #[.int .i64 p.x, .int .i64 p.y]
theorem two_putP {W : World} {g : Nat} {t : TypeId} {x y u v : Value} (h : Blk W g t #[x, y]) : Blk ((W.setCell ⟨g, 0, none⟩ u).setCell ⟨g, 1, none⟩ v) g t #[u, v] :=
  ((h.set_ 0 u).set_ 1 v).eq_ (by simp)
theorem own_one {W : World} {base : Nat} {t : TypeId} {p : Pt} (hb : base ≤ W.heap.size) : (W.alloc (.cells #[.int .i64 p.x, .int .i64 p.y] t)).ownsRow base t 2 (.slice (some ⟨W.heap.size, 0, none⟩) 1 1) 1 (ptcells [p]) :=
  ⟨by simp [ptcells, ptcs], .inr ⟨W.heap.size, 1, #[.int .i64 p.x, .int .i64 p.y], rfl, hb, heap_alloc_new W _, by omega, by unfold maxLen; omega, by simp, by simp [ptcells, ptcs]⟩⟩

set_option maxHeartbeats 4000000 in
set_option maxRecDepth 20000 in
theorem rhull_any (B n c : Nat) (A : Option Addr) (l : List Pt) (w : World) (hl : PtsAt w B A n l) (hB : B ≤ w.heap.size) (hn : n ≤ 1000000) :
    Calls Tryz.prog 25 #[.slice A n c] w fun e w' => ∃ s, e = .returned (.tuple #[s, .int .i64 (hullCk l 1).1, .int .i64 (hullCk l 1).2]) ∧ ((hullCk l 1).1 ≠ 0 → s = .slice none 0 0) ∧ ((hullCk l 1).1 = 0 → w'.ownsRow w.heap.size 26 2 s (hullS l).length (ptcells (hullS l))) ∧ Below w.heap.size w w' := by
  have HCK := Lib.hid (fun W hW => rmany1_any B n c A l W (hl.tr hW hB) (Nat.le_trans hB (Below.size (B := w.heap.size) (w := w) hW)) hn)
  by_cases h0 : (hullCk l 1).1 = 0
  case neg =>
    obtain ⟨ck, hck⟩ : ∃ r, hullCk l 1 = r := ⟨_, rfl⟩
    simp only [hck] at HCK h0 ⊢
    obtain ⟨k, i⟩ := ck
    simp only at h0 HCK ⊢
    have h01 : ¬ (k : Int) = 0 := by omega
    clear hl hck
    go_enter Tryz.func25, Tryz.ntmps25
    go_wp2_with (go_at_call 74; (with_reducible refine (HCK.out _ (by repeat (first | with_reducible exact Below.refl _ _ | with_reducible assumption | with_reducible refine al ?_ _ | with_reducible refine Below.drew ?_ | with_reducible refine Below.setCell ?_ (by first | (simp; done) | (simp; omega)) _ | with_reducible refine tr ?_ (by with_reducible assumption)))).mono ?_); rintro e w1 ⟨rfl, hb1⟩)
    exact bodyPost_ret (v := .tuple #[.slice none 0 0, .int .i64 k, .int .i64 i]) (by simp [results, Tryz.results25, go_sem]) rfl ⟨_, rfl, fun _ => rfl, fun h => absurd h h0, (by repeat (first | with_reducible exact Below.refl _ _ | with_reducible assumption | with_reducible refine al ?_ _ | with_reducible refine Below.drew ?_ | with_reducible refine Below.setCell ?_ (by first | (simp; done) | (simp; omega)) _ | with_reducible refine tr ?_ (by with_reducible assumption)))⟩
  obtain ⟨hn1, hn2, hok⟩ := hck_all h0
  have hi0 : hullCk l 1 = (0, 0) := hck_good hn1 hn2 hok
  rw [hi0] at HCK ⊢
  have HW := Lib.hid (hullW_of (show 0 < l.length by omega) hok)
  obtain ⟨H, hH⟩ : ∃ H, hullS l = H := ⟨_, rfl⟩
  rw [hH] at HW ⊢
  obtain ⟨nh, hnh⟩ : ∃ m, H.length = m := ⟨_, rfl⟩
  have hle := HW.out.le
  have hpos := HW.out.pos
  have hln := hl.1
  rw [hnh] at hle hpos ⊢
  rw [hln] at hn1 hn2 hle
  obtain ⟨i0, hi, iz0, iz1, iz2⟩ := info_parts Tryz.infoPtH
  have HOK := Lib.hid (fun k (hk : k < n) => hok (pt l k) (ptIn (by omega)))
  have HL := Lib.hid hl
  obtain ⟨b, off, rfl, hab, _, _⟩ := hl.at_ (show 0 < n by omega)
  have hn01 : (0 : Int) < (n : Int) := by omega
  have hn03 : 0 < n := by omega
  clear hl hok h0 hi0
  go_enter Tryz.func25, Tryz.ntmps25
  go_wp2_with (go_at_call 74; (with_reducible refine (HCK.out _ (by repeat (first | with_reducible exact Below.refl _ _ | with_reducible assumption | with_reducible refine al ?_ _ | with_reducible refine Below.drew ?_ | with_reducible refine Below.setCell ?_ (by first | (simp; done) | (simp; omega)) _ | with_reducible refine tr ?_ (by with_reducible assumption)))).mono ?_); rintro e w1 ⟨rfl, hb1⟩; have hP1 : PtsAt w1 B (some ⟨b, off, none⟩) n l := HL.out.tr (by repeat (first | with_reducible exact Below.refl _ _ | with_reducible assumption | with_reducible refine al ?_ _ | with_reducible refine Below.drew ?_ | with_reducible refine Below.setCell ?_ (by first | (simp; done) | (simp; omega)) _ | with_reducible refine tr ?_ (by with_reducible assumption))) hB; obtain ⟨a0, a1⟩ := pts_at hP1 (show 0 < n by omega); simp only [Nat.zero_mul, Nat.add_zero] at a0 a1; have hb0 : Below w.heap.size w w1 := (by repeat (first | with_reducible exact Below.refl _ _ | with_reducible assumption | with_reducible refine al ?_ _ | with_reducible refine Below.drew ?_ | with_reducible refine Below.setCell ?_ (by first | (simp; done) | (simp; omega)) _ | with_reducible refine tr ?_ (by with_reducible assumption))); have hbw : b < w1.heap.size := (by have := hb0.size; omega))
  refine PgG.keep_world (R := fun w2 => Blk w2 w1.heap.size 26 (pcells (pt l 0)) ∧ Below w.heap.size w w2) ⟨(by repeat (first | with_reducible assumption | with_reducible exact Blk.new (by simp) rfl | with_reducible refine Blk.alloc ?_ _ | with_reducible refine Blk.drew ?_ | with_reducible refine Blk.far ?_ (by first | (simp; done) | (simp; omega)) _ | with_reducible refine Blk.tr ?_ (by with_reducible assumption))), (by repeat (first | with_reducible exact Below.refl _ _ | with_reducible assumption | with_reducible refine al ?_ _ | with_reducible refine Below.drew ?_ | with_reducible refine Below.setCell ?_ (by first | (simp; done) | (simp; omega)) _ | with_reducible refine tr ?_ (by with_reducible assumption)))⟩ ?_
  rintro w2 ⟨hp0, hb2⟩
  have hz01 := hb0.size
  clear HCK hb1 hP1 a0 a1 hb0 hbw
  obtain ⟨GP, eGP⟩ : ∃ g, w1.heap.size = g := ⟨_, rfl⟩
  rw [eGP] at hp0 hz01 ⊢
  clear eGP
  go_loopw [8] (fun vi wr => ∃ k : Nat, k ≤ n ∧ vi = .int .i64 k ∧ Blk wr GP 26 (pcells (minG (l.take k) (pt l 0))) ∧ Below w.heap.size w wr) (fun vi _ => n - (intOf vi).toNat)
  case atStart => exact ⟨0, by omega, rfl, hp0, hb2⟩
  case round =>
    clear hp0 hb2
    obtain ⟨k, hk, rfl, hp, hb⟩ := hrel
    by_cases hlt : k < n
    · obtain ⟨d0, d1⟩ := pts_at (HL.out.below (hb.mono hB)) hlt
      have hk0 : (k : Int) < (n : Int) := by omega
      have hsn : minG (l.take (k + 1)) (pt l 0) = if ltP (pt l k) (minG (l.take k) (pt l 0)) then pt l k else minG (l.take k) (pt l 0) := by rw [takeS (by omega), minG_snoc]
      generalize minG (l.take k) (pt l 0) = m at *
      have HSn := Lib.hid hsn
      unfold pcells at hp
      have cP := hp.cell
      have fP := hp.frozen
      have lP := hp.lt
      have hbw : b < wr.heap.size := by have := hb.size; omega
      clear hsn
      have hcs : (pt l k).x < m.x ∨ ((pt l k).x = m.x ∧ (pt l k).y < m.y) ∨ ((pt l k).x = m.x ∧ ¬ (pt l k).y < m.y) ∨ (¬ (pt l k).x < m.x ∧ ¬ (pt l k).x = m.x) := by omega
      rcases hcs with e | ⟨e, e2⟩ | ⟨e, e2⟩ | ⟨e, e2⟩
      case inl =>
        have hlt' : ltP (pt l k) m = true := (ltP_iff _ _).2 (.inl e)
        have hmn : minG (l.take (k + 1)) (pt l 0) = _ := HSn.out
        rw [hlt'] at hmn
        simp only [if_true, Bool.false_eq_true, if_false] at hmn
        clear hlt'
        go_wp2_with fail
        refine wp_region_belowI (by kernel_rfl) (by kernel_rfl) (fun _ _ d _ _ h => by cases d <;> exact h) ?_
        simp only [List.map_cons, List.map_nil, List.getD_cons_zero, List.getD_cons_succ, bare, gslot, List.getElem?_cons_zero, List.getElem?_cons_succ, Option.bind_some]
        repeat' ((try simp only [Act.put, List.setIfInBounds_toArray, List.set_cons_zero, List.set_cons_succ]); first | (refine lexL_on ?_ ?_; focus (simp only [List.getElem?_toArray, List.getElem?_cons_succ, List.getElem?_cons_zero, Bool.not_true, Bool.not_false]; done)) | (refine lexL_off ?_ ?_ ?_; (focus (simp only [List.getElem?_toArray, List.getElem?_cons_succ, List.getElem?_cons_zero, Bool.not_true, Bool.not_false]; done)); (focus (exact (by repeat (first | with_reducible exact Below.refl _ _ | with_reducible assumption | with_reducible refine al ?_ _ | with_reducible refine Below.drew ?_ | with_reducible refine Below.setCell ?_ (by first | (simp; done) | (simp; omega)) _ | with_reducible refine tr ?_ (by with_reducible assumption)))))) | (refine lexL_void ?_ ?_ ?_; (focus (simp only [List.getElem?_toArray, List.getElem?_cons_succ, List.getElem?_cons_zero, Bool.not_true, Bool.not_false]; done)); (focus (exact (by repeat (first | with_reducible exact Below.refl _ _ | with_reducible assumption | with_reducible refine al ?_ _ | with_reducible refine Below.drew ?_ | with_reducible refine Below.setCell ?_ (by first | (simp; done) | (simp; omega)) _ | with_reducible refine tr ?_ (by with_reducible assumption)))))) | (refine lexL_splitS (X := ?_) ?_ ?_ (fun hg => ?_) (fun hg => ?_); rotate_left; (focus (simp only [List.getElem?_toArray, List.getElem?_cons_succ, List.getElem?_cons_zero]; with_reducible rfl)); (focus (exact (by repeat (first | with_reducible exact Below.refl _ _ | with_reducible assumption | with_reducible refine al ?_ _ | with_reducible refine Below.drew ?_ | with_reducible refine Below.setCell ?_ (by first | (simp; done) | (simp; omega)) _ | with_reducible refine tr ?_ (by with_reducible assumption))))); all_goals (try simp only [Bool.not_true, Bool.not_false] at hg)) | (refine lexL_quiet (v := ?_) wantB_none rfl ?_ ?_; rotate_left; focus (intro wq hq; obtain ⟨hcq, hfq⟩ := bcell hq; go_simp; try with_reducible rfl)) | (refine lexL_loud wantB_none rfl (fun K hK => ?_); go_simp; ((first |   fail | skip) <;> (refine hK.out _ _ (by repeat (first | with_reducible exact Below.refl _ _ | with_reducible assumption | with_reducible refine al ?_ _ | with_reducible refine Below.drew ?_ | with_reducible refine Below.setCell ?_ (by first | (simp; done) | (simp; omega)) _ | with_reducible refine tr ?_ (by with_reducible assumption))) ?_; clear hK K))))
        (all_goals try simp only [Act.put, List.setIfInBounds_toArray, List.set_cons_zero, List.set_cons_succ]); all_goals (refine lexL_nil ?_)
        go_wp2
        go_roundw
        case measure => simp [intOf]; omega
        case rel => exact ⟨k + 1, by omega, by go_num, by rw [hmn]; exact two_putP hp, (by repeat (first | with_reducible exact Below.refl _ _ | with_reducible assumption | with_reducible refine al ?_ _ | with_reducible refine Below.drew ?_ | with_reducible refine Below.setCell ?_ (by first | (simp; done) | (simp; omega)) _ | with_reducible refine tr ?_ (by with_reducible assumption)))⟩
      case inr.inl =>
        have hlt' : ltP (pt l k) m = true := (ltP_iff _ _).2 (.inr ⟨e, e2⟩)
        rw [e] at d0
        have HE := Lib.hid e
        clear e
        have hmn : minG (l.take (k + 1)) (pt l 0) = _ := HSn.out
        rw [hlt'] at hmn
        simp only [if_true, Bool.false_eq_true, if_false] at hmn
        clear hlt'
        go_wp2_with fail
        refine wp_region_belowI (by kernel_rfl) (by kernel_rfl) (fun _ _ d _ _ h => by cases d <;> exact h) ?_
        simp only [List.map_cons, List.map_nil, List.getD_cons_zero, List.getD_cons_succ, bare, gslot, List.getElem?_cons_zero, List.getElem?_cons_succ, Option.bind_some]
        repeat' ((try simp only [Act.put, List.setIfInBounds_toArray, List.set_cons_zero, List.set_cons_succ]); first | (refine lexL_on ?_ ?_; focus (simp only [List.getElem?_toArray, List.getElem?_cons_succ, List.getElem?_cons_zero, Bool.not_true, Bool.not_false]; done)) | (refine lexL_off ?_ ?_ ?_; (focus (simp only [List.getElem?_toArray, List.getElem?_cons_succ, List.getElem?_cons_zero, Bool.not_true, Bool.not_false]; done)); (focus (exact (by repeat (first | with_reducible exact Below.refl _ _ | with_reducible assumption | with_reducible refine al ?_ _ | with_reducible refine Below.drew ?_ | with_reducible refine Below.setCell ?_ (by first | (simp; done) | (simp; omega)) _ | with_reducible refine tr ?_ (by with_reducible assumption)))))) | (refine lexL_void ?_ ?_ ?_; (focus (simp only [List.getElem?_toArray, List.getElem?_cons_succ, List.getElem?_cons_zero, Bool.not_true, Bool.not_false]; done)); (focus (exact (by repeat (first | with_reducible exact Below.refl _ _ | with_reducible assumption | with_reducible refine al ?_ _ | with_reducible refine Below.drew ?_ | with_reducible refine Below.setCell ?_ (by first | (simp; done) | (simp; omega)) _ | with_reducible refine tr ?_ (by with_reducible assumption)))))) | (refine lexL_splitS (X := ?_) ?_ ?_ (fun hg => ?_) (fun hg => ?_); rotate_left; (focus (simp only [List.getElem?_toArray, List.getElem?_cons_succ, List.getElem?_cons_zero]; with_reducible rfl)); (focus (exact (by repeat (first | with_reducible exact Below.refl _ _ | with_reducible assumption | with_reducible refine al ?_ _ | with_reducible refine Below.drew ?_ | with_reducible refine Below.setCell ?_ (by first | (simp; done) | (simp; omega)) _ | with_reducible refine tr ?_ (by with_reducible assumption))))); all_goals (try simp only [Bool.not_true, Bool.not_false] at hg)) | (refine lexL_quiet (v := ?_) wantB_none rfl ?_ ?_; rotate_left; focus (intro wq hq; obtain ⟨hcq, hfq⟩ := bcell hq; go_simp; try with_reducible rfl)) | (refine lexL_loud wantB_none rfl (fun K hK => ?_); go_simp; ((first |   fail | skip) <;> (refine hK.out _ _ (by repeat (first | with_reducible exact Below.refl _ _ | with_reducible assumption | with_reducible refine al ?_ _ | with_reducible refine Below.drew ?_ | with_reducible refine Below.setCell ?_ (by first | (simp; done) | (simp; omega)) _ | with_reducible refine tr ?_ (by with_reducible assumption))) ?_; clear hK K))))
        (all_goals try simp only [Act.put, List.setIfInBounds_toArray, List.set_cons_zero, List.set_cons_succ]); all_goals (refine lexL_nil ?_)
        go_wp2
        go_roundw
        case measure => simp [intOf]; omega
        case rel => exact ⟨k + 1, by omega, by go_num, by rw [hmn]; unfold pcells; rw [HE.out]; exact two_putP hp, (by repeat (first | with_reducible exact Below.refl _ _ | with_reducible assumption | with_reducible refine al ?_ _ | with_reducible refine Below.drew ?_ | with_reducible refine Below.setCell ?_ (by first | (simp; done) | (simp; omega)) _ | with_reducible refine tr ?_ (by with_reducible assumption)))⟩
      case inr.inr.inl =>
        have hlt' : ltP (pt l k) m = false := by rw [Bool.eq_false_iff, Ne, ltP_iff]; omega
        rw [e] at d0
        clear e
        have hmn : minG (l.take (k + 1)) (pt l 0) = _ := HSn.out
        rw [hlt'] at hmn
        simp only [if_true, Bool.false_eq_true, if_false] at hmn
        clear hlt'
        go_wp2_with fail
        refine wp_region_belowI (by kernel_rfl) (by kernel_rfl) (fun _ _ d _ _ h => by cases d <;> exact h) ?_
        simp only [List.map_cons, List.map_nil, List.getD_cons_zero, List.getD_cons_succ, bare, gslot, List.getElem?_cons_zero, List.getElem?_cons_succ, Option.bind_some]
        repeat' ((try simp only [Act.put, List.setIfInBounds_toArray, List.set_cons_zero, List.set_cons_succ]); first | (refine lexL_on ?_ ?_; focus (simp only [List.getElem?_toArray, List.getElem?_cons_succ, List.getElem?_cons_zero, Bool.not_true, Bool.not_false]; done)) | (refine lexL_off ?_ ?_ ?_; (focus (simp only [List.getElem?_toArray, List.getElem?_cons_succ, List.getElem?_cons_zero, Bool.not_true, Bool.not_false]; done)); (focus (exact (by repeat (first | with_reducible exact Below.refl _ _ | with_reducible assumption | with_reducible refine al ?_ _ | with_reducible refine Below.drew ?_ | with_reducible refine Below.setCell ?_ (by first | (simp; done) | (simp; omega)) _ | with_reducible refine tr ?_ (by with_reducible assumption)))))) | (refine lexL_void ?_ ?_ ?_; (focus (simp only [List.getElem?_toArray, List.getElem?_cons_succ, List.getElem?_cons_zero, Bool.not_true, Bool.not_false]; done)); (focus (exact (by repeat (first | with_reducible exact Below.refl _ _ | with_reducible assumption | with_reducible refine al ?_ _ | with_reducible refine Below.drew ?_ | with_reducible refine Below.setCell ?_ (by first | (simp; done) | (simp; omega)) _ | with_reducible refine tr ?_ (by with_reducible assumption)))))) | (refine lexL_splitS (X := ?_) ?_ ?_ (fun hg => ?_) (fun hg => ?_); rotate_left; (focus (simp only [List.getElem?_toArray, List.getElem?_cons_succ, List.getElem?_cons_zero]; with_reducible rfl)); (focus (exact (by repeat (first | with_reducible exact Below.refl _ _ | with_reducible assumption | with_reducible refine al ?_ _ | with_reducible refine Below.drew ?_ | with_reducible refine Below.setCell ?_ (by first | (simp; done) | (simp; omega)) _ | with_reducible refine tr ?_ (by with_reducible assumption))))); all_goals (try simp only [Bool.not_true, Bool.not_false] at hg)) | (refine lexL_quiet (v := ?_) wantB_none rfl ?_ ?_; rotate_left; focus (intro wq hq; obtain ⟨hcq, hfq⟩ := bcell hq; go_simp; try with_reducible rfl)) | (refine lexL_loud wantB_none rfl (fun K hK => ?_); go_simp; ((first |   fail | skip) <;> (refine hK.out _ _ (by repeat (first | with_reducible exact Below.refl _ _ | with_reducible assumption | with_reducible refine al ?_ _ | with_reducible refine Below.drew ?_ | with_reducible refine Below.setCell ?_ (by first | (simp; done) | (simp; omega)) _ | with_reducible refine tr ?_ (by with_reducible assumption))) ?_; clear hK K))))
        (all_goals try simp only [Act.put, List.setIfInBounds_toArray, List.set_cons_zero, List.set_cons_succ]); all_goals (refine lexL_nil ?_)
        go_wp2
        go_roundw
        case measure => simp [intOf]; omega
        case rel => exact ⟨k + 1, by omega, by go_num, by rw [hmn]; unfold pcells; exact (by repeat (first | with_reducible assumption | with_reducible exact Blk.new (by simp) rfl | with_reducible refine Blk.alloc ?_ _ | with_reducible refine Blk.drew ?_ | with_reducible refine Blk.far ?_ (by first | (simp; done) | (simp; omega)) _ | with_reducible refine Blk.tr ?_ (by with_reducible assumption))), (by repeat (first | with_reducible exact Below.refl _ _ | with_reducible assumption | with_reducible refine al ?_ _ | with_reducible refine Below.drew ?_ | with_reducible refine Below.setCell ?_ (by first | (simp; done) | (simp; omega)) _ | with_reducible refine tr ?_ (by with_reducible assumption)))⟩
      case inr.inr.inr =>
        have hlt' : ltP (pt l k) m = false := by rw [Bool.eq_false_iff, Ne, ltP_iff]; omega
        have e3 : ((pt l k).x == m.x) = false := by rw [beq_eq_false_iff_ne]; exact e2
        have e4 : decide ((pt l k).x < m.x) = false := decide_eq_false e
        clear e
        have hmn : minG (l.take (k + 1)) (pt l 0) = _ := HSn.out
        rw [hlt'] at hmn
        simp only [if_true, Bool.false_eq_true, if_false] at hmn
        clear hlt'
        go_wp2_with fail
        refine wp_region_belowI (by kernel_rfl) (by kernel_rfl) (fun _ _ d _ _ h => by cases d <;> exact h) ?_
        simp only [List.map_cons, List.map_nil, List.getD_cons_zero, List.getD_cons_succ, bare, gslot, List.getElem?_cons_zero, List.getElem?_cons_succ, Option.bind_some]
        repeat' ((try simp only [Act.put, List.setIfInBounds_toArray, List.set_cons_zero, List.set_cons_succ]); first | (refine lexL_on ?_ ?_; focus (simp only [List.getElem?_toArray, List.getElem?_cons_succ, List.getElem?_cons_zero, Bool.not_true, Bool.not_false]; done)) | (refine lexL_off ?_ ?_ ?_; (focus (simp only [List.getElem?_toArray, List.getElem?_cons_succ, List.getElem?_cons_zero, Bool.not_true, Bool.not_false]; done)); (focus (exact (by repeat (first | with_reducible exact Below.refl _ _ | with_reducible assumption | with_reducible refine al ?_ _ | with_reducible refine Below.drew ?_ | with_reducible refine Below.setCell ?_ (by first | (simp; done) | (simp; omega)) _ | with_reducible refine tr ?_ (by with_reducible assumption)))))) | (refine lexL_void ?_ ?_ ?_; (focus (simp only [List.getElem?_toArray, List.getElem?_cons_succ, List.getElem?_cons_zero, Bool.not_true, Bool.not_false]; done)); (focus (exact (by repeat (first | with_reducible exact Below.refl _ _ | with_reducible assumption | with_reducible refine al ?_ _ | with_reducible refine Below.drew ?_ | with_reducible refine Below.setCell ?_ (by first | (simp; done) | (simp; omega)) _ | with_reducible refine tr ?_ (by with_reducible assumption)))))) | (refine lexL_splitS (X := ?_) ?_ ?_ (fun hg => ?_) (fun hg => ?_); rotate_left; (focus (simp only [List.getElem?_toArray, List.getElem?_cons_succ, List.getElem?_cons_zero]; with_reducible rfl)); (focus (exact (by repeat (first | with_reducible exact Below.refl _ _ | with_reducible assumption | with_reducible refine al ?_ _ | with_reducible refine Below.drew ?_ | with_reducible refine Below.setCell ?_ (by first | (simp; done) | (simp; omega)) _ | with_reducible refine tr ?_ (by with_reducible assumption))))); all_goals (try simp only [Bool.not_true, Bool.not_false] at hg)) | (refine lexL_quiet (v := ?_) wantB_none rfl ?_ ?_; rotate_left; focus (intro wq hq; obtain ⟨hcq, hfq⟩ := bcell hq; go_simp; try with_reducible rfl)) | (refine lexL_loud wantB_none rfl (fun K hK => ?_); go_simp; ((first |   fail | skip) <;> (refine hK.out _ _ (by repeat (first | with_reducible exact Below.refl _ _ | with_reducible assumption | with_reducible refine al ?_ _ | with_reducible refine Below.drew ?_ | with_reducible refine Below.setCell ?_ (by first | (simp; done) | (simp; omega)) _ | with_reducible refine tr ?_ (by with_reducible assumption))) ?_; clear hK K))))
        (all_goals try simp only [Act.put, List.setIfInBounds_toArray, List.set_cons_zero, List.set_cons_succ]); all_goals (refine lexL_nil ?_)
        go_wp2
        go_roundw
        case measure => simp [intOf]; omega
        case rel => exact ⟨k + 1, by omega, by go_num, by rw [hmn]; unfold pcells; exact (by repeat (first | with_reducible assumption | with_reducible exact Blk.new (by simp) rfl | with_reducible refine Blk.alloc ?_ _ | with_reducible refine Blk.drew ?_ | with_reducible refine Blk.far ?_ (by first | (simp; done) | (simp; omega)) _ | with_reducible refine Blk.tr ?_ (by with_reducible assumption))), (by repeat (first | with_reducible exact Below.refl _ _ | with_reducible assumption | with_reducible refine al ?_ _ | with_reducible refine Below.drew ?_ | with_reducible refine Below.setCell ?_ (by first | (simp; done) | (simp; omega)) _ | with_reducible refine tr ?_ (by with_reducible assumption)))⟩
    · obtain rfl : n = k := by omega
      rw [List.take_of_length_le (by omega), HW.out.min] at hp
      clear hlt
      unfold pcells at hp
      have cP := hp.cell
      have fP := hp.frozen
      have lP := hp.lt
      go_wp2
      refine PgG.keep_world (R := fun w3 => w3.ownsRow (GP + 1) 26 2 (.slice (some ⟨wr.heap.size, 0, none⟩) 1 1) 1 (ptcells [pt H 0]) ∧ Blk w3 GP 26 (pcells (pt H 0)) ∧ Below w.heap.size w w3) ⟨own_one (by omega), by unfold pcells; exact (by repeat (first | with_reducible assumption | with_reducible exact Blk.new (by simp) rfl | with_reducible refine Blk.alloc ?_ _ | with_reducible refine Blk.drew ?_ | with_reducible refine Blk.far ?_ (by first | (simp; done) | (simp; omega)) _ | with_reducible refine Blk.tr ?_ (by with_reducible assumption))), (by repeat (first | with_reducible exact Below.refl _ _ | with_reducible assumption | with_reducible refine al ?_ _ | with_reducible refine Below.drew ?_ | with_reducible refine Below.setCell ?_ (by first | (simp; done) | (simp; omega)) _ | with_reducible refine tr ?_ (by with_reducible assumption)))⟩ ?_
      rintro w3 ⟨hown, hp3, hb3⟩
      clear hp cP fP hb
      go_loopw [9] (fun vo wr => ∃ k : Nat, k < nh ∧ wr.ownsRow (GP + 1) 26 2 vo (k + 1) (ptcells (H.take (k + 1))) ∧ Blk wr GP 26 (pcells (pt H 0)) ∧ Below w.heap.size w wr) (fun vo _ => n - lenV vo)
      case atStart => exact ⟨0, by omega, by rw [takeS (by omega)]; exact hown, hp3, hb3⟩
      case round =>
        clear hown hp3 hb3
        obtain ⟨k, hk, hown, hp, hb⟩ := hrel
        obtain ⟨go, co, rfl⟩ := own_pos2 hown (by omega)
        obtain ⟨a0, a1⟩ := own_ptat hown (show k < k + 1 by omega)
        have hgo := (hown.lt go rfl)
        have hptk : pt (H.take (k + 1)) k = pt H k := by
          rw [takeS (by omega)]
          have := pt_app_mid (H.take k) (pt H k) []
          rw [List.length_take, Nat.min_eq_left (by omega)] at this
          exact this
        rw [hptk] at a0 a1
        clear hptk
        have lP := hp.lt
        have hbs := hb.size
        have q1 : ((k : Int) + 1) ≤ (n : Int) := by omega
        go_wp2
        refine PgG.keep_world (R := fun w4 => w4.ownsRow (GP + 1) 26 2 (.slice (some ⟨go, 0, none⟩) (k + 1) co) (k + 1) (ptcells (H.take (k + 1))) ∧ Blk w4 GP 26 (pcells (pt H 0)) ∧ Blk w4 wr.heap.size 26 (pcells (pt H k)) ∧ Blk w4 (wr.heap.size + 1) 26 (pcells (pt H k)) ∧ Below w.heap.size w w4) ⟨(hown.alloc _).alloc _, (hp.alloc _).alloc _, Blk.alloc (Blk.new rfl rfl) _, Blk.new (by simp) rfl, (by repeat (first | with_reducible exact Below.refl _ _ | with_reducible assumption | with_reducible refine al ?_ _ | with_reducible refine Below.drew ?_ | with_reducible refine Below.setCell ?_ (by first | (simp; done) | (simp; omega)) _ | with_reducible refine tr ?_ (by with_reducible assumption)))⟩ ?_
        rintro w4 ⟨hown4, hp4, ha4, hx4, hb4⟩
        obtain ⟨GA, eGA⟩ : ∃ g, wr.heap.size = g := ⟨_, rfl⟩
        rw [eGA] at ha4 hx4 hgo hbs lP ⊢
        clear hown hp hb a0 a1 eGA
        have lx4 := hx4.lt
        have hNX := HW.out.next k (by omega)
        have hoka := HW.out.sub k (by omega)
        obtain ⟨a, ha⟩ : ∃ a, pt H k = a := ⟨_, rfl⟩
        rw [ha] at hx4 ha4 hNX hoka ⊢
        have HNX := Lib.hid hNX
        have HA := Lib.hid ha
        clear hNX ha
        go_loopw [12] (fun vi wr => ∃ i : Nat, i ≤ n ∧ vi = .int .i64 i ∧ okPt (wrapG a (l.take i) a) = true ∧ Blk wr (GA + 1) 26 (pcells (wrapG a (l.take i) a)) ∧ Below (GA + 1) w4 wr) (fun vi _ => n - (intOf vi).toNat)
        case atStart => exact ⟨0, by omega, rfl, hoka, hx4, Below.refl _ _⟩
        case round =>
          clear hx4
          obtain ⟨i, hi2, rfl, okn, hx, hb⟩ := hrel
          have hwB : w.heap.size ≤ GA + 1 := by omega
          have hb0 : Below w.heap.size w wr := hb4.trans (hb.mono hwB)
          by_cases hlt : i < n
          · obtain ⟨d0, d1⟩ := pts_at (HL.out.below (hb0.mono hB)) hlt
            have hi0 : (i : Int) < (n : Int) := by omega
            have okq := HOK.out i hlt
            have hsn : wrapG a (l.take (i + 1)) a = if wrapB a (wrapG a (l.take i) a) (pt l i) then pt l i else wrapG a (l.take i) a := by rw [takeS (by omega), wrapG_snoc]
            generalize wrapG a (l.take i) a = nx at *
            obtain ⟨q, hq⟩ : ∃ q, pt l i = q := ⟨_, rfl⟩
            rw [hq] at d0 d1 okq hsn
            have hA := ha4.below hb (by omega)
            unfold pcells at hA hx
            have cA := hA.cell
            have fA := hA.frozen
            have lA := hA.lt
            have cX := hx.cell
            have fX := hx.frozen
            have lX := hx.lt
            have hbw : b < wr.heap.size := by have := hb0.size; omega
            obtain ⟨x, hxx⟩ : ∃ x, cross a nx q = x := ⟨_, rfl⟩
            have HCr : Hid (∀ W, Calls Tryz.prog 75 #[ptV a.x a.y, ptV nx.x nx.y, ptV q.x q.y] W (Ret W (.int .i64 x))) := fun W => by
              have h := rcross_any a.x a.y nx.x nx.y q.x q.y W
              rw [show cross ⟨a.x, a.y⟩ ⟨nx.x, nx.y⟩ ⟨q.x, q.y⟩ = x from hxx] at h
              exact h
            obtain ⟨x1, x2, x3, hv1⟩ := fV_three (sqP a q)
            obtain ⟨y1, y2, y3, hv2⟩ := fV_three (sqP a nx)
            obtain ⟨C, hC⟩ : ∃ C, cmpF (sqP a q) (sqP a nx) = C := ⟨_, rfl⟩
            have HSa : Hid (∀ W, Calls Tryz.prog 22 #[ptV a.x a.y, ptV q.x q.y] W (Ret W (.agg #[.int .u64 x1, .int .u64 x2, .int .u64 x3]))) := fun W => by
              rw [← hv1]
              exact rsquare_ok a q hoka okq W
            have HSb : Hid (∀ W, Calls Tryz.prog 22 #[ptV a.x a.y, ptV nx.x nx.y] W (Ret W (.agg #[.int .u64 y1, .int .u64 y2, .int .u64 y3]))) := fun W => by
              rw [← hv2]
              exact rsquare_ok a nx hoka okn W
            have HCq : Hid (∀ W, Calls Tryz.prog 24 #[.agg #[.int .u64 x1, .int .u64 x2, .int .u64 x3], .agg #[.int .u64 y1, .int .u64 y2, .int .u64 y3]] W (Ret W (.int .i64 C))) := fun W => by
              have h := rCmpD_any (sqP a q) (sqP a nx) (frok_sq hoka okq) (frok_sq hoka okn) W
              rw [hC, hv1, hv2] at h
              exact h
            have hwB' : wrapB a nx q = (decide (nx = a) || decide (x < 0) || (decide (x = 0) && decide (0 < C))) := by unfold wrapB; rw [hxx, hC]
            have HQ := Lib.hid hq
            clear hv1 hv2 hC hxx hq
            go_wp2_with fail
            refine wp_region_belowI (by kernel_rfl) (by kernel_rfl) (fun _ _ d _ _ h => by cases d <;> exact h) ?_
            simp only [List.map_cons, List.map_nil, List.getD_cons_zero, List.getD_cons_succ, bare, gslot, List.getElem?_cons_zero, List.getElem?_cons_succ, Option.bind_some]
            repeat' ((try simp only [Act.put, List.setIfInBounds_toArray, List.set_cons_zero, List.set_cons_succ]); first | (refine lexL_quiet (v := ?_) wantB_none rfl ?_ ?_; rotate_left; focus (intro wq hq; obtain ⟨hcq, hfq⟩ := bcell hq; go_simp; try with_reducible rfl)) | (refine lexL_loud wantB_none rfl (fun K hK => ?_); go_simp; ((first | (go_at_call 75; (with_reducible refine (HCr.out _).mono ?_); rintro e w9 ⟨rfl, hb9⟩) | skip) <;> (refine hK.out _ _ (by repeat (first | with_reducible exact Below.refl _ _ | with_reducible assumption | with_reducible refine al ?_ _ | with_reducible refine Below.drew ?_ | with_reducible refine Below.setCell ?_ (by first | (simp; done) | (simp; omega)) _ | with_reducible refine tr ?_ (by with_reducible assumption))) ?_; clear hK K))) | (refine lexL_on ?_ ?_; focus (simp only [List.getElem?_toArray, List.getElem?_cons_succ, List.getElem?_cons_zero, Bool.not_true, Bool.not_false]; done)) | (refine lexL_off ?_ ?_ ?_; (focus (simp only [List.getElem?_toArray, List.getElem?_cons_succ, List.getElem?_cons_zero, Bool.not_true, Bool.not_false]; done)); (focus (exact (by repeat (first | with_reducible exact Below.refl _ _ | with_reducible assumption | with_reducible refine al ?_ _ | with_reducible refine Below.drew ?_ | with_reducible refine Below.setCell ?_ (by first | (simp; done) | (simp; omega)) _ | with_reducible refine tr ?_ (by with_reducible assumption)))))) | (refine lexL_splitS (X := ?_) ?_ ?_ (fun hg => ?_) (fun hg => ?_); rotate_left; (focus (simp only [List.getElem?_toArray, List.getElem?_cons_succ, List.getElem?_cons_zero]; with_reducible rfl)); (focus (exact (by repeat (first | with_reducible exact Below.refl _ _ | with_reducible assumption | with_reducible refine al ?_ _ | with_reducible refine Below.drew ?_ | with_reducible refine Below.setCell ?_ (by first | (simp; done) | (simp; omega)) _ | with_reducible refine tr ?_ (by with_reducible assumption))))); all_goals (try simp only [Bool.not_true, Bool.not_false] at hg)))
            (all_goals try simp only [Act.put, List.setIfInBounds_toArray, List.set_cons_zero, List.set_cons_succ]); all_goals (refine lexL_nil ?_)
            refine PgG.keep_world (R := fun w8 => Blk w8 (GA + 1) 26 #[.int .i64 nx.x, .int .i64 nx.y] ∧ Blk w8 GA 26 #[.int .i64 a.x, .int .i64 a.y] ∧ Below wr.heap.size wr w8) ⟨(by repeat (first | with_reducible assumption | with_reducible exact Blk.new (by simp) rfl | with_reducible refine Blk.alloc ?_ _ | with_reducible refine Blk.drew ?_ | with_reducible refine Blk.far ?_ (by first | (simp; done) | (simp; omega)) _ | with_reducible refine Blk.tr ?_ (by with_reducible assumption))), (by repeat (first | with_reducible assumption | with_reducible exact Blk.new (by simp) rfl | with_reducible refine Blk.alloc ?_ _ | with_reducible refine Blk.drew ?_ | with_reducible refine Blk.far ?_ (by first | (simp; done) | (simp; omega)) _ | with_reducible refine Blk.tr ?_ (by with_reducible assumption))), (by repeat (first | with_reducible exact Below.refl _ _ | with_reducible assumption | with_reducible refine al ?_ _ | with_reducible refine Below.drew ?_ | with_reducible refine Below.setCell ?_ (by first | (simp; done) | (simp; omega)) _ | with_reducible refine tr ?_ (by with_reducible assumption)))⟩ ?_
            clear hx hA cA fA lA cX fX d0 d1
            rintro w8 ⟨hx, hA, hb8⟩
            have hb48 : Below (GA + 1) w4 w8 := hb.trans (hb8.mono (Nat.le_of_lt lX))
            have hb08 : Below w.heap.size w w8 := hb0.trans (hb8.mono hb0.size)
            obtain ⟨d0, d1⟩ := pts_at (HL.out.below (hb08.mono hB)) hlt
            rw [HQ.out] at d0 d1
            clear lX hbw hb0 hb hb8
            have cA := hA.cell
            have fA := hA.frozen
            have lA := hA.lt
            have cX := hx.cell
            have fX := hx.frozen
            have lX := hx.lt
            have hbw : b < w8.heap.size := by have := hb08.size; omega
            rcases pt_cases nx a with e | e
            · subst e
              have hwb : wrapB nx nx q = true := by rw [hwB']; simp
              clear hwB'
              go_wp2_with fail
              refine wp_region_below [0, 1, 2, 3, 4, 5, 6, 7, 8, 9, 10, 11, 12, 13, 14, 15, 17, 18, 16, 19, 20, 21, 22, 23] (by kernel_rfl) (by kernel_rfl) (fun _ _ d _ _ h => by cases d <;> exact h) ?_
              simp only [List.map_cons, List.map_nil, List.getD_cons_zero, List.getD_cons_succ, bare, gslot, List.getElem?_cons_zero, List.getElem?_cons_succ, Option.bind_some]
              repeat' ((try simp only [Act.put, List.setIfInBounds_toArray, List.set_cons_zero, List.set_cons_succ]); first | (refine lexL_on ?_ ?_; focus (simp only [List.getElem?_toArray, List.getElem?_cons_succ, List.getElem?_cons_zero, Bool.not_true, Bool.not_false]; done)) | (refine lexL_off ?_ ?_ ?_; (focus (simp only [List.getElem?_toArray, List.getElem?_cons_succ, List.getElem?_cons_zero, Bool.not_true, Bool.not_false]; done)); (focus (exact (by repeat (first | with_reducible exact Below.refl _ _ | with_reducible assumption | with_reducible refine al ?_ _ | with_reducible refine Below.drew ?_ | with_reducible refine Below.setCell ?_ (by first | (simp; done) | (simp; omega)) _ | with_reducible refine tr ?_ (by with_reducible assumption)))))) | (refine lexL_void ?_ ?_ ?_; (focus (simp only [List.getElem?_toArray, List.getElem?_cons_succ, List.getElem?_cons_zero, Bool.not_true, Bool.not_false]; done)); (focus (exact (by repeat (first | with_reducible exact Below.refl _ _ | with_reducible assumption | with_reducible refine al ?_ _ | with_reducible refine Below.drew ?_ | with_reducible refine Below.setCell ?_ (by first | (simp; done) | (simp; omega)) _ | with_reducible refine tr ?_ (by with_reducible assumption)))))) | (refine lexL_splitS (X := ?_) ?_ ?_ (fun hg => ?_) (fun hg => ?_); rotate_left; (focus (simp only [List.getElem?_toArray, List.getElem?_cons_succ, List.getElem?_cons_zero]; with_reducible rfl)); (focus (exact (by repeat (first | with_reducible exact Below.refl _ _ | with_reducible assumption | with_reducible refine al ?_ _ | with_reducible refine Below.drew ?_ | with_reducible refine Below.setCell ?_ (by first | (simp; done) | (simp; omega)) _ | with_reducible refine tr ?_ (by with_reducible assumption))))); all_goals (try simp only [Bool.not_true, Bool.not_false] at hg)) | (refine lexL_quiet (v := ?_) wantB_none rfl ?_ ?_; rotate_left; focus (intro wq hq; obtain ⟨hcq, hfq⟩ := bcell hq; go_simp; try with_reducible rfl)) | (refine lexL_loud wantB_none rfl (fun K hK => ?_); go_simp; ((first |   (go_at_call 22; (with_reducible refine (HSa.out _).mono ?_); rintro e w10 ⟨rfl, hb10⟩; obtain ⟨hc10, hf10⟩ := bcell hb10; have hz10 := hb10.size; (try simp at hz10)) | (go_at_call 22; (with_reducible refine (HSb.out _).mono ?_); rintro e w11 ⟨rfl, hb11⟩; obtain ⟨hc11, hf11⟩ := bcell hb11; have hz11 := hb11.size; (try simp at hz11)) | (go_at_call 24; (with_reducible refine (HCq.out _).mono ?_); rintro e w12 ⟨rfl, hb12⟩; obtain ⟨d2, d3⟩ := pts_at (HL.out.below ((show Below w.heap.size w w12 from (by repeat (first | with_reducible exact Below.refl _ _ | with_reducible assumption | with_reducible refine al ?_ _ | with_reducible refine Below.drew ?_ | with_reducible refine Below.setCell ?_ (by first | (simp; done) | (simp; omega)) _ | with_reducible refine tr ?_ (by with_reducible assumption)))).mono hB)) hlt; rw [HQ.out] at d2 d3; have hx12 : Blk w12 (GA + 1) 26 #[.int .i64 nx.x, .int .i64 nx.y] := (by repeat (first | with_reducible assumption | with_reducible exact Blk.new (by simp) rfl | with_reducible refine Blk.alloc ?_ _ | with_reducible refine Blk.drew ?_ | with_reducible refine Blk.far ?_ (by first | (simp; done) | (simp; omega)) _ | with_reducible refine Blk.tr ?_ (by with_reducible assumption))); have c12 := hx12.cell; have f12 := hx12.frozen; have l12 := hx12.lt; have hb12' : Below (GA + 1) w4 w12 := hb48.trans ((show Below w8.heap.size w8 w12 from (by repeat (first | with_reducible exact Below.refl _ _ | with_reducible assumption | with_reducible refine al ?_ _ | with_reducible refine Below.drew ?_ | with_reducible refine Below.setCell ?_ (by first | (simp; done) | (simp; omega)) _ | with_reducible refine tr ?_ (by with_reducible assumption)))).mono (Nat.le_of_lt lX))) | skip) <;> (refine hK.out _ _ (by repeat (first | with_reducible exact Below.refl _ _ | with_reducible assumption | with_reducible refine al ?_ _ | with_reducible refine Below.drew ?_ | with_reducible refine Below.setCell ?_ (by first | (simp; done) | (simp; omega)) _ | with_reducible refine tr ?_ (by with_reducible assumption))) ?_; clear hK K))))
              (all_goals try simp only [Act.put, List.setIfInBounds_toArray, List.set_cons_zero, List.set_cons_succ]); all_goals (refine lexL_nil ?_)
              go_wp2
              go_roundw
              case measure => simp [intOf]; omega
              case rel => exact ⟨i + 1, by omega, by go_num, by rw [hsn, hwb]; exact okq, by rw [hsn, hwb]; exact two_putP (by repeat (first | with_reducible assumption | with_reducible exact Blk.new (by simp) rfl | with_reducible refine Blk.alloc ?_ _ | with_reducible refine Blk.drew ?_ | with_reducible refine Blk.far ?_ (by first | (simp; done) | (simp; omega)) _ | with_reducible refine Blk.tr ?_ (by with_reducible assumption))), (by repeat (first | with_reducible exact Below.refl _ _ | with_reducible assumption | with_reducible refine al ?_ _ | with_reducible refine Below.drew ?_ | with_reducible refine Below.setCell ?_ (by first | (simp; done) | (simp; omega)) _ | with_reducible refine tr ?_ (by with_reducible assumption)))⟩
            have hne : ¬ nx = a := fun h => by
              subst h
              rcases e with e | ⟨_, e⟩ <;> exact e rfl
            rw [decide_eq_false hne, Bool.false_or] at hwB'
            have hxs : x < 0 ∨ (x = 0 ∧ 0 < C) ∨ (x = 0 ∧ ¬ 0 < C) ∨ 0 < x := by omega
            have HE : ¬ nx.x = a.x ∨ (nx.x = a.x ∧ ¬ nx.y = a.y) := e
            clear e hne
            rcases HE with e | ⟨e, e'⟩
            · have e1 : (nx.x == a.x) = false := by rw [beq_eq_false_iff_ne]; exact e
              clear e
              rcases hxs with g | ⟨rfl, g⟩ | ⟨rfl, g⟩ | g
              · have hwb : wrapB a nx q = true := by rw [hwB', decide_eq_true g]; rfl
                have g1 : decide (x < 0) = true := decide_eq_true g
                clear hwB'
                go_wp2_with fail
                refine wp_region_below [0, 1, 2, 3, 4, 5, 6, 7, 8, 9, 10, 11, 12, 13, 14, 15, 17, 18, 16, 19, 20, 21, 22, 23] (by kernel_rfl) (by kernel_rfl) (fun _ _ d _ _ h => by cases d <;> exact h) ?_
                simp only [List.map_cons, List.map_nil, List.getD_cons_zero, List.getD_cons_succ, bare, gslot, List.getElem?_cons_zero, List.getElem?_cons_succ, Option.bind_some]
                repeat' ((try simp only [Act.put, List.setIfInBounds_toArray, List.set_cons_zero, List.set_cons_succ]); first | (refine lexL_on ?_ ?_; focus (simp only [List.getElem?_toArray, List.getElem?_cons_succ, List.getElem?_cons_zero, Bool.not_true, Bool.not_false]; done)) | (refine lexL_off ?_ ?_ ?_; (focus (simp only [List.getElem?_toArray, List.getElem?_cons_succ, List.getElem?_cons_zero, Bool.not_true, Bool.not_false]; done)); (focus (exact (by repeat (first | with_reducible exact Below.refl _ _ | with_reducible assumption | with_reducible refine al ?_ _ | with_reducible refine Below.drew ?_ | with_reducible refine Below.setCell ?_ (by first | (simp; done) | (simp; omega)) _ | with_reducible refine tr ?_ (by with_reducible assumption)))))) | (refine lexL_void ?_ ?_ ?_; (focus (simp only [List.getElem?_toArray, List.getElem?_cons_succ, List.getElem?_cons_zero, Bool.not_true, Bool.not_false]; done)); (focus (exact (by repeat (first | with_reducible exact Below.refl _ _ | with_reducible assumption | with_reducible refine al ?_ _ | with_reducible refine Below.drew ?_ | with_reducible refine Below.setCell ?_ (by first | (simp; done) | (simp; omega)) _ | with_reducible refine tr ?_ (by with_reducible assumption)))))) | (refine lexL_splitS (X := ?_) ?_ ?_ (fun hg => ?_) (fun hg => ?_); rotate_left; (focus (simp only [List.getElem?_toArray, List.getElem?_cons_succ, List.getElem?_cons_zero]; with_reducible rfl)); (focus (exact (by repeat (first | with_reducible exact Below.refl _ _ | with_reducible assumption | with_reducible refine al ?_ _ | with_reducible refine Below.drew ?_ | with_reducible refine Below.setCell ?_ (by first | (simp; done) | (simp; omega)) _ | with_reducible refine tr ?_ (by with_reducible assumption))))); all_goals (try simp only [Bool.not_true, Bool.not_false] at hg)) | (refine lexL_quiet (v := ?_) wantB_none rfl ?_ ?_; rotate_left; focus (intro wq hq; obtain ⟨hcq, hfq⟩ := bcell hq; go_simp; try with_reducible rfl)) | (refine lexL_loud wantB_none rfl (fun K hK => ?_); go_simp; ((first |   (go_at_call 22; (with_reducible refine (HSa.out _).mono ?_); rintro e w10 ⟨rfl, hb10⟩; obtain ⟨hc10, hf10⟩ := bcell hb10; have hz10 := hb10.size; (try simp at hz10)) | (go_at_call 22; (with_reducible refine (HSb.out _).mono ?_); rintro e w11 ⟨rfl, hb11⟩; obtain ⟨hc11, hf11⟩ := bcell hb11; have hz11 := hb11.size; (try simp at hz11)) | (go_at_call 24; (with_reducible refine (HCq.out _).mono ?_); rintro e w12 ⟨rfl, hb12⟩; obtain ⟨d2, d3⟩ := pts_at (HL.out.below ((show Below w.heap.size w w12 from (by repeat (first | with_reducible exact Below.refl _ _ | with_reducible assumption | with_reducible refine al ?_ _ | with_reducible refine Below.drew ?_ | with_reducible refine Below.setCell ?_ (by first | (simp; done) | (simp; omega)) _ | with_reducible refine tr ?_ (by with_reducible assumption)))).mono hB)) hlt; rw [HQ.out] at d2 d3; have hx12 : Blk w12 (GA + 1) 26 #[.int .i64 nx.x, .int .i64 nx.y] := (by repeat (first | with_reducible assumption | with_reducible exact Blk.new (by simp) rfl | with_reducible refine Blk.alloc ?_ _ | with_reducible refine Blk.drew ?_ | with_reducible refine Blk.far ?_ (by first | (simp; done) | (simp; omega)) _ | with_reducible refine Blk.tr ?_ (by with_reducible assumption))); have c12 := hx12.cell; have f12 := hx12.frozen; have l12 := hx12.lt; have hb12' : Below (GA + 1) w4 w12 := hb48.trans ((show Below w8.heap.size w8 w12 from (by repeat (first | with_reducible exact Below.refl _ _ | with_reducible assumption | with_reducible refine al ?_ _ | with_reducible refine Below.drew ?_ | with_reducible refine Below.setCell ?_ (by first | (simp; done) | (simp; omega)) _ | with_reducible refine tr ?_ (by with_reducible assumption)))).mono (Nat.le_of_lt lX))) | skip) <;> (refine hK.out _ _ (by repeat (first | with_reducible exact Below.refl _ _ | with_reducible assumption | with_reducible refine al ?_ _ | with_reducible refine Below.drew ?_ | with_reducible refine Below.setCell ?_ (by first | (simp; done) | (simp; omega)) _ | with_reducible refine tr ?_ (by with_reducible assumption))) ?_; clear hK K))))
                (all_goals try simp only [Act.put, List.setIfInBounds_toArray, List.set_cons_zero, List.set_cons_succ]); all_goals (refine lexL_nil ?_)
                go_wp2
                go_roundw
                case measure => simp [intOf]; omega
                case rel => exact ⟨i + 1, by omega, by go_num, by rw [hsn, hwb]; exact okq, by rw [hsn, hwb]; exact two_putP (by repeat (first | with_reducible assumption | with_reducible exact Blk.new (by simp) rfl | with_reducible refine Blk.alloc ?_ _ | with_reducible refine Blk.drew ?_ | with_reducible refine Blk.far ?_ (by first | (simp; done) | (simp; omega)) _ | with_reducible refine Blk.tr ?_ (by with_reducible assumption))), (by repeat (first | with_reducible exact Below.refl _ _ | with_reducible assumption | with_reducible refine al ?_ _ | with_reducible refine Below.drew ?_ | with_reducible refine Below.setCell ?_ (by first | (simp; done) | (simp; omega)) _ | with_reducible refine tr ?_ (by with_reducible assumption)))⟩
              · have hwb : wrapB a nx q = true := by rw [hwB', decide_eq_true g]; rfl
                have g1 : decide (0 < C) = true := decide_eq_true g
                clear hwB'
                go_wp2_with fail
                refine wp_region_below [0, 1, 2, 3, 4, 5, 6, 7, 8, 9, 10, 11, 12, 13, 14, 15, 17, 18, 16, 19, 20, 21, 22, 23] (by kernel_rfl) (by kernel_rfl) (fun _ _ d _ _ h => by cases d <;> exact h) ?_
                simp only [List.map_cons, List.map_nil, List.getD_cons_zero, List.getD_cons_succ, bare, gslot, List.getElem?_cons_zero, List.getElem?_cons_succ, Option.bind_some]
                repeat' ((try simp only [Act.put, List.setIfInBounds_toArray, List.set_cons_zero, List.set_cons_succ]); first | (refine lexL_on ?_ ?_; focus (simp only [List.getElem?_toArray, List.getElem?_cons_succ, List.getElem?_cons_zero, Bool.not_true, Bool.not_false]; done)) | (refine lexL_off ?_ ?_ ?_; (focus (simp only [List.getElem?_toArray, List.getElem?_cons_succ, List.getElem?_cons_zero, Bool.not_true, Bool.not_false]; done)); (focus (exact (by repeat (first | with_reducible exact Below.refl _ _ | with_reducible assumption | with_reducible refine al ?_ _ | with_reducible refine Below.drew ?_ | with_reducible refine Below.setCell ?_ (by first | (simp; done) | (simp; omega)) _ | with_reducible refine tr ?_ (by with_reducible assumption)))))) | (refine lexL_void ?_ ?_ ?_; (focus (simp only [List.getElem?_toArray, List.getElem?_cons_succ, List.getElem?_cons_zero, Bool.not_true, Bool.not_false]; done)); (focus (exact (by repeat (first | with_reducible exact Below.refl _ _ | with_reducible assumption | with_reducible refine al ?_ _ | with_reducible refine Below.drew ?_ | with_reducible refine Below.setCell ?_ (by first | (simp; done) | (simp; omega)) _ | with_reducible refine tr ?_ (by with_reducible assumption)))))) | (refine lexL_splitS (X := ?_) ?_ ?_ (fun hg => ?_) (fun hg => ?_); rotate_left; (focus (simp only [List.getElem?_toArray, List.getElem?_cons_succ, List.getElem?_cons_zero]; with_reducible rfl)); (focus (exact (by repeat (first | with_reducible exact Below.refl _ _ | with_reducible assumption | with_reducible refine al ?_ _ | with_reducible refine Below.drew ?_ | with_reducible refine Below.setCell ?_ (by first | (simp; done) | (simp; omega)) _ | with_reducible refine tr ?_ (by with_reducible assumption))))); all_goals (try simp only [Bool.not_true, Bool.not_false] at hg)) | (refine lexL_quiet (v := ?_) wantB_none rfl ?_ ?_; rotate_left; focus (intro wq hq; obtain ⟨hcq, hfq⟩ := bcell hq; go_simp; try with_reducible rfl)) | (refine lexL_loud wantB_none rfl (fun K hK => ?_); go_simp; ((first |   (go_at_call 22; (with_reducible refine (HSa.out _).mono ?_); rintro e w10 ⟨rfl, hb10⟩; obtain ⟨hc10, hf10⟩ := bcell hb10; have hz10 := hb10.size; (try simp at hz10)) | (go_at_call 22; (with_reducible refine (HSb.out _).mono ?_); rintro e w11 ⟨rfl, hb11⟩; obtain ⟨hc11, hf11⟩ := bcell hb11; have hz11 := hb11.size; (try simp at hz11)) | (go_at_call 24; (with_reducible refine (HCq.out _).mono ?_); rintro e w12 ⟨rfl, hb12⟩; obtain ⟨d2, d3⟩ := pts_at (HL.out.below ((show Below w.heap.size w w12 from (by repeat (first | with_reducible exact Below.refl _ _ | with_reducible assumption | with_reducible refine al ?_ _ | with_reducible refine Below.drew ?_ | with_reducible refine Below.setCell ?_ (by first | (simp; done) | (simp; omega)) _ | with_reducible refine tr ?_ (by with_reducible assumption)))).mono hB)) hlt; rw [HQ.out] at d2 d3; have hx12 : Blk w12 (GA + 1) 26 #[.int .i64 nx.x, .int .i64 nx.y] := (by repeat (first | with_reducible assumption | with_reducible exact Blk.new (by simp) rfl | with_reducible refine Blk.alloc ?_ _ | with_reducible refine Blk.drew ?_ | with_reducible refine Blk.far ?_ (by first | (simp; done) | (simp; omega)) _ | with_reducible refine Blk.tr ?_ (by with_reducible assumption))); have c12 := hx12.cell; have f12 := hx12.frozen; have l12 := hx12.lt; have hb12' : Below (GA + 1) w4 w12 := hb48.trans ((show Below w8.heap.size w8 w12 from (by repeat (first | with_reducible exact Below.refl _ _ | with_reducible assumption | with_reducible refine al ?_ _ | with_reducible refine Below.drew ?_ | with_reducible refine Below.setCell ?_ (by first | (simp; done) | (simp; omega)) _ | with_reducible refine tr ?_ (by with_reducible assumption)))).mono (Nat.le_of_lt lX))) | skip) <;> (refine hK.out _ _ (by repeat (first | with_reducible exact Below.refl _ _ | with_reducible assumption | with_reducible refine al ?_ _ | with_reducible refine Below.drew ?_ | with_reducible refine Below.setCell ?_ (by first | (simp; done) | (simp; omega)) _ | with_reducible refine tr ?_ (by with_reducible assumption))) ?_; clear hK K))))
                (all_goals try simp only [Act.put, List.setIfInBounds_toArray, List.set_cons_zero, List.set_cons_succ]); all_goals (refine lexL_nil ?_)
                go_wp2
                go_roundw
                case measure => simp [intOf]; omega
                case rel => exact ⟨i + 1, by omega, by go_num, by rw [hsn, hwb]; exact okq, by rw [hsn, hwb]; exact two_putP (by repeat (first | with_reducible assumption | with_reducible exact Blk.new (by simp) rfl | with_reducible refine Blk.alloc ?_ _ | with_reducible refine Blk.drew ?_ | with_reducible refine Blk.far ?_ (by first | (simp; done) | (simp; omega)) _ | with_reducible refine Blk.tr ?_ (by with_reducible assumption))), (by repeat (first | with_reducible exact Below.refl _ _ | with_reducible assumption | with_reducible refine al ?_ _ | with_reducible refine Below.drew ?_ | with_reducible refine Below.setCell ?_ (by first | (simp; done) | (simp; omega)) _ | with_reducible refine tr ?_ (by with_reducible assumption)))⟩
              · have hwb : wrapB a nx q = false := by rw [hwB', decide_eq_false g]; rfl
                have g1 : decide (0 < C) = false := decide_eq_false g
                clear hwB'
                go_wp2_with fail
                refine wp_region_below [0, 1, 2, 3, 4, 5, 6, 7, 8, 9, 10, 11, 12, 13, 14, 15, 17, 18, 16, 19, 20, 21, 22, 23] (by kernel_rfl) (by kernel_rfl) (fun _ _ d _ _ h => by cases d <;> exact h) ?_
                simp only [List.map_cons, List.map_nil, List.getD_cons_zero, List.getD_cons_succ, bare, gslot, List.getElem?_cons_zero, List.getElem?_cons_succ, Option.bind_some]
                repeat' ((try simp only [Act.put, List.setIfInBounds_toArray, List.set_cons_zero, List.set_cons_succ]); first | (refine lexL_on ?_ ?_; focus (simp only [List.getElem?_toArray, List.getElem?_cons_succ, List.getElem?_cons_zero, Bool.not_true, Bool.not_false]; done)) | (refine lexL_off ?_ ?_ ?_; (focus (simp only [List.getElem?_toArray, List.getElem?_cons_succ, List.getElem?_cons_zero, Bool.not_true, Bool.not_false]; done)); (focus (exact (by repeat (first | with_reducible exact Below.refl _ _ | with_reducible assumption | with_reducible refine al ?_ _ | with_reducible refine Below.drew ?_ | with_reducible refine Below.setCell ?_ (by first | (simp; done) | (simp; omega)) _ | with_reducible refine tr ?_ (by with_reducible assumption)))))) | (refine lexL_void ?_ ?_ ?_; (focus (simp only [List.getElem?_toArray, List.getElem?_cons_succ, List.getElem?_cons_zero, Bool.not_true, Bool.not_false]; done)); (focus (exact (by repeat (first | with_reducible exact Below.refl _ _ | with_reducible assumption | with_reducible refine al ?_ _ | with_reducible refine Below.drew ?_ | with_reducible refine Below.setCell ?_ (by first | (simp; done) | (simp; omega)) _ | with_reducible refine tr ?_ (by with_reducible assumption)))))) | (refine lexL_splitS (X := ?_) ?_ ?_ (fun hg => ?_) (fun hg => ?_); rotate_left; (focus (simp only [List.getElem?_toArray, List.getElem?_cons_succ, List.getElem?_cons_zero]; with_reducible rfl)); (focus (exact (by repeat (first | with_reducible exact Below.refl _ _ | with_reducible assumption | with_reducible refine al ?_ _ | with_reducible refine Below.drew ?_ | with_reducible refine Below.setCell ?_ (by first | (simp; done) | (simp; omega)) _ | with_reducible refine tr ?_ (by with_reducible assumption))))); all_goals (try simp only [Bool.not_true, Bool.not_false] at hg)) | (refine lexL_quiet (v := ?_) wantB_none rfl ?_ ?_; rotate_left; focus (intro wq hq; obtain ⟨hcq, hfq⟩ := bcell hq; go_simp; try with_reducible rfl)) | (refine lexL_loud wantB_none rfl (fun K hK => ?_); go_simp; ((first |   (go_at_call 22; (with_reducible refine (HSa.out _).mono ?_); rintro e w10 ⟨rfl, hb10⟩; obtain ⟨hc10, hf10⟩ := bcell hb10; have hz10 := hb10.size; (try simp at hz10)) | (go_at_call 22; (with_reducible refine (HSb.out _).mono ?_); rintro e w11 ⟨rfl, hb11⟩; obtain ⟨hc11, hf11⟩ := bcell hb11; have hz11 := hb11.size; (try simp at hz11)) | (go_at_call 24; (with_reducible refine (HCq.out _).mono ?_); rintro e w12 ⟨rfl, hb12⟩; obtain ⟨d2, d3⟩ := pts_at (HL.out.below ((show Below w.heap.size w w12 from (by repeat (first | with_reducible exact Below.refl _ _ | with_reducible assumption | with_reducible refine al ?_ _ | with_reducible refine Below.drew ?_ | with_reducible refine Below.setCell ?_ (by first | (simp; done) | (simp; omega)) _ | with_reducible refine tr ?_ (by with_reducible assumption)))).mono hB)) hlt; rw [HQ.out] at d2 d3; have hx12 : Blk w12 (GA + 1) 26 #[.int .i64 nx.x, .int .i64 nx.y] := (by repeat (first | with_reducible assumption | with_reducible exact Blk.new (by simp) rfl | with_reducible refine Blk.alloc ?_ _ | with_reducible refine Blk.drew ?_ | with_reducible refine Blk.far ?_ (by first | (simp; done) | (simp; omega)) _ | with_reducible refine Blk.tr ?_ (by with_reducible assumption))); have c12 := hx12.cell; have f12 := hx12.frozen; have l12 := hx12.lt; have hb12' : Below (GA + 1) w4 w12 := hb48.trans ((show Below w8.heap.size w8 w12 from (by repeat (first | with_reducible exact Below.refl _ _ | with_reducible assumption | with_reducible refine al ?_ _ | with_reducible refine Below.drew ?_ | with_reducible refine Below.setCell ?_ (by first | (simp; done) | (simp; omega)) _ | with_reducible refine tr ?_ (by with_reducible assumption)))).mono (Nat.le_of_lt lX))) | skip) <;> (refine hK.out _ _ (by repeat (first | with_reducible exact Below.refl _ _ | with_reducible assumption | with_reducible refine al ?_ _ | with_reducible refine Below.drew ?_ | with_reducible refine Below.setCell ?_ (by first | (simp; done) | (simp; omega)) _ | with_reducible refine tr ?_ (by with_reducible assumption))) ?_; clear hK K))))
                (all_goals try simp only [Act.put, List.setIfInBounds_toArray, List.set_cons_zero, List.set_cons_succ]); all_goals (refine lexL_nil ?_)
                go_wp2
                go_roundw
                case measure => simp [intOf]; omega
                case rel => exact ⟨i + 1, by omega, by go_num, by rw [hsn, hwb]; exact okn, by rw [hsn, hwb]; simp only [Bool.false_eq_true, if_false]; unfold pcells; exact (by repeat (first | with_reducible assumption | with_reducible exact Blk.new (by simp) rfl | with_reducible refine Blk.alloc ?_ _ | with_reducible refine Blk.drew ?_ | with_reducible refine Blk.far ?_ (by first | (simp; done) | (simp; omega)) _ | with_reducible refine Blk.tr ?_ (by with_reducible assumption))), (by repeat (first | with_reducible exact Below.refl _ _ | with_reducible assumption | with_reducible refine al ?_ _ | with_reducible refine Below.drew ?_ | with_reducible refine Below.setCell ?_ (by first | (simp; done) | (simp; omega)) _ | with_reducible refine tr ?_ (by with_reducible assumption)))⟩
              · have hwb : wrapB a nx q = false := by rw [hwB', decide_eq_false (show ¬ x < 0 by omega), decide_eq_false (show ¬ x = 0 by omega)]; rfl
                have g1 : decide (x < 0) = false := decide_eq_false (by omega)
                have g2 : (x == 0) = false := by rw [beq_eq_false_iff_ne]; omega
                clear hwB'
                go_wp2_with fail
                refine wp_region_below [0, 1, 2, 3, 4, 5, 6, 7, 8, 9, 10, 11, 12, 13, 14, 15, 17, 18, 16, 19, 20, 21, 22, 23] (by kernel_rfl) (by kernel_rfl) (fun _ _ d _ _ h => by cases d <;> exact h) ?_
                simp only [List.map_cons, List.map_nil, List.getD_cons_zero, List.getD_cons_succ, bare, gslot, List.getElem?_cons_zero, List.getElem?_cons_succ, Option.bind_some]
                repeat' ((try simp only [Act.put, List.setIfInBounds_toArray, List.set_cons_zero, List.set_cons_succ]); first | (refine lexL_on ?_ ?_; focus (simp only [List.getElem?_toArray, List.getElem?_cons_succ, List.getElem?_cons_zero, Bool.not_true, Bool.not_false]; done)) | (refine lexL_off ?_ ?_ ?_; (focus (simp only [List.getElem?_toArray, List.getElem?_cons_succ, List.getElem?_cons_zero, Bool.not_true, Bool.not_false]; done)); (focus (exact (by repeat (first | with_reducible exact Below.refl _ _ | with_reducible assumption | with_reducible refine al ?_ _ | with_reducible refine Below.drew ?_ | with_reducible refine Below.setCell ?_ (by first | (simp; done) | (simp; omega)) _ | with_reducible refine tr ?_ (by with_reducible assumption)))))) | (refine lexL_void ?_ ?_ ?_; (focus (simp only [List.getElem?_toArray, List.getElem?_cons_succ, List.getElem?_cons_zero, Bool.not_true, Bool.not_false]; done)); (focus (exact (by repeat (first | with_reducible exact Below.refl _ _ | with_reducible assumption | with_reducible refine al ?_ _ | with_reducible refine Below.drew ?_ | with_reducible refine Below.setCell ?_ (by first | (simp; done) | (simp; omega)) _ | with_reducible refine tr ?_ (by with_reducible assumption)))))) | (refine lexL_splitS (X := ?_) ?_ ?_ (fun hg => ?_) (fun hg => ?_); rotate_left; (focus (simp only [List.getElem?_toArray, List.getElem?_cons_succ, List.getElem?_cons_zero]; with_reducible rfl)); (focus (exact (by repeat (first | with_reducible exact Below.refl _ _ | with_reducible assumption | with_reducible refine al ?_ _ | with_reducible refine Below.drew ?_ | with_reducible refine Below.setCell ?_ (by first | (simp; done) | (simp; omega)) _ | with_reducible refine tr ?_ (by with_reducible assumption))))); all_goals (try simp only [Bool.not_true, Bool.not_false] at hg)) | (refine lexL_quiet (v := ?_) wantB_none rfl ?_ ?_; rotate_left; focus (intro wq hq; obtain ⟨hcq, hfq⟩ := bcell hq; go_simp; try with_reducible rfl)) | (refine lexL_loud wantB_none rfl (fun K hK => ?_); go_simp; ((first |   (go_at_call 22; (with_reducible refine (HSa.out _).mono ?_); rintro e w10 ⟨rfl, hb10⟩; obtain ⟨hc10, hf10⟩ := bcell hb10; have hz10 := hb10.size; (try simp at hz10)) | (go_at_call 22; (with_reducible refine (HSb.out _).mono ?_); rintro e w11 ⟨rfl, hb11⟩; obtain ⟨hc11, hf11⟩ := bcell hb11; have hz11 := hb11.size; (try simp at hz11)) | (go_at_call 24; (with_reducible refine (HCq.out _).mono ?_); rintro e w12 ⟨rfl, hb12⟩; obtain ⟨d2, d3⟩ := pts_at (HL.out.below ((show Below w.heap.size w w12 from (by repeat (first | with_reducible exact Below.refl _ _ | with_reducible assumption | with_reducible refine al ?_ _ | with_reducible refine Below.drew ?_ | with_reducible refine Below.setCell ?_ (by first | (simp; done) | (simp; omega)) _ | with_reducible refine tr ?_ (by with_reducible assumption)))).mono hB)) hlt; rw [HQ.out] at d2 d3; have hx12 : Blk w12 (GA + 1) 26 #[.int .i64 nx.x, .int .i64 nx.y] := (by repeat (first | with_reducible assumption | with_reducible exact Blk.new (by simp) rfl | with_reducible refine Blk.alloc ?_ _ | with_reducible refine Blk.drew ?_ | with_reducible refine Blk.far ?_ (by first | (simp; done) | (simp; omega)) _ | with_reducible refine Blk.tr ?_ (by with_reducible assumption))); have c12 := hx12.cell; have f12 := hx12.frozen; have l12 := hx12.lt; have hb12' : Below (GA + 1) w4 w12 := hb48.trans ((show Below w8.heap.size w8 w12 from (by repeat (first | with_reducible exact Below.refl _ _ | with_reducible assumption | with_reducible refine al ?_ _ | with_reducible refine Below.drew ?_ | with_reducible refine Below.setCell ?_ (by first | (simp; done) | (simp; omega)) _ | with_reducible refine tr ?_ (by with_reducible assumption)))).mono (Nat.le_of_lt lX))) | skip) <;> (refine hK.out _ _ (by repeat (first | with_reducible exact Below.refl _ _ | with_reducible assumption | with_reducible refine al ?_ _ | with_reducible refine Below.drew ?_ | with_reducible refine Below.setCell ?_ (by first | (simp; done) | (simp; omega)) _ | with_reducible refine tr ?_ (by with_reducible assumption))) ?_; clear hK K))))
                (all_goals try simp only [Act.put, List.setIfInBounds_toArray, List.set_cons_zero, List.set_cons_succ]); all_goals (refine lexL_nil ?_)
                go_wp2
                go_roundw
                case measure => simp [intOf]; omega
                case rel => exact ⟨i + 1, by omega, by go_num, by rw [hsn, hwb]; exact okn, by rw [hsn, hwb]; simp only [Bool.false_eq_true, if_false]; unfold pcells; exact (by repeat (first | with_reducible assumption | with_reducible exact Blk.new (by simp) rfl | with_reducible refine Blk.alloc ?_ _ | with_reducible refine Blk.drew ?_ | with_reducible refine Blk.far ?_ (by first | (simp; done) | (simp; omega)) _ | with_reducible refine Blk.tr ?_ (by with_reducible assumption))), (by repeat (first | with_reducible exact Below.refl _ _ | with_reducible assumption | with_reducible refine al ?_ _ | with_reducible refine Below.drew ?_ | with_reducible refine Below.setCell ?_ (by first | (simp; done) | (simp; omega)) _ | with_reducible refine tr ?_ (by with_reducible assumption)))⟩
            · have e1 : (nx.x == a.x) = true := by rw [beq_iff_eq]; exact e
              have e2 : (nx.y == a.y) = false := by rw [beq_eq_false_iff_ne]; exact e'
              clear e e'
              rcases hxs with g | ⟨rfl, g⟩ | ⟨rfl, g⟩ | g
              · have hwb : wrapB a nx q = true := by rw [hwB', decide_eq_true g]; rfl
                have g1 : decide (x < 0) = true := decide_eq_true g
                clear hwB'
                go_wp2_with fail
                refine wp_region_below [0, 1, 2, 3, 4, 5, 6, 7, 8, 9, 10, 11, 12, 13, 14, 15, 17, 18, 16, 19, 20, 21, 22, 23] (by kernel_rfl) (by kernel_rfl) (fun _ _ d _ _ h => by cases d <;> exact h) ?_
                simp only [List.map_cons, List.map_nil, List.getD_cons_zero, List.getD_cons_succ, bare, gslot, List.getElem?_cons_zero, List.getElem?_cons_succ, Option.bind_some]
                repeat' ((try simp only [Act.put, List.setIfInBounds_toArray, List.set_cons_zero, List.set_cons_succ]); first | (refine lexL_on ?_ ?_; focus (simp only [List.getElem?_toArray, List.getElem?_cons_succ, List.getElem?_cons_zero, Bool.not_true, Bool.not_false]; done)) | (refine lexL_off ?_ ?_ ?_; (focus (simp only [List.getElem?_toArray, List.getElem?_cons_succ, List.getElem?_cons_zero, Bool.not_true, Bool.not_false]; done)); (focus (exact (by repeat (first | with_reducible exact Below.refl _ _ | with_reducible assumption | with_reducible refine al ?_ _ | with_reducible refine Below.drew ?_ | with_reducible refine Below.setCell ?_ (by first | (simp; done) | (simp; omega)) _ | with_reducible refine tr ?_ (by with_reducible assumption)))))) | (refine lexL_void ?_ ?_ ?_; (focus (simp only [List.getElem?_toArray, List.getElem?_cons_succ, List.getElem?_cons_zero, Bool.not_true, Bool.not_false]; done)); (focus (exact (by repeat (first | with_reducible exact Below.refl _ _ | with_reducible assumption | with_reducible refine al ?_ _ | with_reducible refine Below.drew ?_ | with_reducible refine Below.setCell ?_ (by first | (simp; done) | (simp; omega)) _ | with_reducible refine tr ?_ (by with_reducible assumption)))))) | (refine lexL_splitS (X := ?_) ?_ ?_ (fun hg => ?_) (fun hg => ?_); rotate_left; (focus (simp only [List.getElem?_toArray, List.getElem?_cons_succ, List.getElem?_cons_zero]; with_reducible rfl)); (focus (exact (by repeat (first | with_reducible exact Below.refl _ _ | with_reducible assumption | with_reducible refine al ?_ _ | with_reducible refine Below.drew ?_ | with_reducible refine Below.setCell ?_ (by first | (simp; done) | (simp; omega)) _ | with_reducible refine tr ?_ (by with_reducible assumption))))); all_goals (try simp only [Bool.not_true, Bool.not_false] at hg)) | (refine lexL_quiet (v := ?_) wantB_none rfl ?_ ?_; rotate_left; focus (intro wq hq; obtain ⟨hcq, hfq⟩ := bcell hq; go_simp; try with_reducible rfl)) | (refine lexL_loud wantB_none rfl (fun K hK => ?_); go_simp; ((first |   (go_at_call 22; (with_reducible refine (HSa.out _).mono ?_); rintro e w10 ⟨rfl, hb10⟩; obtain ⟨hc10, hf10⟩ := bcell hb10; have hz10 := hb10.size; (try simp at hz10)) | (go_at_call 22; (with_reducible refine (HSb.out _).mono ?_); rintro e w11 ⟨rfl, hb11⟩; obtain ⟨hc11, hf11⟩ := bcell hb11; have hz11 := hb11.size; (try simp at hz11)) | (go_at_call 24; (with_reducible refine (HCq.out _).mono ?_); rintro e w12 ⟨rfl, hb12⟩; obtain ⟨d2, d3⟩ := pts_at (HL.out.below ((show Below w.heap.size w w12 from (by repeat (first | with_reducible exact Below.refl _ _ | with_reducible assumption | with_reducible refine al ?_ _ | with_reducible refine Below.drew ?_ | with_reducible refine Below.setCell ?_ (by first | (simp; done) | (simp; omega)) _ | with_reducible refine tr ?_ (by with_reducible assumption)))).mono hB)) hlt; rw [HQ.out] at d2 d3; have hx12 : Blk w12 (GA + 1) 26 #[.int .i64 nx.x, .int .i64 nx.y] := (by repeat (first | with_reducible assumption | with_reducible exact Blk.new (by simp) rfl | with_reducible refine Blk.alloc ?_ _ | with_reducible refine Blk.drew ?_ | with_reducible refine Blk.far ?_ (by first | (simp; done) | (simp; omega)) _ | with_reducible refine Blk.tr ?_ (by with_reducible assumption))); have c12 := hx12.cell; have f12 := hx12.frozen; have l12 := hx12.lt; have hb12' : Below (GA + 1) w4 w12 := hb48.trans ((show Below w8.heap.size w8 w12 from (by repeat (first | with_reducible exact Below.refl _ _ | with_reducible assumption | with_reducible refine al ?_ _ | with_reducible refine Below.drew ?_ | with_reducible refine Below.setCell ?_ (by first | (simp; done) | (simp; omega)) _ | with_reducible refine tr ?_ (by with_reducible assumption)))).mono (Nat.le_of_lt lX))) | skip) <;> (refine hK.out _ _ (by repeat (first | with_reducible exact Below.refl _ _ | with_reducible assumption | with_reducible refine al ?_ _ | with_reducible refine Below.drew ?_ | with_reducible refine Below.setCell ?_ (by first | (simp; done) | (simp; omega)) _ | with_reducible refine tr ?_ (by with_reducible assumption))) ?_; clear hK K))))
                (all_goals try simp only [Act.put, List.setIfInBounds_toArray, List.set_cons_zero, List.set_cons_succ]); all_goals (refine lexL_nil ?_)
                go_wp2
                go_roundw
                case measure => simp [intOf]; omega
                case rel => exact ⟨i + 1, by omega, by go_num, by rw [hsn, hwb]; exact okq, by rw [hsn, hwb]; exact two_putP (by repeat (first | with_reducible assumption | with_reducible exact Blk.new (by simp) rfl | with_reducible refine Blk.alloc ?_ _ | with_reducible refine Blk.drew ?_ | with_reducible refine Blk.far ?_ (by first | (simp; done) | (simp; omega)) _ | with_reducible refine Blk.tr ?_ (by with_reducible assumption))), (by repeat (first | with_reducible exact Below.refl _ _ | with_reducible assumption | with_reducible refine al ?_ _ | with_reducible refine Below.drew ?_ | with_reducible refine Below.setCell ?_ (by first | (simp; done) | (simp; omega)) _ | with_reducible refine tr ?_ (by with_reducible assumption)))⟩
              · have hwb : wrapB a nx q = true := by rw [hwB', decide_eq_true g]; rfl
                have g1 : decide (0 < C) = true := decide_eq_true g
                clear hwB'
                go_wp2_with fail
                refine wp_region_below [0, 1, 2, 3, 4, 5, 6, 7, 8, 9, 10, 11, 12, 13, 14, 15, 17, 18, 16, 19, 20, 21, 22, 23] (by kernel_rfl) (by kernel_rfl) (fun _ _ d _ _ h => by cases d <;> exact h) ?_
                simp only [List.map_cons, List.map_nil, List.getD_cons_zero, List.getD_cons_succ, bare, gslot, List.getElem?_cons_zero, List.getElem?_cons_succ, Option.bind_some]
                repeat' ((try simp only [Act.put, List.setIfInBounds_toArray, List.set_cons_zero, List.set_cons_succ]); first | (refine lexL_on ?_ ?_; focus (simp only [List.getElem?_toArray, List.getElem?_cons_succ, List.getElem?_cons_zero, Bool.not_true, Bool.not_false]; done)) | (refine lexL_off ?_ ?_ ?_; (focus (simp only [List.getElem?_toArray, List.getElem?_cons_succ, List.getElem?_cons_zero, Bool.not_true, Bool.not_false]; done)); (focus (exact (by repeat (first | with_reducible exact Below.refl _ _ | with_reducible assumption | with_reducible refine al ?_ _ | with_reducible refine Below.drew ?_ | with_reducible refine Below.setCell ?_ (by first | (simp; done) | (simp; omega)) _ | with_reducible refine tr ?_ (by with_reducible assumption)))))) | (refine lexL_void ?_ ?_ ?_; (focus (simp only [List.getElem?_toArray, List.getElem?_cons_succ, List.getElem?_cons_zero, Bool.not_true, Bool.not_false]; done)); (focus (exact (by repeat (first | with_reducible exact Below.refl _ _ | with_reducible assumption | with_reducible refine al ?_ _ | with_reducible refine Below.drew ?_ | with_reducible refine Below.setCell ?_ (by first | (simp; done) | (simp; omega)) _ | with_reducible refine tr ?_ (by with_reducible assumption)))))) | (refine lexL_splitS (X := ?_) ?_ ?_ (fun hg => ?_) (fun hg => ?_); rotate_left; (focus (simp only [List.getElem?_toArray, List.getElem?_cons_succ, List.getElem?_cons_zero]; with_reducible rfl)); (focus (exact (by repeat (first | with_reducible exact Below.refl _ _ | with_reducible assumption | with_reducible refine al ?_ _ | with_reducible refine Below.drew ?_ | with_reducible refine Below.setCell ?_ (by first | (simp; done) | (simp; omega)) _ | with_reducible refine tr ?_ (by with_reducible assumption))))); all_goals (try simp only [Bool.not_true, Bool.not_false] at hg)) | (refine lexL_quiet (v := ?_) wantB_none rfl ?_ ?_; rotate_left; focus (intro wq hq; obtain ⟨hcq, hfq⟩ := bcell hq; go_simp; try with_reducible rfl)) | (refine lexL_loud wantB_none rfl (fun K hK => ?_); go_simp; ((first |   (go_at_call 22; (with_reducible refine (HSa.out _).mono ?_); rintro e w10 ⟨rfl, hb10⟩; obtain ⟨hc10, hf10⟩ := bcell hb10; have hz10 := hb10.size; (try simp at hz10)) | (go_at_call 22; (with_reducible refine (HSb.out _).mono ?_); rintro e w11 ⟨rfl, hb11⟩; obtain ⟨hc11, hf11⟩ := bcell hb11; have hz11 := hb11.size; (try simp at hz11)) | (go_at_call 24; (with_reducible refine (HCq.out _).mono ?_); rintro e w12 ⟨rfl, hb12⟩; obtain ⟨d2, d3⟩ := pts_at (HL.out.below ((show Below w.heap.size w w12 from (by repeat (first | with_reducible exact Below.refl _ _ | with_reducible assumption | with_reducible refine al ?_ _ | with_reducible refine Below.drew ?_ | with_reducible refine Below.setCell ?_ (by first | (simp; done) | (simp; omega)) _ | with_reducible refine tr ?_ (by with_reducible assumption)))).mono hB)) hlt; rw [HQ.out] at d2 d3; have hx12 : Blk w12 (GA + 1) 26 #[.int .i64 nx.x, .int .i64 nx.y] := (by repeat (first | with_reducible assumption | with_reducible exact Blk.new (by simp) rfl | with_reducible refine Blk.alloc ?_ _ | with_reducible refine Blk.drew ?_ | with_reducible refine Blk.far ?_ (by first | (simp; done) | (simp; omega)) _ | with_reducible refine Blk.tr ?_ (by with_reducible assumption))); have c12 := hx12.cell; have f12 := hx12.frozen; have l12 := hx12.lt; have hb12' : Below (GA + 1) w4 w12 := hb48.trans ((show Below w8.heap.size w8 w12 from (by repeat (first | with_reducible exact Below.refl _ _ | with_reducible assumption | with_reducible refine al ?_ _ | with_reducible refine Below.drew ?_ | with_reducible refine Below.setCell ?_ (by first | (simp; done) | (simp; omega)) _ | with_reducible refine tr ?_ (by with_reducible assumption)))).mono (Nat.le_of_lt lX))) | skip) <;> (refine hK.out _ _ (by repeat (first | with_reducible exact Below.refl _ _ | with_reducible assumption | with_reducible refine al ?_ _ | with_reducible refine Below.drew ?_ | with_reducible refine Below.setCell ?_ (by first | (simp; done) | (simp; omega)) _ | with_reducible refine tr ?_ (by with_reducible assumption))) ?_; clear hK K))))
                (all_goals try simp only [Act.put, List.setIfInBounds_toArray, List.set_cons_zero, List.set_cons_succ]); all_goals (refine lexL_nil ?_)
                go_wp2
                go_roundw
                case measure => simp [intOf]; omega
                case rel => exact ⟨i + 1, by omega, by go_num, by rw [hsn, hwb]; exact okq, by rw [hsn, hwb]; exact two_putP (by repeat (first | with_reducible assumption | with_reducible exact Blk.new (by simp) rfl | with_reducible refine Blk.alloc ?_ _ | with_reducible refine Blk.drew ?_ | with_reducible refine Blk.far ?_ (by first | (simp; done) | (simp; omega)) _ | with_reducible refine Blk.tr ?_ (by with_reducible assumption))), (by repeat (first | with_reducible exact Below.refl _ _ | with_reducible assumption | with_reducible refine al ?_ _ | with_reducible refine Below.drew ?_ | with_reducible refine Below.setCell ?_ (by first | (simp; done) | (simp; omega)) _ | with_reducible refine tr ?_ (by with_reducible assumption)))⟩
              · have hwb : wrapB a nx q = false := by rw [hwB', decide_eq_false g]; rfl
                have g1 : decide (0 < C) = false := decide_eq_false g
                clear hwB'
                go_wp2_with fail
                refine wp_region_below [0, 1, 2, 3, 4, 5, 6, 7, 8, 9, 10, 11, 12, 13, 14, 15, 17, 18, 16, 19, 20, 21, 22, 23] (by kernel_rfl) (by kernel_rfl) (fun _ _ d _ _ h => by cases d <;> exact h) ?_
                simp only [List.map_cons, List.map_nil, List.getD_cons_zero, List.getD_cons_succ, bare, gslot, List.getElem?_cons_zero, List.getElem?_cons_succ, Option.bind_some]
                repeat' ((try simp only [Act.put, List.setIfInBounds_toArray, List.set_cons_zero, List.set_cons_succ]); first | (refine lexL_on ?_ ?_; focus (simp only [List.getElem?_toArray, List.getElem?_cons_succ, List.getElem?_cons_zero, Bool.not_true, Bool.not_false]; done)) | (refine lexL_off ?_ ?_ ?_; (focus (simp only [List.getElem?_toArray, List.getElem?_cons_succ, List.getElem?_cons_zero, Bool.not_true, Bool.not_false]; done)); (focus (exact (by repeat (first | with_reducible exact Below.refl _ _ | with_reducible assumption | with_reducible refine al ?_ _ | with_reducible refine Below.drew ?_ | with_reducible refine Below.setCell ?_ (by first | (simp; done) | (simp; omega)) _ | with_reducible refine tr ?_ (by with_reducible assumption)))))) | (refine lexL_void ?_ ?_ ?_; (focus (simp only [List.getElem?_toArray, List.getElem?_cons_succ, List.getElem?_cons_zero, Bool.not_true, Bool.not_false]; done)); (focus (exact (by repeat (first | with_reducible exact Below.refl _ _ | with_reducible assumption | with_reducible refine al ?_ _ | with_reducible refine Below.drew ?_ | with_reducible refine Below.setCell ?_ (by first | (simp; done) | (simp; omega)) _ | with_reducible refine tr ?_ (by with_reducible assumption)))))) | (refine lexL_splitS (X := ?_) ?_ ?_ (fun hg => ?_) (fun hg => ?_); rotate_left; (focus (simp only [List.getElem?_toArray, List.getElem?_cons_succ, List.getElem?_cons_zero]; with_reducible rfl)); (focus (exact (by repeat (first | with_reducible exact Below.refl _ _ | with_reducible assumption | with_reducible refine al ?_ _ | with_reducible refine Below.drew ?_ | with_reducible refine Below.setCell ?_ (by first | (simp; done) | (simp; omega)) _ | with_reducible refine tr ?_ (by with_reducible assumption))))); all_goals (try simp only [Bool.not_true, Bool.not_false] at hg)) | (refine lexL_quiet (v := ?_) wantB_none rfl ?_ ?_; rotate_left; focus (intro wq hq; obtain ⟨hcq, hfq⟩ := bcell hq; go_simp; try with_reducible rfl)) | (refine lexL_loud wantB_none rfl (fun K hK => ?_); go_simp; ((first |   (go_at_call 22; (with_reducible refine (HSa.out _).mono ?_); rintro e w10 ⟨rfl, hb10⟩; obtain ⟨hc10, hf10⟩ := bcell hb10; have hz10 := hb10.size; (try simp at hz10)) | (go_at_call 22; (with_reducible refine (HSb.out _).mono ?_); rintro e w11 ⟨rfl, hb11⟩; obtain ⟨hc11, hf11⟩ := bcell hb11; have hz11 := hb11.size; (try simp at hz11)) | (go_at_call 24; (with_reducible refine (HCq.out _).mono ?_); rintro e w12 ⟨rfl, hb12⟩; obtain ⟨d2, d3⟩ := pts_at (HL.out.below ((show Below w.heap.size w w12 from (by repeat (first | with_reducible exact Below.refl _ _ | with_reducible assumption | with_reducible refine al ?_ _ | with_reducible refine Below.drew ?_ | with_reducible refine Below.setCell ?_ (by first | (simp; done) | (simp; omega)) _ | with_reducible refine tr ?_ (by with_reducible assumption)))).mono hB)) hlt; rw [HQ.out] at d2 d3; have hx12 : Blk w12 (GA + 1) 26 #[.int .i64 nx.x, .int .i64 nx.y] := (by repeat (first | with_reducible assumption | with_reducible exact Blk.new (by simp) rfl | with_reducible refine Blk.alloc ?_ _ | with_reducible refine Blk.drew ?_ | with_reducible refine Blk.far ?_ (by first | (simp; done) | (simp; omega)) _ | with_reducible refine Blk.tr ?_ (by with_reducible assumption))); have c12 := hx12.cell; have f12 := hx12.frozen; have l12 := hx12.lt; have hb12' : Below (GA + 1) w4 w12 := hb48.trans ((show Below w8.heap.size w8 w12 from (by repeat (first | with_reducible exact Below.refl _ _ | with_reducible assumption | with_reducible refine al ?_ _ | with_reducible refine Below.drew ?_ | with_reducible refine Below.setCell ?_ (by first | (simp; done) | (simp; omega)) _ | with_reducible refine tr ?_ (by with_reducible assumption)))).mono (Nat.le_of_lt lX))) | skip) <;> (refine hK.out _ _ (by repeat (first | with_reducible exact Below.refl _ _ | with_reducible assumption | with_reducible refine al ?_ _ | with_reducible refine Below.drew ?_ | with_reducible refine Below.setCell ?_ (by first | (simp; done) | (simp; omega)) _ | with_reducible refine tr ?_ (by with_reducible assumption))) ?_; clear hK K))))
                (all_goals try simp only [Act.put, List.setIfInBounds_toArray, List.set_cons_zero, List.set_cons_succ]); all_goals (refine lexL_nil ?_)
                go_wp2
                go_roundw
                case measure => simp [intOf]; omega
                case rel => exact ⟨i + 1, by omega, by go_num, by rw [hsn, hwb]; exact okn, by rw [hsn, hwb]; simp only [Bool.false_eq_true, if_false]; unfold pcells; exact (by repeat (first | with_reducible assumption | with_reducible exact Blk.new (by simp) rfl | with_reducible refine Blk.alloc ?_ _ | with_reducible refine Blk.drew ?_ | with_reducible refine Blk.far ?_ (by first | (simp; done) | (simp; omega)) _ | with_reducible refine Blk.tr ?_ (by with_reducible assumption))), (by repeat (first | with_reducible exact Below.refl _ _ | with_reducible assumption | with_reducible refine al ?_ _ | with_reducible refine Below.drew ?_ | with_reducible refine Below.setCell ?_ (by first | (simp; done) | (simp; omega)) _ | with_reducible refine tr ?_ (by with_reducible assumption)))⟩
              · have hwb : wrapB a nx q = false := by rw [hwB', decide_eq_false (show ¬ x < 0 by omega), decide_eq_false (show ¬ x = 0 by omega)]; rfl
                have g1 : decide (x < 0) = false := decide_eq_false (by omega)
                have g2 : (x == 0) = false := by rw [beq_eq_false_iff_ne]; omega
                clear hwB'
                go_wp2_with fail
                refine wp_region_below [0, 1, 2, 3, 4, 5, 6, 7, 8, 9, 10, 11, 12, 13, 14, 15, 17, 18, 16, 19, 20, 21, 22, 23] (by kernel_rfl) (by kernel_rfl) (fun _ _ d _ _ h => by cases d <;> exact h) ?_
                simp only [List.map_cons, List.map_nil, List.getD_cons_zero, List.getD_cons_succ, bare, gslot, List.getElem?_cons_zero, List.getElem?_cons_succ, Option.bind_some]
                repeat' ((try simp only [Act.put, List.setIfInBounds_toArray, List.set_cons_zero, List.set_cons_succ]); first | (refine lexL_on ?_ ?_; focus (simp only [List.getElem?_toArray, List.getElem?_cons_succ, List.getElem?_cons_zero, Bool.not_true, Bool.not_false]; done)) | (refine lexL_off ?_ ?_ ?_; (focus (simp only [List.getElem?_toArray, List.getElem?_cons_succ, List.getElem?_cons_zero, Bool.not_true, Bool.not_false]; done)); (focus (exact (by repeat (first | with_reducible exact Below.refl _ _ | with_reducible assumption | with_reducible refine al ?_ _ | with_reducible refine Below.drew ?_ | with_reducible refine Below.setCell ?_ (by first | (simp; done) | (simp; omega)) _ | with_reducible refine tr ?_ (by with_reducible assumption)))))) | (refine lexL_void ?_ ?_ ?_; (focus (simp only [List.getElem?_toArray, List.getElem?_cons_succ, List.getElem?_cons_zero, Bool.not_true, Bool.not_false]; done)); (focus (exact (by repeat (first | with_reducible exact Below.refl _ _ | with_reducible assumption | with_reducible refine al ?_ _ | with_reducible refine Below.drew ?_ | with_reducible refine Below.setCell ?_ (by first | (simp; done) | (simp; omega)) _ | with_reducible refine tr ?_ (by with_reducible assumption)))))) | (refine lexL_splitS (X := ?_) ?_ ?_ (fun hg => ?_) (fun hg => ?_); rotate_left; (focus (simp only [List.getElem?_toArray, List.getElem?_cons_succ, List.getElem?_cons_zero]; with_reducible rfl)); (focus (exact (by repeat (first | with_reducible exact Below.refl _ _ | with_reducible assumption | with_reducible refine al ?_ _ | with_reducible refine Below.drew ?_ | with_reducible refine Below.setCell ?_ (by first | (simp; done) | (simp; omega)) _ | with_reducible refine tr ?_ (by with_reducible assumption))))); all_goals (try simp only [Bool.not_true, Bool.not_false] at hg)) | (refine lexL_quiet (v := ?_) wantB_none rfl ?_ ?_; rotate_left; focus (intro wq hq; obtain ⟨hcq, hfq⟩ := bcell hq; go_simp; try with_reducible rfl)) | (refine lexL_loud wantB_none rfl (fun K hK => ?_); go_simp; ((first |   (go_at_call 22; (with_reducible refine (HSa.out _).mono ?_); rintro e w10 ⟨rfl, hb10⟩; obtain ⟨hc10, hf10⟩ := bcell hb10; have hz10 := hb10.size; (try simp at hz10)) | (go_at_call 22; (with_reducible refine (HSb.out _).mono ?_); rintro e w11 ⟨rfl, hb11⟩; obtain ⟨hc11, hf11⟩ := bcell hb11; have hz11 := hb11.size; (try simp at hz11)) | (go_at_call 24; (with_reducible refine (HCq.out _).mono ?_); rintro e w12 ⟨rfl, hb12⟩; obtain ⟨d2, d3⟩ := pts_at (HL.out.below ((show Below w.heap.size w w12 from (by repeat (first | with_reducible exact Below.refl _ _ | with_reducible assumption | with_reducible refine al ?_ _ | with_reducible refine Below.drew ?_ | with_reducible refine Below.setCell ?_ (by first | (simp; done) | (simp; omega)) _ | with_reducible refine tr ?_ (by with_reducible assumption)))).mono hB)) hlt; rw [HQ.out] at d2 d3; have hx12 : Blk w12 (GA + 1) 26 #[.int .i64 nx.x, .int .i64 nx.y] := (by repeat (first | with_reducible assumption | with_reducible exact Blk.new (by simp) rfl | with_reducible refine Blk.alloc ?_ _ | with_reducible refine Blk.drew ?_ | with_reducible refine Blk.far ?_ (by first | (simp; done) | (simp; omega)) _ | with_reducible refine Blk.tr ?_ (by with_reducible assumption))); have c12 := hx12.cell; have f12 := hx12.frozen; have l12 := hx12.lt; have hb12' : Below (GA + 1) w4 w12 := hb48.trans ((show Below w8.heap.size w8 w12 from (by repeat (first | with_reducible exact Below.refl _ _ | with_reducible assumption | with_reducible refine al ?_ _ | with_reducible refine Below.drew ?_ | with_reducible refine Below.setCell ?_ (by first | (simp; done) | (simp; omega)) _ | with_reducible refine tr ?_ (by with_reducible assumption)))).mono (Nat.le_of_lt lX))) | skip) <;> (refine hK.out _ _ (by repeat (first | with_reducible exact Below.refl _ _ | with_reducible assumption | with_reducible refine al ?_ _ | with_reducible refine Below.drew ?_ | with_reducible refine Below.setCell ?_ (by first | (simp; done) | (simp; omega)) _ | with_reducible refine tr ?_ (by with_reducible assumption))) ?_; clear hK K))))
                (all_goals try simp only [Act.put, List.setIfInBounds_toArray, List.set_cons_zero, List.set_cons_succ]); all_goals (refine lexL_nil ?_)
                go_wp2
                go_roundw
                case measure => simp [intOf]; omega
                case rel => exact ⟨i + 1, by omega, by go_num, by rw [hsn, hwb]; exact okn, by rw [hsn, hwb]; simp only [Bool.false_eq_true, if_false]; unfold pcells; exact (by repeat (first | with_reducible assumption | with_reducible exact Blk.new (by simp) rfl | with_reducible refine Blk.alloc ?_ _ | with_reducible refine Blk.drew ?_ | with_reducible refine Blk.far ?_ (by first | (simp; done) | (simp; omega)) _ | with_reducible refine Blk.tr ?_ (by with_reducible assumption))), (by repeat (first | with_reducible exact Below.refl _ _ | with_reducible assumption | with_reducible refine al ?_ _ | with_reducible refine Below.drew ?_ | with_reducible refine Below.setCell ?_ (by first | (simp; done) | (simp; omega)) _ | with_reducible refine tr ?_ (by with_reducible assumption)))⟩
          · obtain rfl : n = i := by omega
            rw [List.take_of_length_le (by omega), HNX.out] at hx okn
            have hown5 : wr.ownsRow (GP + 1) 26 2 (.slice (some ⟨go, 0, none⟩) (k + 1) co) (k + 1) (ptcells (H.take (k + 1))) := own_frame hown4 (hb.block go (by omega))
            have hp5 := hp4.below hb (by omega)
            have hA5 := ha4.below hb (by omega)
            have lX := hx.lt
            clear hlt HNX
            by_cases hlast : k + 1 = nh
            · have em : (k + 1) % H.length = 0 := by rw [hnh, hlast, Nat.mod_self]
              have hH2 : H.take (k + 1) = H := List.take_of_length_le (by omega)
              rw [em] at hx
              rw [hH2] at hown5
              have hown6 := ownB_baseP hown5 (show w.heap.size ≤ GP + 1 by omega)
              unfold pcells at hx hp5 hA5
              have cA := hA5.cell
              have cX := hx.cell
              have cP := hp5.cell
              have lA := hA5.lt
              have lP5 := hp5.lt
              have hbw5 : Below w.heap.size w wr := hb4.trans (hb.mono hwB)
              rw [hlast] at hown6
              go_wp2
              exact bodyPost_ret (v := .tuple #[.slice (some ⟨go, 0, none⟩) (k + 1) co, .int .i64 0, .int .i64 0]) (by simp [results, Tryz.results25, go_sem]) rfl ⟨_, rfl, fun h => absurd rfl h, fun _ => by rw [hlast]; exact hown6, hbw5⟩
            · have em : (k + 1) % H.length = k + 1 := Nat.mod_eq_of_lt (by omega)
              rw [em] at hx okn
              have hn0 := HW.out.nodup (k + 1) 0 (by omega) (by omega) (by omega)
              have hnk := HW.out.nodup (k + 1) k (by omega) (by omega) (by omega)
              rw [HA.out] at hnk
              have hsn := takeS (l := H) (k := k + 1) (by omega)
              have hcs : ptcells (H.take (k + 1 + 1)) = ptcells (H.take (k + 1)) ++ [.int .i64 (pt H (k + 1)).x, .int .i64 (pt H (k + 1)).y] := by rw [hsn, ptcells_snoc]
              have HCS := Lib.hid hcs
              have hbw5 : Below w.heap.size w wr := hb4.trans (hb.mono hwB)
              clear hsn hcs
              generalize pt H (k + 1) = p at *
              have g1 : ((p.x == (pt H 0).x) = false) ∨ ((p.x == (pt H 0).x) = true ∧ (p.y == (pt H 0).y) = false) := by
                rcases pt_cases p (pt H 0) with e | e | ⟨e, e'⟩
                · exact absurd e hn0
                · exact .inl (by rw [beq_eq_false_iff_ne]; exact e)
                · exact .inr ⟨by rw [beq_iff_eq]; exact e, by rw [beq_eq_false_iff_ne]; exact e'⟩
              have g2 : ((p.x == a.x) = false) ∨ ((p.x == a.x) = true ∧ (p.y == a.y) = false) := by
                rcases pt_cases p a with e | e | ⟨e, e'⟩
                · exact absurd e hnk
                · exact .inl (by rw [beq_eq_false_iff_ne]; exact e)
                · exact .inr ⟨by rw [beq_iff_eq]; exact e, by rw [beq_eq_false_iff_ne]; exact e'⟩
              unfold pcells at hx hp5 hA5
              have cA := hA5.cell
              have cX := hx.cell
              have cP := hp5.cell
              have lA := hA5.lt
              have lP5 := hp5.lt
              have hGPw : GP + 1 ≤ wr.heap.size := by omega
              clear hn0 hnk hown4 hp4 ha4 hb4
              rcases g1 with g1 | ⟨g1, g1'⟩ <;> rcases g2 with g2 | ⟨g2, g2'⟩
              all_goals
                go_wp2_with (at_builtin; go_must (refine wpList_append_own _ rfl _ _ 22 rfl (GP + 1) 26 i0 (.agg #[.int .i64 0, .int .i64 0]) 2 16 Tryz.underlying22 hi iz0 iz1 iz2 rfl (by decide) _ _ _ rfl (hown5.alloc _) ⟨wr.heap.size, 0, none⟩ 1 1 [.int .i64 p.x, .int .i64 p.y] rfl rfl two_atP two_oneP ?qe4 ?qe5 ?qe6 ?_))
                case qe4 => unfold maxLen; omega
                case qe5 => omega
                case qe6 => simp; omega
                intro v' w7 hown' hgrow _
                have hb7 : Below (GP + 1) wr w7 := (Below.alloc (Below.refl (GP + 1) wr) hGPw _).grown hgrow (by simp; omega) (fun j e => (hown5.lt j e).1)
                have hp7 : Blk w7 GP 26 #[.int .i64 (pt H 0).x, .int .i64 (pt H 0).y] := hp5.below hb7 (by omega)
                have hbw7 : Below w.heap.size w w7 := hbw5.trans (hb7.mono (by omega))
                rw [← HCS.out] at hown'
                have E7 := Lib.hid (own_pos2 hown' (by omega))
                clear hgrow hown5 hx hA5 hp5 cA cX cP hb7 hb
                go_wp2
                go_roundw
                case rel => exact ⟨k + 1, by omega, hown', hp7, hbw7⟩
                case measure =>
                  obtain ⟨g7, c7, e7⟩ := E7.out
                  rw [e7]
                  simp [lenV]; omega
end Go.Proofs.YtjdgibpjlhpanaaGreatDoor
