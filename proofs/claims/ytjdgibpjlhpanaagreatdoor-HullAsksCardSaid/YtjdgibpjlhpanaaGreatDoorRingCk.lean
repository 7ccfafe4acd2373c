/-
  Contracts of package ring: blame, Check.
  Contracts of package ring: edge, Has.
-/
import Derived.Test.YtjdgibpjlhpanaaGreatDoorRing
import Derived.Test.YtjdgibpjlhpanaaGreatDoorWords
set_option linter.unusedSimpArgs false
set_option linter.unusedVariables false
namespace Go.Proofs.YtjdgibpjlhpanaaGreatDoor
open Go.RowKit Pg

/-- a Fault behind a pointer, as an error -/
def faultV (g : Nat) : Value := .iface 121 (.pointer (some ⟨g, 0, none⟩))
/-- v stands for the error number k, wrapped in one Fault -/
def ErrR (w : World) (v : Value) (k : Nat) : Prop := (k = 0 ∧ v = .nilIface) ∨ (k ≠ 0 ∧ ∃ (g : Nat) (s : ByteArray) (id : Int), v = faultV g ∧ Blk w g 125 #[.string s, .int .i64 id, errV k])
def RetErr (w : World) (k : Nat) : Ending → World → Prop := fun e w' => ∃ v, e = .returned v ∧ ErrR w' v k ∧ Below w.heap.size w w'

set_option maxHeartbeats 400000 in
theorem blame_any (i k : Int) (w : World) :
    Calls Tryz.prog 131 #[.int .i64 i, .iface 131 (.int .i64 k)] w fun e w' => e = .returned (faultV w.heap.size) ∧ w.alloc (.cells #[.string ⟨#[114, 105, 110, 103]⟩, .int .i64 i, .iface 131 (.int .i64 k)] 125) = w' := by
  go_enter Tryz.func131, Tryz.ntmps131
  go_wp2
  go_ret
  exact ⟨rfl, rfl⟩

theorem range_all {n : Nat} {f : Nat → Bool} (h : ∀ k, k < n → f k = false) : (List.range n).any f = false := any_range_false n f h
def badP (l : List Pt) (i k : Nat) : Bool := decide (k ≠ i) && spoil l i k
theorem spoilAny_t {l : List Pt} {i k : Nat} (hi : i < l.length) (hk : k < l.length) (h : badP l i k = true) : spoilAny l = true :=
  any_range_true _ _ i hi (any_range_true _ _ k hk h)
theorem spoilAny_f {l : List Pt} (h : ∀ i, i < l.length → ∀ k, k < l.length → badP l i k = false) : spoilAny l = false :=
  any_range_false _ _ fun i hi => any_range_false _ _ fun k hk => h i hi k hk

set_option maxHeartbeats 1000000 in
theorem check_any (B n c : Nat) (A : Option Addr) (l : List Pt) (w : World) (hl : PtsAt w B A n l) (hB : B ≤ w.heap.size) (hn : n ≤ 1000000) :
    Calls Tryz.prog 78 #[.slice A n c] w (RetErr w (ckRing l)) := by
  by_cases hlen : n < 3 ∨ 64 < n
  · have HK : Hid (ckRing l = 3) := by unfold Hid ckRing; rw [hl.1, if_pos hlen]
    have e3 : Hid (errV 3 = .iface 131 (.int .i64 3)) := rfl
    rcases hlen with h | h
    all_goals
      go_enter Tryz.func78, Tryz.ntmps78
      go_wp2_with (go_at_call 131; refine (blame_any _ 3 _).mono ?_; rintro e w1 ⟨rfl, rfl⟩)
      go_ret
      exact ⟨_, rfl, .inr ⟨by rw [HK.out]; decide, _, _, _, rfl, by rw [HK.out]; exact Blk.new rfl rfl⟩, (by repeat (first | with_reducible exact Below.refl _ _ | with_reducible assumption | with_reducible refine al ?_ _ | with_reducible refine Below.drew ?_ | with_reducible refine Below.setCell ?_ (by first | (simp; done) | (simp; omega)) _ | with_reducible refine tr ?_ (by with_reducible assumption)))⟩
  · have h3 : 3 ≤ n := by omega
    have h64 : n ≤ 64 := by omega
    clear hlen
    have hd3 : decide ((n : Int) < 3) = false := by simp; omega
    have hd64 : decide ((64 : Int) < (n : Int)) = false := by simp; omega
    have HK : Hid (ckRing l = if l.all okPt then (if spoilAny l then 4 else 0) else 2) := by unfold Hid ckRing; rw [hl.1, if_neg (by omega)]
    go_enter Tryz.func78, Tryz.ntmps78
    go_wp2
    go_loopw [22] (fun i wr => ∃ k : Nat, k ≤ n ∧ i = .int .i64 k ∧ (l.take k).all okPt = true ∧ Below w.heap.size w wr) (fun i _ => n - (intOf i).toNat)
    case atStart => exact ⟨0, Nat.zero_le _, rfl, by simp, Below.refl _ _⟩
    case round =>
      obtain ⟨k, hk, rfl, hall, hb⟩ := hrel
      by_cases hlt : k < n
      · obtain ⟨b, off, rfl, hab, c0, c1⟩ := (hl.below (hb.mono hB)).at_ hlt
        have Hp := Lib.hid (all_take_succ okPt l k _ (pt_of (by rw [hl.1]; exact hlt)))
        have Hf := Lib.hid (all_false_of okPt l k _ (pt_of (by rw [hl.1]; exact hlt)))
        have Ha := Lib.hid hall
        clear hall
        cases hx : okPt (pt l k)
        case true =>
          have HE : Hid (errV (if okPt ⟨(pt l k).x, (pt l k).y⟩ = true then 0 else 2) = .nilIface) := by unfold Hid; rw [show (⟨(pt l k).x, (pt l k).y⟩ : Pt) = pt l k from rfl, hx]; rfl
          have Hx := Lib.hid hx
          clear hx
          go_wp2_with (go_at_call 51; refine (checkPoint_any _ _ _).mono ?_; rw [HE.out]; rintro e w1 ⟨rfl, hb1⟩; obtain ⟨hc1, hf1⟩ := bcell hb1; have hz1 := hb1.size; (try simp at hz1))
          go_roundw
          case rel => exact ⟨k + 1, by omega, by go_num, by rw [Hp.out, Ha.out, Hx.out]; rfl, (by repeat (first | with_reducible exact Below.refl _ _ | with_reducible assumption | with_reducible refine al ?_ _ | with_reducible refine Below.drew ?_ | with_reducible refine Below.setCell ?_ (by first | (simp; done) | (simp; omega)) _ | with_reducible refine tr ?_ (by with_reducible assumption)))⟩
          case measure => simp [intOf]; omega
        case false =>
          have HE : Hid (errV (if okPt ⟨(pt l k).x, (pt l k).y⟩ = true then 0 else 2) = .iface 131 (.int .i64 2)) := by unfold Hid; rw [show (⟨(pt l k).x, (pt l k).y⟩ : Pt) = pt l k from rfl, hx]; rfl
          have HK2 : Hid (ckRing l = 2) := by unfold Hid; rw [HK.out, Hf.out hx]; rfl
          clear hx
          go_wp2_with (first | (go_at_call 51; refine (checkPoint_any _ _ _).mono ?_; rw [HE.out]; rintro e w1 ⟨rfl, hb1⟩; obtain ⟨hc1, hf1⟩ := bcell hb1; have hz1 := hb1.size; (try simp at hz1)) | (go_at_call 131; refine (blame_any _ _ _).mono ?_; rintro e w2 ⟨rfl, rfl⟩))
          go_ret
          exact ⟨_, rfl, .inr ⟨by rw [HK2.out]; decide, _, _, _, rfl, by rw [HK2.out]; exact Blk.new rfl rfl⟩, (by repeat (first | with_reducible exact Below.refl _ _ | with_reducible assumption | with_reducible refine al ?_ _ | with_reducible refine Below.drew ?_ | with_reducible refine Below.setCell ?_ (by first | (simp; done) | (simp; omega)) _ | with_reducible refine tr ?_ (by with_reducible assumption)))⟩
      · have hkn : l.length ≤ k := by rw [hl.1]; omega
        rw [List.take_of_length_le hkn] at hall
        have HK2 : Hid (ckRing l = if spoilAny l then 4 else 0) := by unfold Hid; rw [HK.out, hall]; rfl
        clear hall
        obtain ⟨wo, hwo⟩ : ∃ wo : World, wo = wr := ⟨_, rfl⟩
        subst hwo
        go_wp2
        go_loopw [36] (fun i wr => ∃ k : Nat, k ≤ n ∧ i = .int .i64 k ∧ Hid (∀ j, j < k → ∀ m, m < n → badP l j m = false) ∧ Below w.heap.size w wr) (fun i _ => n - (intOf i).toNat)
        case atStart => exact ⟨0, Nat.zero_le _, rfl, fun j hj => by omega, hb⟩
        case round =>
          obtain ⟨i, hi, rfl, hbad, hb2⟩ := hrel
          by_cases hil : i < n
          · obtain ⟨wp, hwp⟩ : ∃ wp : World, wp = wr := ⟨_, rfl⟩
            subst hwp
            go_wp2
            go_loopw [40] (fun i2 wr => ∃ m : Nat, m ≤ n ∧ i2 = .int .i64 m ∧ Hid (∀ j, j < m → badP l i j = false) ∧ Below w.heap.size w wr) (fun i2 _ => n - (intOf i2).toNat)
            case atStart => exact ⟨0, Nat.zero_le _, rfl, fun j hj => by omega, hb2⟩
            case round =>
              obtain ⟨m, hm, rfl, hbm, hb3⟩ := hrel
              by_cases hml : m < n
              · by_cases hmi : m = i
                · have hne : ((m : Int) != (i : Int)) = false := by rw [hmi]; simp
                  have HM := Lib.hid hmi
                  clear hmi
                  go_wp2
                  go_roundw
                  case rel => exact ⟨m + 1, by omega, by go_num, fun j hj => by
                    by_cases e : j = m
                    · subst e; simp [badP, HM.out]
                    · exact hbm.out j (by omega), (by repeat (first | with_reducible exact Below.refl _ _ | with_reducible assumption | with_reducible refine al ?_ _ | with_reducible refine Below.drew ?_ | with_reducible refine Below.setCell ?_ (by first | (simp; done) | (simp; omega)) _ | with_reducible refine tr ?_ (by with_reducible assumption)))⟩
                  case measure => simp [intOf]; omega
                · have hne : ((m : Int) != (i : Int)) = true := by simp; omega
                  have HM := Lib.hid hmi
                  clear hmi
                  have hB3 : B ≤ wr.heap.size := by have := hb3.size; omega
                  cases hs : spoil l i m
                  · have HS := Lib.hid hs
                    go_wp2_with (go_at_call 132; refine (spoil_any B n c i m A l _ (hl.below (hb3.mono hB)) (by assumption) hn (by assumption) (by assumption)).mono ?_; rw [HS.out]; rintro e w1 ⟨rfl, hb1⟩; obtain ⟨hc1, hf1⟩ := bcell hb1; have hz1 := hb1.size; (try simp at hz1))
                    go_roundw
                    case rel => exact ⟨m + 1, by omega, by go_num, fun j hj => by
                      by_cases e : j = m
                      · subst e; simp [badP, HS.out]
                      · exact hbm.out j (by omega), (by repeat (first | with_reducible exact Below.refl _ _ | with_reducible assumption | with_reducible refine al ?_ _ | with_reducible refine Below.drew ?_ | with_reducible refine Below.setCell ?_ (by first | (simp; done) | (simp; omega)) _ | with_reducible refine tr ?_ (by with_reducible assumption)))⟩
                    case measure => simp [intOf]; omega
                  · have HS := Lib.hid hs
                    have HK3 : Hid (ckRing l = 4) := by unfold Hid; rw [HK2.out, spoilAny_t (i := i) (k := m) (by rw [hl.1]; exact hil) (by rw [hl.1]; exact hml) (by simp [badP, HM.out, HS.out])]; rfl
                    go_wp2_with (first | (go_at_call 132; refine (spoil_any B n c i m A l _ (hl.below (hb3.mono hB)) (by assumption) hn (by assumption) (by assumption)).mono ?_; rw [HS.out]; rintro e w1 ⟨rfl, hb1⟩; obtain ⟨hc1, hf1⟩ := bcell hb1; have hz1 := hb1.size; (try simp at hz1)) | (go_at_call 131; refine (blame_any _ _ _).mono ?_; rintro e w2 ⟨rfl, rfl⟩))
                    go_ret
                    exact ⟨_, rfl, .inr ⟨by rw [HK3.out]; decide, _, _, _, rfl, by rw [HK3.out]; exact Blk.new rfl rfl⟩, (by repeat (first | with_reducible exact Below.refl _ _ | with_reducible assumption | with_reducible refine al ?_ _ | with_reducible refine Below.drew ?_ | with_reducible refine Below.setCell ?_ (by first | (simp; done) | (simp; omega)) _ | with_reducible refine tr ?_ (by with_reducible assumption)))⟩
              · go_wp2
                go_roundw
                case rel => exact ⟨i + 1, by omega, by go_num, fun j hj q hq => by
                  by_cases e : j = i
                  · subst e; exact hbm.out q (by omega)
                  · exact hbad.out j (by omega) q hq, (by repeat (first | with_reducible exact Below.refl _ _ | with_reducible assumption | with_reducible refine al ?_ _ | with_reducible refine Below.drew ?_ | with_reducible refine Below.setCell ?_ (by first | (simp; done) | (simp; omega)) _ | with_reducible refine tr ?_ (by with_reducible assumption)))⟩
                case measure => simp [intOf]; omega
          · have HK3 : Hid (ckRing l = 0) := by unfold Hid; rw [HK2.out, spoilAny_f (fun j hj m hm => hbad.out j (by rw [hl.1] at hj; omega) m (by rw [← hl.1]; exact hm))]; rfl
            go_wp2
            go_ret
            exact ⟨_, rfl, .inl ⟨HK3.out, rfl⟩, (by repeat (first | with_reducible exact Below.refl _ _ | with_reducible assumption | with_reducible refine al ?_ _ | with_reducible refine Below.drew ?_ | with_reducible refine Below.setCell ?_ (by first | (simp; done) | (simp; omega)) _ | with_reducible refine tr ?_ (by with_reducible assumption)))⟩
end Go.Proofs.YtjdgibpjlhpanaaGreatDoor
set_option linter.unusedSimpArgs false
set_option linter.unusedVariables false
namespace Go.Proofs.YtjdgibpjlhpanaaGreatDoor
open Go.RowKit Pg

set_option maxHeartbeats 1000000 in
theorem edge_any (B n c : Nat) (px py : Int) (A : Option Addr) (l : List Pt) (w : World) (hl : PtsAt w B A n l) (hB : B ≤ w.heap.size) (hn : n ≤ 1000000) :
    Calls Tryz.prog 107 #[.slice A n c, ptV px py] w (Ret w (.bool (edgeB l ⟨px, py⟩))) := by
  go_enter Tryz.func107, Tryz.ntmps107
  go_wp2
  go_loopw [8] (fun i wr => ∃ k : Nat, k ≤ n ∧ i = .int .i64 k ∧ Hid (∀ j, j < k → onS (pt l j) (nx l j) ⟨px, py⟩ = false) ∧ Blk wr w.heap.size 26 #[.int .i64 px, .int .i64 py] ∧ Below w.heap.size w wr) (fun i _ => n - (intOf i).toNat)
  case atStart => exact ⟨0, Nat.zero_le _, rfl, fun j hj => by omega, Blk.new rfl rfl, (by repeat (first | with_reducible exact Below.refl _ _ | with_reducible assumption | with_reducible refine al ?_ _ | with_reducible refine Below.drew ?_ | with_reducible refine Below.setCell ?_ (by first | (simp; done) | (simp; omega)) _ | with_reducible refine tr ?_ (by with_reducible assumption)))⟩
  case round =>
    obtain ⟨k, hk, rfl, hno, hP, hb⟩ := hrel
    by_cases hlt : k < n
    · obtain ⟨b, off, rfl, hab, c0, c1⟩ := (hl.below (hb.mono hB)).at_ hlt
      have hPl := hP.lt
      have hPc := hP.cell
      have hbw : b < wr.heap.size := by omega
      have hk0 : (k : Int) < (n : Int) := by omega
      go_wp2_with fail
      refine wp_region_below [0, 1, 2, 3, 4, 5, 7, 6, 8] (by kernel_rfl) (by kernel_rfl) (fun _ _ d _ _ h => by cases d <;> exact h) ?_
      simp only [List.map_cons, List.map_nil, List.getD_cons_zero, List.getD_cons_succ, bare, gslot, List.getElem?_cons_zero, List.getElem?_cons_succ, Option.bind_some]
      repeat' ((try simp only [Act.put, List.setIfInBounds_toArray, List.set_cons_zero, List.set_cons_succ]); first | (refine lexL_quiet (v := ?_) wantB_none rfl ?_ ?_; rotate_left; focus (intro wq hq; obtain ⟨hcq, hfq⟩ := bcell hq; go_simp; try with_reducible rfl)) | (refine lexL_loud wantB_none rfl (fun K hK => ?_); go_simp; ((first | (go_at_call 108; refine (next_any B n c k _ l _ (hl.tr (by repeat (first | with_reducible exact Below.refl _ _ | with_reducible assumption | with_reducible refine al ?_ _ | with_reducible refine Below.drew ?_ | with_reducible refine Below.setCell ?_ (by first | (simp; done) | (simp; omega)) _ | with_reducible refine tr ?_ (by with_reducible assumption))) hB) (Nat.le_trans hB (Below.size (B := w.heap.size) (w := w) (by repeat (first | with_reducible exact Below.refl _ _ | with_reducible assumption | with_reducible refine al ?_ _ | with_reducible refine Below.drew ?_ | with_reducible refine Below.setCell ?_ (by first | (simp; done) | (simp; omega)) _ | with_reducible refine tr ?_ (by with_reducible assumption))))) hn hlt).mono ?_; rintro e w1 ⟨rfl, hb1⟩; obtain ⟨hc1, hf1⟩ := bcell hb1; have hz1 := hb1.size; (try simp at hz1); have hy0 : w.heap.size < w1.heap.size := (by omega)) | (go_at_call 145; refine (on_any _ _ _ _ _ _ _).mono ?_; rintro e w1 ⟨rfl, hb1⟩; obtain ⟨hc1, hf1⟩ := bcell hb1; have hz1 := hb1.size; (try simp at hz1); have hy0 : w.heap.size < w1.heap.size := (by omega)) | skip) <;> (refine hK.out _ _ (by repeat (first | with_reducible exact Below.refl _ _ | with_reducible assumption | with_reducible refine al ?_ _ | with_reducible refine Below.drew ?_ | with_reducible refine Below.setCell ?_ (by first | (simp; done) | (simp; omega)) _ | with_reducible refine tr ?_ (by with_reducible assumption))) ?_; clear hK K))) | (refine lexL_on ?_ ?_; focus (simp only [List.getElem?_toArray, List.getElem?_cons_succ, List.getElem?_cons_zero, Bool.not_true, Bool.not_false]; done)) | (refine lexL_off ?_ ?_ ?_; (focus (simp only [List.getElem?_toArray, List.getElem?_cons_succ, List.getElem?_cons_zero, Bool.not_true, Bool.not_false]; done)); (focus (exact (by repeat (first | with_reducible exact Below.refl _ _ | with_reducible assumption | with_reducible refine al ?_ _ | with_reducible refine Below.drew ?_ | with_reducible refine Below.setCell ?_ (by first | (simp; done) | (simp; omega)) _ | with_reducible refine tr ?_ (by with_reducible assumption)))))) | (refine lexL_splitS (X := ?_) ?_ ?_ (fun hg => ?_) (fun hg => ?_); rotate_left; (focus (simp only [List.getElem?_toArray, List.getElem?_cons_succ, List.getElem?_cons_zero]; with_reducible rfl)); (focus (exact (by repeat (first | with_reducible exact Below.refl _ _ | with_reducible assumption | with_reducible refine al ?_ _ | with_reducible refine Below.drew ?_ | with_reducible refine Below.setCell ?_ (by first | (simp; done) | (simp; omega)) _ | with_reducible refine tr ?_ (by with_reducible assumption))))); all_goals (try simp only [Bool.not_true, Bool.not_false] at hg)))
      (all_goals try simp only [Act.put, List.setIfInBounds_toArray, List.set_cons_zero, List.set_cons_succ]); all_goals (refine lexL_nil ?_)
      go_wp2
      · go_ret
        exact ⟨ret_bool (any_range_true _ (fun j => onS (pt l j) (nx l j) ⟨px, py⟩) k (by rw [hl.1]; exact hlt) (by assumption)).symm, (by repeat (first | with_reducible exact Below.refl _ _ | with_reducible assumption | with_reducible refine al ?_ _ | with_reducible refine Below.drew ?_ | with_reducible refine Below.setCell ?_ (by first | (simp; done) | (simp; omega)) _ | with_reducible refine tr ?_ (by with_reducible assumption)))⟩
      · have hf : onS ⟨(pt l k).x, (pt l k).y⟩ ⟨(nx l k).x, (nx l k).y⟩ ⟨px, py⟩ = false := by first | assumption | (simpa using (by assumption : ¬ onS ⟨(pt l k).x, (pt l k).y⟩ ⟨(nx l k).x, (nx l k).y⟩ ⟨px, py⟩ = true))
        have HF := Lib.hid hf
        clear hf
        go_roundw
        case rel => exact ⟨k + 1, by omega, by go_num, fun j hj => by
          by_cases e : j = k
          · subst e; exact HF.out
          · exact hno.out j (by omega), (by repeat (first | with_reducible assumption | with_reducible exact Blk.new (by simp) rfl | with_reducible refine Blk.alloc ?_ _ | with_reducible refine Blk.drew ?_ | with_reducible refine Blk.far ?_ (by first | (simp; done) | (simp; omega)) _ | with_reducible refine Blk.tr ?_ (by with_reducible assumption))), (by repeat (first | with_reducible exact Below.refl _ _ | with_reducible assumption | with_reducible refine al ?_ _ | with_reducible refine Below.drew ?_ | with_reducible refine Below.setCell ?_ (by first | (simp; done) | (simp; omega)) _ | with_reducible refine tr ?_ (by with_reducible assumption)))⟩
        case measure => simp [intOf]; omega
    · have HF : Hid (edgeB l ⟨px, py⟩ = false) := any_range_false _ _ fun j hj => hno.out j (by rw [hl.1] at hj; omega)
      go_wp2
      go_ret
      exact ⟨ret_bool HF.out.symm, hb⟩

theorem check_ok (B n c : Nat) (A : Option Addr) (l : List Pt) (w : World) (hl : PtsAt w B A n l) (hB : B ≤ w.heap.size) (hn : n ≤ 1000000) (h : ckRing l = 0) :
    Calls Tryz.prog 78 #[.slice A n c] w (Ret w .nilIface) := by
  refine (check_any B n c A l w hl hB hn).mono ?_
  rintro e w' ⟨v, he, hv, hb⟩
  rcases hv with ⟨_, hv⟩ | ⟨hv, _⟩
  · exact ⟨by rw [he, hv], hb⟩
  · exact absurd h hv
theorem check_bad (B n c : Nat) (A : Option Addr) (l : List Pt) (w : World) (hl : PtsAt w B A n l) (hB : B ≤ w.heap.size) (hn : n ≤ 1000000) (h : ckRing l ≠ 0) :
    Calls Tryz.prog 78 #[.slice A n c] w fun e w' => ∃ g, e = .returned (.iface 121 (.pointer (some ⟨g, 0, none⟩))) ∧ Hid (∃ (s : ByteArray) (id : Int), Blk w' g 125 #[.string s, .int .i64 id, .iface 131 (.int .i64 (ckRing l))]) ∧ Below w.heap.size w w' := by
  refine (check_any B n c A l w hl hB hn).mono ?_
  rintro e w' ⟨v, he, hv, hb⟩
  rcases hv with ⟨hv, _⟩ | ⟨_, g, s, id, hv, hB'⟩
  · exact absurd hv h
  · exact ⟨g, by rw [he, hv]; rfl, ⟨s, id, by rw [← errV_pos h]; exact hB'⟩, hb⟩
end Go.Proofs.YtjdgibpjlhpanaaGreatDoor
