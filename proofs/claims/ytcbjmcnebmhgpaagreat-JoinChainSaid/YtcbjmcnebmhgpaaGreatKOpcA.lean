/-
  Contracts of the classes: what is asked for,how much a key grows,how far;and of the reference's.
  Contracts of the reference's classes: what is asked for, how much a key grows.
  Contracts: the union of keys,in the program and in the reference;making a key of an object,or why not.
  Contracts: making a key of an object, or why not, in the program and in the reference.
-/
import Derived.Test.YtcbjmcnebmhgpaaGreatKEncK
import Derived.Test.YtcbjmcnebmhgpaaGreatKEncH
import Derived.Test.YtcbjmcnebmhgpaaGreatKArea
import Derived.Test.YtcbjmcnebmhgpaaGreatKRing
import Derived.Test.YtcbjmcnebmhgpaaGreatKRel1
import Derived.Test.YtcbjmcnebmhgpaaGreatKDist2
import Derived.Test.YtcbjmcnebmhgpaaGreatKRefRB
import Derived.Test.YtcbjmcnebmhgpaaGreatKRel8
set_option linter.unusedVariables false
set_option linter.unusedSimpArgs false
set_option maxHeartbeats 4000000
set_option maxRecDepth 20000
namespace Go.Proofs.YtcbjmcnebmhgpaaGreat
open Go.RowKit Pg
def consB (b : Bx) (q : Qu) : Bool := if ckQu q = 0 then (if q.kind = 3 then bhas b q.box.lo else if q.kind = 4 then bmeets b (ringBx q.ring) else bmeets b q.box) else false
def consS (key : List Nat) (q : Qu) : Bool := match unkeyS key with | none => false | some b => consB b q
def penS (k a : List Nat) : Nat := match unkeyS k,unkeyS a with | some x,some y => growN x y | _,_ => 0
def farS (k : List Nat) (p : Pt) : Fr := match unkeyS k with | none => fNone | some b => bxF b p
theorem unkeyV_none {l : List Nat} (h : unkeyS l = none) : unkeyV l = .tuple #[bxV 0 0 0 0,.bool false] := by unfold unkeyV;rw [h]
theorem unkeyV_some {l : List Nat} {b : Bx} (h : unkeyS l = some b) : unkeyV l = .tuple #[bxV b.lo.x b.lo.y b.hi.x b.hi.y,.bool true] := by unfold unkeyV;rw [h]
theorem unkey_ok {l : List Nat} {b : Bx} (h : unkeyS l = some b) : okBx b = true := by
 unfold unkeyS at h
 split at h
 · cases h
 · split at h
   · cases h
   · split at h
     · cases h
     · split at h
       · cases h
       · split at h
         · rename_i h2;injection h with h;subst h;exact h2.2
         · cases h
theorem rPen_any (B n c n2 c2 : Nat) (A A2 : Option Addr) (l l2 : List Nat) (w : World) (hl : BysAt w B A n l) (h256 : ∀ x ∈ l,x < 256) (hl2 : BysAt w B A2 n2 l2) (h2562 : ∀ x ∈ l2,x < 256) (hB : B ≤ w.heap.size) (hn : n ≤ 1000000) (hnc : n ≤ c) (hn2 : n2 ≤ 1000000) (hnc2 : n2 ≤ c2) (hAn : A = none → c = 0) (hAn2 : A2 = none → c2 = 0) :
 Calls Tryz.prog 164 #[.slice A n c,.slice A2 n2 c2] w (Ret w (.int .i64 (penS l l2 : Nat))) := by
 have HU := Lib.hid (fun W (hW : Below w.heap.size w W) => runkey_any B n c A l W (hl.tr hW hB) h256 (Nat.le_trans hB hW.size) hn hnc hAn)
 have HU2 := Lib.hid (fun W (hW : Below w.heap.size w W) => runkey_any B n2 c2 A2 l2 W (hl2.tr hW hB) h2562 (Nat.le_trans hB hW.size) hn2 hnc2 hAn2)
 have HP : Hid (∀ x y,unkeyS l = some x → unkeyS l2 = some y → penS l l2 = growN x y) := fun x y e1 e2 => by unfold penS;rw [e1,e2]
 cases hk : unkeyS l with
 | none =>
   have HP2 : Hid (penS l l2 = 0) := by unfold Hid penS;rw [hk]
   rw [HP2.out]
   rw [unkeyV_none hk] at HU;obtain ⟨q,hq⟩ : ∃ q,unkeyV l2 = q := ⟨_,rfl⟩;rw [hq] at HU2
   obtain ⟨a,b,c',d,t,rfl⟩ : ∃ a b c d t,q = .tuple #[bxV a b c d,.bool t] := by
    rw [← hq]
    unfold unkeyV
    split
    · exact ⟨_, _, _, _, _, rfl⟩
    · exact ⟨_, _, _, _, _, rfl⟩
   clear hl hl2 hk hq HP HP2
   go_enter Tryz.func164, Tryz.ntmps164
   go_wp2_with (first | (go_at_call 170;have _hz := hz5;(with_reducible refine (HU2.out _ bel).mono ?_);rintro e w6 ⟨rfl,hb6⟩;obtain ⟨hc6,hf6⟩ := bcell hb6;have hz6 := hb6.size;(try simp at hz6);have hy62 : w5.heap.size < w6.heap.size := (by omega)) | (go_at_call 170;(with_reducible refine (HU.out _ bel).mono ?_);rintro e w5 ⟨rfl,hb5⟩;obtain ⟨hc5,hf5⟩ := bcell hb5;have hz5 := hb5.size;(try simp at hz5)))
   go_ret;exact ⟨rfl,bel⟩
 | some x =>
   rw [unkeyV_some hk] at HU;have hx := unkey_ok hk
   cases hk2 : unkeyS l2 with
   | none =>
     have HP2 : Hid (penS l l2 = 0) := by unfold Hid penS;rw [hk,hk2]
     rw [HP2.out]
     rw [unkeyV_none hk2] at HU2;clear hl hl2 hk hk2 HP HP2
     go_enter Tryz.func164, Tryz.ntmps164
     go_wp2_with (first | (go_at_call 170;have _hz := hz5;(with_reducible refine (HU2.out _ bel).mono ?_);rintro e w6 ⟨rfl,hb6⟩;obtain ⟨hc6,hf6⟩ := bcell hb6;have hz6 := hb6.size;(try simp at hz6);have hy62 : w5.heap.size < w6.heap.size := (by omega)) | (go_at_call 170;(with_reducible refine (HU.out _ bel).mono ?_);rintro e w5 ⟨rfl,hb5⟩;obtain ⟨hc5,hf5⟩ := bcell hb5;have hz5 := hb5.size;(try simp at hz5)))
     go_ret;exact ⟨rfl,bel⟩
   | some y =>
     rw [unkeyV_some hk2] at HU2;have hy := unkey_ok hk2
     rw [HP.out x y hk hk2]
     have HG := Lib.hid (fun w => rgrow_ok x.lo.x x.lo.y x.hi.x x.hi.y y.lo.x y.lo.y y.hi.x y.hi.y w hx hy)
     rw [show (⟨⟨x.lo.x,x.lo.y⟩,⟨x.hi.x,x.hi.y⟩⟩ : Bx) = x from rfl,show (⟨⟨y.lo.x,y.lo.y⟩,⟨y.hi.x,y.hi.y⟩⟩ : Bx) = y from rfl] at HG
     have hlt : growN x y ≤ 4611686009837453316 := by unfold growN;exact Nat.le_trans (Nat.sub_le _ _) (areaN_lt _)
     generalize growN x y = m at *;have e1 : decide ((4611686018427387904 : Int) < (m : Int)) = false := decide_eq_false (by omega)
     have e2 : IntKind.i64.wrap (m : Int) = m := by rw [IntKind.wrap_i64];omega
     clear hl hl2 hk hk2 HP hx hy hlt
     go_enter Tryz.func164, Tryz.ntmps164
     go_wp2_with (first | (go_at_call 170;have _hz := hz5;(with_reducible refine (HU2.out _ bel).mono ?_);rintro e w6 ⟨rfl,hb6⟩;obtain ⟨hc6,hf6⟩ := bcell hb6;have hz6 := hb6.size;(try simp at hz6);have hy62 : w5.heap.size < w6.heap.size := (by omega)) | (go_at_call 170;(with_reducible refine (HU.out _ bel).mono ?_);rintro e w5 ⟨rfl,hb5⟩;obtain ⟨hc5,hf5⟩ := bcell hb5;have hz5 := hb5.size;(try simp at hz5)) | (go_at_call 171;(with_reducible refine (HG.out _).mono ?_);rintro e w7 ⟨rfl,hb7⟩;obtain ⟨hc7,hf7⟩ := bcell hb7;have hz7 := hb7.size;(try simp at hz7)))
     go_ret;exact ⟨rfl,bel⟩
def boxesK (L : List (List Nat)) : List Bx := L.filterMap unkeyS
def unionK (L : List (List Nat)) : List Nat := if (union (boxesK L)).2 = 0 then keyL (union (boxesK L)).1 else []
theorem union_all {l : List Bx} (hl : l ≠ []) (h : ∀ b ∈ l,okBx b = true) : (union l).2 = 0 ∧ okBx (union l).1 = true ∧ ∀ b ∈ l,inB (union l).1 b := by
 cases l with
 | nil => exact absurd rfl hl
 | cons a r =>
   obtain ⟨h1,h2,h3,h4⟩ := unionGo_spec (a :: r) a (fun b hb => okBx_ck.1 (h b hb))
   have e : (union (a :: r)).1 = (unionGo a (a :: r)).1 := rfl;have hA := (Pg.okBx_iff a).1 (h a (by simp))
   have hl : inB ⟨⟨-1073741823,-1073741823⟩,⟨1073741823,1073741823⟩⟩ (unionGo a (a :: r)).1 := h4 _ (by rw [Pg.okPt_iff,Pg.okPt_iff] at hA;unfold inB;simp only;omega) (by
    intro c hc;have hc := (Pg.okBx_iff c).1 (h c hc);rw [Pg.okPt_iff,Pg.okPt_iff] at hc
    unfold inB;simp only;omega)
   refine ⟨h1,?_,h3⟩;have h3a := h3 a (by simp)
   rw [Pg.okBx_iff, Pg.okPt_iff, Pg.okPt_iff, e]
   unfold inB at hl h3a
   simp only at hl
   omega
theorem boxesK_ok {L : List (List Nat)} {b : Bx} (h : b ∈ boxesK L) : okBx b = true := by
 unfold boxesK at h;obtain ⟨l,_,h⟩ := List.mem_filterMap.1 h;exact unkey_ok h
theorem boxesK_len (L : List (List Nat)) : (boxesK L).length ≤ L.length := List.length_filterMap_le _ _
theorem boxesK_none {L : List (List Nat)} {k : Nat} (hk : k < L.length) (h : unkeyS (L.getD k []) = none) : boxesK (L.take (k + 1)) = boxesK (L.take k) := by
 have e : L[k]? = some (L.getD k []) := by rw [List.getD_eq_getElem?_getD,List.getElem?_eq_getElem hk];rfl
 unfold boxesK
 rw [List.take_add_one,e,List.filterMap_append,Option.toList_some,List.filterMap_cons_none h,List.filterMap_nil,List.append_nil]
theorem boxesK_some {L : List (List Nat)} {k : Nat} {b : Bx} (hk : k < L.length) (h : unkeyS (L.getD k []) = some b) : boxesK (L.take (k + 1)) = boxesK (L.take k) ++ [b] := by
 have e : L[k]? = some (L.getD k []) := by rw [List.getD_eq_getElem?_getD,List.getElem?_eq_getElem hk];rfl
 unfold boxesK
 rw [List.take_add_one,e,List.filterMap_append,Option.toList_some,List.filterMap_cons_some h,List.filterMap_nil]
theorem boxesK_take_len (L : List (List Nat)) (k : Nat) : (boxesK (L.take k)).length ≤ k := Nat.le_trans (boxesK_len _) (by simp;omega)
theorem rUnion_any (B n c : Nat) (A : Option Addr) (L : List (List Nat)) (w : World) (hl : RbsAt w B A n L) (hB : B ≤ w.heap.size) (hn2 : n ≤ 1000000) (h256 : ∀ l ∈ L,∀ x ∈ l,x < 256) (hlen : ∀ l ∈ L,l.length ≤ 1000000) :
 Calls Tryz.prog 166 #[.slice A n c] w (RetB w (unionK L)) := by
 have hLn := hl.1;obtain ⟨i0,hi,iz0,iz1,iz2⟩ := info_parts Tryz.infoBox
 go_enter Tryz.func166,Tryz.ntmps166
 go_wp2_with fail
 go_loopw [3,4] (fun vl vi wr => ∃ (k : Nat),k ≤ n ∧ vi = .int .i64 k ∧ wr.ownsRow w.heap.size 73 4 vl (boxesK (L.take k)).length (bcells (boxesK (L.take k))) ∧ Below w.heap.size w wr) (fun _ vi _ => n - (intOf vi).toNat)
 case atStart => exact ⟨0,by omega,rfl,World.ownsRow_nil _ _ _ _,bel⟩
 case round =>
  obtain ⟨k,hk,rfl,hown,hb⟩ := hrel
  by_cases hlt : k < n
  · obtain ⟨b, off, A', n', c', rfl, hab, hcell, hby, he, hz, hnc⟩ := (hl.below (hb.mono hB)).at_ hlt
    have hmem : L.getD k [] ∈ L := List.mem_of_getElem? he;have hn' : n' ≤ 1000000 := by rw [← hby.1];exact hlen _ hmem
    have hBw : B ≤ wr.heap.size := Nat.le_trans hB hb.size;have HU := Lib.hid (fun w' (h : Below wr.heap.size wr w') => runkey_any B n' c' A' (L.getD k []) w' (hby.tr h hBw) (h256 _ hmem) (Nat.le_trans hBw h.size) hn' hnc hz)
    have hbw : b < wr.heap.size := by omega
    have hk0 : (k : Int) < (n : Int) := by omega
    have hkl : k < L.length := by omega
    have hbk := boxesK_take_len L k
    cases hu : unkeyS (L.getD k []) with
    | none =>
      rw [unkeyV_none hu] at HU;have hst := boxesK_none hkl hu
      go_wp2_with (go_at_call 170;(with_reducible refine (HU.out _ bel).mono ?_);rintro e w1 ⟨rfl,hb1⟩;obtain ⟨hc1,hf1⟩ := bcell hb1;have hz1 := hb1.size;(try simp at hz1))
      have hbz : Below wr.heap.size wr w1 := bel
      go_roundw
      case rel => exact ⟨k + 1,by omega,by go_num,by rw [hst];exact ownB_below hown bel,bel⟩
      case measure => simp [intOf];omega
    | some p =>
      rw [unkeyV_some hu] at HU;have hst := boxesK_some hkl hu
      go_wp2_with (first | (go_at_call 170;(with_reducible refine (HU.out _ bel).mono ?_);rintro e w1 ⟨rfl,hb1⟩;obtain ⟨hc1,hf1⟩ := bcell hb1;have hz1 := hb1.size;(try simp at hz1)) | (at_builtin;go_must (refine wpList_append_own _ rfl _ _ 71 rfl w.heap.size 73 i0 (.agg #[.int .i64 0,.int .i64 0,.int .i64 0,.int .i64 0]) 4 32 Tryz.underlying71 hi iz0 iz1 iz2 rfl (by decide) _ _ _ rfl (ownB_below hown bel) ⟨w1.heap.size + 1,0,none⟩ 1 1 [.int .i64 p.lo.x,.int .i64 p.lo.y,.int .i64 p.hi.x,.int .i64 p.hi.y] rfl rfl ?c1 ?c2 ?c3 ?c4 ?c5 ?_)))
      case c1 =>
       intro j u hj
       match j, hj with
       | 0,hj => simp at hj;subst hj;simp [Addr.add]
       | 1,hj => simp at hj;subst hj;simp [Addr.add]
       | 2,hj => simp at hj;subst hj;simp [Addr.add]
       | 3,hj => simp at hj;subst hj;simp [Addr.add]
      case c2 => intro u hu;simp only [List.mem_cons,List.not_mem_nil,or_false] at hu;rcases hu with rfl | rfl | rfl | rfl <;> rfl
      case c3 => unfold maxLen;omega
      case c4 => omega
      case c5 => have := hb.size;simp;omega
      intro v' w2 hown' hgrow _;have hlt' := hown.lt;have hb2 : Below w.heap.size w w2 := Below.grown (w := _) bel hgrow (by have := hb.size;simp;omega) (fun j e => by have := (hlt' j e).1;omega)
      have hown2 : w2.ownsRow w.heap.size 73 4 v' (boxesK (L.take (k + 1))).length (bcells (boxesK (L.take (k + 1)))) := by
       rw [hst, bcells_snoc, List.length_append]
       exact hown'
      clear hown' hgrow hown hlt';go_wp2
      go_roundw
      case rel => exact ⟨k + 1, by omega, by go_num, hown2, hb2⟩
      case measure => simp [intOf];omega
  · obtain rfl : n = k := by omega
    rw [List.take_of_length_le (by omega)] at hown
    have hbl := boxesK_len L;obtain ⟨A2,c2,rfl,hbx⟩ := bxs_of_own hown rfl;have HUn := Lib.hid (runion_any wr.heap.size _ c2 A2 (boxesK L) wr hbx (Nat.le_refl _) (by omega))
    by_cases hne : boxesK L = []
    · have hu0 : unionK L = [] := by unfold unionK;rw [hne];rfl
      have HU0 := Lib.hid hu0;rw [hne] at HUn
      rw [hne]
      simp only [show (union []).1 = bzero from rfl, show (union []).2 = 1 from rfl, bzero, List.length_nil] at HUn ⊢
      clear hown hbx hl hu0
      go_wp2_with (go_at_call 100;(with_reducible refine HUn.out.mono ?_);rintro e w1 ⟨rfl,hb1⟩;obtain ⟨hc1,hf1⟩ := bcell hb1;have hz1 := hb1.size;(try simp at hz1))
      go_ret;refine ⟨_,rfl,?_,bel⟩
      rw [HU0.out]
      exact World.ownsRow_nil _ _ _ _
    · obtain ⟨hu0, hu1, _⟩ := union_all hne (fun b hb => boxesK_ok hb)
      have hu2 : unionK L = keyL (union (boxesK L)).1 := by unfold unionK;rw [if_pos hu0]
      have HU2 := Lib.hid hu2;rw [hu0] at HUn;obtain ⟨x,hx⟩ : ∃ x,(union (boxesK L)).1 = x := ⟨_,rfl⟩;obtain ⟨N,hN⟩ : ∃ x,(boxesK L).length = x := ⟨_,rfl⟩;rw [hx] at HUn hu1 HU2
      rw [hN] at HUn ⊢
      have HK := Lib.hid (fun w => rkey_any x.lo.x x.lo.y x.hi.x x.hi.y (okBx_in hu1) w)
      rw [show (⟨⟨x.lo.x,x.lo.y⟩,⟨x.hi.x,x.hi.y⟩⟩ : Bx) = x from rfl] at HK
      clear hown hbx hl hu0 hu1 hu2 hx hN hbl
      go_wp2_with (first | (go_at_call 100;(with_reducible refine HUn.out.mono ?_);rintro e w1 ⟨rfl,hb1⟩;obtain ⟨hc1,hf1⟩ := bcell hb1;have hz1 := hb1.size;(try simp at hz1)) | (go_at_call 162;(with_reducible refine (HK.out _).mono ?_);rintro e w6 ⟨s6,rfl,ho6,hb6⟩))
      go_ret;refine ⟨_,rfl,?_,bel⟩
      rw [HU2.out]
      exact ownB_base (base' := w.heap.size) ho6 (by have := hb.size;have := hb1.size;(try simp);omega)
end Go.Proofs.YtcbjmcnebmhgpaaGreat
