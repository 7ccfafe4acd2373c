/-
  Contracts of package plane, in whatever world: what each call returns, and that it only makes new memory.
  Contracts of package plane, more.
  Contracts of package plane, more: boxes, Cross, Orient, Has.
  Contracts of package plane, more: Orient, Has, Meets, Inside, gap.
-/
import Derived.Test.YtcbjmcnebmhgpaaGreatRows
import Derived.Test.YtcbjmcnebmhgpaaGreatKWords
import Derived.WalkKit
import Derived.WalkSpells
import Derived.WalkLawsBesides
set_option linter.unusedVariables false
set_option linter.unusedSimpArgs false
set_option maxHeartbeats 400000
namespace Go.Proofs.YtcbjmcnebmhgpaaGreat
open Go.RowKit Pg
theorem far_any (n : Int) (w : World) :
 Calls Tryz.prog 119 #[.int .i64 n] w fun e w' => e = .returned (.bool (farB n)) ∧ w = w' := by
 by_cases h : n < -1073741823
 all_goals
  go_enter Tryz.func119, Tryz.ntmps119
  go_wp2;go_ret;exact ⟨by simp [farB];omega,rfl⟩
theorem may_any (B n c : Nat) (A : Option Addr) (l : List Pt) (w : World) (hl : PtsAt w B A n l) (hB : B ≤ w.heap.size) (hn : n ≤ maxLen) :
 Calls Tryz.prog 93 #[.slice A n c] w (Ret w (.bool (l.all okPt))) := by
 unfold maxLen at hn
 go_enter Tryz.func93,Tryz.ntmps93
 go_wp2
 go_loopw [7] (fun i wr => ∃ k : Nat,k ≤ n ∧ i = .int .i64 k ∧ (l.take k).all okPt = true ∧ Below w.heap.size w wr) (fun i _ => n - (intOf i).toNat)
 case atStart => exact ⟨0,Nat.zero_le _,rfl,by simp,Below.refl _ _⟩
 case round =>
  obtain ⟨k,hk,rfl,hall,hb⟩ := hrel
  by_cases hlt : k < n
  · obtain ⟨b, off, rfl, hab, c0, c1⟩ := (hl.below (hb.mono hB)).at_ hlt
    have Hp := Lib.hid (all_take_succ okPt l k _ (pt_of (by rw [hl.1];exact hlt)))
    have Hf := Lib.hid (all_false_of okPt l k _ (pt_of (by rw [hl.1];exact hlt)))
    have Ha := Lib.hid hall;clear hall
    cases hx : farB (pt l k).x <;> cases hy : farB (pt l k).y
    case false.false =>
     have Hxy : Hid (okPt (pt l k) = true) := by simp [Hid,okPt,hx,hy]
     go_wp2_with (go_at_call 119;refine (far_any _ _).mono ?_;rintro e w' ⟨rfl,rfl⟩)
     go_roundw
     case rel => exact ⟨k + 1,by omega,by go_num,by rw [Hp.out,Ha.out,Hxy.out];rfl,hb.alloc hb.size _⟩
     case measure => simp [intOf];omega
    all_goals
     have Hxy : Hid (okPt (pt l k) = false) := by simp [Hid,okPt,hx,hy]
     go_wp2_with (go_at_call 119;refine (far_any _ _).mono ?_;rintro e w' ⟨rfl,rfl⟩)
     go_ret;exact ⟨ret_bool (Hf.out Hxy.out).symm,hb.alloc hb.size _⟩
  · have hkn : l.length ≤ k := by rw [hl.1];omega
    rw [List.take_of_length_le hkn] at hall;have Ha := Lib.hid hall;clear hall;go_wp2;go_ret;exact ⟨ret_bool Ha.out.symm,hb⟩
theorem may1 (ax ay : Int) (g : Nat) (w : World) (hg : w.heap[g]? = some (.cells #[.int .i64 ax,.int .i64 ay] 47 (0,0))) :
 Calls Tryz.prog 93 #[.slice (some ⟨g,0,none⟩) 1 1] w (Ret w (.bool (okPt ⟨ax,ay⟩))) := by
 have h := may_any w.heap.size 1 1 _ [⟨ax,ay⟩] w (ptsAt_block [⟨ax,ay⟩] hg (by rcases Nat.lt_or_ge g w.heap.size with h | h;exact h;rw [Array.getElem?_eq_none h] at hg;cases hg) rfl (by intro k hk;match k,hk with | 0,_ => exact ⟨rfl,rfl⟩)) (Nat.le_refl _) (by decide)
 simpa using h
theorem may2 (ax ay bx by_ : Int) (g : Nat) (w : World) (hg : w.heap[g]? = some (.cells #[.int .i64 ax,.int .i64 ay,.int .i64 bx,.int .i64 by_] 47 (0,0))) :
 Calls Tryz.prog 93 #[.slice (some ⟨g,0,none⟩) 2 2] w (Ret w (.bool (okPt ⟨ax,ay⟩ && okPt ⟨bx,by_⟩))) := by
 have h := may_any w.heap.size 2 2 _ [⟨ax,ay⟩,⟨bx,by_⟩] w (ptsAt_block [⟨ax,ay⟩,⟨bx,by_⟩] hg (by rcases Nat.lt_or_ge g w.heap.size with h | h;exact h;rw [Array.getElem?_eq_none h] at hg;cases hg) rfl (by intro k hk;match k,hk with | 0,_ => exact ⟨rfl,rfl⟩ | 1,_ => exact ⟨rfl,rfl⟩)) (Nat.le_refl _) (by decide)
 simpa using h
theorem may3 (ax ay bx by_ cx cy : Int) (g : Nat) (w : World) (hg : w.heap[g]? = some (.cells #[.int .i64 ax,.int .i64 ay,.int .i64 bx,.int .i64 by_,.int .i64 cx,.int .i64 cy] 47 (0,0))) :
 Calls Tryz.prog 93 #[.slice (some ⟨g,0,none⟩) 3 3] w (Ret w (.bool (okPt ⟨ax,ay⟩ && okPt ⟨bx,by_⟩ && okPt ⟨cx,cy⟩))) := by
 have h := may_any w.heap.size 3 3 _ [⟨ax,ay⟩,⟨bx,by_⟩,⟨cx,cy⟩] w (ptsAt_block [⟨ax,ay⟩,⟨bx,by_⟩,⟨cx,cy⟩] hg (by rcases Nat.lt_or_ge g w.heap.size with h | h;exact h;rw [Array.getElem?_eq_none h] at hg;cases hg) rfl (by intro k hk;match k,hk with | 0,_ => exact ⟨rfl,rfl⟩ | 1,_ => exact ⟨rfl,rfl⟩ | 2,_ => exact ⟨rfl,rfl⟩)) (Nat.le_refl _) (by decide)
 simpa [Bool.and_assoc] using h
def errV (k : Nat) : Value := match k with | 0 => .nilIface | k + 1 => .iface 92 (.int .i64 ((k + 1 : Nat) : Int))
theorem checkPoint_any (x y : Int) (w : World) :
 Calls Tryz.prog 94 #[ptV x y] w (Ret w (errV (if okPt ⟨x,y⟩ then 0 else 2))) := by
 cases h : okPt ⟨x,y⟩
 all_goals
  go_enter Tryz.func94, Tryz.ntmps94
  go_wp2_with (go_at_call 93;refine (may1 x y _ _ ?_).mono ?_;exact block_last (by simp);rintro e w1 ⟨rfl,hb1⟩;obtain ⟨hc1,hf1⟩ := bcell hb1;have hz1 := hb1.size;(try simp at hz1))
  go_ret;exact ⟨rfl,bel⟩
theorem okBx_iff (b : Bx) : okBx b = true ↔ ckBox b = 0 := by simp [okBx]
theorem checkBox_any (a b c d : Int) (w : World) :
 Calls Tryz.prog 75 #[bxV a b c d] w (Ret w (errV (ckBox ⟨⟨a,b⟩,⟨c,d⟩⟩))) := by
 cases h : (okPt ⟨a,b⟩ && okPt ⟨c,d⟩)
 · have H : Hid (ckBox ⟨⟨a,b⟩,⟨c,d⟩⟩ = 2) := by simp [Hid,ckBox,h]
   go_enter Tryz.func75, Tryz.ntmps75
   go_wp2_with (go_at_call 93;refine (may2 a b c d _ _ ?_).mono ?_;exact block_last (by simp);rintro e w1 ⟨rfl,hb1⟩;obtain ⟨hc1,hf1⟩ := bcell hb1;have hz1 := hb1.size;(try simp at hz1))
   go_ret;exact ⟨by rw [H.out];rfl,bel⟩
 · by_cases h1 : c < a
   · have H : Hid (ckBox ⟨⟨a, b⟩, ⟨c, d⟩⟩ = 1) := by simp [Hid, ckBox, h, h1]
     go_enter Tryz.func75, Tryz.ntmps75
     go_wp2_with (go_at_call 93;refine (may2 a b c d _ _ ?_).mono ?_;exact block_last (by simp);rintro e w1 ⟨rfl,hb1⟩;obtain ⟨hc1,hf1⟩ := bcell hb1;have hz1 := hb1.size;(try simp at hz1))
     go_ret;exact ⟨by rw [H.out];rfl,bel⟩
   · by_cases h2 : d < b
     · have H : Hid (ckBox ⟨⟨a, b⟩, ⟨c, d⟩⟩ = 1) := by simp [Hid, ckBox, h, h2]
       go_enter Tryz.func75, Tryz.ntmps75
       go_wp2_with (go_at_call 93;refine (may2 a b c d _ _ ?_).mono ?_;exact block_last (by simp);rintro e w1 ⟨rfl,hb1⟩;obtain ⟨hc1,hf1⟩ := bcell hb1;have hz1 := hb1.size;(try simp at hz1))
       go_ret;exact ⟨by rw [H.out];rfl,bel⟩
     · have H : Hid (ckBox ⟨⟨a, b⟩, ⟨c, d⟩⟩ = 0) := by simp [Hid, ckBox, h, h1, h2]
       go_enter Tryz.func75, Tryz.ntmps75
       go_wp2_with (go_at_call 93;refine (may2 a b c d _ _ ?_).mono ?_;exact block_last (by simp);rintro e w1 ⟨rfl,hb1⟩;obtain ⟨hc1,hf1⟩ := bcell hb1;have hz1 := hb1.size;(try simp at hz1))
       go_ret;exact ⟨by rw [H.out];rfl,bel⟩
def BxsAt (w : World) (B : Nat) (A : Option Addr) (n : Nat) (l : List Bx) : Prop :=
 l.length = n ∧ (0 < n → ∃ b off,A = some ⟨b,off,none⟩ ∧ b < B ∧ ∀ k (p : Bx),l[k]? = some p → w.cell? ⟨b,off + k * 4,none⟩ = some (.int .i64 p.lo.x) ∧ w.cell? ⟨b,off + k * 4 + 1,none⟩ = some (.int .i64 p.lo.y) ∧ w.cell? ⟨b,off + k * 4 + 2,none⟩ = some (.int .i64 p.hi.x) ∧ w.cell? ⟨b,off + k * 4 + 3,none⟩ = some (.int .i64 p.hi.y))
def bx (l : List Bx) (k : Nat) : Bx := l.getD k bzero
theorem bx_of {l : List Bx} {k : Nat} (h : k < l.length) : l[k]? = some (bx l k) := by
 rw [bx,List.getD_eq_getElem?_getD,List.getElem?_eq_getElem h];rfl
theorem BxsAt.keep {w w' : World} {B n : Nat} {A : Option Addr} {l : List Bx} (h : BxsAt w B A n l) (hk : ∀ p : Addr,p.block < B → w'.cell? p = w.cell? p) : BxsAt w' B A n l :=
 ⟨h.1,fun hn => by
  obtain ⟨b,off,e,hb,hc⟩ := h.2 hn
  exact ⟨b,off,e,hb,fun k p hp => ⟨(hk _ hb).trans (hc k p hp).1,(hk _ hb).trans (hc k p hp).2.1,(hk _ hb).trans (hc k p hp).2.2.1,(hk _ hb).trans (hc k p hp).2.2.2⟩⟩⟩
theorem BxsAt.below {w w' : World} {B n : Nat} {A : Option Addr} {l : List Bx} (h : BxsAt w B A n l) (hb : Below B w w') : BxsAt w' B A n l := h.keep fun _ hp => hb.cell hp
theorem BxsAt.at_ {w : World} {B n : Nat} {A : Option Addr} {l : List Bx} (h : BxsAt w B A n l) {k : Nat} (hk : k < n) :
 ∃ b off,A = some ⟨b,off,none⟩ ∧ b < B ∧ w.cell? ⟨b,off + k * 4,none⟩ = some (.int .i64 (bx l k).lo.x) ∧ w.cell? ⟨b,off + k * 4 + 1,none⟩ = some (.int .i64 (bx l k).lo.y) ∧ w.cell? ⟨b,off + k * 4 + 2,none⟩ = some (.int .i64 (bx l k).hi.x) ∧ w.cell? ⟨b,off + k * 4 + 3,none⟩ = some (.int .i64 (bx l k).hi.y) := by
 obtain ⟨b,off,e,hb,hc⟩ := h.2 (by omega)
 exact ⟨b,off,e,hb,hc k (bx l k) (bx_of (by rw [h.1];exact hk))⟩
theorem bxsAt_block {w : World} {g : Nat} {t : TypeId} {fr : Nat × Nat} {cs : Array Value} {B : Nat} (l : List Bx) {n : Nat} (hg : w.heap[g]? = some (.cells cs t fr)) (hB : g < B) (hn : l.length = n)
 (hc : ∀ k,k < n → cs[k * 4]? = some (.int .i64 (bx l k).lo.x) ∧ cs[k * 4 + 1]? = some (.int .i64 (bx l k).lo.y) ∧ cs[k * 4 + 2]? = some (.int .i64 (bx l k).hi.x) ∧ cs[k * 4 + 3]? = some (.int .i64 (bx l k).hi.y)) : BxsAt w B (some ⟨g,0,none⟩) n l := by
 refine ⟨hn,fun _ => ⟨g,0,rfl,hB,fun k p hp => ?_⟩⟩
 have hk : k < n := by
  rw [← hn]
  rcases Nat.lt_or_ge k l.length with h | h
  · exact h
  · rw [List.getElem?_eq_none h] at hp;cases hp
 have e : bx l k = p := by rw [bx,List.getD_eq_getElem?_getD,hp];rfl
 have h2 := hc k hk;rw [e] at h2
 simp only [cell_of_row w g _ cs t fr hg,Nat.zero_add]
 exact h2
theorem errV_zero {k : Nat} (h : k = 0) : errV k = .nilIface := by subst h;rfl
theorem errV_pos {k : Nat} (h : k ≠ 0) : errV k = .iface 92 (.int .i64 k) := by
 cases k with
 | zero => exact absurd rfl h
 | succ n => rfl
theorem boxes_any (B n c : Nat) (A : Option Addr) (l : List Bx) (w : World) (hl : BxsAt w B A n l) (hB : B ≤ w.heap.size) (hn : n ≤ maxLen) :
 Calls Tryz.prog 51 #[.slice A n c] w (Ret w (.bool (l.all okBx))) := by
 unfold maxLen at hn
 go_enter Tryz.func51,Tryz.ntmps51
 go_wp2
 go_loopw [7] (fun i wr => ∃ k : Nat,k ≤ n ∧ i = .int .i64 k ∧ (l.take k).all okBx = true ∧ Below w.heap.size w wr) (fun i _ => n - (intOf i).toNat)
 case atStart => exact ⟨0,Nat.zero_le _,rfl,by simp,Below.refl _ _⟩
 case round =>
  obtain ⟨k,hk,rfl,hall,hb⟩ := hrel
  by_cases hlt : k < n
  · obtain ⟨b, off, rfl, hab, c0, c1, c2, c3⟩ := (hl.below (hb.mono hB)).at_ hlt
    have Hp := Lib.hid (all_take_succ okBx l k _ (bx_of (by rw [hl.1];exact hlt)))
    have Hf := Lib.hid (all_false_of okBx l k _ (bx_of (by rw [hl.1];exact hlt)))
    have Ha := Lib.hid hall;clear hall
    rcases Nat.eq_zero_or_pos (ckBox (bx l k)) with hz | hz
    · have HE := Lib.hid (errV_zero hz)
      have Hk := Lib.hid ((okBx_iff _).2 hz);clear hz
      go_wp2_with (go_at_call 75;refine (checkBox_any _ _ _ _ _).mono ?_;rw [HE.out];rintro e w1 ⟨rfl,hb1⟩;obtain ⟨hc1,hf1⟩ := bcell hb1;have hz1 := hb1.size;(try simp at hz1))
      go_roundw
      case rel => exact ⟨k + 1,by omega,by go_num,by rw [Hp.out,Ha.out,Hk.out];rfl,bel⟩
      case measure => simp [intOf];omega
    · have HE := Lib.hid (errV_pos (k := ckBox (bx l k)) (by omega))
      have Hk : Hid (okBx (bx l k) = false) := by simp [Hid,okBx];omega
      go_wp2_with (go_at_call 75;refine (checkBox_any _ _ _ _ _).mono ?_;rw [HE.out];rintro e w1 ⟨rfl,hb1⟩;obtain ⟨hc1,hf1⟩ := bcell hb1;have hz1 := hb1.size;(try simp at hz1))
      go_ret;exact ⟨ret_bool (Hf.out Hk.out).symm,bel⟩
  · have hkn : l.length ≤ k := by rw [hl.1];omega
    rw [List.take_of_length_le hkn] at hall;have Ha := Lib.hid hall;clear hall;go_wp2;go_ret;exact ⟨ret_bool Ha.out.symm,hb⟩
theorem lt_of_block {w : World} {g : Nat} {o : Obj} (hg : w.heap[g]? = some o) : g < w.heap.size := by
 rcases Nat.lt_or_ge g w.heap.size with h | h
 · exact h
 · rw [Array.getElem?_eq_none h] at hg;cases hg
theorem boxes1 (a b c d : Int) (g : Nat) (w : World) (hg : w.heap[g]? = some (.cells #[.int .i64 a,.int .i64 b,.int .i64 c,.int .i64 d] 73 (0,0))) :
 Calls Tryz.prog 51 #[.slice (some ⟨g,0,none⟩) 1 1] w (Ret w (.bool (okBx ⟨⟨a,b⟩,⟨c,d⟩⟩))) := by
 have h := boxes_any w.heap.size 1 1 _ [⟨⟨a,b⟩,⟨c,d⟩⟩] w (bxsAt_block [⟨⟨a,b⟩,⟨c,d⟩⟩] hg (lt_of_block hg) rfl (by intro k hk;match k,hk with | 0,_ => exact ⟨rfl,rfl,rfl,rfl⟩)) (Nat.le_refl _) (by decide)
 simpa using h
theorem boxes2 (a b c d e f i j : Int) (g : Nat) (w : World) (hg : w.heap[g]? = some (.cells #[.int .i64 a,.int .i64 b,.int .i64 c,.int .i64 d,.int .i64 e,.int .i64 f,.int .i64 i,.int .i64 j] 73 (0,0))) :
 Calls Tryz.prog 51 #[.slice (some ⟨g,0,none⟩) 2 2] w (Ret w (.bool (okBx ⟨⟨a,b⟩,⟨c,d⟩⟩ && okBx ⟨⟨e,f⟩,⟨i,j⟩⟩))) := by
 have h := boxes_any w.heap.size 2 2 _ [⟨⟨a,b⟩,⟨c,d⟩⟩,⟨⟨e,f⟩,⟨i,j⟩⟩] w (bxsAt_block [⟨⟨a,b⟩,⟨c,d⟩⟩,⟨⟨e,f⟩,⟨i,j⟩⟩] hg (lt_of_block hg) rfl (by intro k hk;match k,hk with | 0,_ => exact ⟨rfl,rfl,rfl,rfl⟩ | 1,_ => exact ⟨rfl,rfl,rfl,rfl⟩)) (Nat.le_refl _) (by decide)
 simpa using h
theorem cross_bd {a b c : Pt} (h : (okPt a && okPt b && okPt c) = true) :
 (-2147483646 ≤ b.x - a.x ∧ b.x - a.x ≤ 2147483646) ∧ (-2147483646 ≤ c.y - a.y ∧ c.y - a.y ≤ 2147483646) ∧ (-2147483646 ≤ b.y - a.y ∧ b.y - a.y ≤ 2147483646) ∧ (-2147483646 ≤ c.x - a.x ∧ c.x - a.x ≤ 2147483646) := by
 simp only [okPt,farB,Bool.and_eq_true,Bool.not_eq_true',Bool.or_eq_false_iff,decide_eq_false_iff_not] at h
 omega
theorem mul_bd {p q m n : Int} (h1 : -m ≤ p) (h2 : p ≤ m) (h3 : -n ≤ q) (h4 : q ≤ n) : -(m * n) ≤ p * q ∧ p * q ≤ m * n := by
 have ha : p.natAbs ≤ m.natAbs := by omega
 have hb : q.natAbs ≤ n.natAbs := by omega
 have hm := Nat.mul_le_mul ha hb;rw [← Int.natAbs_mul,← Int.natAbs_mul] at hm;have : 0 ≤ m * n := Int.mul_nonneg (by omega) (by omega)
 omega
theorem cross_any (ax ay bx by_ cx cy : Int) (w : World) :
 Calls Tryz.prog 137 #[ptV ax ay,ptV bx by_,ptV cx cy] w (Ret w (.int .i64 (cross ⟨ax,ay⟩ ⟨bx,by_⟩ ⟨cx,cy⟩))) := by
 cases h : (okPt ⟨ax,ay⟩ && okPt ⟨bx,by_⟩ && okPt ⟨cx,cy⟩)
 · have H : Hid (cross ⟨ax,ay⟩ ⟨bx,by_⟩ ⟨cx,cy⟩ = 0) := by simp [Hid,cross,h]
   go_enter Tryz.func137, Tryz.ntmps137
   go_wp2_with (go_at_call 93;refine (may3 ax ay bx by_ cx cy _ _ ?_).mono ?_;exact block_last (by simp);rintro e w1 ⟨rfl,hb1⟩;obtain ⟨hc1,hf1⟩ := bcell hb1;have hz1 := hb1.size;(try simp at hz1))
   go_ret;exact ⟨by rw [H.out];rfl,bel⟩
 · have H : Hid (cross ⟨ax,ay⟩ ⟨bx,by_⟩ ⟨cx,cy⟩ = (bx - ax) * (cy - ay) - (by_ - ay) * (cx - ax)) := by simp [Hid,cross,h,crossR]
   obtain ⟨⟨a1,a2⟩,⟨a3,a4⟩,⟨a5,a6⟩,⟨a7,a8⟩⟩ := cross_bd h;have b1 := mul_bd (m := 2147483646) (n := 2147483646) a1 a2 a3 a4;have b2 := mul_bd (m := 2147483646) (n := 2147483646) a5 a6 a7 a8
   simp only at a1 a2 a3 a4 a5 a6 a7 a8 b1 b2
   obtain ⟨b1,b3⟩ := b1;obtain ⟨b2,b4⟩ := b2
   go_enter Tryz.func137, Tryz.ntmps137
   go_wp2_with (go_at_call 93;refine (may3 ax ay bx by_ cx cy _ _ ?_).mono ?_;exact block_last (by simp);rintro e w1 ⟨rfl,hb1⟩;obtain ⟨hc1,hf1⟩ := bcell hb1;have hz1 := hb1.size;(try simp at hz1))
   go_ret;exact ⟨by rw [H.out];rfl,bel⟩
theorem compareInt_any (a b : Int) (w : World) :
 Calls Tryz.prog 136 #[.int .i64 a,.int .i64 b] w fun e w' => e = .returned (.int .i64 (sgn (a - b))) ∧ w = w' := by
 rcases Int.lt_trichotomy a b with h | h | h
 · have H : Hid (sgn (a - b) = -1) := by unfold Hid sgn;rw [if_pos (by omega)]
   go_enter Tryz.func136, Tryz.ntmps136
   go_wp2;go_ret;exact ⟨ret_int H.out.symm,rfl⟩
 · have H : Hid (sgn (a - b) = 0) := by unfold Hid sgn;rw [if_neg (by omega),if_neg (by omega)]
   subst h
   go_enter Tryz.func136, Tryz.ntmps136
   go_wp2;go_ret;exact ⟨ret_int H.out.symm,rfl⟩
 · have H : Hid (sgn (a - b) = 1) := by unfold Hid sgn;rw [if_neg (by omega),if_pos (by omega)]
   go_enter Tryz.func136, Tryz.ntmps136
   go_wp2;go_ret;exact ⟨ret_int H.out.symm,rfl⟩
theorem orient_any (ax ay bx by_ cx cy : Int) (w : World) :
 Calls Tryz.prog 125 #[ptV ax ay,ptV bx by_,ptV cx cy] w (Ret w (.int .i64 (orient ⟨ax,ay⟩ ⟨bx,by_⟩ ⟨cx,cy⟩))) := by
 go_enter Tryz.func125,Tryz.ntmps125
 go_wp2_with (first | (go_at_call 137;refine (cross_any _ _ _ _ _ _ _).mono ?_;rintro e w1 ⟨rfl,hb1⟩;obtain ⟨hc1,hf1⟩ := bcell hb1;have hz1 := hb1.size;(try simp at hz1)) | (go_at_call 136;refine (compareInt_any _ _ _).mono ?_;rintro e w' ⟨rfl,rfl⟩))
 go_ret;exact ⟨by simp [orient],bel⟩
theorem has_any (a b c d x y : Int) (w : World) :
 Calls Tryz.prog 123 #[bxV a b c d,ptV x y] w (Ret w (.bool (bhas ⟨⟨a,b⟩,⟨c,d⟩⟩ ⟨x,y⟩))) := by
 go_enter Tryz.func123,Tryz.ntmps123
 go_wp2_with (first | (go_at_call 51;refine (boxes1 a b c d _ _ ?_).mono ?_;exact block_last (by simp);rintro e w1 ⟨rfl,hb1⟩;obtain ⟨hc1,hf1⟩ := bcell hb1;have hz1 := hb1.size;(try simp at hz1);have hy0 : w.heap.size < w1.heap.size := (by omega);have hy1 : w.heap.size + 1 < w1.heap.size := (by omega)) | (go_at_call 93;refine (may1 x y _ _ ?_).mono ?_;exact block_last (by simp);rintro e w1 ⟨rfl,hb1⟩;obtain ⟨hc1,hf1⟩ := bcell hb1;have hz1 := hb1.size;(try simp at hz1);have hy0 : w.heap.size < w1.heap.size := (by omega);have hy1 : w.heap.size + 1 < w1.heap.size := (by omega)))
 all_goals go_ret
 all_goals exact ⟨ret_bool (by first | (simp [bhas,bhasR, *];done) | (simp [bhas,bhasR, *];omega)),bel⟩
theorem meets_any (a b c d x y z t : Int) (w : World) :
 Calls Tryz.prog 25 #[bxV a b c d,bxV x y z t] w (Ret w (.bool (bmeets ⟨⟨a,b⟩,⟨c,d⟩⟩ ⟨⟨x,y⟩,⟨z,t⟩⟩))) := by
 go_enter Tryz.func25,Tryz.ntmps25
 go_wp2_with (go_at_call 51;refine (boxes2 a b c d x y z t _ _ ?_).mono ?_;exact block_last (by simp);rintro e w1 ⟨rfl,hb1⟩;obtain ⟨hc1,hf1⟩ := bcell hb1;have hz1 := hb1.size;(try simp at hz1);have hy0 : w.heap.size < w1.heap.size := (by omega);have hy1 : w.heap.size + 1 < w1.heap.size := (by omega))
 all_goals go_ret
 all_goals exact ⟨ret_bool (by first | (simp [bmeets,bmeetsR, *];done) | (simp [bmeets,bmeetsR, *];omega)),bel⟩
end Go.Proofs.YtcbjmcnebmhgpaaGreat
