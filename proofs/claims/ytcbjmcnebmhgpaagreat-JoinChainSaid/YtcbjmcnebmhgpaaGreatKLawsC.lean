/-
  Lists of objects and of queries in memory.
  What a box covers: what an object's box is asked for,and how near it is;the same for any greater box.
  The union of keys: of whatever order,in two parts or in one;it covers what its keys were made of.
  What opclass.Laws answers, of whatever class: which law is broken first, and where. Definitions only, so far.
  Contracts: slices.Index and slices.Contains of bools;opclass.split of whatever class.
  Toward opclass.Laws of whatever class: a clone of bytes is a row of its own.
  Rows for the walk of OpclassUnions: keys and objects taken,cut and put together;a boxes class at a key.
  The boxes classes as classes in memory.
-/
import Derived.Test.YtcbjmcnebmhgpaaGreatKRel1
import Derived.Test.YtcbjmcnebmhgpaaGreatKOpcA
import Derived.Test.YtcbjmcnebmhgpaaGreatKPlainSplit
import Derived.Test.YtcbjmcnebmhgpaaGreatKArea
import Derived.Test.YtcbjmcnebmhgpaaGreatKWide
import Derived.Test.YtcbjmcnebmhgpaaGreatKBits2
import Derived.StillTailTactics
import Derived.Test.YtcbjmcnebmhgpaaGreatKLex
import Derived.Test.YtcbjmcnebmhgpaaGreatKAlloc
import Derived.Test.YtcbjmcnebmhgpaaGreatKDist2
import Derived.Test.YtcbjmcnebmhgpaaGreatKMBox
import Derived.LaidEql
import Derived.Stop.Asserts
import Derived.Lib.IfaceEq
import Derived.RowKitTokens
import Derived.Test.YtcbjmcnebmhgpaaGreatKRef3
import Derived.Test.YtcbjmcnebmhgpaaGreatKEncK
import Derived.Test.YtcbjmcnebmhgpaaGreatKRel8
import Derived.Test.YtcbjmcnebmhgpaaGreatKSplA
set_option linter.unusedVariables false
set_option linter.unusedSimpArgs false
set_option maxHeartbeats 2000000
set_option maxRecDepth 20000
namespace Go.Proofs.YtcbjmcnebmhgpaaGreat
open Go.RowKit Pg
instance : Inhabited Ob := ⟨⟨0,[]⟩⟩
instance : Inhabited Qu := ⟨⟨0,bzero,[]⟩⟩
theorem bmeets_swap {a b : Bx} (h : bmeets a b = true) : bmeets b a = true := by
 unfold bmeets bmeetsR at *
 simp only [Bool.and_eq_true,decide_eq_true_eq] at *
 exact ⟨⟨h.1.2,h.1.1⟩,⟨⟨by omega,by omega⟩,by omega⟩,by omega⟩
theorem match_ok {o : Ob} {q : Qu} (h : matchS o q = true) : ckOb o = 0 ∧ ckQu q = 0 := by
 unfold matchS at h
 split at h
 · rename_i h1;exact h1
 · cases h
theorem match_cons {o : Ob} {q : Qu} (h : matchS o q = true) : consB (boundsS o) q = true := by
 obtain ⟨ho,hq⟩ := match_ok h;obtain ⟨k,b,r⟩ := q;unfold consB
 rw [if_pos hq]
 simp only
 have hk : k = 1 ∨ k = 2 ∨ k = 3 ∨ k = 4 := by
  unfold ckQu at hq
  simp only at hq
  by_cases h12 : k = 1 ∨ k = 2
  · omega
  · rw [if_neg h12] at hq
    by_cases h3 : k = 3
    · omega
    · rw [if_neg h3] at hq
      by_cases h4 : k = 4
      · omega
      · rw [if_neg h4] at hq;cases hq
 unfold matchS at h;rw [if_pos ⟨ho,hq⟩] at h
 simp only at h
 rcases hk with rfl | rfl | rfl | rfl
 · have hr : ckBox b = 0 := by simpa [ckQu] using hq
   rw [if_neg (by decide), if_neg (by decide)]
   refine meets_bounds ho hr ?_;unfold matchS
   rw [if_pos ⟨ho, by simpa [ckQu] using hr⟩]
   exact h
 · have hr : ckBox b = 0 := by simpa [ckQu] using hq
   rw [if_neg (by decide), if_neg (by decide)]
   refine meets_bounds ho hr (in_meets ho hr ?_);unfold matchS
   rw [if_pos ⟨ho, by simpa [ckQu] using hr⟩]
   exact h
 · have op : okPt b.lo = true := by
    have : (if okPt b.lo = true then 0 else 2) = 0 := by simpa [ckQu] using hq
    split at this
    · assumption
    · cases this
   rw [if_pos rfl]
   have hr : ckBox ⟨b.lo,b.lo⟩ = 0 := okBx_ck.1 (okBx_pp op)
   have h1 := meets_bounds (r := ⟨b.lo,b.lo⟩) ho hr (by
    unfold matchS
    rw [if_pos ⟨ho, by simpa [ckQu] using hr⟩]
    exact h)
   have hbo := bounds_okBx ho;have h2 := (bmeets_pp hbo op).1 h1;unfold bhas bhasR;unfold inR at h2
   rw [hbo, op, decide_eq_true h2.1.1, decide_eq_true h2.1.2, decide_eq_true h2.2.1, decide_eq_true h2.2.2]
   rfl
 · have hr : ckRing r = 0 := by simpa [ckQu] using hq
   rw [if_neg (by decide), if_pos rfl]
   rw [if_neg (by decide),if_neg (by decide),if_neg (by decide)] at h
   unfold meetsO at h;have h4 : isBox ⟨4,r⟩ = false := rfl;rw [h4] at h
   cases hb : isBox o with
   | true =>
     rw [hb] at h;have hbo := bounds_okBx ho
     rw [boundsS_box hb] at hbo ⊢
     have ho4 : ckOb ⟨4,r⟩ = 0 := by simpa [ckOb] using hr
     have h1 := meets_bounds (o := ⟨4,r⟩) (r := obBox o) ho4 (okBx_ck.1 hbo) (by
      unfold matchS
      rw [if_pos ⟨ho4, by simpa [ckQu] using okBx_ck.1 hbo⟩]
      exact h)
     exact bmeets_swap h1
   | false =>
     rw [hb] at h
     rw [boundsS_poly hb]
     have h2 : ringsS o.pts r = true := h;unfold ringsS at h2;rw [Bool.and_eq_true] at h2;exact h2.1
structure Cl where
 make : Ob → Nat × List Nat
 cons : List Nat → Qu → Bool
 far : List Nat → Pt → Fr
 un : List (List Nat) → List Nat
 split : List (List Nat) → List Bool
def BosAt (w : World) (B : Nat) (A : Option Addr) (n : Nat) (l : List Bool) : Prop :=
 l.length = n ∧ (0 < n → ∃ b off,A = some ⟨b,off,none⟩ ∧ b < B ∧ ∀ (k : Nat) (x : Bool),l[k]? = some x → w.cell? ⟨b,off + k,none⟩ = some (.bool x))
theorem BosAt.below {w w' : World} {B n : Nat} {A : Option Addr} {l : List Bool} (h : BosAt w B A n l) (hb : Below B w w') : BosAt w' B A n l :=
 ⟨h.1,fun hn => by
  obtain ⟨b,off,e,hb',hc⟩ := h.2 hn
  exact ⟨b,off,e,hb',fun k x hx => (hb.cell (p := ⟨b,off + k,none⟩) hb').trans (hc k x hx)⟩⟩
theorem BosAt.tr {w w' : World} {B n : Nat} {A : Option Addr} {l : List Bool} (h : BosAt w B A n l) (hb : Below w.heap.size w w') (hB : B ≤ w.heap.size) : BosAt w' B A n l := h.below (hb.mono hB)
theorem bos_more {w : World} {B B' n : Nat} {A : Option Addr} {l : List Bool} (h : BosAt w B A n l) (hB : B ≤ B') : BosAt w B' A n l :=
 ⟨h.1,fun hn => by
  obtain ⟨b,off,e,hb,hc⟩ := h.2 hn
  exact ⟨b,off,e,by omega,hc⟩⟩
structure SplAt (rv : Value) (f : Nat) (L : List (List Nat)) (s : List Bool) : Prop where
 enter : ∀ (args : Array Value) (w : World),(callFunc f args).run Tryz.prog w = .ok (.enter f args) w
 len : s.length ≤ 1000000
 calls : ∀ (W : World) (B : Nat) (A : Option Addr) (c : Nat),RbsAt W B A L.length L → B ≤ W.heap.size → Calls Tryz.prog f #[rv,.slice A L.length c] W fun e w' => ∃ A' c',e = .returned (.slice A' s.length c') ∧ BosAt w' w'.heap.size A' s.length s ∧ Below W.heap.size W w'
theorem cloneB_own (B n c : Nat) (A : Option Addr) (l : List Nat) (w : World) (hl : BysAt w B A n l) (hB : B ≤ w.heap.size) (hn2 : n ≤ 1000000) (hnc : n ≤ c) (hAn : A = none → c = 0) :
 Calls Tryz.prog 61 #[.slice A n c] w (RetB w l) := by
 obtain ⟨i0,hi,iz0,iz1,iz2⟩ := info_parts Tryz.infoByte;have q22 : ∀ (w : World) (a : Option Addr) (n c n' c' : Nat),(binOp .eql 93 (.slice a n c) (.slice none n' c')).run Tryz.prog w = .ok (.bool a.isNone) w := fun w a n c n' c' => Lib.run_eql_slice_nil w _ _ a n c n' c' Tryz.underlying93
 cases A with
 | none =>
   have hc0 := hAn rfl;have hn0 : n = 0 := by omega
   subst hc0 hn0;have hl0 : l = [] := List.eq_nil_of_length_eq_zero hl.1;subst hl0;clear hl
   go_enter Tryz.func61, Tryz.ntmps61
   go_wp2;go_ret;exact ⟨_,rfl,World.ownsRow_nil _ _ _ _,bel⟩
 | some ad =>
 have hnews : ∀ (j : Nat) (u : Value),(ycells l)[j]? = some u → w.cell? (ad.add j) = some u := by
  intro j u hj
  rcases Nat.eq_zero_or_pos n with h0 | hn
  · have hl0 : l = [] := List.eq_nil_of_length_eq_zero (hl.1.trans h0)
    subst hl0
    simp [ycells] at hj
  · obtain ⟨b, off, e, _⟩ := hl.2 hn
    injection e with e
    subst e;exact BysAt.news hl hn j u hj
 have hln := hl.1;have HN := Lib.hid hnews;clear hl hnews
 go_enter Tryz.func61,Tryz.ntmps61
 go_wp2_with (at_builtin;refine wpList_append_own _ rfl _ _ 93 rfl w.heap.size 5 i0 (.int .u8 0) 1 1 Tryz.underlying93 hi iz0 iz1 iz2 rfl (by decide) _ _ _ rfl (World.ownsRow_made w #[] 0 (Nat.le_refl _) (Nat.zero_le _) rfl) ad n c (ycells l) rfl ?qc1 ?qc2 ?qc3 ?qc4 ?qc5 ?qc6 ?_)
 case qc1 => simp [ycells,hln]
 case qc2 =>
  intro j u hj;exact Lib.cell?_alloc_some _ (HN.out j u hj)
 case qc3 => exact ycells_one l
 case qc4 => unfold maxLen;omega
 case qc5 => omega
 case qc6 => simp
 intro v' w1 hown hgrow hnil
 try rw [Nat.zero_add] at hown
 go_wp2;go_ret;exact ⟨_,rfl,by rw [hln];exact hown,((Below.refl _ w).alloc (Nat.le_refl _) _).grown hgrow (by simp) (by intro k hk;simp [Value.ownBlock] at hk;omega)⟩
structure ClAt (t : TypeId) (rv : Value) (C : Cl) (fM fC fD fU fS : Nat) : Prop where
 mM : ∀ w,(Go.method 337 t rv "Make").run Tryz.prog w = .ok (fM,rv) w
 mU : ∀ w,(Go.method 337 t rv "Union").run Tryz.prog w = .ok (fU,rv) w
 mS : ∀ w,(Go.method 337 t rv "Split").run Tryz.prog w = .ok (fS,rv) w
 eM : ∀ (args : Array Value) (w : World),(callFunc fM args).run Tryz.prog w = .ok (.enter fM args) w
 eU : ∀ (args : Array Value) (w : World),(callFunc fU args).run Tryz.prog w = .ok (.enter fU args) w
 form : ∀ o,(∀ x ∈ (C.make o).2,x < 256) ∧ (C.make o).2.length ≤ 1000000
 formU : ∀ L,(∀ l ∈ L,∀ x ∈ l,x < 256) → (∀ l ∈ L,l.length ≤ 1000000) → (∀ x ∈ C.un L,x < 256) ∧ (C.un L).length ≤ 1000000
 make : ∀ (W : World) (B m c : Nat) (k : Int) (A : Option Addr) (l : List Pt),PtsAt W B A m l → B ≤ W.heap.size → m ≤ 1000000 →
  Calls Tryz.prog fM #[rv, obV k A m c] W fun e w' => ∃ s v, e = .returned (.tuple #[s, v]) ∧ w'.ownsRow W.heap.size 5 1 s (C.make ⟨k, l⟩).2.length (ycells (C.make ⟨k, l⟩).2) ∧ ((C.make ⟨k, l⟩).1 = 0 → v = .nilIface) ∧ ((C.make ⟨k, l⟩).1 ≠ 0 → ∃ t u, v = .iface t u) ∧ Below W.heap.size W w'
 un : ∀ (W : World) (B c : Nat) (A : Option Addr) (L : List (List Nat)),RbsAt W B A L.length L → B ≤ W.heap.size → L.length ≤ 1000000 → (∀ l ∈ L,∀ x ∈ l,x < 256) → (∀ l ∈ L,l.length ≤ 1000000) → Calls Tryz.prog fU #[rv,.slice A L.length c] W (RetB W (C.un L))
 split : ∀ L,L.length ≤ 1000000 → (∀ l ∈ L,∀ x ∈ l,x < 256) → (∀ l ∈ L,l.length ≤ 1000000) → SplAt rv fS L (C.split L)
def roundS (k : Int) (n : Nat) : Nat := (k % (n : Int)).toNat
theorem roundS_lt {k : Int} {n : Nat} (hn : 0 < n) : roundS k n < n := by
 unfold roundS;have := Int.emod_lt_of_pos k (show (0 : Int) < n by omega)
 have := Int.emod_nonneg k (show (n : Int) ≠ 0 by omega)
 omega
theorem roundS_tmod (k : Int) {n : Nat} (hn : 0 < n) : ((roundS k n : Nat) : Int) = if k.tmod n < 0 then k.tmod n + n else k.tmod n := by
 unfold roundS;have h1 := Int.emod_nonneg k (show (n : Int) ≠ 0 by omega)
 rw [Int.toNat_of_nonneg h1]
 have h2 := Int.emod_lt_of_pos k (show (0 : Int) < n by omega)
 rcases Int.lt_or_le k 0 with hk | hk
 · have e : k.tmod n = -((-k) % n) := by rw [← Int.tmod_eq_emod_of_nonneg (by omega : 0 ≤ -k),Int.neg_tmod,Int.neg_neg]
   have e2 := Int.emod_nonneg (-k) (show (n : Int) ≠ 0 by omega)
   have e3 := Int.emod_lt_of_pos (-k) (show (0 : Int) < n by omega)
   have d1 := Int.emod_add_mul_ediv k n;have d2 := Int.emod_add_mul_ediv (-k) n
   have key : (k % n + (-k) % n) % n = 0 := by
    rw [← Int.add_emod, Int.add_right_neg, Int.zero_emod]
   rcases Decidable.em ((-k) % (n : Int) = 0) with z | z
   · rw [e, z]
     simp
     rw [z,Int.add_zero,Int.emod_emod_of_dvd k (Int.dvd_refl _)] at key;exact key
   · rw [if_pos (by omega), e]
     have hs : k % n + (-k) % n = n := by
      rcases Int.lt_or_le (k % n + (-k) % n) n with h | h
      · rw [Int.emod_eq_of_lt (by omega) h] at key
        omega
      · have : (k % n + (-k) % n - n) % n = 0 := by rw [Int.sub_emod_right];exact key
        rw [Int.emod_eq_of_lt (by omega) (by omega)] at this
        omega
     omega
 · rw [Int.tmod_eq_emod_of_nonneg hk,if_neg (by omega)]
theorem round_any (k : Int) (n : Nat) (hn : 0 < n) (hn2 : n ≤ 1000000) (w : World) : Calls Tryz.prog 16 #[.int .i64 k,.int .i64 n] w (Ret w (.int .i64 (roundS k n : Nat))) := by
 have HR := Lib.hid (roundS_tmod k hn);have h1 := roundS_lt (k := k) hn;obtain ⟨m,hm⟩ : ∃ m,k.tmod n = m := ⟨_,rfl⟩;rw [hm] at HR;generalize roundS k n = r at *;have hn0 : ¬ (n : Int) = 0 := by omega
 have hlo : -(n : Int) ≤ m := by
  rcases Decidable.em (m < 0) with h | h
  · have := HR.out
    rw [if_pos h] at this
    omega
  · omega
 have hhi : m < (n : Int) := by
  rcases Decidable.em (m < 0) with h | h
  · omega
  · have := HR.out
    rw [if_neg h] at this
    omega
 have hw : IntKind.i64.wrap m = m := IntWalk.i64_in m ⟨by omega,by omega⟩
 by_cases hneg : m < 0
 · have hr : (r : Int) = m + n := by rw [HR.out,if_pos hneg]
   go_enter Tryz.func16, Tryz.ntmps16
   go_wp2;go_ret;exact ⟨by simp [hw,hm,hr],bel⟩
 · have hr : (r : Int) = m := by rw [HR.out,if_neg hneg]
   go_enter Tryz.func16, Tryz.ntmps16
   go_wp2;go_ret;exact ⟨by simp [hw,hm,hr],bel⟩
theorem bos_of_blk {w : World} {g : Nat} {s : List Bool} (h : Blk w g 4 (s.map Value.bool).toArray) : BosAt w w.heap.size (some ⟨g,0,none⟩) s.length s :=
 ⟨rfl,fun _ => ⟨g,0,rfl,h.lt,fun k x hx => by
  rw [Nat.zero_add, h.cell]
  simp [hx]⟩⟩
theorem unionK_formC (L : List (List Nat)) : (∀ x ∈ unionK L,x < 256) ∧ (unionK L).length ≤ 1000000 := by
 unfold unionK
 split
 · refine ⟨fun x hx => keyL_byte hx,?_⟩
   by_cases hne : boxesK L = []
   · rename_i h
     rw [hne] at h;exact absurd h (by decide)
   · have := (keyL_len (okBx_in (union_all hne fun b hb => boxesK_ok hb).2.1)).2
     omega
 · exact ⟨by simp,by simp⟩
end Go.Proofs.YtcbjmcnebmhgpaaGreat
