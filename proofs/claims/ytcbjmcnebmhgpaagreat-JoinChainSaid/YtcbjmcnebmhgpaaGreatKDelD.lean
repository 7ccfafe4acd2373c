/-
  slices.DeleteFunc of a leaf's entries by the closure of Delete: which entries stay.
  gist.below: the ids below a node, in a row of the call's own.
  Delete: what its steps do to a tree in memory.
-/
import Derived.Test.YtcbjmcnebmhgpaaGreatKJoiB
import Derived.Test.YtcbjmcnebmhgpaaGreatKGisY
import Derived.Test.YtcbjmcnebmhgpaaGreatKGisI
import Derived.Test.YtcbjmcnebmhgpaaGreatKGisJ
import Derived.Test.YtcbjmcnebmhgpaaGreatKNearP
set_option linter.unusedVariables false
set_option linter.unusedSimpArgs false
set_option maxHeartbeats 8000000
set_option maxRecDepth 20000
namespace Pg
def idxI (d : Int) : List En → Nat → Int
 | [],_ => -1
 | e :: r,i => if e.id = d then (i : Int) else idxI d r (i + 1)
theorem idxI_drop {d : Int} {l : List En} {i : Nat} {e : En} (h : l[i]? = some e) : idxI d (l.drop i) i = if e.id = d then (i : Int) else idxI d (l.drop (i + 1)) (i + 1) := by
 have hi : i < l.length := by
  rcases Nat.lt_or_ge i l.length with q | q
  · exact q
  · rw [List.getElem?_eq_none q] at h;cases h
 rw [List.drop_eq_getElem_cons hi]
 rw [List.getElem?_eq_getElem hi] at h;injection h with h
 subst h
 rfl
theorem idxI_none {d : Int} : ∀ {l : List En} {i : Nat},idxI d l i = -1 → l.filter (fun e => !decide (e.id = d)) = l
 | [],_,_ => rfl
 | e :: r,i,h => by
   unfold idxI at h
   by_cases q : e.id = d
   · rw [if_pos q] at h;omega
   · rw [if_neg q] at h
     rw [List.filter_cons_of_pos (by simpa using q), idxI_none h]
theorem idxI_some {d : Int} : ∀ {l : List En} {i : Nat},idxI d l i ≠ -1 → ∃ j x,idxI d l i = ((i + j : Nat) : Int) ∧ l[j]? = some x ∧ x.id = d ∧ (l.take j).filter (fun e => !decide (e.id = d)) = l.take j
 | [],_,h => absurd rfl h
 | e :: r,i,h => by
   unfold idxI at h ⊢
   by_cases q : e.id = d
   · exact ⟨0,e,by rw [if_pos q];rfl,rfl,q,rfl⟩
   · rw [if_neg q] at h ⊢
     obtain ⟨j,x,h1,h2,h3,h4⟩ := idxI_some h;exact ⟨j + 1,x,by rw [h1];congr 1;omega,by simpa using h2,h3,by rw [List.take_succ_cons,List.filter_cons_of_pos (by simpa using q),h4]⟩
end Pg
namespace Go.Proofs.YtcbjmcnebmhgpaaGreat
open Go Go.RowKit Pg
theorem del1_any (kv p : Value) (id d : Int) (g : Nat) (w : World) (hg : w.cell? ⟨g,0,none⟩ = some (.int .i64 d)) (hlt : g < w.heap.size) :
 Calls Tryz.prog 34 #[.agg #[kv,.int .i64 id,p],.pointer (some ⟨g,0,none⟩)] w (Ret w (.bool (decide (id = d)))) := by
 have e : decide (id = d) = (id == d) := by rw [Bool.eq_iff_iff];simp
 rw [e]
 go_enter Tryz.func34,Tryz.ntmps34
 go_wp2;go_ret;exact ⟨rfl,bel⟩
theorem delIdx_any (lf : Bool) (l : List En) (g n : Nat) (d : Int) (v : Value) (w : World) (h : w.ownsRow 0 99 3 v n (ecells lf l)) (hg : w.cell? ⟨g,0,none⟩ = some (.int .i64 d)) (hlt : g < w.heap.size) (hn : n ≤ 1000000) :
 Calls Tryz.prog 59 #[v,.func (.func 34) #[] #[.pointer (some ⟨g,0,none⟩)]] w (Ret w (.int .i64 (idxI d l 0))) := by
 obtain ⟨A,c,rfl,hnc,hAn,hAb⟩ := row_form h;have hl : l.length = n := by have := h.1;rw [ecells_len] at this;omega
 have HR := Lib.hid h;have HP := Lib.hid (fun kv id p W (hW : Below w.heap.size w W) => del1_any kv p id d g W (((bcell hW).1 g 0 hlt).trans hg) (Nat.lt_of_lt_of_le hlt hW.size))
 clear h hnc hAn hAb
 go_enter Tryz.func59,Tryz.ntmps59
 go_wp2_with fail
 go_loopw [8] (fun vi wr => ∃ i : Nat,i ≤ n ∧ vi = .int .i64 i ∧ idxI d (l.drop i) i = idxI d l 0 ∧ Below w.heap.size w wr) (fun vi _ => n - (Go.RowKit.intOf vi).toNat)
 case atStart => exact ⟨0,by omega,rfl,rfl,bel⟩
 case round =>
  obtain ⟨i,hi,rfl,he,hb⟩ := hrel
  by_cases hlt' : i < n
  case neg =>
   obtain rfl : n = i := by omega
   have HE : Hid (idxI d l 0 = -1) := by
    unfold Hid
    rw [← he, List.drop_of_length_le (by omega)]
    rfl
   clear he;go_wp2_with fail;go_ret;exact ⟨by rw [HE.out];rfl,bel⟩
  have hi1 : (i : Int) < (n : Int) := by omega
  obtain ⟨x,hx⟩ : ∃ x,l[i]? = some x := ⟨l[i]'(by omega),List.getElem?_eq_getElem _⟩
  have hr := HR.out;rw [← hl] at hr;obtain ⟨g',c',hv,hgl,r0,r1,r2⟩ := row_at hr hx;injection hv with hv1 hv2 hv3
  subst hv1 hv3;obtain ⟨hc,hf⟩ := bcell hb;have hz := hb.size;rw [← hc g' _ hgl] at r0 r1 r2;have hgw : g' < wr.heap.size := by omega
  rw [idxI_drop hx] at he;obtain ⟨p,hp⟩ : ∃ p,(if lf then Value.pointer none else gP x.kid) = p := ⟨_,rfl⟩
  rw [hp] at r2;clear hr hv2 hc hf hp
  by_cases hk : x.id = d
  · rw [if_pos hk] at he
    have HE := Lib.hid he;have hd : decide (x.id = d) = true := decide_eq_true hk;clear he hk
    go_wp2_with (go_at_call 34;(with_reducible refine (HP.out _ _ _ _ bel).mono ?_);rintro e w1 ⟨rfl,hb1⟩;obtain ⟨hc1,hf1⟩ := bcell hb1;rw [hd])
    go_ret;exact ⟨by rw [HE.out];rfl,bel⟩
  · rw [if_neg hk] at he
    have HE := Lib.hid he;have hd : decide (x.id = d) = false := decide_eq_false hk;clear he hk
    go_wp2_with (go_at_call 34;(with_reducible refine (HP.out _ _ _ _ bel).mono ?_);rintro e w1 ⟨rfl,hb1⟩;obtain ⟨hc1,hf1⟩ := bcell hb1;rw [hd])
    go_roundw
    case rel => exact ⟨i + 1, by omega, by go_num, HE.out, bel⟩
    case measure => simp [Go.RowKit.intOf];omega
theorem grown_someD {w w' : World} {g : Nat} (h : w.grownBy w' none) : w.grownBy w' (some g) := by
 obtain ⟨a,b,c,d,e⟩ := h;exact ⟨a,b,c,d,fun k hk q => e k hk (by simp)⟩
theorem cell_grownD {w w' : World} {g b o : Nat} (h : w.grownBy w' (some g)) (hb : b < w.heap.size) (hne : b ≠ g) : w'.cell? ⟨b,o,none⟩ = w.cell? ⟨b,o,none⟩ := by
 unfold World.cell?
 rw [h.block b hb (by simpa using hne)]
theorem filt_skip {l : List En} {d : Int} {j : Nat} {x : En} (h : l[j]? = some x) (hx : x.id = d) : (l.take (j + 1)).filter (fun e => !decide (e.id = d)) = (l.take j).filter (fun e => !decide (e.id = d)) := by
 rw [List.take_add_one,h,List.filter_append]
 simp [hx]
theorem filt_keep {l : List En} {d : Int} {j : Nat} {x : En} (h : l[j]? = some x) (hx : ¬ x.id = d) : (l.take (j + 1)).filter (fun e => !decide (e.id = d)) = (l.take j).filter (fun e => !decide (e.id = d)) ++ [x] := by
 rw [List.take_add_one,h,List.filter_append]
 simp [hx]
theorem drop_stepD {L l : List En} {j : Nat} (h : L.drop j = l.drop j) : L.drop (j + 1) = l.drop (j + 1) := by
 rw [← List.drop_drop,← List.drop_drop,h]
structure DelAt (w0 w : World) (lf : Bool) (l : List En) (d : Int) (g n c a j : Nat) (L : List En) : Prop where
 row : w.ownsRow 0 99 3 (.slice (some ⟨g,0,none⟩) n c) n (ecells lf L)
 grown : w0.grownBy w (some g)
 len : L.length = n
 lt : a < j
 le : j ≤ n
 num : a = ((l.take j).filter fun e => !decide (e.id = d)).length
 kept : L.take a = (l.take j).filter fun e => !decide (e.id = d)
 rest : L.drop j = l.drop j
theorem sdelF_any (l : List En) (g gd n c : Nat) (d : Int) (w : World) (h : w.ownsRow 0 99 3 (.slice (some ⟨g,0,none⟩) n c) n (ecells true l)) (hg : w.cell? ⟨gd,0,none⟩ = some (.int .i64 d)) (hlt : gd < w.heap.size) (hne : gd ≠ g) (hn : n ≤ 1000000) (hkv : ∀ e ∈ l,∃ A m k,e.kv = .slice A m k) :
 Calls Tryz.prog 33 #[.slice (some ⟨g,0,none⟩) n c,.func (.func 34) #[] #[.pointer (some ⟨gd,0,none⟩)]] w fun e w' => ∃ m,m = (l.filter fun e => !decide (e.id = d)).length ∧ e = .returned (.slice (some ⟨g,0,none⟩) m c) ∧ w'.ownsRow 0 99 3 (.slice (some ⟨g,0,none⟩) m c) m (ecells true (l.filter fun e => !decide (e.id = d))) ∧ w.grownBy w' (some g) := by
 have HIx := Lib.hid (delIdx_any true l gd n d _ w h hg hlt hn);have hl : l.length = n := by have := h.1;rw [ecells_len] at this;omega
 have HL := Lib.hid hl;have HR := Lib.hid h;have HG := Lib.hid (And.intro hg (And.intro hlt hne));have HKV := Lib.hid hkv;clear h hg hl hkv
 by_cases hix : idxI d l 0 = -1
 · have hF := idxI_none hix
   rw [hix] at HIx;have HF := Lib.hid hF;clear hF hix
   go_enter Tryz.func33, Tryz.ntmps33
   go_wp2_with (go_at_call 59;(refine HIx.out.mono ?_);rintro e w1 ⟨rfl,hb1⟩;obtain ⟨hc1,hf1⟩ := bcell hb1;have hz1 := hb1.size;(try simp at hz1))
   go_ret;exact ⟨n,by rw [HF.out,HL.out],rfl,by rw [HF.out];exact own_kept HR.out (grown_below hb1) (by simp),grown_someD (grown_below hb1)⟩
 obtain ⟨j0,x0,h1,h2,h3,h4⟩ := idxI_some hix;rw [h1,Nat.zero_add] at HIx;have hj0 : j0 < l.length := (List.getElem?_eq_some_iff.1 h2).1;have HJ := Lib.hid (And.intro hj0 (And.intro h2 (And.intro h3 h4)));have hjn : j0 < n := by rw [← HL.out];exact hj0
 have hm1 : ((j0 : Int) == -1) = false := by rw [beq_eq_false_iff_ne];omega
 clear hix h1 h2 h3 h4 hj0
 go_enter Tryz.func33,Tryz.ntmps33
 go_wp2_with (go_at_call 59;(refine HIx.out.mono ?_);rintro e w1 ⟨rfl,hb1⟩;obtain ⟨hc1,hf1⟩ := bcell hb1;have hz1 := hb1.size;(try simp at hz1))
 have HB1 := Lib.hid hb1
 have HN0 : Hid ((l.take (j0 + 1)).filter (fun e => !decide (e.id = d)) = l.take j0) := by
  obtain ⟨h1,h2,h3,h4⟩ := HJ.out;unfold Hid
  rw [filt_skip h2 h3, h4]
 clear hb1 hc1 hf1 hz1 hm1 HIx hlt hne
 go_loopw [5,6] (fun va vj wr => ∃ (a j : Nat) (L : List En),va = .int .i64 a ∧ vj = .int .i64 j ∧ DelAt w wr true l d g n c a j L) (fun _ vj _ => n - (Go.RowKit.intOf vj).toNat)
 case atStart =>
  have hz := HJ.out.1;exact ⟨j0,j0 + 1,l,rfl,by first | go_num | (rw [IntWalk.wrap64_in _ (by omega)];go_num),⟨own_kept HR.out (grown_below HB1.out) (by simp),grown_someD (grown_below HB1.out),HL.out,by omega,by omega,by rw [HN0.out,List.length_take];omega,HN0.out.symm,rfl⟩⟩
 case round =>
  obtain ⟨a,j,L,rfl,rfl,D⟩ := hrel;have hcn : n ≤ c := by obtain ⟨_,_,h,_⟩ := own_formD D.row;exact h
  have haj := D.lt;have hjn' := D.le;obtain ⟨cg,cl,cn⟩ := HG.out;have cg' : wr.cell? ⟨gd,0,none⟩ = some (.int .i64 d) := (cell_grownD D.grown cl cn).trans cg;have cl' : gd < wr.heap.size := Nat.lt_of_lt_of_le cl D.grown.size;have HP := Lib.hid (fun kv id p W (hW : Below wr.heap.size wr W) => del1_any kv p id d gd W (((bcell hW).1 gd 0 cl').trans cg') (Nat.lt_of_lt_of_le cl' hW.size))
  have HD := Lib.hid D;clear cg cg' cl cl' cn
  by_cases hlt : j < n
  case neg =>
   obtain rfl : n = j := by omega
   have hac : ¬ c = a := by omega
   have hacI : (a : Int) ≤ (c : Int) := by omega
   have hanI : (a : Int) ≤ (n : Int) := by omega
   have hncI : (n : Int) ≤ (c : Int) := by omega
   obtain ⟨zs,hcl⟩ := run_clear_en wr g (a * 3) (n - a) (c - a) (by omega) (fun z hz => by rw [D.row.cellAt _ (by omega),List.getElem?_eq_getElem (by rw [D.row.1];omega)];rfl) (fun z _ => own_frozenD D.row _)
   clear D;go_wp2_with fail;go_ret;have e : l.take n = l := List.take_of_length_le (by rw [HL.out];exact Nat.le_refl _)
   have hk := HD.out.kept;have hnum := HD.out.num;rw [e] at hk hnum;have hro := own_highD (own_cutD (k := a) HD.out.row (by omega)) zs (a * 3) (Nat.le_refl _)
   rw [ecells_take,hk] at hro;exact ⟨a,hnum,rfl,hro,grown_setCellsD zs (a * 3) HD.out.grown⟩
  have hltI : (j : Int) < (n : Int) := by omega
  have hjl : j < l.length := by rw [HL.out];exact hlt
  obtain ⟨x,hx⟩ : ∃ x,l[j]? = some x := ⟨l[j],List.getElem?_eq_getElem hjl⟩
  have hLx : L[j]? = some x := by
   have := congrArg (·[0]?) D.rest
   simp only [List.getElem?_drop,Nat.add_zero] at this
   rw [this, hx]
  have hal : a < L.length := by rw [D.len];omega
  obtain ⟨y,hy⟩ : ∃ y,L[a]? = some y := ⟨L[a],List.getElem?_eq_getElem hal⟩;have hr := D.row;rw [← D.len] at hr;obtain ⟨g',c',hv,hgl,r0,r1,r2⟩ := row_at hr hLx;injection hv with hv1 hv2 hv3
  injection hv1 with hv1
  injection hv1 with hv1
  subst hv1 hv3;clear hv2;obtain ⟨g',c',hv,_,s0,s1,s2⟩ := row_at hr hy;injection hv with hv1 hv2 hv3
  injection hv1 with hv1
  injection hv1 with hv1
  subst hv1 hv3;have f0 := own_frozenD hr (a * 3);have f1 := own_frozenD hr (a * 3 + 1);have f2 := own_frozenD hr (a * 3 + 2);simp only [if_true] at r2 s2;obtain ⟨Ak,mk,ck,hkv⟩ := HKV.out x (List.mem_of_getElem? hx);rw [hkv] at r0;have HX := Lib.hid (And.intro hx (And.intro hkv hy));have haI : (a : Int) < (n : Int) := by omega
  clear D hr hv2 hx hLx hy hkv hal hjl
  by_cases hk : x.id = d
  · have hd : decide (x.id = d) = true := decide_eq_true hk
    have HK := Lib.hid hk;clear hk
    go_wp2_with (go_at_call 34;(with_reducible refine (HP.out _ _ _ _ bel).mono ?_);rintro e w1 ⟨rfl,hb1⟩;obtain ⟨hc1,hf1⟩ := bcell hb1;rw [hd])
    have hbw : Below wr.heap.size wr w1 := bel;refine ⟨⟨a,j + 1,L,by go_num,by go_num,?_⟩,by simp [Go.RowKit.intOf];omega⟩
    obtain ⟨hx,_,_⟩ := HX.out;exact ⟨own_kept HD.out.row (grown_below hbw) (by simp),HD.out.grown.trans (grown_someD (grown_below hbw)),HD.out.len,by omega,by omega,by rw [filt_skip hx HK.out];exact HD.out.num,by rw [filt_skip hx HK.out];exact HD.out.kept,drop_stepD HD.out.rest⟩
  · have hd : decide (x.id = d) = false := decide_eq_false hk
    have HK := Lib.hid hk;clear hk
    go_wp2_with (go_at_call 34;(with_reducible refine (HP.out _ _ _ _ bel).mono ?_);rintro e w1 ⟨rfl,hb1⟩;obtain ⟨hc1,hf1⟩ := bcell hb1;rw [hd])
    have hbw : Below wr.heap.size wr w1 := bel;refine ⟨⟨a + 1,j + 1,L.set a x,by go_num,by go_num,?_⟩,by simp [Go.RowKit.intOf];omega⟩
    obtain ⟨hx,hkv,_⟩ := HX.out;have hL := HD.out.len;have hro := own_setCellsD (ecell true x) (a * 3) (own_kept HD.out.row (grown_below hbw) (by simp))
    rw [ecells_setN (by omega)] at hro
    have hgr := grown_setCellsD (ecell true x) (a * 3) (HD.out.grown.trans (grown_someD (grown_below hbw)));have ex : ecell true x = [.slice Ak mk ck,.int .i64 x.id,.pointer none] := by unfold ecell;rw [hkv];rfl
    rw [ex] at hro hgr;refine ⟨hro,hgr,by rw [List.length_set];exact hL,by omega,by omega,?_,?_,?_⟩
    · rw [filt_keep hx HK.out,List.length_append,← HD.out.num];rfl
    · rw [filt_keep hx HK.out,← HD.out.kept,List.take_add_one,List.getElem?_set_self (by omega),List.take_set,List.set_eq_of_length_le (by rw [List.length_take];omega)];rfl
    · rw [List.drop_set_of_lt (by omega)];exact drop_stepD HD.out.rest
end Go.Proofs.YtcbjmcnebmhgpaaGreat
namespace Pg
theorem below_zero (t : Tr) (n : Nat) : below t 0 n = (t.es n).flatMap fun e => [e.id] := by
 unfold below
 induction t.es n with
 | nil => rfl
 | cons e r ih => rw [List.map_cons,List.flatMap_cons,ih];rfl
def belS (t : Tr) : Nat → En → List Int
 | 0,e => [e.id]
 | l + 1,e => below t l e.kid
theorem below_step (t : Tr) (l n : Nat) : below t l n = (t.es n).flatMap (belS t l) := by
 cases l with
 | zero => rw [below_zero];rfl
 | succ l => rfl
end Pg
namespace Go.Proofs.YtcbjmcnebmhgpaaGreat
open Go Go.RowKit Pg
theorem one_atZ {W : World} {o : Obj} {a : Value} {t : TypeId} : ∀ (j : Nat) (v : Value),[a][j]? = some v → ((W.alloc o).alloc (.cells #[a] t)).cell? ((⟨W.heap.size + 1,0,none⟩ : Addr).add j) = some v := by
 have h := one_atY (w := W.alloc o) (a := a) (t := t);have e : (W.alloc o).heap.size = W.heap.size + 1 := by simp
 rw [e] at h;exact h
section
variable {w : World} {own imm : Nat → Prop} {tb mb : Nat} {cl : Value} {t : Tr} {H : Nat → Prop} {L L' : Int → Prop}
theorem below_any (hS : Shape t L') (hlen : ∀ b l,t.lv b = some l → (t.es b).length ≤ 16) (hcount : t.items.length ≤ 100000) : ∀ (l n : Nat) (w : World),t.lv n = some l → Lay w own imm tb mb cl t (fun _ => False) L →
 Calls Tryz.prog 36 #[gP n] w fun e w' => ∃ v,e = .returned v ∧ w'.ownsRow w.heap.size 3 1 v (below t l n).length (idcs (below t l n)) ∧ Below w.heap.size w w' := by
 intro l
 induction l using Nat.strongRecOn with
 | _ l ih0 =>
 intro n w hn h;obtain ⟨n0,n1,n2,nlt⟩ := h.n0 hn;obtain ⟨Ar,cr,hs,_,_,_⟩ := row_form (h.row n l hn (fun q => q))
 rw [hs] at n2
 have hfew : (below t l n).length ≤ 100000 := by
  have h2 := hS.below_len hn
  omega
 obtain ⟨k,hk⟩ : ∃ k,(t.es n).length = k := ⟨_,rfl⟩;have HLN := Lib.hid hk;rw [hk] at n2;have hk16 : k ≤ 16 := by rw [← hk];exact hlen n _ hn
 have HS := Lib.hid hs;have HN := Lib.hid hn;have HH := Lib.hid h;have HIH : Hid (∀ l' b,l = l' + 1 → t.lv b = some l' → ∀ W,Below w.heap.size w W → Calls Tryz.prog 36 #[gP b] W fun e w' => ∃ v,e = .returned v ∧ w'.ownsRow W.heap.size 3 1 v (below t l' b).length (idcs (below t l' b)) ∧ Below W.heap.size W w') := fun l' b e hb W hW => ih0 l' (by omega) b W hb (h.tr hW)
 have HSh := Lib.hid hS
 rw [below_step] at hfew ⊢
 have HFew := Lib.hid hfew;clear hn h hS ih0 hk hs hfew hlen hcount
 simp only [gP] at *
 go_enter Tryz.func36,Tryz.ntmps36
 go_wp2_with fail
 go_loopw [2,10] (fun v6 vi wr => ∃ (i : Nat) (acc : List Int) (A6 : Option Addr) (c6 : Nat),v6 = .slice A6 acc.length c6 ∧ vi = .int .i64 i ∧ i ≤ k ∧ acc = ((t.es n).take i).flatMap (belS t l) ∧ wr.ownsRow w.heap.size 3 1 (.slice A6 acc.length c6) acc.length (idcs acc) ∧ Below w.heap.size w wr) (fun _ vi _ => k - (Go.RowKit.intOf vi).toNat)
 case atStart => exact ⟨0,[],none,0,rfl,rfl,Nat.zero_le _,by simp,World.ownsRow_nil _ _ _ _,Below.refl _ _⟩
 case round =>
  obtain ⟨i,acc,A6,c6,rfl,rfl,hik,hacc,hrow,hb⟩ := hrel;have hWr : Below w.heap.size w wr := hb;have hws : w.heap.size ≤ wr.heap.size := hb.size
  by_cases hlt : i < k
  case neg =>
   obtain rfl : k = i := by omega
   rw [List.take_of_length_le (by rw [HLN.out];exact Nat.le_refl _)] at hacc
   have HA := Lib.hid hacc;have HR := Lib.hid hrow;have HW := Lib.hid hWr;clear hacc hrow hb hWr hlt;go_wp2_with fail;go_ret;exact ⟨_,rfl,by rw [← HA.out];exact HR.out,HW.out⟩
  have L := HH.out.tr hWr;obtain ⟨m0,m1,m2,mlt⟩ := L.n0 HN.out;rw [HS.out,HLN.out] at m2;have hn0 : (i : Int) < (k : Int) := by omega
  obtain ⟨e,hx⟩ : ∃ e,(t.es n)[i]? = some e := ⟨(t.es n)[i]'(by rw [HLN.out];exact hlt),List.getElem?_eq_getElem _⟩
  have hmem := List.mem_of_getElem? hx
  have hstep : ((t.es n).take (i + 1)).flatMap (belS t l) = acc ++ belS t l e := by
   rw [List.take_add_one, hx, List.flatMap_append, ← hacc]
   simp
  have hal : (acc ++ belS t l e).length ≤ 100000 := by
   rw [← hstep]
   exact Nat.le_trans (flat_take_le _ _ _) HFew.out
  obtain ⟨g,c',hv,hgl,r0,r1,r2⟩ := row_at (L.row n l HN.out (fun q => q)) hx
  rw [HS.out] at hv;injection hv with hv1 hv2 hv3
  subst hv1 hv3;obtain ⟨Ak,ck,ekv,_⟩ := (L.ekey n l e HN.out hmem).bys;rw [ekv] at r0;have HRow := Lib.hid hrow;have HB := Lib.hid hb;have HSt := Lib.hid hstep;have HAl := Lib.hid hal;have HMem := Lib.hid hmem
  obtain ⟨rv,hrv⟩ : ∃ a,(if decide (l = 0) = true then Value.pointer none else .pointer (some ⟨e.kid,0,none⟩)) = Value.pointer a := by
   split
   · exact ⟨none, rfl⟩
   · exact ⟨_, rfl⟩
  simp only [gP] at r2;rw [hrv] at r2;have HRV := Lib.hid hrv;clear hx hmem L hv2 ekv hacc hrow hb hstep hal hWr hrv;obtain ⟨i0,hi,iz0,iz1,iz2⟩ := info_parts Tryz.infoIY
  cases l with
  | zero =>
    rw [show decide (0 = 0) = true from rfl] at m1
    have HE : Hid (belS t 0 e = [e.id]) := rfl;rw [HE.out] at HSt HAl
    go_wp2_with (at_builtin;go_must (refine wpList_append_own _ rfl _ _ 40 rfl w.heap.size 3 i0 (.int .i64 0) 1 8 Tryz.underlying40 hi iz0 iz1 iz2 rfl (by decide) _ _ _ rfl (own_kept HRow.out (grown_below (show Below wr.heap.size wr _ from bel)) (by simp)) ⟨wr.heap.size + 1,0,none⟩ 1 1 [.int .i64 e.id] rfl rfl one_atZ (idcs_one [e.id]) ?c3 ?c4 ?c5 ?_))
    case c3 => have := HAl.out;rw [List.length_append] at this;unfold maxLen;simp at this;omega
    case c4 => have := HAl.out;rw [List.length_append] at this;simp at this;omega
    case c5 => first | omega | (simp;omega)
    intro v8 w8 hown8 hg8 _;obtain ⟨A8,c8,rfl,_,_,_⟩ := row_form hown8;have hal : Below wr.heap.size wr ((wr.alloc (.cells #[.slice Ak e.kb.length ck,.int .i64 e.id,.pointer rv] 99)).alloc (.cells #[.int .i64 e.id] 3)) := bel;have hzz := hal.size;have HB11 := Lib.hid (HB.out.trans ((hal.mono hws).trans ((Below.refl _ _).grown hg8 (by simp;omega) (fun k e => (HRow.out.lt k e).1))))
    have hl : (acc ++ [e.id]).length = acc.length + 1 := by simp
    have HR11 := Lib.hid (show w8.ownsRow w.heap.size 3 1 (.slice A8 (acc ++ [e.id]).length c8) (acc ++ [e.id]).length (idcs (acc ++ [e.id])) from by
     rw [hl]
     unfold idcs
     rw [List.map_append]
     exact hown8)
    clear hown8 hg8 hal;go_wp2_with fail
    go_roundw
    case rel => exact ⟨i + 1, acc ++ [e.id], A8, c8, by rw [hl], by go_num, by omega, by rw [HSt.out], HR11.out, HB11.out⟩
    case measure => simp [Go.RowKit.intOf];omega
  | succ l =>
    rw [show decide (l + 1 = 0) = false by simp] at m1
    obtain rfl : rv = some ⟨e.kid,0,none⟩ := by have := HRV.out;simpa using this.symm
    have hkid := (HSh.out.kid n l e HN.out HMem.out).1;have HI := Lib.hid (fun W (hW : Below wr.heap.size wr W) => HIH.out l e.kid rfl hkid W (HB.out.trans (hW.mono HB.out.size)))
    have HE : Hid (belS t (l + 1) e = below t l e.kid) := rfl;rw [HE.out] at HSt HAl;clear HRV hkid;generalize below t l e.kid = ys at *
    go_wp2_with (first | (go_at_call 36;(refine (HI.out _ bel).mono ?_);rintro e' w7 ⟨v7,rfl,ho7,hb7⟩;have HO7 := Lib.hid ho7;obtain ⟨hc7,hf7⟩ := bcell hb7;have hz7 := hb7.size;(try simp at hz7);have HB7 := Lib.hid (HB.out.trans ((show Below wr.heap.size wr w7 from bel).mono HB.out.size));have HR7 := Lib.hid (own_kept HRow.out (grown_below (show Below wr.heap.size wr w7 from bel)) (by simp));clear ho7) | (at_builtin;go_must (refine wpList_append_rows rfl _ _ 40 rfl w.heap.size 3 i0 (.int .i64 0) 1 8 Tryz.underlying40 hi iz0 iz1 iz2 rfl (by decide) _ _ _ rfl HR7.out _ _ _ _ rfl HO7.out (idcs_one _) ?c3 ?c4 ?c5 ?_)))
    case c3 => have := HAl.out;rw [List.length_append] at this;unfold maxLen;omega
    case c4 => have := HAl.out;rw [List.length_append] at this;omega
    case c5 => omega
    intro v8 w8 hown8 hg8;obtain ⟨A8,c8,rfl,_,_,_⟩ := row_form hown8;have HB11 := Lib.hid (HB7.out.trans ((Below.refl _ _).grown hg8 (by omega) (fun k e => (HR7.out.lt k e).1)))
    have hl : (acc ++ ys).length = acc.length + ys.length := by simp
    have HR11 := Lib.hid (show w8.ownsRow w.heap.size 3 1 (.slice A8 (acc ++ ys).length c8) (acc ++ ys).length (idcs (acc ++ ys)) from by
     rw [hl]
     unfold idcs
     rw [List.map_append]
     exact hown8)
    clear hown8 hg8;go_wp2_with fail
    go_roundw
    case rel => exact ⟨i + 1, acc ++ ys, A8, c8, by rw [hl], by go_num, by omega, HSt.out.symm, HR11.out, HB11.out⟩
    case measure => simp [Go.RowKit.intOf];omega
end
end Go.Proofs.YtcbjmcnebmhgpaaGreat
namespace Pg
open Go Go.RowKit Go.Maps
theorem wp_dropV {w : World} {P : Program} {k t e : TypeId} {b : Nat} {V : List (Int × Value)} {id : Int} {o : Oper} {a : Act} {Q : Exit → Act → World → Prop} {K : Act → World → Prop} (m x : Operand) (hop : o.op = Op.call { callee := Callee.builtin Builtin.delete,args := #[m,x],argTypes := #[t,k] }) (hm : a.eval m = .map (some b)) (hx : a.eval x = .int .i64 id) (h : MapAt w P k b V) (hk : P.underlying k = some (.int .i64)) (ht : P.underlying t = some (.map k e))
 (h0 : -9223372036854775808 ≤ id) (h1 : id ≤ 9223372036854775807) (hK : ∀ w',MapAt w' P k b (delK id V) → w.grownBy w' (some b) → K (a.put o.dst (.tuple #[])) w') : o.wp P a w K Q := by
 obtain ⟨w',hr,r1,r2⟩ := h.drop hk ht o.type h0 h1;unfold Oper.wp
 simp [execOp,hop,resolve,invoke,builtin,hm,hx,hr,Result.andThen]
 exact hK w' r1 r2
end Pg
namespace Go.Proofs.YtcbjmcnebmhgpaaGreat
open Go Go.RowKit Pg
section
variable {w w' : World} {own imm : Nat → Prop} {tb mb : Nat} {cl : Value} {t : Tr} {L L' : Int → Prop}
theorem Lay.shrunk (h : Lay w own imm tb mb cl t (fun _ => False) L) {b l g m c m' : Nat} (hb : t.lv b = some l) (hsl : t.sl b = .slice (some ⟨g,0,none⟩) m c) (hg : w.grownBy w' (some g)) {es : List En}
 (hrow : w'.ownsRow 0 99 3 (.slice (some ⟨g,0,none⟩) m' c) m' (ecells (decide (l = 0)) es)) (hm : m' = es.length) (hsub : ∀ e ∈ es,e ∈ t.es b) :
 Lay (w'.setCell ⟨b,2,none⟩ (.slice (some ⟨g,0,none⟩) m' c)) own imm tb mb cl { t with es := updT t.es b es,sl := updT t.sl b (.slice (some ⟨g,0,none⟩) m' c) } (fun _ => False) L ∧ Grow w (w'.setCell ⟨b,2,none⟩ (.slice (some ⟨g,0,none⟩) m' c)) own imm own imm := by
 have hg0 : (t.sl b).ownBlock = some g := by rw [hsl];rfl
 have hog := h.oR b l g hb (fun q => q) hg0
 have h1 := h.rowLost hb (fun q => q) (by rw [hg0];exact hg)
 subst hm
 have h2 := h1.setRow hb hrow (fun g' e => by
  have e' : g = g' := by simpa [Value.ownBlock] using e
  subst e'
  exact ⟨hog,fun b' l' hb' hne _ q => hne (h.apR b' b l' l g hb' hb (fun q => q) (fun q => q) q hg0)⟩) (fun e he => h1.ekey b l e hb (hsub e he))
 refine ⟨h2.less (fun x hx => ?_) (fun _ q => q),Grow.of_turn (((TurnF.refl own w).grown hg fun k e => by cases e;exact .inl hog).set_ (p := ⟨b,2,none⟩) (.inl (h.oN b l hb)) _)⟩
 rcases hx with ⟨q | q,hne⟩
 · exact q
 · exact hne q
end
end Go.Proofs.YtcbjmcnebmhgpaaGreat
