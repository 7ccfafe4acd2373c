/-
  gist: Nearest where the root is a leaf.
-/
import Derived.Test.YtildgbhliaonnaaGreatQGisJ
import Derived.Test.YtildgbhliaonnaaGreatQHeaC
import Derived.Test.YtildgbhliaonnaaGreatQDist4
set_option linter.unusedVariables false
set_option linter.unusedSimpArgs false
set_option maxHeartbeats 1000000
set_option maxRecDepth 20000
namespace Pg
open Go Go.RowKit
def heOf (t : Tr) (p : Pt) (e : En) : HE := ⟨e.id,distF (((getK e.id t.items).map It.ob).getD ⟨0,[]⟩) p,true,0⟩
def nearH (t : Tr) (p : Pt) : List En → List Pu → Nat → List Pu
 | [],h,_ => h
 | e :: r,h,c => nearH t p r (pushS ltPu h (heOf t p e,c + 1)) (c + 1)
theorem nearH_snoc (t : Tr) (p : Pt) (e : En) : ∀ (l : List En) (h : List Pu) (c : Nat),nearH t p (l ++ [e]) h c = pushS ltPu (nearH t p l h c) (heOf t p e,c + l.length + 1)
 | [],h,c => by simp [nearH]
 | a :: r,h,c => by
   simp only [List.cons_append, nearH, List.length_cons]
   rw [nearH_snoc t p e r]
   congr 2
   omega
theorem nearH_len (t : Tr) (p : Pt) : ∀ (l : List En) (h : List Pu) (c : Nat),(nearH t p l h c).length = h.length + l.length
 | [],h,c => by simp [nearH]
 | a :: r,h,c => by
   simp only [nearH, List.length_cons]
   rw [nearH_len t p r, (pushS_perm h _).length_eq, List.length_cons]
   omega
theorem nearH_item (t : Tr) (p : Pt) : ∀ (l : List En) (h : List Pu) (c : Nat),(∀ z ∈ h,z.1.item = true) → ∀ z ∈ nearH t p l h c,z.1.item = true
 | [],h,c,hh => hh
 | a :: r,h,c,hh => nearH_item t p r _ _ (fun z hz => by
   rcases List.mem_cons.1 ((pushS_perm h _).mem_iff.1 hz) with q | q
   · rw [q];rfl
   · exact hh z q)
def popsK : Nat → List Pu → List Pu
 | 0,_ => []
 | _,[] => []
 | k + 1,x :: r => x :: popsK k (popS ltPu (x :: r))
theorem popsK_nil (k : Nat) : popsK k [] = [] := by cases k <;> rfl
def nrcell (x : Pu) : List Value := [.int .i64 x.1.id,.int .u64 ((x.1.d.num / 18446744073709551616 : Nat) : Int),.int .u64 ((x.1.d.num % 18446744073709551616 : Nat) : Int),.int .u64 (x.1.d.den : Int)]
def nrcells (l : List Pu) : List Value := l.flatMap nrcell
def topE : List Pu → HE × Bool
 | [] => (⟨0,⟨0,0⟩,false,0⟩,false)
 | x :: _ => (x.1,true)
end Pg
namespace Go.Proofs.YtildgbhliaonnaaGreat
open Go Go.RowKit Pg
section
variable {w : World} {own imm : Nat → Prop} {tb mb : Nat} {t : Tr} {ct : TypeId} {cv : Value}
theorem HeapAt.grown {w' : World} {F : Nat → Prop} {hb c : Nat} {v : Value} {h : List Pu} {row : Option Nat} (H : HeapAt w F hb v h c) (hg : w.grownBy w' row) (hne : ∀ g,row = some g → ¬ F g) : HeapAt w' F hb v h c :=
 ⟨Blk.kept H.blk hg (fun e => hne _ e H.oB),own_kept H.row hg (fun g e q => hne g e (H.oR g q)),H.oB,H.oR,fun g q => Nat.lt_of_lt_of_le (H.lim g q) hg.size,H.ok⟩
theorem pop_any {F : Nat → Prop} {hb c : Nat} {v : Value} {h : List Pu} (H : HeapAt w F hb v h c) (hn : h.length ≤ 100000) (d1 d0 dd nd : Nat) (id : Int) (it : Bool) (e1 : (topE h).1.d.num / 18446744073709551616 = d1) (e0 : (topE h).1.d.num % 18446744073709551616 = d0) (ed : (topE h).1.d.den = dd) (en : (topE h).1.node = nd) (ei : (topE h).1.id = id) (et : (topE h).1.item = it) :
 Calls Tryz.prog 45 #[.pointer (some ⟨hb,0,none⟩)] w fun e w' => e = .returned (.tuple #[.agg #[.int .i64 id,.int .u64 (d1 : Int),.int .u64 (d0 : Int),.int .u64 (dd : Int),.bool it,.int .i64 (nd : Int)],.bool (topE h).2]) ∧ ∃ v',HeapAt w' F hb v' (popS ltPu h) c ∧ TurnF F w w' := by
 subst e1 e0 ed en ei et
 cases h with
 | nil =>
   refine (popNil_any H).mono ?_;rintro e w' ⟨rfl,hb⟩;exact ⟨rfl,v,H.tr hb,(TurnF.refl F w).below hb⟩
 | cons x r =>
   refine (popCons_any H hn).mono ?_;rintro e w' ⟨rfl,v',h1,h2⟩;exact ⟨rfl,v',h1,h2⟩
theorem Tryz.infoNrF : (Tryz.prog.info? 60).map (fun i => (i.zero,i.size,i.bytes)) = some (some (.agg #[.int .i64 0,.int .u64 0,.int .u64 0,.int .u64 0]),4,32) := by kernel_rfl
theorem four_atF {w : World} {a b c d : Value} {t : TypeId} : ∀ (j : Nat) (v : Value),[a,b,c,d][j]? = some v → (w.alloc (.cells #[a,b,c,d] t)).cell? ((⟨w.heap.size,0,none⟩ : Addr).add j) = some v := by
 intro j v hj
 match j,hj with
 | 0,hj => simp at hj;subst hj;simp [Addr.add]
 | 1,hj => simp at hj;subst hj;simp [Addr.add]
 | 2,hj => simp at hj;subst hj;simp [Addr.add]
 | 3,hj => simp at hj;subst hj;simp [Addr.add]
theorem four_oneF {a b c d : Int} : ∀ u ∈ [Value.int .i64 a,.int .u64 b,.int .u64 c,.int .u64 d],u.oneCell' = true := by simp [Value.oneCell']
def lenV : Value → Nat
 | .slice _ n _ => n
 | _ => 0
theorem own_turn {F : Nat → Prop} {a b : World} {base size m : Nat} {e : TypeId} {v : Value} {xs : List Value} (h : a.ownsRow base e size v m xs) (ht : TurnF F a b) (hF : ∀ g,v.ownBlock = some g → ¬ F g) : b.ownsRow base e size v m xs := by
 refine ⟨h.1,?_⟩
 rcases h.2 with q | ⟨g,cap,cur,rfl,r1,r2,r3⟩
 · exact .inl q
 · exact .inr ⟨g,cap,cur,rfl,r1,(ht.block g (Array.getElem?_eq_some_iff.1 r2).1 (hF g rfl)).trans r2,r3⟩
theorem turn_below {F : Nat → Prop} {a b : World} {B : Nat} (h : TurnF F a b) (hF : ∀ k,F k → B ≤ k) (hB : B ≤ a.heap.size) : Below B a b :=
 ⟨h.os,h.tape,h.output,h.size,fun k hk => h.block k (Nat.lt_of_lt_of_le hk hB) fun q => by have := hF k q;omega⟩
theorem nearLeaf_any (h : Lay w own imm tb mb (.iface ct cv) t (fun _ => False) (fun _ => False)) (hr : t.lv t.root = some 0) (hlen : (t.es t.root).length ≤ 1000) (x y : Int) (hp : okPt ⟨x,y⟩ = true)
 (he : ∀ e ∈ t.es t.root,0 ≤ e.id ∧ e.id ≤ 1099511627776 ∧ ∃ it,getK e.id t.items = some it ∧ FrOk (distF it.ob ⟨x,y⟩)) (k : Nat) (hk : 0 < k) (hk2 : k ≤ 1000000) :
 Calls Tryz.prog 27 #[gP tb,ptV x y,.int .i64 (k : Int)] w fun e w' => ∃ v,e = .returned v ∧ w'.ownsRow 0 60 4 v (popsK k (nearH t ⟨x,y⟩ (t.es t.root) [] 0)).length (nrcells (popsK k (nearH t ⟨x,y⟩ (t.es t.root) [] 0))) ∧ Below w.heap.size w w' := by
 obtain ⟨t0,t1,t2,t3,tlt⟩ := h.c0;obtain ⟨n0,n1,n2,nlt⟩ := h.n0 hr;simp only [decide_true] at n1;have HG := Lib.hid (fun W (hW : Below w.heap.size w W) => gone_any (h.tr hW))
 have HCP : Hid (∀ W,Calls Tryz.prog 25 #[ptV x y] W (Ret W .nilIface)) := fun W => by
  have := checkPoint_any x y W;rw [hp] at this;exact this
 have HN := Lib.hid (fun W => heapNew_any W)
 have HH := Lib.hid h;obtain ⟨A,c,hs,_,_,_⟩ := row_form (h.row t.root 0 hr (fun q => q))
 rw [hs] at n2;have hk0 : (0 : Int) < (k : Int) := by omega
 clear h;obtain ⟨R,hR⟩ : ∃ R,popsK k (nearH t ⟨x,y⟩ (t.es t.root) [] 0) = R := ⟨_,rfl⟩
 rw [hR]
 have HR := Lib.hid hR;clear hR;obtain ⟨n,hn⟩ : ∃ n,(t.es t.root).length = n := ⟨_,rfl⟩;rw [hn] at n2 hs
 simp only [gP] at *
 go_enter Tryz.func27,Tryz.ntmps27
 go_wp2_with (first | (go_at_call 30;(refine (HG.out _ bel).mono ?_);rintro e wp ⟨rfl,hbp⟩;obtain ⟨hcp,hfp⟩ := bcell hbp;have hzp := hbp.size;(try simp at hzp);have hyp0 : w.heap.size < wp.heap.size := (by omega);have tp : tb < wp.heap.size := (by omega);have rp : t.root < wp.heap.size := (by omega);have tp1 : tb < w.heap.size + 1 := (by omega);have rp1 : t.root < w.heap.size + 1 := (by omega)) | (go_at_call 25;(refine (HCP.out _).mono ?_);rintro e wq ⟨rfl,hbq⟩;obtain ⟨hcq,hfq⟩ := bcell hbq;have hzq := hbq.size;(try simp at hzq);have hyq0 : w.heap.size < wq.heap.size := (by omega);have tq : tb < wq.heap.size := (by omega);have rq : t.root < wq.heap.size := (by omega)) | (go_at_call 41;(refine (HN.out _).mono ?_);rintro e w1 ⟨hb',rfl,hH,hbn,hb1⟩;obtain ⟨hc1,hf1⟩ := bcell hb1;have hz1 := hb1.size;(try simp at hz1);have tu : tb < w1.heap.size := (by omega);have ru : t.root < w1.heap.size := (by omega)))
 refine wp_genH (fun w2 => HeapAt w2 (fun g => g = hb') hb' (.slice none 0 0) [] 0 ∧ Blk w2 w.heap.size 24 #[.int .i64 x,.int .i64 y] ∧ Below w.heap.size w w2) ⟨hH.tr bel,blkA,bel⟩ ?_
 have hbw : w.heap.size < hb' := by omega
 clear hH hbn hb1 hc1 hf1 hz1 hcp hfp hbp hzp hyp0 hcq hfq hbq hzq hyq0 tp rp tp1 rp1 tq rq tu ru HN HG HCP;rintro w2 ⟨H2,hB2,hW2⟩;obtain ⟨hc2,hf2⟩ := bcell hW2;have hz2 := hW2.size;have HH2 := Lib.hid H2;have pb0 := hB2.cell 0;have pb1 := hB2.cell 1;simp only [lta,lcz,lcs] at pb0 pb1;have HPB := Lib.hid hB2;have lt2 := hB2.lt;clear H2 hB2;refine wp_loop_rounds 1 ?_
 rw [rounds_succ]
 go_wp2_with fail
 go_loopw [40] (fun vi wr => ∃ (i : Nat) (F : Nat → Prop) (v : Value),vi = .int .i64 i ∧ i ≤ n ∧ HeapAt wr F hb' v (nearH t ⟨x,y⟩ ((t.es t.root).take i) [] 0) i ∧ (∀ k,F k → w.heap.size + 1 ≤ k) ∧ Below (w.heap.size + 1) w2 wr) (fun vi _ => n - (Go.RowKit.intOf vi).toNat)
 case atStart => exact ⟨0,_,_,rfl,by omega,HH2.out,fun k q => by omega,Below.refl _ _⟩
 case round =>
  obtain ⟨i,F,v,rfl,hin,hH,hF,hb⟩ := hrel
  by_cases hlt : i < n
  case neg =>
   obtain rfl : n = i := by omega
   rw [List.take_of_length_le (by omega)] at hH
   have hl0 : (nearH t ⟨x,y⟩ (t.es t.root) [] 0).length ≤ 1000 := by rw [nearH_len];simp;omega
   have hit0 : ∀ z ∈ nearH t ⟨x,y⟩ (t.es t.root) [] 0,z.1.item = true := nearH_item t ⟨x,y⟩ _ [] 0 (by simp)
   obtain ⟨H0,hH0⟩ : ∃ l,nearH t ⟨x,y⟩ (t.es t.root) [] 0 = l := ⟨_,rfl⟩;rw [hH0] at hH hl0 hit0;have HR0 : Hid (popsK k H0 = R) := by unfold Hid;rw [← hH0];exact HR.out
   obtain ⟨d1,e1⟩ : ∃ d,(topE H0).1.d.num / 18446744073709551616 = d := ⟨_,rfl⟩;obtain ⟨d0,e0⟩ : ∃ d,(topE H0).1.d.num % 18446744073709551616 = d := ⟨_,rfl⟩;obtain ⟨dd,ed⟩ : ∃ d,(topE H0).1.d.den = d := ⟨_,rfl⟩;obtain ⟨nd,en⟩ : ∃ d,(topE H0).1.node = d := ⟨_,rfl⟩;obtain ⟨eid,ei⟩ : ∃ d,(topE H0).1.id = d := ⟨_,rfl⟩;obtain ⟨eit,et⟩ : ∃ d,(topE H0).1.item = d := ⟨_,rfl⟩;obtain ⟨ok,eo⟩ : ∃ d,(topE H0).2 = d := ⟨_,rfl⟩;have HPop := Lib.hid (fun W (hW : Below wr.heap.size wr W) => pop_any (hH.tr hW) (by omega) d1 d0 dd nd eid eit e1 e0 ed en ei et)
   rw [eo] at HPop;have HLim := Lib.hid hH.lim;have HF := Lib.hid hF;have HB := Lib.hid hb;have hws : w.heap.size + 1 ≤ wr.heap.size := by have := hb.size;omega
   have HE1 := Lib.hid e1;have HE0 := Lib.hid e0;have HED := Lib.hid ed;have HEN := Lib.hid en;have HEI := Lib.hid ei;have HET := Lib.hid et;have HEO := Lib.hid eo;have HI0 := Lib.hid hit0;clear hH hF hb e1 e0 ed en ei et eo hit0 HH HH2 hc2 hf2 t0 t1 t2 t3 n0 n1 n2 pb0 pb1 he
   go_wp2_with (go_at_call 45;(refine (HPop.out _ bel).mono ?_);rintro e w3 ⟨rfl,v3,hH3,hT3⟩;have HH3 := Lib.hid hH3;have HT3 := Lib.hid hT3;have hz3 := hT3.size;(try simp at hz3);clear hH3 hT3)
   obtain ⟨b12,hb12⟩ : ∃ b,w3.heap.size = b := ⟨_,rfl⟩;have hT3 := HT3.out
   have hbF : Hid (¬ F b12) := fun q => by
    have := HLim.out _ q
    omega
   have hb12w : w.heap.size + 1 ≤ b12 := by omega
   rw [hb12]
   go_loopw [6, 13] (fun v6 v13 wq => ∃ (told cur : List Pu) (A6 : Option Addr) (c6 : Nat) (v : Value) (d1 d0 dd nd : Nat) (eid : Int) (eit : Bool), v6 = .slice A6 told.length c6 ∧ v13 = .bool (topE cur).2 ∧ wq.ownsRow 0 60 4 (.slice A6 told.length c6) told.length (nrcells told) ∧ (∀ g, (Value.slice A6 told.length c6).ownBlock = some g → ¬ F g ∧ g ≠ b12 ∧ w.heap.size + 1 ≤ g)
    ∧ Blk wq b12 117 #[.int .i64 eid, .int .u64 (d1 : Int), .int .u64 (d0 : Int), .int .u64 (dd : Int), .bool eit, .int .i64 (nd : Int)] ∧ ((topE cur).1.d.num / 18446744073709551616 = d1 ∧ (topE cur).1.d.num % 18446744073709551616 = d0 ∧ (topE cur).1.d.den = dd ∧ (topE cur).1.id = eid ∧ (topE cur).1.item = eit)
    ∧ HeapAt wq F hb' v (popS ltPu cur) n ∧ Below (w.heap.size + 1) w2 wq ∧ told ++ popsK (k - told.length) cur = R ∧ told.length ≤ k ∧ (∀ z ∈ cur, z.1.item = true) ∧ cur.length ≤ 1000) (fun v6 _ _ => k - lenV v6)
   case atStart =>
    refine ⟨[],H0,none,0,v3,d1,d0,dd,nd,eid,eit,rfl,by rw [HEO.out],World.ownsRow_nil _ _ _ _,by simp [Value.ownBlock],?_,⟨HE1.out,HE0.out,HED.out,HEI.out,HET.out⟩,?_,?_,HR0.out,by simp,HI0.out,hl0⟩
    · exact Blk.new hb12.symm rfl
    · exact HH3.out.tr (show Below w3.heap.size w3 (w3.alloc _) from bel)
    · have hB3 : Below (w.heap.size + 1) w2 w3 := HB.out.trans (turn_below hT3 HF.out hws)
      exact hB3.trans ((show Below w3.heap.size w3 (w3.alloc _) from bel).mono (by omega))
   case round =>
    obtain ⟨told,cur,A6,c6,v,d1,d0,dd,nd,eid,eit,rfl,rfl,hrow,hown,hBx,⟨e1,e0,ed,ei,et⟩,hH,hB,hR,htk,hit,hcl⟩ := hrel;have b0 := hBx.cell 0;have b1 := hBx.cell 1;have b2 := hBx.cell 2;have b3 := hBx.cell 3;have b4 := hBx.cell 4;have b5 := hBx.cell 5;simp only [lta,lcz,lcs] at b0 b1 b2 b3 b4 b5;have fzb := hBx.frozen;have blt := hBx.lt;have HRow := Lib.hid hrow;have HOwn := Lib.hid hown;have HBx := Lib.hid hBx;have HHp := Lib.hid hH;have HBl := Lib.hid hB;have HBw : Hid (Below w.heap.size w wr) := hW2.trans (hB.mono (Nat.le_succ _));clear HPop HB HT3 hT3 HH3 HE1 HE0 HED HEN HEI HET HEO HI0 hrow hown hBx hB hl0
    cases cur with
    | nil =>
      rw [popsK_nil,List.append_nil] at hR;clear e1 e0 ed ei et hH hit hcl
      simp only [topE]
      go_wp2_with fail;go_ret
      rw [← hR]
      exact ⟨_,rfl,HRow.out,HBw.out⟩
    | cons z r =>
      have hz : eit = true := by rw [← et];exact hit z (List.mem_cons_self ..)
      subst hz
      simp only [topE]
      by_cases hkk : told.length = k
      · rw [show k - told.length = 0 by omega] at hR
        have hR2 : told = R := by simpa [popsK] using hR
        have hnk : ¬ ((told.length : Int) < (k : Int)) := by omega
        clear e1 e0 ed ei et hH hit hcl hR hnk
        rw [hkk] at HRow ⊢
        have HKK := Lib.hid hkk;clear hkk;go_wp2_with fail;go_ret
        rw [← hR2, HKK.out]
        exact ⟨_,rfl,HRow.out,HBw.out⟩
      · have hlk : (told.length : Int) < (k : Int) := by omega
        obtain ⟨i0,hi,iz0,iz1,iz2⟩ := info_parts Tryz.infoNrF
        have HE := Lib.hid (show nrcell z = [.int .i64 eid,.int .u64 (d1 : Int),.int .u64 (d0 : Int),.int .u64 (dd : Int)] from by
         unfold nrcell;simp only [topE] at e1 e0 ed ei
         rw [e1, e0, ed, ei])
        have HRR := Lib.hid hR;have HIt := Lib.hid hit;have HCl := Lib.hid hcl;clear e1 e0 ed ei et hR hit hcl hH
        go_wp2_with (at_builtin;go_must (refine wpList_append_at _ rfl _ _ 38 rfl 60 i0 (.agg #[.int .i64 0,.int .u64 0,.int .u64 0,.int .u64 0]) 4 32 Tryz.underlying38 hi iz0 iz1 iz2 rfl (by decide) _ _ _ rfl (HRow.out.alloc _) ⟨wr.heap.size,0,none⟩ 1 1 [.int .i64 eid,.int .u64 (d1 : Int),.int .u64 (d0 : Int),.int .u64 (dd : Int)] rfl rfl four_atF four_oneF ?c3 ?c4 (by decide) ?_))
        case c3 => unfold maxLen;omega
        case c4 => omega
        intro v7 w7 hown7 hg7 hwh;have hal : Below wr.heap.size wr (wr.alloc (.cells #[.int .i64 eid,.int .u64 (d1 : Int),.int .u64 (d0 : Int),.int .u64 (dd : Int)] 60)) := (Below.refl _ _).alloc (Nat.le_refl _) _;obtain ⟨A7,c7,rfl,_,_,_⟩ := row_form hown7
        have HO7 := Lib.hid (show w7.ownsRow 0 60 4 (.slice A7 (told.length + 1) c7) (told ++ [z]).length (nrcells (told ++ [z])) from by
         rw [List.length_append]
         unfold nrcells
         rw [List.flatMap_append, List.flatMap_cons, List.flatMap_nil, List.append_nil, HE.out]
         exact hown7)
        have HOw7 : Hid (∀ g,(Value.slice A7 (told.length + 1) c7).ownBlock = some g → ¬ F g ∧ g ≠ b12 ∧ w.heap.size + 1 ≤ g) := fun g hg => by
         rcases hwh with q | q
         · exact HOwn.out g (q ▸ hg)
         · rw [q] at hg
           injection hg with hg
           subst hg;exact ⟨fun q => (by have := HHp.out.lim _ q;omega),by omega,by omega⟩
        have H7 := (HHp.out.tr hal).grown hg7 (fun g e => (HOwn.out g e).1)
        have hB7 := Blk.kept (HBx.out.tr hal) hg7 (fun e => (HOwn.out _ e).2.1 rfl)
        have hW7 : Below (w.heap.size + 1) w2 w7 := HBl.out.trans ((hal.mono (by omega)).trans ((Below.refl _ _).grown hg7 (by simp;omega) (fun k e => (HOwn.out k e).2.2)))
        have hl7 : (popS ltPu (z :: r)).length ≤ 1000 := by
         have := (popS_perm (lt := ltPu) (l := z :: r) rfl).length_eq;have := HCl.out
         simp at this
         omega
        have hit7 : Hid (∀ q ∈ popS ltPu (z :: r),q.1.item = true) := fun q hq => HIt.out q (List.mem_cons_of_mem _ ((popS_perm (lt := ltPu) (l := z :: r) rfl).mem_iff.1 hq))
        obtain ⟨cur,hcur⟩ : ∃ l,popS ltPu (z :: r) = l := ⟨_,rfl⟩
        have HR7 : Hid ((told ++ [z]) ++ popsK (k - (told ++ [z]).length) cur = R) := by
         unfold Hid
         rw [← HRR.out,← hcur,show k - told.length = (k - (told ++ [z]).length) + 1 by simp;omega]
         simp [popsK]
        rw [hcur] at H7 hl7 hit7;clear hcur HBx HHp HBl HOwn HRow HRR HIt HCl HE hown7 hg7 hwh hal b0 b1 b2 b3 b4 b5 fzb;obtain ⟨d1',e1⟩ : ∃ d,(topE cur).1.d.num / 18446744073709551616 = d := ⟨_,rfl⟩;obtain ⟨d0',e0⟩ : ∃ d,(topE cur).1.d.num % 18446744073709551616 = d := ⟨_,rfl⟩;obtain ⟨dd',ed⟩ : ∃ d,(topE cur).1.d.den = d := ⟨_,rfl⟩;obtain ⟨nd',en⟩ : ∃ d,(topE cur).1.node = d := ⟨_,rfl⟩;obtain ⟨eid',ei⟩ : ∃ d,(topE cur).1.id = d := ⟨_,rfl⟩;obtain ⟨eit',et⟩ : ∃ d,(topE cur).1.item = d := ⟨_,rfl⟩;obtain ⟨ok',eo⟩ : ∃ d,(topE cur).2 = d := ⟨_,rfl⟩;have HPop := Lib.hid (fun W (hW : Below w7.heap.size w7 W) => (pop_any (H7.tr hW) (by omega) d1' d0' dd' nd' eid' eit' e1 e0 ed en ei et).mono (R' := fun e w' => e = .returned (.tuple #[.agg #[.int .i64 eid',.int .u64 (d1' : Int),.int .u64 (d0' : Int),.int .u64 (dd' : Int),.bool eit',.int .i64 (nd' : Int)],.bool ok']) ∧ ∃ v',HeapAt w' F hb' v' (popS ltPu cur) n ∧ Blk w' b12 117 #[.int .i64 eid,.int .u64 (d1 : Int),.int .u64 (d0 : Int),.int .u64 (dd : Int),.bool true,.int .i64 (nd : Int)] ∧ w'.ownsRow 0 60 4 (.slice A7 (told.length + 1) c7) (told ++ [z]).length (nrcells (told ++ [z])) ∧ Below (w.heap.size + 1) w2 w') fun e w' ⟨h1,v',h2,h3⟩ => ⟨by rw [h1,eo],v',h2,h3.blk (hB7.tr hW) hbF.out,own_turn (own_kept HO7.out (grown_below hW) (by simp)) h3 (fun g q => (HOw7.out g q).1),hW7.trans ((hW.mono (by have := hW7.size;omega)).trans (turn_below h3 HF.out (by have := hW7.size;have := hW.size;omega)))⟩)
        have HFa := Lib.hid (And.intro e1 (And.intro e0 (And.intro ed (And.intro ei et))));have HEO := Lib.hid eo;clear e1 e0 ed en ei et eo H7 hB7 hW7
        go_wp2_with (go_at_call 45;(refine (HPop.out _ bel).mono ?_);rintro e w8 ⟨rfl,v8,hH8,hB8,hR8,hW8⟩;have g0 := hB8.cell 0;have g1 := hB8.cell 1;have g2 := hB8.cell 2;have g3 := hB8.cell 3;have g4 := hB8.cell 4;have g5 := hB8.cell 5;simp only [lta,lcz,lcs] at g0 g1 g2 g3 g4 g5;have fz8 := hB8.frozen;have HH8 := Lib.hid hH8;have HB8 := Lib.hid hB8;have HR8 := Lib.hid hR8;have HW8 := Lib.hid hW8;clear hH8 hB8 hR8 hW8)
        have hl : (told ++ [z]).length = told.length + 1 := by simp
        go_roundw
        case rel =>
         refine ⟨told ++ [z],cur,A7,c7,v8,d1',d0',dd',nd',eid',eit',by rw [hl],congrArg Value.bool HEO.out.symm,?_,?_,six_putH HB8.out,HFa.out,HH8.out.off hbF.out [.int .i64 eid',.int .u64 (d1' : Int),.int .u64 (d0' : Int),.int .u64 (dd' : Int),.bool eit',.int .i64 (nd' : Int)] 0,?_,HR7.out,by rw [hl];omega,hit7.out,hl7⟩
         · have := own_off (b := b12) (fun e => (HOw7.out _ e).2.1 rfl) [.int .i64 eid', .int .u64 (d1' : Int), .int .u64 (d0' : Int), .int .u64 (dd' : Int), .bool eit', .int .i64 (nd' : Int)] w8 0 HR8.out
           rw [hl] at this ⊢
           exact this
         · rw [hl]
           exact HOw7.out
         · exact HW8.out.trans (turn_below (turn_setW (F := fun g => g = b12) (g := b12) (.inl rfl) [.int .i64 eid',.int .u64 (d1' : Int),.int .u64 (d0' : Int),.int .u64 (dd' : Int),.bool eit',.int .i64 (nd' : Int)] w8 0 (TurnF.refl _ w8)) (fun k e => by rw [e];exact hb12w) (by have := HW8.out.size;omega))
        case measure =>
         simp [lenV]
         omega
  have hn0 : (i : Int) < (n : Int) := by omega
  obtain ⟨e,hx⟩ : ∃ e,(t.es t.root)[i]? = some e := ⟨(t.es t.root)[i]'(by omega),List.getElem?_eq_getElem _⟩
  have hmem := List.mem_of_getElem? hx;obtain ⟨hi0,hi1,it,hget,hok⟩ := he e hmem;have hws : w.heap.size + 1 ≤ wr.heap.size := by have := hb.size;omega
  have hWr : Below w.heap.size w wr := hW2.trans (hb.mono (Nat.le_succ _));have L := HH.out.tr hWr;obtain ⟨u0,u1,u2,u3,ult⟩ := L.c0;obtain ⟨m0,m1,m2,mlt⟩ := L.n0 hr;rw [hs] at m2;simp only [decide_true] at m1;obtain ⟨g,c',hv,hgl,r0,r1,r2⟩ := row_at (L.row t.root 0 hr (fun q => q)) hx
  rw [hs] at hv;injection hv with hv1 hv2 hv3
  subst hv1 hv3;simp only [decide_true,if_true] at r2;obtain ⟨Ak,ck,ekv,hkc,hAk,_⟩ := (L.ekey t.root 0 e hr hmem).bys;rw [ekv] at r0;obtain ⟨z,hBi,_⟩ := L.it e.id it hget;obtain ⟨Ao,co,eov,_,_,hpts⟩ := (L.ikey e.id it hget).2.pts;have hpl := (L.ikey e.id it hget).2.1;rw [eov] at hBi;have q0 := hBi.cell 0;have q1 := hBi.cell 1;simp only [lta,lcz,lcs] at q0 q1;have qlt := hBi.lt;have HD := Lib.hid (fun W (hW : Below wr.heap.size wr W) => show Calls Tryz.prog 43 #[.agg #[.int .i64 it.ob.kind,.slice Ao it.ob.pts.length co],.agg #[.int .i64 x,.int .i64 y]] W (Ret W (fV (distF it.ob ⟨x,y⟩))) from relDist_any wr.heap.size _ co it.ob.kind Ao it.ob.pts x y W (hpts.below hW) hW.size hpl)
  have HM := Lib.hid L.mp;have HG := Lib.hid (getK_items hget);have hho : heOf t ⟨x,y⟩ e = ⟨e.id,distF it.ob ⟨x,y⟩,true,0⟩ := by unfold heOf;rw [hget];rfl
  have hst : nearH t ⟨x,y⟩ ((t.es t.root).take (i + 1)) [] 0 = pushS ltPu (nearH t ⟨x,y⟩ ((t.es t.root).take i) [] 0) (heOf t ⟨x,y⟩ e,i + 1) := by
   rw [List.take_add_one, hx]
   simp only [Option.toList_some]
   rw [nearH_snoc, List.length_take, Nat.min_eq_left (by omega)]
   simp
  have hPB := HPB.out.below hb (by omega)
  have p0 := hPB.cell 0;have p1 := hPB.cell 1;simp only [lta,lcz,lcs] at p0 p1;generalize distF it.ob ⟨x,y⟩ = d at *
  have HPU := Lib.hid (fun W (hW : Below wr.heap.size wr W) => show Calls Tryz.prog 42 #[.pointer (some ⟨hb',0,none⟩),.agg #[.int .i64 e.id,.int .u64 ((d.num / 18446744073709551616 : Nat) : Int),.int .u64 ((d.num % 18446744073709551616 : Nat) : Int),.int .u64 (d.den : Int),.bool true,.int .i64 0]] W (fun e' w' => e' = .returned (.tuple #[]) ∧ ∃ (v' : Value) (F' : Nat → Prop),HeapAt w' F' hb' v' (nearH t ⟨x,y⟩ ((t.es t.root).take (i + 1)) [] 0) (i + 1) ∧ (∀ k,F' k → w.heap.size + 1 ≤ k) ∧ Below (w.heap.size + 1) w2 w') from by
   refine (push_any (hH.tr hW) ⟨e.id,d,true,0⟩ hok (by rw [nearH_len,List.length_take];simp;omega) (by omega)).mono ?_
   rintro e' w' ⟨rfl,v',F',h1,h2,h3⟩;refine ⟨rfl,v',F',by rw [hst,hho];exact h1,fun k q => ?_,hb.trans ((hW.mono hws).trans (turn_below h2 hF (by have := hW.size;omega)))⟩
   rcases h3 k q with r | r
   · exact hF k r
   · have := hW.size
     omega)
  simp only [fV] at HD;generalize d.num / 18446744073709551616 = d1 at *;generalize d.num % 18446744073709551616 = d0 at *;generalize d.den = dd at *;clear hx hmem he hget hok hWr L hv2 ekv hkc hAk hBi eov hpts hpl hho hst hPB hH hF hc2 hf2 t0 t1 t2 t3 n0 n1 n2 pb0 pb1 HH2;generalize it.ob.pts.length = pl at *;generalize e.kb.length = kl at *;generalize e.id = eid at *;have hws2 : w.heap.size < wr.heap.size := by omega
  go_wp2_with fail;refine wp_region_seq [0,1,2,3,4,5,6,7,8,13,9,10,11,12,14,15,16] [17] (by kernel_rfl) (by kernel_rfl) (fun _ _ d _ _ h => by cases d <;> exact h) ?_
  simp only [List.map_cons, List.map_nil, ldz, lds, bare, gslot, lcz, lcs, Option.bind_some, pureK, Option.isNone_none, Bool.and_true, Bool.true_and, Bool.false_and, Bool.and_self]
  repeat ((try simp only [Act.put,lsi,lsz,lss]);first | (refine lexM_pure (v := ?_) wantB_none rfl ?_ ?_;rotate_left;focus (intro wq;go_simp;try with_reducible rfl)) | (refine lexM_quiet (v := ?_) wantB_none rfl ?_ ?_;rotate_left;focus (intro wq hq;obtain ⟨hcq,hfq⟩ := bcell hq;go_simp;try with_reducible rfl)) | (refine lexM_loud wantB_none rfl (fun K hK => ?_);(refine wp_lookV1 _ _ _ _ rfl rfl rfl (show MapO _ _ _ (some mb) _ from MapAt.tr HM.out bel) Tryz.underlying3 Tryz.underlying89 (Tryz.zeroItG _) (by omega) (by omega) ?_;rw [HG.out];simp only [Option.getD_some]);refine hK.out _ _ bel ?_;clear hK K) | (refine lexM_loud wantB_none rfl (fun K hK => ?_);go_simp;((first | (go_at_call 43;(with_reducible refine (HD.out _ bel).mono ?_);rintro e w5 ⟨rfl,hb5⟩;obtain ⟨hc5,hf5⟩ := bcell hb5;have hz5 := hb5.size;(try simp at hz5);have hy50 : w.heap.size < w5.heap.size := (by omega)) | skip) <;> (refine hK.out _ _ bel ?_;clear hK K))))
  (all_goals try simp only [Act.put, lsi, lsz, lss])
  refine lexM_seq ?_;refine seqL_step (fun K hK => ?_)
  go_simp
  go_at_call 42;(refine (HPU.out _ bel).mono ?_);rintro e' w6 ⟨rfl,v6,F6,hH6,hF6,hB6⟩;have HH6 := Lib.hid hH6;have HF6 := Lib.hid hF6;have HB6 := Lib.hid hB6;clear hH6 hF6 hB6
  refine hK.out _ _ ?_;clear hK K
  (try simp only [Act.put, lsi, lsz, lss])
  refine seqL_nil ?_;go_wp2_with fail
  go_roundw
  case rel => exact ⟨i + 1, F6, v6, by go_num, by omega, HH6.out, HF6.out, HB6.out⟩
  case measure => simp [Go.RowKit.intOf];omega
end
end Go.Proofs.YtildgbhliaonnaaGreat
