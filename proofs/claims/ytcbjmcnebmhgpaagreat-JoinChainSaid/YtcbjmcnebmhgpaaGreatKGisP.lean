/-
  gist: keys, union.
  gist: choose, whatever the tree: some leaf.
-/
import Derived.Test.YtcbjmcnebmhgpaaGreatKGisB
import Derived.Test.YtcbjmcnebmhgpaaGreatKLawsC
import Derived.Test.YtcbjmcnebmhgpaaGreatKEncK
import Derived.Test.YtcbjmcnebmhgpaaGreatKGisT
set_option linter.unusedVariables false
set_option linter.unusedSimpArgs false
set_option maxHeartbeats 4000000
set_option maxRecDepth 20000
namespace Go.Proofs.YtcbjmcnebmhgpaaGreat
open Go Go.RowKit Pg
theorem Tryz.infoYsG : (Tryz.prog.info? 93).map (fun i => (i.zero,i.size,i.bytes)) = some (some (.slice none 0 0),1,24) := by kernel_rfl
theorem key_oneG {A : Option Addr} {n c : Nat} : ∀ v ∈ [Value.slice A n c],v.oneCell' = true := by simp [Value.oneCell']
theorem keys_any (lf : Bool) (Z : Nat → Prop) (l : List En) (v : Value) (w : World) (h : w.ownsRow 0 99 3 v l.length (ecells lf l)) (hk : ∀ e ∈ l,KeyIn w Z e.kv e.kb) (hn : l.length ≤ 1000000) :
 Calls Tryz.prog 62 #[v] w fun e w' => ∃ s,e = .returned s ∧ KeysAt w' w.heap.size s (l.map En.kb) ∧ Below w.heap.size w w' := by
 obtain ⟨i0,hi,iz0,iz1,iz2⟩ := info_parts Tryz.infoYsG;obtain ⟨A,c,rfl,hnc,hAn,hAb⟩ := row_form h;have HR := Lib.hid h;have HK := Lib.hid hk;clear h hk hnc hAn hAb;generalize hl : l.length = n at *
 try simp only [gP] at *
 go_enter Tryz.func62,Tryz.ntmps62
 go_wp2_with fail
 go_loopw [2,7] (fun vk vi wr => ∃ k : Nat,k ≤ n ∧ vi = .int .i64 k ∧ KeysAt wr w.heap.size vk ((l.take k).map En.kb) ∧ Below w.heap.size w wr) (fun _ vi _ => n - (Go.RowKit.intOf vi).toNat)
 case atStart => exact ⟨0,by omega,rfl,KeysAt.nil _ _,bel⟩
 case round =>
  obtain ⟨k,hkn,rfl,hK,hb⟩ := hrel
  by_cases hlt : k < n
  case neg =>
   obtain rfl : n = k := by omega
   rw [List.take_of_length_le (by omega)] at hK
   have HKS := Lib.hid hK;clear hK;go_wp2_with fail;go_ret;exact ⟨_,rfl,HKS.out.below bel,bel⟩
  have hk0 : (k : Int) < (n : Int) := by omega
  obtain ⟨x,hx⟩ : ∃ x,l[k]? = some x := ⟨l[k]'(by omega),List.getElem?_eq_getElem _⟩
  have hr := HR.out;rw [← hl] at hr;obtain ⟨g,c',hv,hgl,r0,r1,r2⟩ := row_at hr hx;injection hv with hv1 hv2 hv3
  subst hv1 hv3;obtain ⟨hc,hf⟩ := bcell hb;have hz := hb.size;rw [← hc g _ hgl] at r0 r1 r2;have hgw : g < wr.heap.size := by omega
  obtain ⟨Ak,ck,ekv,hkc,hAk,hBk⟩ := (HK.out x (List.mem_of_getElem? hx)).bys;have hxl := (HK.out x (List.mem_of_getElem? hx)).2.1;rw [ekv] at r0;obtain ⟨pz,hpz⟩ : ∃ p,(if lf = true then Value.pointer none else gP x.kid) = .pointer p := by cases lf <;> exact ⟨_,rfl⟩
  rw [hpz] at r2;clear hpz hc hf;have hBk2 := hBk.tr hb (Nat.le_refl _);have HCl := Lib.hid (fun W (hW : Below wr.heap.size wr W) => cloneB_own w.heap.size x.kb.length ck Ak x.kb W (hBk2.tr hW hz) (Nat.le_trans hz hW.size) hxl hkc hAk)
  have HX := Lib.hid hx;have HKS := Lib.hid hK;have hlk : ((l.take k).map En.kb).length = k := by rw [List.length_map,List.length_take];omega
  have HLK := Lib.hid hlk;clear hr hv2 hBk hBk2 hx hK ekv hkc hAk hlk;obtain ⟨Lk,hLk⟩ : ∃ L',(l.take k).map En.kb = L' := ⟨_,rfl⟩;have HLe := Lib.hid hLk;rw [hLk] at HKS HLK;clear hLk
  go_wp2_with (first | (go_at_call 61;(with_reducible refine (HCl.out _ bel).mono ?_);rintro e w6 ⟨s6,rfl,ho6,hb6⟩;obtain ⟨A6,c6,rfl,hB6,hl6,hn6,hm6⟩ := bys_of_own2 ho6;clear hB6 hl6 hn6 hm6;have hb6' : Below wr.heap.size wr w6 := bel;obtain ⟨cs,hcs,hkk⟩ := HKS.out.below hb6';have hs6 := ownB_base ho6 (show w.heap.size ≤ _ by (try simp);omega);have hz6 := hb6.size;(try simp at hz6);have hs7 : Below w.heap.size w w6 := bel) | (at_builtin;go_must (refine wpList_append_own _ rfl _ _ 129 rfl w.heap.size 93 i0 (.slice none 0 0) 1 24 Tryz.underlying129 hi iz0 iz1 iz2 rfl (by decide) _ _ _ rfl (hcs.alloc _) ⟨w6.heap.size,0,none⟩ 1 1 [.slice A6 x.kb.length c6] rfl rfl one_at ?c2 ?c3 ?c4 ?c5 ?_)))
  case c2 => exact key_oneG
  case c3 => rw [HLK.out];unfold maxLen;omega
  case c4 => rw [HLK.out];omega
  case c5 => simp;omega
  intro v' w7 hown' hgrow _
  have hKN := keys_append (hcs.alloc _) (fun j u hu => by
   obtain ⟨l',q1,q2⟩ := hkk j u hu
   exact ⟨l',q1,q2.alloc _⟩) (hs6.alloc _) hown' hgrow
  have hnx1 : Below w.heap.size w w7 := (hs7.alloc (by have := hs7.size;omega) _).grown hgrow (by have := hs7.size;simp;omega) (fun k hk => (hcs.lt k hk).1)
  go_wp2
  go_roundw
  case rel =>
   refine ⟨k + 1,by omega,by go_num,?_,hnx1⟩
   rw [List.take_add_one, HX.out, List.map_append, HLe.out]
   exact hKN
  case measure => simp [Go.RowKit.intOf];omega
section
variable {w : World} {own imm : Nat → Prop} {tb mb : Nat} {t : Tr} {H : Nat → Prop} {L : Int → Prop}
theorem tunion_any {C : Cl} {ct : TypeId} {cv : Value} {fM fC fD fU fS : Nat} (hC : ClAt ct cv C fM fC fD fU fS) (h : Lay w own imm tb mb (.iface ct cv) t H L) {n l : Nat} (hn : t.lv n = some l) (hH : ¬ H n) (hm : (t.es n).length ≤ 1000000) :
 Calls Tryz.prog 39 #[gP tb,gP n] w (RetB w (C.un ((t.es n).map En.kb))) := by
 obtain ⟨c0,c1,c2,c3,clt⟩ := h.c0;obtain ⟨n0,n1,n2,nlt⟩ := h.n0 hn;have hrow := h.row n l hn hH;have hk : ∀ e ∈ t.es n,KeyIn w imm e.kv e.kb := fun e he => h.ekey n l e hn he
 have h256 : ∀ k ∈ (t.es n).map En.kb,(∀ x ∈ k,x < 256) ∧ k.length ≤ 1000000 := fun k hk' => by
  obtain ⟨e,he,rfl⟩ := List.mem_map.1 hk';exact ⟨(hk e he).1,(hk e he).2.1⟩
 have HK := Lib.hid (fun W (hW : Below w.heap.size w W) => keys_any (decide (l = 0)) imm (t.es n) (t.sl n) W (own_kept hrow (grown_below hW) (by simp)) (fun e he => (hk e he).kept (grown_below hW) (by simp)) hm)
 have hfU := hC.formU _ (fun k hk => (h256 k hk).1) fun k hk => (h256 k hk).2
 have hlen : ((t.es n).map En.kb).length = (t.es n).length := List.length_map _;have HU := Lib.hid (fun W (A : Option Addr) (c : Nat) (hR : RbsAt W W.heap.size A ((t.es n).map En.kb).length ((t.es n).map En.kb)) => hC.un W W.heap.size c A _ hR (Nat.le_refl _) (by rw [hlen];exact hm) (fun k hk => (h256 k hk).1) fun k hk => (h256 k hk).2)
 have HCl := Lib.hid (fun W (A : Option Addr) (c : Nat) (hy : BysAt W W.heap.size A (C.un ((t.es n).map En.kb)).length (C.un ((t.es n).map En.kb))) (h1 : (C.un ((t.es n).map En.kb)).length ≤ c) (h2 : A = none → c = 0) => cloneB_own W.heap.size _ c A _ W hy (Nat.le_refl _) hfU.2 h1 h2)
 have mU := hC.mU;have eU := hC.eU;clear h hrow hk h256 hlen hC hfU;generalize (t.es n).map En.kb = K at *;generalize C.un K = U at *;generalize t.sl n = s at *
 try simp only [gP] at *
 go_enter Tryz.func39,Tryz.ntmps39
 go_wp2_with fail;refine wp_region_below [0,1,2,3,4,5,6,7,9,10,8,11,12,13] (by kernel_rfl) (by kernel_rfl) (fun _ _ d _ _ h => by cases d <;> exact h) ?_
 simp only [List.map_cons,List.map_nil,ldz,lds,bare,gslot,lcz,lcs,Option.bind_some]
 repeat' ((try simp only [Act.put,lsi,lsz,lss]);first | (refine lexL_quiet (v := ?_) wantB_none rfl ?_ ?_;rotate_left;focus (intro wq hq;obtain ⟨hcq,hfq⟩ := bcell hq;go_simp;try with_reducible rfl)) | (refine lexL_loud wantB_none rfl (fun K hK => ?_);go_simp;((first | (go_at_call 62;(with_reducible refine (HK.out _ bel).mono ?_);rintro e w1 ⟨s1,rfl,hK1,hb1⟩;obtain ⟨A1,c1',rfl,hR1⟩ := rbs_of_keys hK1;clear hK1;obtain ⟨hc1,hf1⟩ := bcell hb1;have hz1 := hb1.size;(try simp at hz1)) | ((refine (HU.out _ _ _ (hR1.tr bel (Nat.le_refl _))).mono ?_);rintro e w2 ⟨s2,rfl,ho2,hb2⟩;obtain ⟨A2,c2',rfl,hy2,y2,y3,y4⟩ := bys_of_own2 ho2;clear ho2;obtain ⟨hc2,hf2⟩ := bcell hb2;have hz2 := hb2.size;(try simp at hz2)) | (go_at_call 61;(with_reducible refine (HCl.out _ _ _ hy2 y4 y3).mono ?_);rintro e w3 ⟨s3,rfl,ho3,hb3⟩;have HO3 := Lib.hid ho3;clear ho3) | skip) <;> (refine hK.out _ _ bel ?_;clear hK K))))
 (all_goals try simp only [Act.put,lsi,lsz,lss]);all_goals (refine lexL_nil ?_)
 go_wp2;go_ret;exact ⟨_,rfl,own_lower HO3.out (by have := hb1.size;have := hb2.size;simp at *;omega),bel⟩
end
structure PenAt (t : TypeId) (rv : Value) (fP : Nat) : Prop where
 mP : ∀ w,(Go.method 337 t rv "Penalty").run Tryz.prog w = .ok (fP,rv) w
 eP : ∀ (args : Array Value) (w : World),(callFunc fP args).run Tryz.prog w = .ok (.enter fP args) w
 pen : ∀ (W : World) (B n c n2 c2 : Nat) (A A2 : Option Addr) (l l2 : List Nat),BysAt W B A n l → (∀ x ∈ l,x < 256) → BysAt W B A2 n2 l2 → (∀ x ∈ l2,x < 256) → B ≤ W.heap.size → n ≤ 1000000 → n ≤ c → n2 ≤ 1000000 → n2 ≤ c2 → (A = none → c = 0) → (A2 = none → c2 = 0) → Calls Tryz.prog fP #[rv,.slice A n c,.slice A2 n2 c2] W fun e w' => ∃ k : Int,e = .returned (.int .i64 k) ∧ Below W.heap.size W w'
def lvOf (t : Tr) : Value → Nat
 | .pointer (some a) => (t.lv a.block).getD 0
 | _ => 0
section
variable {w : World} {own imm : Nat → Prop} {tb mb : Nat} {t : Tr} {L L' : Int → Prop}
theorem choose_any {ct : TypeId} {cv : Value} {fP : Nat} (hP : PenAt ct cv fP) (h : Lay w own imm tb mb (.iface ct cv) t (fun _ => False) L) (hs : Shape t L') (hne : ∀ b l,t.lv b = some (l + 1) → t.es b ≠ []) (hlen : ∀ b l,t.lv b = some l → (t.es b).length ≤ 1000) {kv : Value} {kb : List Nat} (hk : KeyIn w imm kv kb) :
 Calls Tryz.prog 63 #[gP tb,kv] w fun e w' => ∃ n,t.lv n = some 0 ∧ e = .returned (gP n) ∧ Below w.heap.size w w' := by
 obtain ⟨c0,c1,c2,c3,clt⟩ := h.c0;have HL := Lib.hid h;have HS := Lib.hid hs;have HNE := Lib.hid hne;have HLEN := Lib.hid hlen;obtain ⟨lr,hlr⟩ := Option.isSome_iff_exists.1 hs.root.1;have hkb := hk.1;have hkl := hk.2.1;obtain ⟨Ak,ck,rfl,hkc,hAk,hyk⟩ := hk.bys;have HK := Lib.hid hkb;have HKL := Lib.hid hkl;have HClk := Lib.hid (fun W (hW : Below w.heap.size w W) => cloneB_own w.heap.size kb.length ck Ak kb W (hyk.tr hW (Nat.le_refl _)) hW.size hkl hkc hAk)
 have HPn := Lib.hid hP.pen;have mP := hP.mP;have eP := hP.eP;clear h hs hne hlen hk hkb hkl hyk hkc hAk hP
 simp only [gP] at *
 go_enter Tryz.func63,Tryz.ntmps63
 go_wp2_with fail
 go_loopw [5] (fun vn wr => ∃ n l,vn = .pointer (some ⟨n,0,none⟩) ∧ t.lv n = some l ∧ Below w.heap.size w wr) (fun vn _ => lvOf t vn)
 case atStart => exact ⟨_,_,rfl,hlr,bel⟩
 case round =>
  obtain ⟨n,l,rfl,hn,hb⟩ := hrel;obtain ⟨n0,n1,n2,nlt⟩ := (HL.out.tr hb).n0 hn
  cases l with
  | zero =>
    simp only [decide_true] at n1;have HN := Lib.hid hn;clear hn hlr;go_wp2_with fail;go_ret;exact ⟨n,HN.out,rfl,bel⟩
  | succ l =>
    rw [show decide (l + 1 = 0) = false by simp] at n1
    have hrow := (HL.out.tr hb).row n (l + 1) hn (fun q => q)
    rw [show decide (l + 1 = 0) = false by simp] at hrow
    have HROW := Lib.hid (HL.out.row n (l + 1) hn (fun q => q))
    rw [show decide (l + 1 = 0) = false by simp] at HROW
    obtain ⟨A,c,hsl,hnc,hAn,hAb⟩ := row_form hrow;rw [hsl] at n2;have hm := HLEN.out n (l + 1) hn;have hm0 : 0 < (t.es n).length := List.length_pos_iff.2 (HNE.out n l hn);have HN := Lib.hid hn;have HSL := Lib.hid hsl;clear hn hlr hrow hsl hnc hAn hAb;obtain ⟨m,hmm⟩ : ∃ m,(t.es n).length = m := ⟨_,rfl⟩;have HM := Lib.hid hmm;rw [hmm] at n2 hm hm0 HROW;clear hmm;go_wp2_with fail;refine wp_genG (fun w2 => Below w.heap.size w w2) bel ?_
    clear hb n0 n1 n2 nlt;rintro w2 hb2
    go_loopw [6, 7, 25] (fun vb vp vi wr => ∃ (b k : Nat) (p : Int), vb = .int .i64 b ∧ vp = .int .i64 p ∧ vi = .int .i64 k ∧ k ≤ m ∧ (b < k ∨ b = 0) ∧ Below w.heap.size w wr) (fun _ _ vi _ => m - (Go.RowKit.intOf vi).toNat)
    case atStart => exact ⟨0, 0, 0, rfl, rfl, rfl, Nat.zero_le _, .inr rfl, bel⟩
    case round =>
     clear hb2;obtain ⟨b,k,p,rfl,rfl,rfl,hkm,hbk,hb⟩ := hrel
     by_cases hlt : k < m
     case neg =>
      obtain rfl : m = k := by omega
      obtain ⟨n0,n1,n2,nlt⟩ := (HL.out.tr hb).n0 HN.out;rw [HSL.out,HM.out] at n2;obtain ⟨x,hx⟩ : ∃ x,(t.es n)[b]? = some x := ⟨(t.es n)[b]'(by rw [HM.out];omega),List.getElem?_eq_getElem _⟩
      have hr := HROW.out;rw [← HM.out] at hr;obtain ⟨g,c',hv,hgl,r0,r1,r2⟩ := row_at hr hx;rw [HSL.out] at hv;injection hv with hv1 hv2 hv3
      subst hv1 hv3;obtain ⟨hc,hf⟩ := bcell hb;have hz := hb.size;rw [← hc g _ hgl] at r0 r1 r2;simp only [Bool.false_eq_true,if_false,gP] at r2;have hgw : g < wr.heap.size := by omega
      have hbm : (b : Int) < (m : Int) := by omega
      have hkid := (HS.out.kid n l x HN.out (List.mem_of_getElem? hx)).1;have HKD := Lib.hid hkid;have hlv : lvOf t (.pointer (some ⟨n,0,none⟩)) = l + 1 := by simp [lvOf,HN.out]
      have HLV := Lib.hid hlv;clear hr hv2 hx hkid hlv hc hf;go_wp2_with fail
      go_roundw
      case rel => exact ⟨_, _, rfl, HKD.out, bel⟩
      case measure => rw [HLV.out];simp [lvOf,HKD.out]
     have hk0 : (k : Int) < (m : Int) := by omega
     obtain ⟨x,hx⟩ : ∃ x,(t.es n)[k]? = some x := ⟨(t.es n)[k]'(by rw [HM.out];omega),List.getElem?_eq_getElem _⟩
     have hr := HROW.out;rw [← HM.out] at hr;obtain ⟨g,c',hv,hgl,r0,r1,r2⟩ := row_at hr hx;rw [HSL.out] at hv;injection hv with hv1 hv2 hv3
     subst hv1 hv3;obtain ⟨hc,hf⟩ := bcell hb;have hz := hb.size;rw [← hc g _ hgl] at r0 r1 r2;rw [← hc tb _ clt] at c0;have clt' : tb < wr.heap.size := by omega
     simp only [Bool.false_eq_true,if_false,gP] at r2;have hgw : g < wr.heap.size := by omega
     have hKx := HL.out.ekey n (l + 1) x HN.out (List.mem_of_getElem? hx);have hx256 := hKx.1;have hxl := hKx.2.1;obtain ⟨Ax,cx,ekv,hxc,hAx,hyx⟩ := hKx.bys;rw [ekv] at r0;have HX2 := Lib.hid hx256;have HXL := Lib.hid hxl;have HClx := Lib.hid (fun W (hW : Below wr.heap.size wr W) => cloneB_own w.heap.size x.kb.length cx Ax x.kb W (hyx.tr (hb.trans (hW.mono hz)) (Nat.le_refl _)) (Nat.le_trans hz hW.size) hxl hxc hAx)
     clear hr hv2 hx hKx hx256 hxl ekv hxc hAx hyx hc hf;go_wp2_with fail;refine wp_region_below [0,1,2,3,4,5,7,9,10,6,8,11,12] (by kernel_rfl) (by kernel_rfl) (fun _ _ d _ _ h => by cases d <;> exact h) ?_
     simp only [List.map_cons, List.map_nil, ldz, lds, bare, gslot, lcz, lcs, Option.bind_some]
     repeat' ((try simp only [Act.put,lsi,lsz,lss]);first | (refine lexL_quiet (v := ?_) wantB_none rfl ?_ ?_;rotate_left;focus (intro wq hq;obtain ⟨hcq,hfq⟩ := bcell hq;go_simp;try with_reducible rfl)) | (refine lexL_loud wantB_none rfl (fun K hK => ?_);go_simp;((first | (go_at_call 61;(with_reducible refine (HClx.out _ bel).mono ?_);rintro e w4 ⟨s4,rfl,ho4,hb4⟩;obtain ⟨A4,c4,rfl,hy4,y42,y43,y44⟩ := bys_of_own2 ho4;clear ho4 y42;obtain ⟨hc4,hf4⟩ := bcell hb4;have hz4 := hb4.size;(try simp at hz4)) | (go_at_call 61;(with_reducible refine (HClk.out _ bel).mono ?_);rintro e w5 ⟨s5,rfl,ho5,hb5⟩;obtain ⟨A5,c5,rfl,hy5,y52,y53,y54⟩ := bys_of_own2 ho5;clear ho5 y52;obtain ⟨hc5,hf5⟩ := bcell hb5;have hz5 := hb5.size;(try simp at hz5)) | ((refine (HPn.out _ w5.heap.size _ _ _ _ _ _ _ _ ((hy4.tr bel (Nat.le_refl _)).more (by omega)) HX2.out (hy5.tr bel (Nat.le_refl _)) HK.out (by omega) HXL.out y44 HKL.out y54 y43 y53).mono ?_);rintro e w6 ⟨p',rfl,hb6⟩;obtain ⟨hc6,hf6⟩ := bcell hb6;have hz6 := hb6.size;(try simp at hz6)) | skip) <;> (refine hK.out _ _ bel ?_;clear hK K))))
     (all_goals try simp only [Act.put,lsi,lsz,lss]);all_goals (refine lexL_nil ?_)
     have hbn : Below w.heap.size w w6 := bel;have hkm1 : k + 1 ≤ m := by omega
     by_cases hk1 : (k : Int) = 0
     · have hk2 : ((k : Int) == 0) = true := by rw [hk1];rfl
       have HK1 := Lib.hid hk1;clear hk1;go_wp2_with fail
       go_roundw
       case rel => exact ⟨k, k + 1, p', rfl, rfl, by go_num, hkm1, by omega, bel⟩
       case measure => simp [Go.RowKit.intOf];omega
     · have hk2 : ((k : Int) == 0) = false := by rw [beq_eq_false_iff_ne];exact hk1
       by_cases hp : p' < p
       · go_wp2_with fail
         go_roundw
         case rel => exact ⟨k, k + 1, p', rfl, rfl, by go_num, hkm1, by omega, bel⟩
         case measure => simp [Go.RowKit.intOf];omega
       · go_wp2_with fail
         go_roundw
         case rel => exact ⟨b, k + 1, p, rfl, rfl, by go_num, hkm1, by omega, bel⟩
         case measure => simp [Go.RowKit.intOf];omega
end
end Go.Proofs.YtcbjmcnebmhgpaaGreat
