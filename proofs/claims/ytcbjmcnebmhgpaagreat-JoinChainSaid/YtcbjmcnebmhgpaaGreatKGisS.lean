/-
  gist: parts: entries in two parts.
-/
import Derived.Test.YtcbjmcnebmhgpaaGreatKGisT
import Derived.Test.YtcbjmcnebmhgpaaGreatKGisP
import Derived.Test.YtcbjmcnebmhgpaaGreatKHeaC
set_option linter.unusedVariables false
set_option linter.unusedSimpArgs false
set_option maxHeartbeats 4000000
set_option maxRecDepth 20000
namespace Go.Proofs.YtcbjmcnebmhgpaaGreat
open Go Go.RowKit Pg
theorem own_raise {w : World} {b b' size n : Nat} {e : TypeId} {v : Value} {xs : List Value} (h : w.ownsRow b e size v n xs) (hb : ∀ g,v.ownBlock = some g → b' ≤ g) : w.ownsRow b' e size v n xs := by
 rcases h.2 with ⟨h0,h1⟩ | ⟨g,cap,cur,h0,hbg,h1⟩
 · exact ⟨h.1,.inl ⟨h0,h1⟩⟩
 · refine ⟨h.1,.inr ⟨g,cap,cur,h0,hb g (by rw [h0];rfl),h1⟩⟩
def lenG : Value → Nat
 | .slice _ n _ => n
 | _ => 0
theorem three_atG1 {w : World} {o : Obj} {a b c : Value} {t : TypeId} (j : Nat) (v : Value) (hj : [a,b,c][j]? = some v) : ((w.alloc o).alloc (.cells #[a,b,c] t)).cell? ((⟨w.heap.size + 1,0,none⟩ : Addr).add j) = some v := by
 have := three_atG (w := w.alloc o) (a := a) (b := b) (c := c) (t := t) j v hj
 rwa [show (w.alloc o).heap.size = w.heap.size + 1 by simp] at this
theorem lenG_own {w : World} {b size n : Nat} {e : TypeId} {v : Value} {xs : List Value} (h : w.ownsRow b e size v n xs) : lenG v = n := by
 obtain ⟨A,c,rfl,_⟩ := row_form h
 rfl
structure TwoG (w wr : World) (lf : Bool) (va vb : Value) (a b : List En) : Prop where
 ra : wr.ownsRow w.heap.size 99 3 va a.length (ecells lf a)
 rb : wr.ownsRow w.heap.size 99 3 vb b.length (ecells lf b)
 sep : ∀ g,va.ownBlock = some g → vb.ownBlock ≠ some g
 bl : Below w.heap.size w wr
section
variable {w wr W w7 : World} {lf : Bool} {va vb v' : Value} {a b : List En}
theorem TwoG.swap (h : TwoG w wr lf va vb a b) : TwoG w wr lf vb va b a := ⟨h.rb,h.ra,fun g hg q => h.sep g q hg,h.bl⟩
theorem TwoG.tr (h : TwoG w wr lf va vb a b) (hW : Below wr.heap.size wr W) : TwoG w W lf va vb a b := ⟨own_kept h.ra (grown_below hW) (by simp),own_kept h.rb (grown_below hW) (by simp),h.sep,h.bl.trans (hW.mono h.bl.size)⟩
theorem TwoG.push (h : TwoG w wr lf va vb a b) (hW : Below wr.heap.size wr W) {e : En} {x : Value} (hx : (if lf then Value.pointer none else gP e.kid) = x) (hown : w7.ownsRow 0 99 3 v' (a.length + 1) (ecells lf a ++ [e.kv,.int .i64 e.id,x])) (hg : W.grownBy w7 va.ownBlock) (hwh : v'.ownBlock = va.ownBlock ∨ v'.ownBlock = some W.heap.size) : TwoG w w7 lf v' vb (a ++ [e]) b := by
 have h1 := h.tr hW;have hz := h.bl.size;have hz2 := hW.size;refine ⟨?_,own_kept h1.rb hg (fun g hg => h1.sep g hg),?_,h1.bl.grown hg h1.bl.size fun k hk => (h1.ra.lt k hk).1⟩
 · rw [ecells_append,List.length_append,List.length_singleton]
   subst hx;refine own_raise hown fun g hg => ?_
   rcases hwh with q | q
   · rw [q] at hg;exact (h1.ra.lt g hg).1
   · rw [q] at hg;cases hg;omega
 · intro g hg q
   rcases hwh with k | k
   · rw [k] at hg;exact h1.sep g hg q
   · rw [k] at hg
     cases hg
     have := (h1.rb.lt _ q).2
     omega
theorem TwoG.shrink {g n c : Nat} (h : TwoG w wr lf va (.slice (some ⟨g,0,none⟩) n c) a b) (hn : n = b.length) {m : Nat} (hm : m ≤ n) : TwoG w wr lf va (.slice (some ⟨g,0,none⟩) m c) a (b.take m) := by
 subst hn;refine ⟨h.ra,?_,fun g' hg q => h.sep g' hg q,h.bl⟩
 have := own_shrink h.rb hm
 rw [List.length_take,Nat.min_eq_left hm]
 have e : ecells lf (b.take m) = (ecells lf b).take (m * 3) := by
  have e1 : ecells lf b = ecells lf (b.take m) ++ ecells lf (b.drop m) := by rw [← ecells_append,List.take_append_drop]
  have e2 : (ecells lf (b.take m)).length = m * 3 := by
   have : ∀ l : List En,(ecells lf l).length = l.length * 3 := fun l => by
    induction l with
    | nil => rfl
    | cons x r ih => rw [show ecells lf (x :: r) = ecell lf x ++ ecells lf r from rfl,List.length_append,ih];simp [ecell];omega
   rw [this, List.length_take, Nat.min_eq_left hm]
  rw [e1, ← e2, List.take_left]
 rw [e]
 exact this
end
theorem TwoG.lower {w w3 wr : World} {lf : Bool} {va vb : Value} {a b : List En} (hb : Below w.heap.size w w3) (h : TwoG w3 wr lf va vb a b) : TwoG w wr lf va vb a b := ⟨own_lower h.ra hb.size,own_lower h.rb hb.size,h.sep,hb.trans (h.bl.mono hb.size)⟩
section
variable {w : World} {own imm : Nat → Prop} {tb mb : Nat} {t : Tr} {H : Nat → Prop} {L : Int → Prop}
theorem own_nilG (w : World) (B : Nat) (lf : Bool) : w.ownsRow B 99 3 (.slice none 0 0) 0 (ecells lf []) := World.ownsRow_nil _ _ _ _
theorem parts_any {C : Cl} {ct : TypeId} {cv : Value} {fM fC fD fU fS : Nat} (hC : ClAt ct cv C fM fC fD fU fS) (h : Lay w own imm tb mb (.iface ct cv) t H L) (lf : Bool) (l : List En) (v : Value) (hrow : w.ownsRow 0 99 3 v l.length (ecells lf l)) (hk : ∀ e ∈ l,KeyIn w imm e.kv e.kb) (hfan : t.fan ≤ 1000) (hlen : t.fan / 2 * 2 ≤ l.length) (hmax : l.length ≤ 10000) :
 Calls Tryz.prog 86 #[gP tb,v] w fun e w' => ∃ va vb a b,e = .returned (.tuple #[va,vb]) ∧ (a ++ b).Perm l ∧ t.fan / 2 ≤ a.length ∧ t.fan / 2 ≤ b.length ∧ TwoG w w' lf va vb a b := by
 obtain ⟨i0,hi,iz0,iz1,iz2⟩ := info_parts Tryz.infoEnG;obtain ⟨c0,c1,c2,c3,clt⟩ := h.c0;have HLe := Lib.hid (fun W (hW : Below w.heap.size w W) => least_any (h.tr hW) hfan)
 have HKs := Lib.hid (fun W (hW : Below w.heap.size w W) => keys_any lf imm l v W (own_kept hrow (grown_below hW) (by simp)) (fun e he => (hk e he).kept (grown_below hW) (by simp)) (by omega))
 have h256 : ∀ k ∈ l.map En.kb,(∀ x ∈ k,x < 256) ∧ k.length ≤ 1000000 := fun k hk' => by
  obtain ⟨e,he,rfl⟩ := List.mem_map.1 hk';exact ⟨(hk e he).1,(hk e he).2.1⟩
 have hS := hC.split (l.map En.kb) (by rw [List.length_map];omega) (fun k hk => (h256 k hk).1) fun k hk => (h256 k hk).2
 have HSp := Lib.hid (fun W A c (hr : RbsAt W W.heap.size A (l.map En.kb).length (l.map En.kb)) => hS.calls W W.heap.size A c hr (Nat.le_refl _))
 have mS := hC.mS;have eS := hS.enter;have hsl := hS.len;obtain ⟨A,c,rfl,hnc,hAn,hAb⟩ := row_form hrow;have HR := Lib.hid hrow;have HKB := Lib.hid hk;have hml : (l.map En.kb).length = l.length := List.length_map _;generalize C.split (l.map En.kb) = s at *;generalize l.map En.kb = K at *;clear h hrow hk h256 hS hC hnc hAn hAb hml;obtain ⟨m,hm⟩ : ∃ m,l.length = m := ⟨_,rfl⟩;have HM := Lib.hid hm;rw [hm] at hlen hmax HKs;clear hm;obtain ⟨q,hq⟩ : ∃ q,t.fan / 2 = q := ⟨_,rfl⟩
 rw [hq] at hlen HLe ⊢
 have hq5 : q ≤ 500 := by omega
 have hsm : (s.length : Int) ≤ 1000000 := by omega
 rw [HM.out]
 clear hq c1 c2 c3
 simp only [gP] at *
 go_enter Tryz.func86,Tryz.ntmps86
 go_wp2_with fail;refine wp_region_below [0,1,2,3,4,6,7,5,8,9] (by kernel_rfl) (by kernel_rfl) (fun _ _ d _ _ h => by cases d <;> exact h) ?_
 simp only [List.map_cons,List.map_nil,ldz,lds,bare,gslot,lcz,lcs,Option.bind_some]
 repeat' ((try simp only [Act.put,lsi,lsz,lss]);first | (refine lexL_quiet (v := ?_) wantB_none rfl ?_ ?_;rotate_left;focus (intro wq hq;obtain ⟨hcq,hfq⟩ := bcell hq;go_simp;try with_reducible rfl)) | (refine lexL_loud wantB_none rfl (fun K hK => ?_);go_simp;((first | (go_at_call 62;(with_reducible refine (HKs.out _ bel).mono ?_);rintro e w1 ⟨s1,rfl,hK1,hb1⟩;obtain ⟨A1,c1',rfl,hR1⟩ := rbs_of_keys hK1;clear hK1;obtain ⟨hc1,hf1⟩ := bcell hb1;have hz1 := hb1.size;(try simp at hz1)) | ((refine (HSp.out _ _ _ (hR1.tr bel (Nat.le_refl _))).mono ?_);rintro e w2 ⟨A2,c2',rfl,hy2,hb2⟩;obtain ⟨hc2,hf2⟩ := bcell hb2;have hz2 := hb2.size;(try simp at hz2)) | skip) <;> (refine hK.out _ _ bel ?_;clear hK K))))
 (all_goals try simp only [Act.put,lsi,lsz,lss]);all_goals (refine lexL_nil ?_)
 go_wp2_with fail;refine wp_genG (fun w3 => Below w.heap.size w w3 ∧ BosAt w3 w3.heap.size A2 s.length s) ⟨bel,bos_more (hy2.tr bel (Nat.le_refl _)) (Below.size (B := w2.heap.size) bel)⟩ ?_
 rintro w3 ⟨hb3,hy3⟩;have hz3 := hb3.size;have HY := Lib.hid hy3;have HB3 := Lib.hid hb3;clear hy2 hb2 hc2 hf2 hz2 hR1 hb1 hc1 hf1 hz1 hy3 mS eS
 go_loopw [4,5,20] (fun va vb vi wr => ∃ (k : Nat) (a b : List En),k ≤ m ∧ vi = .int .i64 k ∧ (a ++ b).Perm (l.take k) ∧ TwoG w3 wr lf va vb a b) (fun _ _ vi _ => m - (Go.RowKit.intOf vi).toNat)
 case atStart => exact ⟨0,[],[],Nat.zero_le _,rfl,by simp,own_nilG _ _ _,own_nilG _ _ _,by simp [Value.ownBlock],bel⟩
 case round =>
  obtain ⟨k,a,b,hkm,rfl,hp,hT⟩ := hrel
  by_cases hlt : k < m
  case neg =>
   obtain rfl : m = k := by omega
   have hp' : (a ++ b).Perm l := by rw [List.take_of_length_le (by rw [HM.out];omega)] at hp;exact hp
   have HP := Lib.hid hp';have HT := Lib.hid hT;clear hp hp' hT;go_wp2_with fail
   go_loopw [4, 5] (fun va vb wr => ∃ a b : List En, (a ++ b).Perm l ∧ TwoG w3 wr lf va vb a b) (fun va _ _ => q - lenG va)
   case atStart => exact ⟨a, b, HP.out, HT.out⟩
   case round =>
    clear HP HT;obtain ⟨a2,b2,hp,hT⟩ := hrel;have hbw := HB3.out.trans (hT.bl.mono hz3)
    have hal : a2.length + b2.length = m := by
     have := hp.length_eq;rw [List.length_append,HM.out] at this;exact this
    obtain ⟨Aa,ca,rfl,_,_,_⟩ := row_form hT.ra
    by_cases hlt2 : a2.length < q
    case neg =>
     have hlt3 : ¬ (a2.length : Int) < (q : Int) := by omega
     have HT := Lib.hid hT;have HP := Lib.hid hp;clear hT hp
     go_wp2_with (go_at_call 35;(with_reducible refine (HLe.out _ bel).mono ?_);rintro e w8 ⟨rfl,hb8⟩)
     refine wp_genG (fun w8' => TwoG w3 w8' lf (.slice Aa a2.length ca) _ a2 b2) (HT.out.tr bel) ?_
     clear hb8 hbw;rintro w8' hT8;have hqa : q ≤ a2.length := by omega
     go_loopw [4, 5] (fun va vb wr => ∃ a b : List En, (a ++ b).Perm l ∧ q ≤ a.length ∧ TwoG w3 wr lf va vb a b) (fun _ vb _ => q - lenG vb)
     case atStart => exact ⟨a2, b2, HP.out, hqa, hT8⟩
     case round =>
      clear HP HT hT8 hqa hal hlt2 hlt3;obtain ⟨a3,b3,hp,hqa,hT⟩ := hrel;have hbw := HB3.out.trans (hT.bl.mono hz3)
      have hal : a3.length + b3.length = m := by
       have := hp.length_eq;rw [List.length_append,HM.out] at this;exact this
      obtain ⟨Ab,cb,rfl,_,_,_⟩ := row_form hT.rb
      by_cases hlt2 : b3.length < q
      case neg =>
       have hlt3 : ¬ (b3.length : Int) < (q : Int) := by omega
       obtain ⟨Aa,ca,rfl,_,_,_⟩ := row_form hT.ra;have HT := Lib.hid hT;have HP := Lib.hid hp;have hqb : q ≤ b3.length := by omega
       clear hT hp
       go_wp2_with (go_at_call 35;(with_reducible refine (HLe.out _ bel).mono ?_);rintro e w8 ⟨rfl,hb8⟩)
       go_ret2
       exact ⟨_,_,a3,b3,rfl,HP.out,hqa,hqb,TwoG.lower HB3.out (HT.out.tr bel)⟩
      have hlt3 : (b3.length : Int) < (q : Int) := by omega
      obtain ⟨p,hp1⟩ : ∃ p,a3.length = p + 1 := ⟨a3.length - 1,by omega⟩
      obtain ⟨x,hx⟩ : ∃ x,a3[p]? = some x := ⟨a3[p]'(by omega),List.getElem?_eq_getElem _⟩
      obtain ⟨g,ca,rfl,_,_,_,_⟩ := row_at (own_lower hT.ra (Nat.zero_le _)) hx
      have hcn : a3.length ≤ ca := by
       obtain ⟨_,_,e,h1,_⟩ := row_form hT.ra;injection e with _ _ e
       omega
      have HT := Lib.hid hT;have HP := Lib.hid hp;have HX := Lib.hid hx;have hidx : ((a3.length : Nat) : Int) - 1 = (p : Int) := by omega
      have hpl : (p : Int) < (a3.length : Int) := by omega
      have hpc : (p : Int) ≤ (ca : Int) := by omega
      have hpw : IntKind.i64.wrap (p : Int) = (p : Int) := IntWalk.i64_in _ ⟨by omega,by omega⟩
      have hcc : p ≤ ca := by omega
      have HP1 := Lib.hid hp1;clear hT hp hx hp1
      go_wp2_with (go_at_call 35;(with_reducible refine (HLe.out _ bel).mono ?_);rintro e w8 ⟨rfl,hb8⟩)
      have HT8 := Lib.hid (HT.out.tr hb8);obtain ⟨g',c',hv,hgl,r0,r1,r2⟩ := row_at (own_lower HT8.out.ra (Nat.zero_le _)) HX.out;injection hv with hv1 hv2 hv3
      injection hv1 with hv1
      injection hv1 with hv1
      subst hv1 hv3;obtain ⟨pz,hpz⟩ : ∃ p,(if lf = true then Value.pointer none else gP x.kid) = .pointer p := by cases lf <;> exact ⟨_,rfl⟩
      rw [hpz] at r2;have HPZ := Lib.hid hpz;obtain ⟨_,_,Ax,cx,ekx,_⟩ := HKB.out x (HP.out.mem_iff.1 (List.mem_append.2 (.inl (List.mem_of_getElem? HX.out))));rw [ekx] at r0;have HEK := Lib.hid ekx;clear ekx hpz hv2 hbw hb8;refine wp_region_keep (w3.heap.size) [g] [0,1,2,3,4,5,6,7,8,9,10,11,12,13,14,15] (by kernel_rfl) (by kernel_rfl) (fun _ _ d _ _ h => by cases d <;> exact h) ?_
      simp only [List.map_cons, List.map_nil, ldz, lds, bare, gslot, lcz, lcs, Option.bind_some]
      repeat' ((try simp only [Act.put,lsi,lsz,lss]);first | (refine lexL_quiet (v := ?_) wantB_none rfl ?_ ?_;rotate_left;focus (intro wq hq;obtain ⟨hcq,hfq⟩ := kcell hq;go_simp;try with_reducible rfl)) | (refine lexL_loud wantB_none rfl (fun K hK => ?_);(refine wp_append_at _ _ _ 96 rfl 99 i0 (.agg #[.slice none 0 0,.int .i64 0,.pointer none]) 3 40 Tryz.underlying96 hi iz0 iz1 iz2 rfl (by decide) _ _ _ rfl (own_lower (TwoG.rb (TwoG.tr HT8.out bel)) (Nat.zero_le _)) _ _ _ _ rfl rfl three_atG ?_ ?_ ?_ (by decide) ?_);(focus (simp [Value.oneCell']));(focus (unfold maxLen;omega));(focus omega);intro v' w9 hown' hgrow hwh;have hkp : Keep w3.heap.size [g] w8 w9 := Keep.grown (by repeat (first | with_reducible exact Keep.refl _ _ _ | with_reducible refine Keep.drew ?_ | with_reducible refine Keep.alloc ?_ _)) hgrow (fun k hk => ⟨(TwoG.rb HT8.out).lt k hk |>.1,fun q => by rw [List.mem_singleton] at q;subst q;exact HT8.out.sep _ rfl hk⟩);refine hK.out _ _ (by repeat (first | with_reducible exact Keep.refl _ _ _ | with_reducible assumption | with_reducible refine Keep.drew ?_ | with_reducible refine Keep.alloc ?_ _ | with_reducible refine Keep.below ?_ (by with_reducible assumption))) ?_;clear hK K) | (refine lexL_loud wantB_none rfl (fun K hK => ?_);go_simp;((first | fail  | skip) <;> (refine hK.out _ _ (by repeat (first | with_reducible exact Keep.refl _ _ _ | with_reducible assumption | with_reducible refine Keep.drew ?_ | with_reducible refine Keep.alloc ?_ _ | with_reducible refine Keep.below ?_ (by with_reducible assumption))) ?_;clear hK K))))
      (all_goals try simp only [Act.put,lsi,lsz,lss]);all_goals (refine lexL_nil ?_)
      have HT9 := Lib.hid ((TwoG.push (e := x) HT8.out.swap bel HPZ.out (by rw [HEK.out];exact hown') hgrow (by first | exact hwh | simpa using hwh)).swap)
      clear hown' hgrow hwh;go_wp2
      go_roundw
      case rel =>
       have hp1 := HP1.out;refine ⟨a3.take p,b3 ++ [x],?_,by rw [List.length_take];omega,TwoG.swap (TwoG.shrink HT9.out.swap rfl (by omega))⟩
       have e1 : a3 = a3.take p ++ [x] := by
        have := List.take_append_drop p a3;rw [List.drop_eq_getElem_cons (by omega : p < a3.length),List.drop_of_length_le (by omega)] at this
        have q := HX.out;rw [List.getElem?_eq_getElem (by omega : p < a3.length)] at q
        injection q with q
        rw [← q]
        exact this.symm
       refine List.Perm.trans ?_ HP.out
       conv => rhs;rw [e1]
       rw [List.append_assoc]
       exact (List.perm_append_comm (l₁ := b3) (l₂ := [x])).append_left _
      case measure => have hl := lenG_own HT9.out.rb;rw [List.length_append,List.length_singleton] at hl;simp only [lenG] at hl ⊢;simp;omega
    have hlt3 : (a2.length : Int) < (q : Int) := by omega
    obtain ⟨p,hp1⟩ : ∃ p,b2.length = p + 1 := ⟨b2.length - 1,by omega⟩
    obtain ⟨x,hx⟩ : ∃ x,b2[p]? = some x := ⟨b2[p]'(by omega),List.getElem?_eq_getElem _⟩
    obtain ⟨g,cb,rfl,_,_,_,_⟩ := row_at (own_lower hT.rb (Nat.zero_le _)) hx
    have hcn : b2.length ≤ cb := by
     obtain ⟨_,_,e,h1,_⟩ := row_form hT.rb;injection e with _ _ e
     omega
    have HT := Lib.hid hT;have HP := Lib.hid hp;have HX := Lib.hid hx;have hidx : ((b2.length : Nat) : Int) - 1 = (p : Int) := by omega
    have hpl : (p : Int) < (b2.length : Int) := by omega
    have hpc : (p : Int) ≤ (cb : Int) := by omega
    have hpw : IntKind.i64.wrap (p : Int) = (p : Int) := IntWalk.i64_in _ ⟨by omega,by omega⟩
    have hcc : p ≤ cb := by omega
    have HP1 := Lib.hid hp1;clear hT hp hx hp1
    go_wp2_with (go_at_call 35;(with_reducible refine (HLe.out _ bel).mono ?_);rintro e w8 ⟨rfl,hb8⟩)
    have HT8 := Lib.hid (HT.out.tr hb8);obtain ⟨g',c',hv,hgl,r0,r1,r2⟩ := row_at (own_lower HT8.out.rb (Nat.zero_le _)) HX.out;injection hv with hv1 hv2 hv3
    injection hv1 with hv1
    injection hv1 with hv1
    subst hv1 hv3;obtain ⟨pz,hpz⟩ : ∃ p,(if lf = true then Value.pointer none else gP x.kid) = .pointer p := by cases lf <;> exact ⟨_,rfl⟩
    rw [hpz] at r2;have HPZ := Lib.hid hpz;obtain ⟨_,_,Ax,cx,ekx,_⟩ := HKB.out x (HP.out.mem_iff.1 (List.mem_append.2 (.inr (List.mem_of_getElem? HX.out))));rw [ekx] at r0;have HEK := Lib.hid ekx;clear ekx hpz hv2 hbw hb8;refine wp_region_keep (w3.heap.size) [g] [0,1,2,3,4,5,6,9,10,11,12,13,7,8,14,15] (by kernel_rfl) (by kernel_rfl) (fun _ _ d _ _ h => by cases d <;> exact h) ?_
    simp only [List.map_cons, List.map_nil, ldz, lds, bare, gslot, lcz, lcs, Option.bind_some]
    repeat' ((try simp only [Act.put,lsi,lsz,lss]);first | (refine lexL_quiet (v := ?_) wantB_none rfl ?_ ?_;rotate_left;focus (intro wq hq;obtain ⟨hcq,hfq⟩ := kcell hq;go_simp;try with_reducible rfl)) | (refine lexL_loud wantB_none rfl (fun K hK => ?_);(refine wp_append_at _ _ _ 96 rfl 99 i0 (.agg #[.slice none 0 0,.int .i64 0,.pointer none]) 3 40 Tryz.underlying96 hi iz0 iz1 iz2 rfl (by decide) _ _ _ rfl (own_lower (TwoG.ra (TwoG.tr HT8.out bel)) (Nat.zero_le _)) _ _ _ _ rfl rfl three_atG ?_ ?_ ?_ (by decide) ?_);(focus (simp [Value.oneCell']));(focus (unfold maxLen;omega));(focus omega);intro v' w9 hown' hgrow hwh;have hkp : Keep w3.heap.size [g] w8 w9 := Keep.grown (by repeat (first | with_reducible exact Keep.refl _ _ _ | with_reducible refine Keep.drew ?_ | with_reducible refine Keep.alloc ?_ _)) hgrow (fun k hk => ⟨(TwoG.ra HT8.out).lt k hk |>.1,fun q => by rw [List.mem_singleton] at q;subst q;exact HT8.out.sep _ hk rfl⟩);refine hK.out _ _ (by repeat (first | with_reducible exact Keep.refl _ _ _ | with_reducible assumption | with_reducible refine Keep.drew ?_ | with_reducible refine Keep.alloc ?_ _ | with_reducible refine Keep.below ?_ (by with_reducible assumption))) ?_;clear hK K) | (refine lexL_loud wantB_none rfl (fun K hK => ?_);go_simp;((first | fail  | skip) <;> (refine hK.out _ _ (by repeat (first | with_reducible exact Keep.refl _ _ _ | with_reducible assumption | with_reducible refine Keep.drew ?_ | with_reducible refine Keep.alloc ?_ _ | with_reducible refine Keep.below ?_ (by with_reducible assumption))) ?_;clear hK K))))
    (all_goals try simp only [Act.put,lsi,lsz,lss]);all_goals (refine lexL_nil ?_)
    have HT9 := Lib.hid (TwoG.push (e := x) HT8.out bel HPZ.out (by rw [HEK.out];exact hown') hgrow (by first | exact hwh | simpa using hwh))
    clear hown' hgrow hwh;go_wp2
    go_roundw
    case rel =>
     have hp1 := HP1.out;refine ⟨a2 ++ [x],b2.take p,?_,TwoG.shrink HT9.out rfl (by omega)⟩
     have e1 : b2 = b2.take p ++ [x] := by
      have := List.take_append_drop p b2;rw [List.drop_eq_getElem_cons (by omega : p < b2.length),List.drop_of_length_le (by omega)] at this
      have q := HX.out;rw [List.getElem?_eq_getElem (by omega : p < b2.length)] at q
      injection q with q
      rw [← q]
      exact this.symm
     refine List.Perm.trans ?_ HP.out
     conv => rhs;rw [e1]
     rw [List.append_assoc]
     exact (List.perm_append_comm (l₁ := [x]) (l₂ := b2.take p)).append_left _
    case measure => have hl := lenG_own HT9.out.ra;rw [List.length_append,List.length_singleton] at hl;simp only [lenG] at hl ⊢;simp;omega
  have hk0 : (k : Int) < (m : Int) := by omega
  have hk1 : (k : Int) ≤ 1000000 := by omega
  obtain ⟨x,hx⟩ : ∃ x,l[k]? = some x := ⟨l[k]'(by rw [HM.out];omega),List.getElem?_eq_getElem _⟩
  have hr := HR.out;obtain ⟨g,c',hv,hgl,r0,r1,r2⟩ := row_at hr hx;rw [HM.out] at hv;injection hv with hv1 hv2 hv3
  subst hv1 hv3;have hbw := hb3.trans (hT.bl.mono hz3);obtain ⟨hc,hf⟩ := bcell hbw;have hzr := hbw.size;rw [← hc g _ hgl] at r0 r1 r2;have hgw : g < wr.heap.size := by omega
  obtain ⟨pz,hpz⟩ : ∃ p,(if lf = true then Value.pointer none else gP x.kid) = .pointer p := by cases lf <;> exact ⟨_,rfl⟩
  rw [hpz] at r2;have HPZ := Lib.hid hpz;obtain ⟨_,_,Ax,cx,ekx,_⟩ := HKB.out x (List.mem_of_getElem? hx);rw [ekx] at r0;have HEK := Lib.hid ekx
  have hal : a.length + b.length = k := by
   have := hp.length_eq;rw [List.length_append,List.length_take,HM.out] at this
   omega
  have HAL := Lib.hid hal;obtain ⟨Aa,ca,rfl,_,_,_⟩ := row_form hT.ra;obtain ⟨Ab,cb,rfl,_,_,_⟩ := row_form hT.rb
  have hpA : ((a ++ [x]) ++ b).Perm (l.take (k + 1)) := by
   rw [List.take_add_one, hx]
   refine List.Perm.trans ?_ (hp.append_right [x])
   simp only [Option.toList_some, List.append_assoc]
   exact (List.perm_append_comm (l₁ := [x]) (l₂ := b)).append_left a
  have hpB : (a ++ (b ++ [x])).Perm (l.take (k + 1)) := by
   rw [List.take_add_one, hx, ← List.append_assoc]
   exact hp.append_right [x]
  have HPA := Lib.hid hpA;have HPB := Lib.hid hpB;have HT := Lib.hid hT;have HX := Lib.hid hx;clear hpA hpB hp hal hr hv2 hx ekx hpz hc hf hT hbw
  by_cases hks : k < s.length
  · obtain ⟨sv, hsv⟩ : ∃ x, s[k]? = some x := ⟨s[k]'hks, List.getElem?_eq_getElem _⟩
    obtain ⟨bS,offS,rfl,hbS,hcS⟩ := HY.out.2 (by omega)
    have s0 := hcS k sv hsv;have hbwr := HT.out.bl;rw [← (bcell hbwr).1 bS _ hbS] at s0;have hbS' : bS < wr.heap.size := Nat.lt_of_lt_of_le hbS hbwr.size;have hks0 : (k : Int) < (s.length : Int) := by omega
    clear hsv hcS hbwr hks
    cases sv
    · go_wp2_with (at_builtin;go_must (refine wpList_append_at _ rfl _ _ 96 rfl 99 i0 (.agg #[.slice none 0 0,.int .i64 0,.pointer none]) 3 40 Tryz.underlying96 hi iz0 iz1 iz2 rfl (by decide) _ _ _ rfl (own_lower (TwoG.ra (TwoG.tr HT.out bel)) (Nat.zero_le _)) _ _ _ _ rfl rfl three_atG1 ?c2 ?c3 ?c4 (by decide) ?_))
      case c2 => simp [Value.oneCell']
      case c3 => have := HAL.out;unfold maxLen;omega
      case c4 => have := HAL.out;omega
      intro v' w7 hown' hgrow hwh;have HT7 := Lib.hid ((TwoG.push (e := x) HT.out bel HPZ.out (by rw [HEK.out];exact hown') hgrow (by first | exact hwh | simpa using hwh)))
      clear hown' hgrow hwh;go_wp2
      go_roundw
      case rel => exact ⟨k + 1, a ++ [x], b, by omega, by go_num, HPA.out, HT7.out⟩
      case measure => simp [Go.RowKit.intOf];omega
    · go_wp2_with (at_builtin;go_must (refine wpList_append_at _ rfl _ _ 96 rfl 99 i0 (.agg #[.slice none 0 0,.int .i64 0,.pointer none]) 3 40 Tryz.underlying96 hi iz0 iz1 iz2 rfl (by decide) _ _ _ rfl (own_lower (TwoG.rb (TwoG.tr HT.out bel)) (Nat.zero_le _)) _ _ _ _ rfl rfl three_atG1 ?c2 ?c3 ?c4 (by decide) ?_))
      case c2 => simp [Value.oneCell']
      case c3 => have := HAL.out;unfold maxLen;omega
      case c4 => have := HAL.out;omega
      intro v' w7 hown' hgrow hwh;have HT7 := Lib.hid ((TwoG.push (e := x) HT.out.swap bel HPZ.out (by rw [HEK.out];exact hown') hgrow (by first | exact hwh | simpa using hwh)).swap)
      clear hown' hgrow hwh;go_wp2
      go_roundw
      case rel => exact ⟨k + 1, a, b ++ [x], by omega, by go_num, HPB.out, HT7.out⟩
      case measure => simp [Go.RowKit.intOf];omega
  · have hks0 : ¬ (k : Int) < (s.length : Int) := by omega
    clear hks
    go_wp2_with (at_builtin;go_must (refine wpList_append_at _ rfl _ _ 96 rfl 99 i0 (.agg #[.slice none 0 0,.int .i64 0,.pointer none]) 3 40 Tryz.underlying96 hi iz0 iz1 iz2 rfl (by decide) _ _ _ rfl (own_lower (TwoG.ra (TwoG.tr HT.out bel)) (Nat.zero_le _)) _ _ _ _ rfl rfl three_atG1 ?c2 ?c3 ?c4 (by decide) ?_))
    case c2 => simp [Value.oneCell']
    case c3 => have := HAL.out;unfold maxLen;omega
    case c4 => have := HAL.out;omega
    intro v' w7 hown' hgrow hwh;have HT7 := Lib.hid ((TwoG.push (e := x) HT.out bel HPZ.out (by rw [HEK.out];exact hown') hgrow (by first | exact hwh | simpa using hwh)))
    clear hown' hgrow hwh;go_wp2
    go_roundw
    case rel => exact ⟨k + 1, a ++ [x], b, by omega, by go_num, HPA.out, HT7.out⟩
    case measure => simp [Go.RowKit.intOf];omega
end
end Go.Proofs.YtcbjmcnebmhgpaaGreat
