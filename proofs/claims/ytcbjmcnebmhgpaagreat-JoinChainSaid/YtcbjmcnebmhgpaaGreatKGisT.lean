/-
  gist: take at a leaf;choose,refresh,split,add,insert where the root is a leaf that has room.
  gist: take at a node above the leaves;take at whatever node;a node's place,less asked.
-/
import Derived.Test.YtcbjmcnebmhgpaaGreatKGisB
import Derived.Test.YtcbjmcnebmhgpaaGreatKNearP
set_option linter.unusedVariables false
set_option linter.unusedSimpArgs false
set_option maxHeartbeats 4000000
set_option maxRecDepth 20000
namespace Go.Proofs.YtcbjmcnebmhgpaaGreat
open Go Go.RowKit Pg
def entG (x : It) (id : Int) : En := ⟨x.kv,x.kb,id,0⟩
def takeLf (t : Tr) (n : Nat) (es : List En) (v : Value) (k : Nat) : Tr := { t with es := updT t.es n es,sl := updT t.sl n v,leaf := fun i => if i ∈ (es.take k).map En.id then n else t.leaf i }
theorem takeLf_next {t : Tr} {n : Nat} {es : List En} {v : Value} {k : Nat} {e : En} (he : es[k]? = some e) : { takeLf t n es v k with leaf := updT (takeLf t n es v k).leaf e.id n } = takeLf t n es v (k + 1) := by
 have hf : updT (fun i => if i ∈ (es.take k).map En.id then n else t.leaf i) e.id n = fun i => if i ∈ (es.take (k + 1)).map En.id then n else t.leaf i := by
  funext i
  unfold updT
  simp only [List.take_add_one, he, Option.toList_some, List.map_append, List.map_cons, List.map_nil, List.mem_append, List.mem_singleton]
  by_cases h1 : i = e.id
  · simp [h1]
  · simp [h1]
 unfold takeLf
 rw [← hf]
theorem taken_next {L : Int → Prop} {es : List En} {k : Nat} {e : En} (he : es[k]? = some e) (i : Int) : ((L i ∧ i ∉ (es.take k).map En.id) ∧ i ≠ e.id) ↔ (L i ∧ i ∉ (es.take (k + 1)).map En.id) := by
 simp only [List.take_add_one,he,Option.toList_some,List.map_append,List.map_cons,List.map_nil,List.mem_append,List.mem_singleton,not_or]
 constructor
 · rintro ⟨⟨h1,h2⟩,h3⟩;exact ⟨h1,h2,h3⟩
 · rintro ⟨h1,h2,h3⟩;exact ⟨⟨h1,h2⟩,h3⟩
section
variable {w : World} {own imm : Nat → Prop} {tb mb : Nat} {cl : Value} {t : Tr} {H : Nat → Prop} {L : Int → Prop}
theorem getK_items {id : Int} {x : It} (h : getK id t.items = some x) : getK id (t.items.map fun p => (p.1,gP p.2.blk)) = some (gP x.blk) := by
 have : ∀ m : List (Int × It),getK id (m.map fun p => (p.1,gP p.2.blk)) = (getK id m).map fun y => gP y.blk := by
  intro m
  induction m with
  | nil => rfl
  | cons p r ih =>
    rw [List.map_cons, getK_cons, getK_cons, ih]
    split <;> rfl
 rw [this,h]
 rfl
theorem getK_itemsN {id : Int} (h : getK id t.items = none) : getK id (t.items.map fun p => (p.1,gP p.2.blk)) = none := by
 have : ∀ m : List (Int × It),getK id (m.map fun p => (p.1,gP p.2.blk)) = (getK id m).map fun y => gP y.blk := by
  intro m
  induction m with
  | nil => rfl
  | cons p r ih =>
    rw [List.map_cons, getK_cons, getK_cons, ih]
    split <;> rfl
 rw [this,h]
 rfl
theorem Tryz.zeroItG (w : World) : (zeroValue 84).run Tryz.prog w = .ok (.pointer none) w := by kernel_rfl
theorem takeLeaf_any (h : Lay w own imm tb mb cl t H L) {n : Nat} (hn : t.lv n = some 0) (es : List En) (v : Value) (hrow : w.ownsRow 0 99 3 v es.length (ecells true es))
 (hv : ∀ g,v.ownBlock = some g → own g ∧ ∀ b' l',t.lv b' = some l' → b' ≠ n → ¬ H b' → (t.sl b').ownBlock ≠ some g) (hkey : ∀ e ∈ es,KeyIn w imm e.kv e.kb)
 (hid : ∀ e ∈ es,(∃ x,getK e.id t.items = some x) ∧ -9223372036854775808 ≤ e.id ∧ e.id ≤ 9223372036854775807) (hes : es.length ≤ 1000000) :
 Calls Tryz.prog 64 #[gP tb,gP n,v] w fun e w' => e = .returned (.tuple #[]) ∧ Lay w' own imm tb mb cl (takeLf t n es v es.length) (fun x => H x ∧ x ≠ n) (fun i => L i ∧ i ∉ es.map En.id) ∧ TurnF own w w' := by
 obtain ⟨n0,n1,n2,nlt⟩ := h.n0 hn;have fN := (h.nd n 0 hn).frozen;obtain ⟨A,c,rfl,hnc,hAn,hAb⟩ := row_form hrow;have h1 := h.setRow hn hrow hv hkey;have HI := Lib.hid hid;have ho := h.oN n 0 hn;have HOwn := Lib.hid ho;generalize hl : es.length = m at *;clear hrow hv hkey h hid hnc hAn hAb ho
 try simp only [gP] at *
 go_enter Tryz.func64,Tryz.ntmps64
 go_wp2_with fail;refine wp_genG (fun w2 => Lay w2 own imm tb mb cl (takeLf t n es (.slice A m c) 0) (fun x => H x ∧ x ≠ n) (fun i => L i ∧ i ∉ (es.take 0).map En.id) ∧ TurnF own w w2) ⟨?_,(TurnF.refl own w).set_ (p := ⟨n,2,none⟩) (.inl HOwn.out) _⟩ ?_
 · have e : takeLf t n es (.slice A m c) 0 = { t with es := updT t.es n es,sl := updT t.sl n (.slice A m c) } := by simp [takeLf]
   rw [e]
   exact h1.less (fun _ q => q) (fun i q => ⟨q,by simp⟩)
 clear h1 n0 n1 n2 nlt fN;rintro w2 ⟨h2,ht2⟩
 go_loopw [14] (fun vi wr => ∃ k : Nat,k ≤ m ∧ vi = .int .i64 k ∧ Lay wr own imm tb mb cl (takeLf t n es (.slice A m c) k) (fun x => H x ∧ x ≠ n) (fun i => L i ∧ i ∉ (es.take k).map En.id) ∧ TurnF own w wr) (fun vi _ => m - (Go.RowKit.intOf vi).toNat)
 case atStart => exact ⟨0,Nat.zero_le _,rfl,h2,ht2⟩
 case round =>
  clear h2 ht2;obtain ⟨k,hk,rfl,hL,ht⟩ := hrel
  by_cases hlt : k < m
  case neg =>
   obtain rfl : m = k := by omega
   have HL := Lib.hid hL;have HT := Lib.hid ht;clear hL ht;go_wp2_with fail
   go_end0
   have hx : Lay _ own imm tb mb cl _ _ _ := HL.out;refine ⟨rfl,?_,HT.out⟩;refine hx.less (fun _ q => q) fun i q => ?_
   rw [List.take_of_length_le (by omega)] at q
   exact q
  have hk0 : (k : Int) < (m : Int) := by omega
  obtain ⟨x,hx⟩ : ∃ x,es[k]? = some x := ⟨es[k]'(by omega),List.getElem?_eq_getElem _⟩
  obtain ⟨⟨it,hit⟩,hi0,hi1⟩ := HI.out x (List.mem_of_getElem? hx);have hsl : (takeLf t n es (.slice A m c) k).sl n = .slice A m c := updT_same;have hes' : (takeLf t n es (.slice A m c) k).es n = es := updT_same;have hr := hL.row n 0 hn (fun q => q.2 rfl)
  rw [hsl,hes'] at hr;obtain ⟨g,c',hv,hgl,r0,r1,r2⟩ := row_at hr hx;rw [hl] at hv;injection hv with hv1 hv2 hv3
  subst hv1 hv3;simp only [decide_true,if_true] at r2;obtain ⟨t0,t1,t2,t3,tlt⟩ := hL.c0;obtain ⟨n0,n1,n2,nlt⟩ := hL.n0 hn;obtain ⟨z,hB,_⟩ := hL.it x.id it hit;have hm := hL.mp;have hg2 : getK x.id ((takeLf t n es (.slice (some ⟨g,0,none⟩) m c) k).items.map fun p => (p.1,gP p.2.blk)) = some (gP it.blk) := getK_items hit
  have hkx := hL.ekey n 0 x hn (by rw [hes'];exact List.mem_of_getElem? hx)
  have hsz := ht.size;have i3 := hB.cell 3;simp only [lta,lcz,lcs] at i3;have hBl := hB.lt;have fI := hB.frozen;have HL := Lib.hid hL;have HT := Lib.hid ht;have HX := Lib.hid hx;have HM := Lib.hid hm;have HIt := Lib.hid hit;have HG := Lib.hid hg2;have HOI := Lib.hid (hL.oI x.id it hit);clear hL ht hr hv2 hsl hes' hB hm hx hit hg2;obtain ⟨_,_,Ak,ck,ek,_⟩ := hkx;obtain ⟨xkv,xkb,xid,xkid⟩ := x
  simp only at *
  subst ek;go_wp2_with fail;refine wp_region_seq [0,1,2,3,4,5,7,6] [8,9,10] (by kernel_rfl) (by kernel_rfl) (fun _ _ d _ _ h => by cases d <;> exact h) ?_
  simp only [List.map_cons, List.map_nil, ldz, lds, bare, gslot, lcz, lcs, Option.bind_some, pureK, Option.isNone_none, Bool.and_true, Bool.true_and, Bool.false_and, Bool.and_self]
  repeat ((try simp only [Act.put,lsi,lsz,lss]);first | (refine lexM_pure (v := ?_) wantB_none rfl ?_ ?_;rotate_left;focus (intro wq;go_simp;try with_reducible rfl)) | (refine lexM_quiet (v := ?_) wantB_none rfl ?_ ?_;rotate_left;focus (intro wq hq;obtain ⟨hcq,hfq⟩ := bcell hq;go_simp;try with_reducible rfl)) | (refine lexM_loud wantB_none rfl (fun K hK => ?_);(refine wp_lookV1 _ _ _ _ rfl rfl rfl (show MapO _ _ _ (some mb) _ from MapAt.tr HM.out bel) Tryz.underlying3 Tryz.underlying88 (Tryz.zeroItG _) hi0 hi1 ?_;rw [HG.out];simp only [Option.getD_some]);refine hK.out _ _ bel ?_;clear hK K) | (refine lexM_loud wantB_none rfl (fun K hK => ?_);go_simp;((first | fail | skip) <;> (refine hK.out _ _ bel ?_;clear hK K))))
  (all_goals try simp only [Act.put, lsi, lsz, lss])
  refine lexM_seq ?_;refine seqL_step (fun K hK => ?_)
  go_simp
  refine hK.out _ _ ?_;clear hK K
  (try simp only [Act.put, lsi, lsz, lss])
  refine seqL_step (fun K hK => ?_)
  go_simp
  refine hK.out _ _ ?_;clear hK K
  (try simp only [Act.put, lsi, lsz, lss])
  refine seqL_step (fun K hK => ?_)
  go_simp
  refine hK.out _ _ ?_;clear hK K
  (try simp only [Act.put, lsi, lsz, lss])
  refine seqL_nil ?_;go_wp2
  go_roundw
  case rel =>
   refine ⟨k + 1,by omega,by go_num,?_,?_⟩
   · refine Lay.less ?_ (fun _ q => q) (fun i q => (taken_next HX.out i).1 q)
     rw [← takeLf_next HX.out]
     repeat (first | with_reducible refine Lay.drew ?_ | with_reducible refine Lay.alloc ?_ _)
     exact Lay.setLeaf HL.out HIt.out
   · repeat (first | with_reducible refine TurnF.drew ?_ | with_reducible refine TurnF.alloc ?_ _)
     exact HT.out.set_ (p := ⟨it.blk,3,none⟩) (.inl HOI.out) _
  case measure => simp [Go.RowKit.intOf];omega
theorem three_atG {w : World} {a b c : Value} {t : TypeId} : ∀ (j : Nat) (v : Value),[a,b,c][j]? = some v → (w.alloc (.cells #[a,b,c] t)).cell? ((⟨w.heap.size,0,none⟩ : Addr).add j) = some v := by
 intro j v hj
 match j,hj with
 | 0,hj => simp at hj;subst hj;simp [Addr.add]
 | 1,hj => simp at hj;subst hj;simp [Addr.add]
 | 2,hj => simp at hj;subst hj;simp [Addr.add]
end
theorem takeT_next {t : Tr} {l n : Nat} {es : List En} {v : Value} {k : Nat} {e : En} (he : es[k]? = some e) : { takeT t (l + 1) n es v k with up := updT (takeT t (l + 1) n es v k).up e.kid (some n) } = takeT t (l + 1) n es v (k + 1) := by
 have hf : updT (fun x => if x ∈ (es.take k).map En.kid then some n else t.up x) e.kid (some n) = fun x => if x ∈ (es.take (k + 1)).map En.kid then some n else t.up x := by
  funext x
  unfold updT
  simp only [List.take_add_one, he, Option.toList_some, List.map_append, List.map_cons, List.map_nil, List.mem_append, List.mem_singleton]
  by_cases h1 : x = e.kid
  · simp [h1]
  · simp [h1]
 unfold takeT
 simp only [Nat.add_eq_zero_iff,Nat.one_ne_zero,and_false,if_false]
 rw [← hf]
theorem takeT_leaf (t : Tr) (n : Nat) (es : List En) (v : Value) (k : Nat) : takeT t 0 n es v k = takeLf t n es v k := by
 unfold takeT takeLf
 simp
section
variable {w : World} {own imm : Nat → Prop} {tb mb : Nat} {cl : Value} {t : Tr} {H : Nat → Prop} {L L' : Int → Prop}
theorem takeNode_any (h : Lay w own imm tb mb cl t H L) {n l : Nat} (hn : t.lv n = some (l + 1)) (es : List En) (v : Value) (hrow : w.ownsRow 0 99 3 v es.length (ecells false es))
 (hv : ∀ g,v.ownBlock = some g → own g ∧ ∀ b' l',t.lv b' = some l' → b' ≠ n → ¬ H b' → (t.sl b').ownBlock ≠ some g) (hkey : ∀ e ∈ es,KeyIn w imm e.kv e.kb)
 (hid : ∀ e ∈ es,∃ l',t.lv e.kid = some l') (hes : es.length ≤ 1000000) :
 Calls Tryz.prog 64 #[gP tb,gP n,v] w fun e w' => e = .returned (.tuple #[]) ∧ Lay w' own imm tb mb cl (takeT t (l + 1) n es v es.length) (fun x => H x ∧ x ≠ n) L ∧ TurnF own w w' := by
 obtain ⟨n0,n1,n2,nlt⟩ := h.n0 hn;have fN := (h.nd n _ hn).frozen;obtain ⟨A,c,rfl,hnc,hAn,hAb⟩ := row_form hrow;have h1 := h.setRow hn (by simpa using hrow) hv hkey
 have HI := Lib.hid hid;have ho := h.oN n _ hn;have HOwn := Lib.hid ho;generalize hl : es.length = m at *;clear hrow hv hkey h hid hnc hAn hAb ho
 try simp only [gP] at *
 go_enter Tryz.func64,Tryz.ntmps64
 go_wp2_with fail;refine wp_genG (fun w2 => Lay w2 own imm tb mb cl (takeT t (l + 1) n es (.slice A m c) 0) (fun x => H x ∧ x ≠ n) L ∧ TurnF own w w2) ⟨?_,(TurnF.refl own w).set_ (p := ⟨n,2,none⟩) (.inl HOwn.out) _⟩ ?_
 · have e : takeT t (l + 1) n es (.slice A m c) 0 = { t with es := updT t.es n es,sl := updT t.sl n (.slice A m c) } := by simp [takeT]
   rw [e]
   exact h1
 clear h1 n0 n1 n2 nlt fN;rintro w2 ⟨h2,ht2⟩
 go_loopw [14] (fun vi wr => ∃ k : Nat,k ≤ m ∧ vi = .int .i64 k ∧ Lay wr own imm tb mb cl (takeT t (l + 1) n es (.slice A m c) k) (fun x => H x ∧ x ≠ n) L ∧ TurnF own w wr) (fun vi _ => m - (Go.RowKit.intOf vi).toNat)
 case atStart => exact ⟨0,Nat.zero_le _,rfl,h2,ht2⟩
 case round =>
  clear h2 ht2;obtain ⟨k,hk,rfl,hL,ht⟩ := hrel
  by_cases hlt : k < m
  case neg =>
   obtain rfl : m = k := by omega
   have HL := Lib.hid hL;have HT := Lib.hid ht;clear hL ht;go_wp2_with fail
   go_end0
   exact ⟨rfl,HL.out,HT.out⟩
  have hk0 : (k : Int) < (m : Int) := by omega
  obtain ⟨x,hx⟩ : ∃ x,es[k]? = some x := ⟨es[k]'(by omega),List.getElem?_eq_getElem _⟩
  obtain ⟨lk,hlk⟩ := HI.out x (List.mem_of_getElem? hx);have hlvn : (takeT t (l + 1) n es (.slice A m c) k).lv n = some (l + 1) := hn;have hsl : (takeT t (l + 1) n es (.slice A m c) k).sl n = .slice A m c := updT_same;have hes' : (takeT t (l + 1) n es (.slice A m c) k).es n = es := updT_same;have hr := hL.row n _ hlvn (fun q => q.2 rfl)
  rw [hsl,hes',show decide (l + 1 = 0) = false by simp] at hr
  obtain ⟨g,c',hv,hgl,r0,r1,r2⟩ := row_at hr hx;rw [hl] at hv;injection hv with hv1 hv2 hv3
  subst hv1 hv3;simp only [Bool.false_eq_true,if_false,gP] at r2;obtain ⟨n0,n1,n2,nlt⟩ := hL.n0 hlvn;rw [show decide (l + 1 = 0) = false by simp] at n1
  have hkn : (takeT t (l + 1) n es (.slice (some ⟨g,0,none⟩) m c) k).lv x.kid = some lk := hlk;have hB := hL.nd x.kid lk hkn;have k0 := hB.cell 0;have fK := hB.frozen;have hBl := hB.lt;simp only [lta,lcz,lcs] at k0;have hkx := hL.ekey n _ x hlvn (by rw [hes'];exact List.mem_of_getElem? hx)
  have HL := Lib.hid hL;have HT := Lib.hid ht;have HX := Lib.hid hx;have HKN := Lib.hid hkn;have HOK := Lib.hid (hL.oN x.kid lk hkn);clear hL ht hr hv2 hsl hes' hB hx hlk hkn hlvn;obtain ⟨_,_,Ak,ck,ek,_⟩ := hkx;obtain ⟨xkv,xkb,xid,xkid⟩ := x
  simp only at *
  subst ek;generalize gO _ = ku at k0;go_wp2_with fail
  go_roundw
  case rel =>
   refine ⟨k + 1,by omega,by go_num,?_,?_⟩
   · rw [← takeT_next HX.out]
     repeat (first | with_reducible exact HL.out | with_reducible refine Lay.drew ?_ | with_reducible refine Lay.alloc ?_ _ | with_reducible refine Lay.setUp ?_ HKN.out)
   · repeat (first | with_reducible exact HT.out | with_reducible refine TurnF.drew ?_ | with_reducible refine TurnF.alloc ?_ _ | with_reducible refine TurnF.set_ ?_ (p := ⟨xkid, 0, none⟩) (.inl HOK.out) _)
  case measure => simp [Go.RowKit.intOf];omega
theorem take_any (h : Lay w own imm tb mb cl t H L) {n l : Nat} (hn : t.lv n = some l) (es : List En) (v : Value) (hrow : w.ownsRow 0 99 3 v es.length (ecells (decide (l = 0)) es))
 (hv : ∀ g,v.ownBlock = some g → own g ∧ ∀ b' l',t.lv b' = some l' → b' ≠ n → ¬ H b' → (t.sl b').ownBlock ≠ some g) (hkey : ∀ e ∈ es,KeyIn w imm e.kv e.kb)
 (hid : ∀ e ∈ es,(l = 0 → (∃ x,getK e.id t.items = some x) ∧ -9223372036854775808 ≤ e.id ∧ e.id ≤ 9223372036854775807) ∧ (0 < l → ∃ l',t.lv e.kid = some l')) (hes : es.length ≤ 1000000) :
 Calls Tryz.prog 64 #[gP tb,gP n,v] w fun e w' => e = .returned (.tuple #[]) ∧ Lay w' own imm tb mb cl (takeT t l n es v es.length) (fun x => H x ∧ x ≠ n) (fun i => L i ∧ (l = 0 → i ∉ es.map En.id)) ∧ TurnF own w w' := by
 cases l with
 | zero =>
   refine (takeLeaf_any h hn es v (by simpa using hrow) hv hkey (fun e he => (hid e he).1 rfl) hes).mono ?_
   rintro e w' ⟨he,hL,ht⟩
   rw [takeT_leaf]
   exact ⟨he,hL.less (fun _ q => q) (fun i q => ⟨q.1,fun _ => q.2⟩),ht⟩
 | succ l =>
   refine (takeNode_any h hn es v (by simpa using hrow) hv hkey (fun e he => (hid e he).2 (by omega)) hes).mono ?_
   rintro e w' ⟨he,hL,ht⟩;exact ⟨he,hL.less (fun _ q => q) (fun i q => ⟨q,fun q => by omega⟩),ht⟩
theorem placeG_any (h : Lay w own imm tb mb cl t H L) {n l u lu : Nat} (hn : t.lv n = some l) (hu : t.up n = some u) (hul : t.lv u = some (lu + 1)) (hex : ∃ e ∈ t.es u,e.kid = n) (hkk : ∀ e ∈ t.es u,∃ l',t.lv e.kid = some l') (hH : ¬ H u) (hm : (t.es u).length ≤ 1000000) :
 Calls Tryz.prog 37 #[gP n] w fun e w' => ∃ i x,(t.es u)[i]? = some x ∧ x.kid = n ∧ e = .returned (.int .i64 (i : Nat)) ∧ Below w.heap.size w w' := by
 obtain ⟨n0,n1,n2,nlt⟩ := h.n0 hn;obtain ⟨u0,u1,u2,ult⟩ := h.n0 hul;have hrow := h.row u _ hul hH;rw [show decide (lu + 1 = 0) = false by simp] at hrow
 obtain ⟨i,x,hi,hx,hxk⟩ := idxK_some 0 hex;rw [Nat.zero_add] at hi;rw [hu] at n0;simp only [gO] at n0
 have HI := Lib.hid (fun g W (hW : Below w.heap.size w W) (hg : W.cell? ⟨g,0,none⟩ = some (gP n)) (hlt : g < W.heap.size) => placeIdx_any (t.es u) g n (t.sl u) W (own_kept hrow (grown_below hW) (by simp)) hg hlt hm ⟨_,(h.nd n l hn).tr hW⟩ (fun e he => by
  obtain ⟨l',hl'⟩ := hkk e he
  exact ⟨_,(h.nd e.kid l' hl').tr hW⟩))
 rw [hi] at HI;clear h hex hkk hrow;generalize t.sl u = s at *
 try simp only [gP] at *
 go_enter Tryz.func37,Tryz.ntmps37
 go_wp2_with (go_at_call 59;(with_reducible refine (HI.out _ _ bel ?_ ?_).mono ?_);(focus (first | (simp;done) | simp_all));(focus (first | (simp;done) | (simp;omega)));rintro e w1 ⟨rfl,hb1⟩;obtain ⟨hc1,hf1⟩ := bcell hb1)
 go_ret;exact ⟨i,x,hx,hxk,rfl,bel⟩
end
end Go.Proofs.YtcbjmcnebmhgpaaGreat
