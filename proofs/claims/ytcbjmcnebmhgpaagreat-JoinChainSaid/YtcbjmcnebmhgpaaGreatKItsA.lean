/-
  slices.Sorted(maps.Keys(m)) of a map of numbers: a new row of its keys, rising.
  gist: Items: all there is, by rising ids, in memory of its own.
-/
import Derived.Test.YtcbjmcnebmhgpaaGreatKSrtK
import Derived.Test.YtcbjmcnebmhgpaaGreatKGisB
import Derived.Shelf.AbstractIn
import Derived.RangeFuncBox
import Derived.RangeFuncLeaves
import Derived.Test.YtcbjmcnebmhgpaaGreatKGisJ
import Derived.Test.YtcbjmcnebmhgpaaGreatKGisY
import Derived.Test.YtcbjmcnebmhgpaaGreatKMadJ
set_option linter.unusedVariables false
set_option linter.unusedSimpArgs false
set_option maxHeartbeats 4000000
set_option maxRecDepth 20000
namespace Go.Proofs.YtcbjmcnebmhgpaaGreat
open Go Go.RowKit Go.Maps Go.Sort Go.Shelf Go.Proofs Pg
theorem sortsK (m : Nat) : AnyZI.SortsIn Tryz.prog Tryz.sortedV_ren Fence.wide m :=
 ⟨fun blk off cap ss W hH hblk hsz => callsIn_wide.2 (AnyM.slices_Sort_int Tryz.sortV blk off cap ss W hH hblk hsz),
  fun p cap W => callsIn_wide.2 (AnyM.slices_Sort_int_none Tryz.sortV p cap W)⟩
theorem intKeys_toD (V : List (Int × Value)) : intKeys (toD V) = V.map (·.1) := by
 show (V.map fun p => (Lit.int .i64 p.1,(DataW.held p.2 : DataW Value))).map (fun p => Go.intOf p.1) = _
 rw [List.map_map]
 rfl
theorem sorted_keys {ss : List Int} {V : List (Int × Value)} (hp : ss.Perm (V.map (·.1))) (hr : Rising V) : ss.mergeSort (fun x y => decide (x ≤ y)) = V.map (·.1) := by
 have h1 : (ss.mergeSort (fun x y => decide (x ≤ y))).Pairwise (fun x y => decide (x ≤ y) = true) := List.pairwise_mergeSort (fun a b c h1 h2 => by simp only [decide_eq_true_eq] at *;omega) (fun a b => by simp only [Bool.or_eq_true,decide_eq_true_eq];omega) ss
 have h2 : (V.map (·.1)).Pairwise (fun x y => decide (x ≤ y) = true) := by
  rw [List.pairwise_map]
  exact List.Pairwise.imp (fun h => by simp only [decide_eq_true_eq];omega) hr
 exact List.Perm.eq_of_pairwise (fun a b _ _ h1 h2 => by simp only [decide_eq_true_eq] at *;omega) h1 h2 ((List.mergeSort_perm ss _).trans hp)
theorem keysM_any (mb : Option Nat) (w : World) : Calls Tryz.prog 47 #[.map mb] w fun e w' => ∃ Bm,e = .returned (.func (.func 70) #[] #[.pointer (some ⟨Bm,0,none⟩)]) ∧ Bm < w'.heap.size ∧ w'.cell? ⟨Bm,0,none⟩ = some (.map mb) ∧ Below w.heap.size w w' := by
 refine ((callsIn_wide (n := 5)).1 (AnyZI.keys_in Tryz.keysM Fence.wide 5 trivial rfl mb w)).mono ?_;rintro e w' ⟨rfl,rfl⟩;have h : Blk (w.alloc (.cells #[.map mb] (Tryz.keysM_ren.t 23))) w.heap.size (Tryz.keysM_ren.t 23) #[.map mb] := Blk.new (by simp) rfl
 exact ⟨w.heap.size,rfl,h.lt,(h.cell 0).trans rfl,bel⟩
theorem sortedK_any (Bm mb : Nat) (V : List (Int × Value)) (w : World) (hm : MapAt w Tryz.prog 3 mb V) (hV : V.length ≤ 1000000) (hr : Rising V) (hBm : Bm < w.heap.size) (h1 : w.cell? ⟨Bm,0,none⟩ = some (.map (some mb))) :
 Calls Tryz.prog 46 #[.func (.func 70) #[] #[.pointer (some ⟨Bm,0,none⟩)]] w fun e w' => ∃ v',e = .returned v' ∧ w'.ownsRow w.heap.size 3 1 v' V.length ((V.map (·.1)).map fun i => .int .i64 i) ∧ Below w.heap.size w w' := by
 refine ((callsIn_wide (n := 5)).1 (AnyZI.sorted_in Tryz.sortedV Fence.wide 5 trivial trivial trivial trivial rfl (by omega) (sortsK _) (enters_of Tryz.func69 (by kernel_rfl) rfl) 70 #[.pointer (some ⟨Bm,0,none⟩)] trivial (enters_of Tryz.func70 (by kernel_rfl) rfl) (fun ss => ss.Perm (intKeys (toD V))) (Maps.size (toD V)) (by rw [toD_size];unfold maxLen;omega) (by rw [toD_size];omega) w
  (AnyZI.keys_gives (P := Tryz.prog) (ρ := Tryz.keysM_ren) { Tryz.keysM with } Fence.wide 2 trivial rfl (by omega) Bm mb V.length (toD V) w hBm h1 hm))).mono ?_
 rintro e w' ⟨v,ss,rfl,hp,hrow,_,hb⟩;rw [intKeys_toD] at hp;have hl : ss.length = V.length := by rw [hp.length_eq,List.length_map]
 rw [sorted_keys hp hr,hl] at hrow;exact ⟨v,rfl,hrow,hb⟩
end Go.Proofs.YtcbjmcnebmhgpaaGreat
namespace Go.Proofs.YtcbjmcnebmhgpaaGreat
open Go Go.RowKit Pg
structure MisZ (w : World) (Z : Nat → Prop) (v : Value) (L : List (Int × Mi)) : Prop where
 row : w.ownsRow 0 52 3 v L.length (mcells L)
 rz : ∀ g,v.ownBlock = some g → Z g
 pts : ∀ p ∈ L,PtsZ w Z p.2.ov p.2.ob.pts
theorem MisZ.turn {w w' : World} {Z F : Nat → Prop} {v : Value} {L : List (Int × Mi)} (h : MisZ w Z v L) (ht : TurnF F w w') (hF : ∀ b,Z b → ¬ F b) : MisZ w' Z v L :=
 ⟨own_turnU h.row ht fun g hg => hF g (h.rz g hg),h.rz,fun p hp => (h.pts p hp).turn ht hF⟩
theorem MisZ.tr {w w' : World} {Z : Nat → Prop} {v : Value} {L : List (Int × Mi)} (h : MisZ w Z v L) (hb : Below w.heap.size w w') : MisZ w' Z v L :=
 h.turn ((TurnF.refl (fun _ => False) w).below hb) fun _ _ q => q
theorem ptsZ_own {w : World} {base B : Nat} {v : Value} {l : List Pt} (h : w.ownsRow base 47 2 v l.length (ptcells l)) (hl : l.length ≤ 1000000) (hB : B ≤ base) : PtsZ w (fun b => B ≤ b ∧ b < w.heap.size) v l := by
 obtain ⟨h2,A,c,e,_,_,h5⟩ := ptsIn_of_own (Z := fun b => B ≤ b ∧ b < w.heap.size) h hl fun g hg => ⟨Nat.le_trans hB (h.lt g hg).1,(h.lt g hg).2⟩
 exact ⟨h2,A,c,e,h5⟩
theorem idcs_map {m : List (Int × It)} : ((m.map fun p => (p.1,gP p.2.blk)).map (·.1)).map (fun i => Value.int .i64 i) = idcs (m.map (·.1)) := by
 simp only [idcs,List.map_map]
 rfl
section
variable {w : World} {own imm : Nat → Prop} {tb mb : Nat} {t : Tr}
theorem Items_any {C : Cl} {ct : TypeId} {cv : Value} (h : GAt C (.iface ct cv) w own imm tb mb t) (hcount : t.items.length ≤ 100000) :
 Calls Tryz.prog 23 #[gP tb] w fun e w' => ∃ v L,e = .returned v ∧ obsM L = obsT t.items ∧ MisZ w' (fun b => w.heap.size ≤ b ∧ b < w'.heap.size) v L ∧ Below w.heap.size w w' := by
 obtain ⟨t0,t1,t2,t3,tl⟩ := h.lay.c0;have HG := Lib.hid (fun W (hW : Below w.heap.size w W) => gone_any (h.lay.tr hW))
 have HM := Lib.hid h.lay.mp;have HH := Lib.hid h;obtain ⟨n,hn⟩ : ∃ n,t.items.length = n := ⟨_,rfl⟩;have HN := Lib.hid hn;have hn1 : n ≤ 100000 := by omega
 have HKm := Lib.hid keysM_any
 have HSo := Lib.hid (fun W Bm (hW : Below w.heap.size w W) (hB : Bm < W.heap.size) (hc : W.cell? ⟨Bm,0,none⟩ = some (.map (some mb))) => by
  have h1 := sortedK_any Bm mb _ W (MapAt.tr h.lay.mp hW) (by rw [List.length_map];omega) (by
   unfold Rising
   rw [List.pairwise_map]
   exact h.shape.rise) hB hc
  rw [List.length_map,hn,idcs_map] at h1
  exact h1)
 obtain ⟨i0,hi,iz0,iz1,iz2⟩ := info_parts Tryz.infoMiM;clear h hn
 simp only [gP] at *
 go_enter Tryz.func23,Tryz.ntmps23
 go_wp2_with (first
  | (go_at_call 31;(with_reducible refine (HG.out _ bel).mono ?_);rintro e wg ⟨rfl,hbg⟩;obtain ⟨hcg,hfg⟩ := bcell hbg;have hzg := hbg.size;(try simp at hzg))
  | (go_at_call 47;(refine (HKm.out _ _).mono ?_);rintro e wk ⟨Bm,rfl,hBm,hcm,hbk⟩;obtain ⟨hck,hfk⟩ := bcell hbk;have hzk := hbk.size;(try simp at hzk))
  | (go_at_call 46;(refine (HSo.out _ _ bel hBm hcm).mono ?_);rintro e ws ⟨vs,rfl,hos,hbs⟩;obtain ⟨As,cs,rfl,_,_,_⟩ := row_form hos;have HOs := Lib.hid hos;clear hos;obtain ⟨hcs,hfs⟩ := bcell hbs;have hzs := hbs.size;(try simp at hzs)))
 have HBs := Lib.hid (show Below w.heap.size w ws from bel)
 have hzw := HBs.out.size;clear hcg hfg hbg hzg hck hfk hbk hzk hcs hfs hbs hzs t0 t1 t2 t3 HKm HSo HG
 go_loopw [2,14] (fun v2 vi wr => ∃ (i c2 : Nat) (A2 : Option Addr) (Li : List (Int × Mi)),v2 = .slice A2 i c2 ∧ vi = .int .i64 i ∧ i ≤ n ∧ obsM Li = (obsT t.items).take i ∧ Li.length = i ∧ wr.ownsRow w.heap.size 52 3 (.slice A2 i c2) i (mcells Li) ∧ (∀ p ∈ Li,p.2.ob.pts.length ≤ 1000000 ∧ wr.ownsRow w.heap.size 47 2 p.2.ov p.2.ob.pts.length (ptcells p.2.ob.pts)) ∧ wr.ownsRow 0 3 1 (.slice As n cs) n (idcs (t.items.map (·.1))) ∧ Below w.heap.size w wr) (fun _ vi _ => n - (Go.RowKit.intOf vi).toNat)
 case atStart => exact ⟨0,0,none,[],rfl,rfl,Nat.zero_le _,by simp [obsM],rfl,World.ownsRow_nil _ _ _ _,by simp,own_lower HOs.out (Nat.zero_le _),HBs.out⟩
 case round =>
  clear HOs HBs;obtain ⟨i,c2,A2,Li,rfl,rfl,hin,hLi,hLl,hro,hps,hks,hb⟩ := hrel
  by_cases hlt : i < n
  case neg =>
   obtain rfl : n = i := by omega
   rw [List.take_of_length_le (by unfold obsT;rw [List.length_map,HN.out];exact Nat.le_refl _)] at hLi
   have HE := Lib.hid (show ∃ v L,Value.slice A2 n c2 = v ∧ obsM L = obsT t.items ∧ MisZ wr (fun b => w.heap.size ≤ b ∧ b < wr.heap.size) v L ∧ Below w.heap.size w wr from ⟨_,Li,rfl,hLi,⟨own_lower (by rw [hLl];exact hro) (Nat.zero_le _),fun g hg => hro.lt g hg,fun p hp => ptsZ_own (hps p hp).2 (hps p hp).1 (Nat.le_refl _)⟩,hb⟩)
   clear hLi hLl hro hps hks hb;go_wp2_with fail;go_ret;obtain ⟨v,L,rfl,h1,h2,h3⟩ := HE.out;exact ⟨_,L,rfl,h1,h2,h3⟩
  case pos =>
   have hltI : (i : Int) < (n : Int) := by omega
   have hzb := hb.size;obtain ⟨⟨id,x⟩,hx⟩ : ∃ p,t.items[i]? = some p := ⟨t.items[i]'(by rw [HN.out];exact hlt),List.getElem?_eq_getElem _⟩
   have hget := getK_mem HH.out.shape.rise (List.mem_of_getElem? hx);obtain ⟨hid,hck,_⟩ := HH.out.its id x hget;have HNk := Lib.hid (getK_items hget);have hL := HH.out.lay.tr hb;obtain ⟨z,hBi,_⟩ := hL.it id x hget;have ilt := hBi.lt;obtain ⟨Ap,cp,ep,_,_,hpts⟩ := (hL.ikey id x hget).2.pts;have hpl : 0 < x.ob.pts.length := ck_pos (k := x.ob.kind) (l := x.ob.pts) hck;have hpm : x.ob.pts.length ≤ 1000000 := by have := (hL.ikey id x hget).2.1;exact this
   have HOw := Lib.hid (fun W (hW : Below wr.heap.size wr W) => own_any wr.heap.size x.ob.pts.length cp x.ob.kind Ap x.ob.pts W (hpts.below hW) hW.size hpl hpm)
   have i0' := hBi.cell 0;have i1' := hBi.cell 1
   simp only [lta, lcz, lcs] at i0' i1'
   rw [ep] at i1'
   obtain ⟨t0,t1,t2,t3,tl'⟩ := hL.c0
   rcases hks.2 with ⟨_, h0⟩ | ⟨g, cap, cur, e, _, hg, _⟩
   · omega
   injection e with e1 e2 e3
   subst e1 e3;have gi := hks.cellAt i (by omega)
   rw [show (idcs (t.items.map (·.1)))[i]? = some (.int .i64 id) by unfold idcs;rw [List.getElem?_map,List.getElem?_map,hx];rfl] at gi
   have gl : g < wr.heap.size := (Array.getElem?_eq_some_iff.1 hg).1;have HMr := Lib.hid (MapAt.tr HM.out hb);have hid0 : -9223372036854775808 ≤ id := by omega
   have hid1 : id ≤ 9223372036854775807 := by omega
   have HS := Lib.hid (And.intro hro (And.intro hps (And.intro hks (And.intro hb (And.intro hLi (And.intro hLl hx))))));have HPM := Lib.hid (And.intro hpl hpm);clear hx hget hid hck hL hBi ep hpts hpl hro hps hks hb hLi hLl hg
   simp only [gP] at *
   go_wp2_with (first
    | (at_lookup;go_must (refine wpList_lookV1 _ rfl _ _ _ rfl rfl rfl (show MapO _ _ _ (some mb) _ from MapAt.tr HMr.out bel) Tryz.underlying3 Tryz.underlying88 (Tryz.zeroItG _) hid0 hid1 ?_;rw [HNk.out];simp only [Option.getD_some,gP]))
    | (go_at_call 48;(refine (HOw.out _ bel).mono ?_);rintro e w4 ⟨g4,c4,rfl,ho4,hb4⟩;have H4 := Lib.hid (And.intro ho4 (show Below wr.heap.size wr w4 from bel));clear ho4;obtain ⟨hc4,hf4⟩ := bcell hb4;have hz4 := hb4.size;(try simp at hz4))
    | (at_builtin;go_must (refine wpList_append_own _ rfl _ _ 22 rfl w.heap.size 52 i0 (.agg #[.int .i64 0,.int .i64 0,.slice none 0 0]) 3 40 Tryz.underlying22 hi iz0 iz1 iz2 rfl (by decide) _ _ _ rfl (own_kept HS.out.1 (grown_below bel) (by simp)) _ _ _ _ rfl rfl three_atM ?c2 ?c3 ?c4 ?c5 ?_)))
   case c2 => simp [Value.oneCell']
   case c3 => unfold maxLen;omega
   case c4 => omega
   case c5 => first | omega | (simp;omega)
   intro v7 w7 hown hgrow _;obtain ⟨A7,c7,rfl,_,_,_⟩ := row_form hown;obtain ⟨hro,hps,hks,hb,hLi,hLl,hx⟩ := HS.out;have hbA := H4.out.2.alloc H4.out.2.size (.cells #[.int .i64 id,.int .i64 x.ob.kind,.slice (some ⟨g4,0,none⟩) x.ob.pts.length c4] 52)
   have hne : ∀ {base size m : Nat} {e : TypeId} {v : Value} {xs : List Value},wr.ownsRow base e size v m xs → e ≠ 52 → ∀ g,(Value.slice A2 i c2).ownBlock = some g → v.ownBlock ≠ some g := fun hv he g q => by
    obtain ⟨cur,hB⟩ := own_blk hro q;exact own_ne hv hB he
   have h4 : w7.ownsRow w.heap.size 47 2 (.slice (some ⟨g4,0,none⟩) x.ob.pts.length c4) x.ob.pts.length (ptcells x.ob.pts) := by
    refine own_lower (own_kept (own_kept H4.out.1 (World.grownBy_alloc w4 _ none) (by simp)) hgrow fun g q => ?_) (by omega)
    obtain ⟨cur,hB⟩ := own_blk hro q;exact own_ne (own_kept H4.out.1 (World.grownBy_alloc w4 _ none) (by simp)) (hB.tr hbA) (by decide)
   have H7 := Lib.hid (show obsM (Li ++ [(id,⟨x.ob,.slice (some ⟨g4,0,none⟩) x.ob.pts.length c4⟩)]) = (obsT t.items).take (i + 1) ∧ w7.ownsRow w.heap.size 52 3 (.slice A7 (i + 1) c7) (i + 1) (mcells (Li ++ [(id,⟨x.ob,.slice (some ⟨g4,0,none⟩) x.ob.pts.length c4⟩)])) ∧ (∀ p ∈ Li ++ [(id,(⟨x.ob,.slice (some ⟨g4,0,none⟩) x.ob.pts.length c4⟩ : Mi))],p.2.ob.pts.length ≤ 1000000 ∧ w7.ownsRow w.heap.size 47 2 p.2.ov p.2.ob.pts.length (ptcells p.2.ob.pts)) ∧ w7.ownsRow 0 3 1 (.slice (some ⟨g,0,none⟩) n cs) n (idcs (t.items.map (·.1))) ∧ Below w.heap.size w w7 from by
    refine ⟨?_,?_,?_,own_kept (own_kept hks (grown_below hbA) (by simp)) hgrow (hne hks (by decide)),(hb.trans (hbA.mono hzb)).grown hgrow (by simp;omega) fun k q => (hro.lt k q).1⟩
    · have h1 : (obsT t.items)[i]? = some (id,x.ob) := by unfold obsT;rw [List.getElem?_map,hx];rfl
      rw [List.take_add_one, h1, ← hLi]
      simp [obsM]
    · rw [mcells_append]
      exact hown
    · intro p hp
      rcases List.mem_append.1 hp with q | q
      · exact ⟨(hps p q).1, own_kept (own_kept (hps p q).2 (grown_below hbA) (by simp)) hgrow (hne (hps p q).2 (by decide))⟩
      · rw [List.mem_singleton.1 q]
        exact ⟨HPM.out.2,h4⟩)
   have HLl := Lib.hid hLl;clear hown hgrow hro hps hks hb hLi hLl hx hbA hne h4;go_wp2_with fail
   go_roundw
   case rel => exact ⟨i + 1,c7,A7,_,rfl,by go_num,by omega,H7.out.1,by rw [List.length_append,HLl.out];rfl,H7.out.2.1,H7.out.2.2.1,H7.out.2.2.2.1,H7.out.2.2.2.2⟩
   case measure => simp [Go.RowKit.intOf];omega
theorem ItemsN_any {C : Cl} {ct : TypeId} {cv : Value} {n : Nat} (h : GAt C (.iface ct cv) w own imm tb mb t) (hcount : t.items.length ≤ 100000) (hn : t.items.length = n) (W : World) (hW : Below w.heap.size w W) :
 Calls Tryz.prog 23 #[gP tb] W fun e w' => ∃ A c L,e = .returned (.slice A n c) ∧ obsM L = obsT t.items ∧ L.length = n ∧ MisZ w' (fun b => w.heap.size ≤ b ∧ b < w'.heap.size) (.slice A n c) L ∧ Below W.heap.size W w' := by
 refine (Items_any (h.tr hW) hcount).mono ?_;rintro e w' ⟨v,L,rfl,ho,hm,hb⟩
 have hl : L.length = n := by
  have := congrArg List.length ho;unfold obsM obsT at this;rw [List.length_map,List.length_map] at this
  omega
 obtain ⟨A,c,rfl,_,_,_⟩ := row_form hm.row;rw [hl] at hm;exact ⟨A,c,L,by rw [hl],ho,hl,⟨hm.row,fun g q => ⟨Nat.le_trans hW.size (hm.rz g q).1,(hm.rz g q).2⟩,fun p hp => (hm.pts p hp).more fun b _ q => ⟨Nat.le_trans hW.size q.1,q.2⟩⟩,hb⟩
end
end Go.Proofs.YtcbjmcnebmhgpaaGreat
