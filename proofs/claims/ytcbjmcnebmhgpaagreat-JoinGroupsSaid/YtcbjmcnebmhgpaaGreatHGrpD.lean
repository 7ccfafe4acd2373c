/-
  The reference's groups: marks that grow.
-/
import Derived.Test.YtcbjmcnebmhgpaaGreatHGrpC
import Derived.Test.YtcbjmcnebmhgpaaGreatHRefRB
import Derived.Test.YtcbjmcnebmhgpaaGreatHMadJ
set_option linter.unusedVariables false
set_option linter.unusedSimpArgs false
set_option maxHeartbeats 8000000
set_option maxRecDepth 20000
namespace Pg
open Go
def isF : Value → Nat
 | .bool false => 1
 | _ => 0
def isT : Value → Nat
 | .bool true => 1
 | _ => 0
def fls (w : World) (b : Nat) : Nat := match w.heap[b]? with
 | some (.cells cs _) => (cs.toList.map isF).sum
 | _ => 0
theorem ocl_sum (f : Nat → Bool) : ∀ n,((ocl f n).map isF).sum = cntF f n
 | 0 => rfl
 | n + 1 => by
   have e : ocl f (n + 1) = ocl f n ++ [.bool (f n)] := by unfold ocl;rw [List.range_succ,List.map_append];rfl
   rw [e, List.map_append, List.sum_append, ocl_sum f n]
   show cntF f n + _ = cntF f n + _
   cases f n <;> rfl
theorem fls_ocl {w : World} {b n : Nat} {t : TypeId} {f : Nat → Bool} (h : Blk w b t (ocl f n).toArray) : fls w b = cntF f n := by
 unfold fls;unfold Blk at h
 rw [h]
 exact ocl_sum f n
theorem ocl_at {f : Nat → Bool} {n j : Nat} (h : j < n) : (ocl f n)[j]? = some (.bool (f j)) := by simp [ocl,h]
section
variable {L : List (Int × Ob)} {f : Nat → Bool}
def ClA (L : List (Int × Ob)) (f : Nat → Bool) (a : Nat) : Prop := ∀ x,L[a]? = some x → f a = true → ∀ b y,L[b]? = some y → touchS x.2 y.2 = true → f b = true
end
end Pg
namespace Go.Proofs.YtcbjmcnebmhgpaaGreat
open Go Go.RowKit Pg
theorem RowsJ.turn {F : Nat → Prop} {w w' : World} {base : Nat} {v : Value} {gs : List (List Int)} (h : RowsJ w base v gs) (ht : TurnF F w w') (hF : ∀ b,base ≤ b → ¬ F b) : RowsJ w' base v gs := by
 obtain ⟨vs,h1,h2⟩ := h;refine ⟨vs,own_turnU h1 ht fun g hg => hF g (h1.lt g hg).1,fun k g hk => ?_⟩
 obtain ⟨u,hu,ho⟩ := h2 k g hk;exact ⟨u,hu,own_turnU ho ht fun g hg => hF g (ho.lt g hg).1⟩
theorem RowsJ.snoc {w w' : World} {base : Nat} {v v' : Value} {gs : List (List Int)} {vs : List Value} {u : Value} {g : List Int} (h1 : w.ownsRow base 40 1 v gs.length vs) (h2 : ∀ (k : Nat) (g : List Int),gs[k]? = some g → ∃ u,vs[k]? = some u ∧ w.ownsRow base 3 1 u g.length (idcs g))
 (hu : w.ownsRow base 3 1 u g.length (idcs g)) (ho : w'.ownsRow base 40 1 v' (gs.length + 1) (vs ++ [u])) (hg : w.grownBy w' v.ownBlock) : RowsJ w' base v' (gs ++ [g]) := by
 have hl : vs.length = gs.length := by have := h1.1;omega
 have key : ∀ {u : Value} {g : List Int},w.ownsRow base 3 1 u g.length (idcs g) → w'.ownsRow base 3 1 u g.length (idcs g) := fun h => own_kept h hg fun b e => by
  obtain ⟨cur,hB⟩ := own_blk h1 e;exact own_ne h hB (by decide)
 refine ⟨vs ++ [u],by rw [List.length_append];exact ho,fun k x hk => ?_⟩
 rcases Nat.lt_or_ge k gs.length with q | q
 · rw [List.getElem?_append_left q] at hk
   obtain ⟨u',hu',ho'⟩ := h2 k x hk;exact ⟨u',by rw [List.getElem?_append_left (by omega)];exact hu',key ho'⟩
 · rw [List.getElem?_append_right q] at hk
   have hk0 : k = gs.length := by
    rcases Nat.eq_or_lt_of_le q with e | e
    · exact e.symm
    · rw [List.getElem?_eq_none (by simp;omega)] at hk;cases hk
   subst hk0;rw [Nat.sub_self] at hk;injection hk with hk
   subst hk;exact ⟨u,by rw [← hl,List.getElem?_append_right (Nat.le_refl _),Nat.sub_self];rfl,key hu⟩
theorem rGroups_any {w : World} {Ya Za : Nat → Prop} {ma : Nat} {La : List (Int × Mi)} (ha : MrAt w Ya Za ma La) (hna : La.length ≤ 100) :
 Calls Tryz.prog 13 #[gP ma] w fun e w' => ∃ v,e = .returned v ∧ RowsJ w' w.heap.size v (grpS (tchC (obsM La)) (idsO (obsM La))) ∧ Below w.heap.size w w' := by
 obtain ⟨sa,hBa,hra,_⟩ := ha.rw;obtain ⟨n,hn⟩ : ∃ n,La.length = n := ⟨_,rfl⟩;obtain ⟨Aa,ca,rfl,_,_,_⟩ := row_form hra;have hris : Rising (obsM La) := by unfold obsM Rising;rw [List.pairwise_map];exact ha.rise
 rw [hn] at hna hBa;obtain ⟨l,hla⟩ : ∃ l,obsM La = l := ⟨_,rfl⟩;have hll : l.length = n := by rw [← hla];unfold obsM;rw [List.length_map];exact hn
 have HLn := Lib.hid (And.intro hn (And.intro hla hll));have HA := Lib.hid (And.intro ha (And.intro hBa hra))
 rw [hla] at hris ⊢
 have HR := Lib.hid hris;obtain ⟨ids,hids⟩ : ∃ i,idsO l = i := ⟨_,rfl⟩;have hil : ids.length = n := by rw [← hids];unfold idsO;rw [List.length_map];exact hll
 have HIds := Lib.hid (And.intro hids hil)
 rw [hids]
 obtain ⟨i0,hi,iz0,iz1,iz2⟩ := info_parts Tryz.infoNJ;obtain ⟨j0,hj,jz0,jz1,jz2⟩ := info_parts Tryz.infoSJ;have HM := make_b n (by omega)
 have a0 := hBa.cell 0;have al' := hBa.lt;simp only [lta,lcz] at a0;clear ha hBa hra hn hla hll hris hids hil
 simp only [gP]
 go_enter Tryz.func13,Tryz.ntmps13
 go_wp2_with fail;have HD0 := Lib.hid (show Blk (w.alloc (.cells (ocl (fun _ => false) n).toArray 4)) w.heap.size 4 (ocl (fun _ => false) n).toArray ∧ Below w.heap.size w (w.alloc (.cells (ocl (fun _ => false) n).toArray 4)) from ⟨Blk.new (by simp) rfl,bel⟩)
 obtain ⟨bd,hbd⟩ : ∃ g,w.heap.size = g := ⟨_,rfl⟩;have HBd := Lib.hid hbd
 rw [hbd] at HD0 ⊢
 clear hbd a0 al'
 go_loopw [4,5] (fun v4 vi wr => ∃ (i : Nat) (ds : Nat → Bool),i ≤ n ∧ vi = .int .i64 i ∧ RowsJ wr (bd + 1) v4 (grpT (tchC l) ids i) ∧ Blk wr bd 4 (ocl ds n).toArray ∧ DoneS l i ds ∧ Below bd w wr) (fun _ vi _ => n - (Go.RowKit.intOf vi).toNat)
 case atStart => exact ⟨0,fun _ => false,Nat.zero_le _,rfl,⟨[],World.ownsRow_nil _ _ _ _,fun k g h => by simp [grpT_zero] at h⟩,HD0.out.1,DoneS.start,HD0.out.2⟩
 case round =>
  clear HD0;obtain ⟨i,ds,hin,rfl,hro,hD,hds,hbw⟩ := hrel;obtain ⟨wS,hwS⟩ : ∃ W : World,W = wr := ⟨_,rfl⟩;subst hwS;obtain ⟨A4,c4,hv4⟩ := hro.form;subst hv4;have hbw' : Below w.heap.size w wS := by rw [HBd.out];exact hbw
  have hMr := HA.out.2.1.tr hbw';have a0 := hMr.cell 0;have al1 := hMr.lt;simp only [lta,lcz] at a0;have HBw := Lib.hid hbw';have HRo := Lib.hid hro;have HDs := Lib.hid hds;have HDb := Lib.hid hD;have dl := hD.lt
  by_cases hlt : i < n
  case neg =>
   obtain rfl : n = i := by omega
   have HE := Lib.hid (show RowsJ wS bd (.slice A4 (grpT (tchC l) ids n).length c4) (grpS (tchC l) ids) from by
    rw [← grpT_all, HIds.out.2]
    obtain ⟨vs,q1,q2⟩ := hro
    exact ⟨vs,own_lower q1 (Nat.le_succ _),fun k g hk => by obtain ⟨u,hu,ho⟩ := q2 k g hk;exact ⟨u,hu,own_lower ho (Nat.le_succ _)⟩⟩)
   clear hMr hbw hbw' hro hds hD;go_wp2_with fail;go_ret;refine ⟨_,rfl,?_,HBw.out⟩
   rw [HBd.out]
   exact HE.out
  have hltI : (i : Int) < (n : Int) := by omega
  obtain ⟨p,hp⟩ : ∃ p,La[i]? = some p := ⟨La[i]'(by rw [HLn.out.1];exact hlt),List.getElem?_eq_getElem _⟩
  have hx : l[i]? = some (p.1,p.2.ob) := by rw [← HLn.out.2.1];unfold obsM;rw [List.getElem?_map,hp];rfl
  have hidx : ids[i]? = some p.1 := by rw [← HIds.out.1];exact ids_at hx
  have hst := grpT_step (c := tchC l) hidx;have d0 : wS.cell? ⟨bd,i,none⟩ = some (.bool (ds i)) := (hD.cell i).trans (List.getElem?_toArray.trans (ocl_at hlt));obtain ⟨dn,hdn⟩ : ∃ b,ds i = b := ⟨_,rfl⟩;rw [hdn] at d0
  cases dn with
  | true =>
    obtain ⟨hne,hds'⟩ := hds.yes HR.out hx hdn;rw [if_neg hne,List.append_nil] at hst;have HSt := Lib.hid (And.intro hst hds');clear hMr hbw hbw' hro hds hD hp hx hidx hst hne hds' hdn;go_wp2_with fail
    go_roundw
    case rel => exact ⟨i + 1,ds,by omega,by go_num,by rw [HSt.out.1];exact HRo.out,HDb.out,HSt.out.2,by rw [← HBd.out];exact HBw.out⟩
    case measure => simp [Go.RowKit.intOf];omega
  | false =>
    have hroot := hds.no HR.out hx hdn;obtain ⟨r,hr⟩ : ∃ r,p.1 = r := ⟨_,rfl⟩;rw [hr] at hx hidx hst hroot;rw [if_pos hroot] at hst;have HSt := Lib.hid (And.intro hst (And.intro hx (And.intro hroot (And.intro hidx (And.intro hp hr)))));obtain ⟨bi,hbi⟩ : ∃ g,wS.heap.size = g := ⟨_,rfl⟩;have hI0 : Blk (wS.alloc (.cells (ocl (fun _ => false) n).toArray 4)) bi 4 (ocl (fun _ => false) n).toArray := by rw [← hbi];exact Blk.new (by simp) rfl
    have HI0 := Lib.hid hI0;have i0c : (wS.alloc (.cells (ocl (fun _ => false) n).toArray 4)).cell? ⟨bi,i,none⟩ = some (.bool false) := by exact (hI0.cell i).trans (List.getElem?_toArray.trans (ocl_at hlt))
    have i0f : (wS.alloc (.cells (ocl (fun _ => false) n).toArray 4)).frozen? ⟨bi,i,none⟩ = false := by exact hI0.frozen i
    clear hMr hbw hbw' hro hds hD hp hx hidx hst hroot hr hdn hI0;go_wp2_with fail;have hlo : w.heap.size < bi := by have := HBd.out;omega
    have e1 : ((ocl (fun _ => false) n).set i (.bool true)).toArray = (ocl (fun j => false || decide (j = i)) n).toArray := by rw [← ocl_set hlt];simp
    have HI1 := Lib.hid (show Blk (wS.alloc (.cells ((ocl (fun _ => false) n).set i (.bool true)).toArray 4)) bi 4 (ocl (fun j => false || decide (j = i)) n).toArray ∧ Below wS.heap.size wS (wS.alloc (.cells ((ocl (fun _ => false) n).set i (.bool true)).toArray 4)) from ⟨by rw [e1,← hbi];exact Blk.new (by simp) rfl,bel⟩)
    have HNe : Hid (bd < bi ∧ wS.heap.size = bi) := ⟨by omega,hbi⟩
    clear i0c i0f hbi HI0 e1
    go_loopw [7] (fun v7 w2 => ∃ (f : Nat → Bool) (gr : Bool), v7 = .bool gr ∧ Blk w2 bi 4 (ocl f n).toArray ∧ InS l r f ∧ f i = true ∧ (gr = false → ∀ a, ClA l f a) ∧ Below wS.heap.size wS w2) (fun v7 w2 => 2 * fls w2 bi + isT v7)
    case atStart => exact ⟨_, true, rfl, HI1.out.1, InS.start HSt.out.2.1 HSt.out.2.2.1, by simp, (fun h => absurd h (by simp)), HI1.out.2⟩
    case round =>
     clear HI1;obtain ⟨f,gr,rfl,hI,hS,hfi,hcl,hb2⟩ := hrel;have HI := Lib.hid (And.intro hI (And.intro hS (And.intro hfi (And.intro hcl hb2))));clear hI hS hfi hcl
     cases gr with
     | true =>
       clear hb2;go_wp2_with fail
       go_loopw [7, 8] (fun v7 v8 w3 => ∃ (a : Nat) (f' : Nat → Bool) (gr : Bool), a ≤ n ∧ v8 = .int .i64 a ∧ v7 = .bool gr ∧ Blk w3 bi 4 (ocl f' n).toArray ∧ InS l r f' ∧ f' i = true ∧ cntF f' n ≤ cntF f n ∧ (gr = true → cntF f' n < cntF f n) ∧ (gr = false → ∀ a', a' < a → ClA l f' a') ∧ Below wS.heap.size wS w3) (fun _ v8 _ => n - (Go.RowKit.intOf v8).toNat)
       case atStart => exact ⟨0, f, false, Nat.zero_le _, rfl, rfl, HI.out.1, HI.out.2.1, HI.out.2.2.1, Nat.le_refl _, (fun h => absurd h (by simp)), fun _ a' h => absurd h (by omega), HI.out.2.2.2.2⟩
       case round =>
        obtain ⟨a,f',gr,han,rfl,rfl,hI,hS,hfi,hc1,hc2,hcl,hb3⟩ := hrel;have HJ := Lib.hid (And.intro hI (And.intro hS (And.intro hfi (And.intro hc1 (And.intro hc2 (And.intro hcl hb3))))));have hw3 : Below w.heap.size w _ := HBw.out.trans (hb3.mono HBw.out.size);have hM3 := HA.out.2.1.tr hw3;have m0 := hM3.cell 0;have ml := hM3.lt;simp only [lta,lcz] at m0;clear hI hS hfi hc1 hc2 hcl hb3 hw3 hM3
        by_cases hla : a < n
        case neg =>
         obtain rfl : n = a := by omega
         go_wp2_with fail
         go_roundw
         case rel => exact ⟨f', gr, rfl, HJ.out.1, HJ.out.2.1, HJ.out.2.2.1, fun h a' => by
          by_cases q : a' < n
          · exact HJ.out.2.2.2.2.2.1 h a' q
          · intro x hx
            have := (List.getElem?_eq_some_iff.1 hx).1;rw [HLn.out.2.2] at this
            exact absurd this q,HJ.out.2.2.2.2.2.2⟩
         case measure =>
          rw [fls_ocl HJ.out.1, fls_ocl HI.out.1]
          have h1 := HJ.out.2.2.2.1;have h2 := HJ.out.2.2.2.2.1
          cases gr with
          | true =>
            have := h2 rfl
            simp [isT]
            omega
          | false =>
            simp [isT]
            omega
        have hlaI : (a : Int) < (n : Int) := by omega
        go_wp2_with fail
        go_loopw [7, 9] (fun v7 v9 w4 => ∃ (b : Nat) (f' : Nat → Bool) (gr : Bool), b ≤ n ∧ v9 = .int .i64 b ∧ v7 = .bool gr ∧ Blk w4 bi 4 (ocl f' n).toArray ∧ InS l r f' ∧ f' i = true ∧ cntF f' n ≤ cntF f n ∧ (gr = true → cntF f' n < cntF f n) ∧ (gr = false → (∀ a', a' < a → ClA l f' a') ∧ ∀ x, l[a]? = some x → f' a = true → ∀ b' y, b' < b → l[b']? = some y → touchS x.2 y.2 = true → f' b' = true) ∧ Below wS.heap.size wS w4) (fun _ v9 _ => n - (Go.RowKit.intOf v9).toNat)
        case atStart => exact ⟨0, f', gr, Nat.zero_le _, rfl, rfl, HJ.out.1, HJ.out.2.1, HJ.out.2.2.1, HJ.out.2.2.2.1, HJ.out.2.2.2.2.1, fun h => ⟨HJ.out.2.2.2.2.2.1 h, fun _ _ _ b' _ h => absurd h (by omega)⟩, HJ.out.2.2.2.2.2.2⟩
        case round =>
         clear HJ m0 ml;obtain ⟨b,f',gr,hbn,rfl,rfl,hI,hS,hfi,hc1,hc2,hcl,hb4⟩ := hrel;have HJ := Lib.hid (And.intro hI (And.intro hS (And.intro hfi (And.intro hc1 (And.intro hc2 (And.intro hcl hb4))))));have hw4 : Below w.heap.size w _ := HBw.out.trans (hb4.mono HBw.out.size);have hM4 := HA.out.2.1.tr hw4;have m0 := hM4.cell 0;have ml := hM4.lt;simp only [lta,lcz] at m0;have ia : _ = some (Value.bool (f' a)) := (hI.cell a).trans (List.getElem?_toArray.trans (ocl_at hla));have il := hI.lt
         by_cases hlb : b < n
         case neg =>
          obtain rfl : n = b := by omega
          clear hI hS hfi hc1 hc2 hcl hb4 hw4 hM4 ia;go_wp2_with fail
          go_roundw
          case rel => exact ⟨a + 1, f', gr, by omega, by go_num, rfl, HJ.out.1, HJ.out.2.1, HJ.out.2.2.1, HJ.out.2.2.2.1, HJ.out.2.2.2.2.1, fun h a' ha' => by
           obtain ⟨q1,q2⟩ := HJ.out.2.2.2.2.2.1 h
           by_cases q : a' < a
           · exact q1 a' q
           · obtain rfl : a' = a := by omega
             intro x hx hf b y hy ht
             exact q2 x hx hf b y (by have := (List.getElem?_eq_some_iff.1 hy).1;rw [HLn.out.2.2] at this;exact this) hy ht,HJ.out.2.2.2.2.2.2⟩
          case measure => simp [Go.RowKit.intOf];omega
         have hlbI : (b : Int) < (n : Int) := by omega
         obtain ⟨fa,hfa⟩ : ∃ x,f' a = x := ⟨_,rfl⟩;rw [hfa] at ia;have HFa := Lib.hid hfa
         cases fa with
         | false =>
           clear hI hS hfi hc1 hc2 hcl hb4 hw4 hM4 hfa;go_wp2_with fail
           go_roundw
           case rel => exact ⟨a + 1, f', gr, by omega, by go_num, rfl, HJ.out.1, HJ.out.2.1, HJ.out.2.2.1, HJ.out.2.2.2.1, HJ.out.2.2.2.2.1, fun h a' ha' => by
            obtain ⟨q1,q2⟩ := HJ.out.2.2.2.2.2.1 h
            by_cases q : a' < a
            · exact q1 a' q
            · obtain rfl : a' = a := by omega
              intro x hx hf;rw [HFa.out] at hf
              exact absurd hf (by simp),HJ.out.2.2.2.2.2.2⟩
           case measure => simp [Go.RowKit.intOf];omega
         | true =>
           obtain ⟨q,hq⟩ : ∃ q,La[b]? = some q := ⟨La[b]'(by rw [HLn.out.1];exact hlb),List.getElem?_eq_getElem _⟩
           obtain ⟨p2,hp2⟩ : ∃ q,La[a]? = some q := ⟨La[a]'(by rw [HLn.out.1];exact hla),List.getElem?_eq_getElem _⟩
           have hxa : l[a]? = some (p2.1,p2.2.ob) := by rw [← HLn.out.2.1];unfold obsM;rw [List.getElem?_map,hp2];rfl
           have hxb : l[b]? = some (q.1,q.2.ob) := by rw [← HLn.out.2.1];unfold obsM;rw [List.getElem?_map,hq];rfl
           have ib : _ = some (Value.bool (f' b)) := (hI.cell b).trans (List.getElem?_toArray.trans (ocl_at hlb));have ibf := hI.frozen b;obtain ⟨fb,hfb⟩ : ∃ x,f' b = x := ⟨_,rfl⟩;rw [hfb] at ib;have HFb := Lib.hid hfb
           cases fb with
           | true =>
             clear hI hS hfi hc1 hc2 hcl hb4 hw4 hM4 hfa hfb hq hp2 ibf;have HX := Lib.hid hxb;clear hxa hxb;go_wp2_with fail;refine wp_region_belowI (by kernel_rfl) (by kernel_rfl) (fun _ _ d _ _ h => by cases d <;> exact h) ?_
             simp only [List.map_cons, List.map_nil, ldz, lds, bare, gslot, lcz, lcs, Option.bind_some]
             repeat' ((try simp only [Act.put,lsi,lsz,lss]);first | (refine lexL_on ?_ ?_;focus (simp only [lta,lcs,lcz,Bool.not_true,Bool.not_false];done)) | (refine lexL_off ?_ ?_ ?_;(focus (simp only [lta,lcs,lcz,Bool.not_true,Bool.not_false];done));(focus (exact bel))) | (refine lexL_splitS (X := ?_) ?_ ?_ (fun hg => ?_) (fun hg => ?_);rotate_left;(focus (simp only [lta,lcs,lcz];with_reducible rfl));(focus (exact bel));all_goals (try simp only [Bool.not_true,Bool.not_false] at hg)) | (refine lexL_quiet (v := ?_) wantB_none rfl ?_ ?_;rotate_left;focus (intro wq hq;obtain ⟨hcq,hfq⟩ := bcell hq;go_simp;try with_reducible rfl)) | (refine lexL_loud wantB_none rfl (fun K hK => ?_);go_simp;((first |  fail | skip) <;> (refine hK.out _ _ bel ?_;clear hK K))))
             (all_goals try simp only [Act.put,lsi,lsz,lss]);all_goals (refine lexL_nil ?_)
             go_wp2_with fail
             go_roundw
             case rel => exact ⟨b + 1, f', gr, by omega, by go_num, rfl, HJ.out.1.tr (by exact bel), HJ.out.2.1, HJ.out.2.2.1, HJ.out.2.2.2.1, HJ.out.2.2.2.2.1, fun h => by
              obtain ⟨q1,q2⟩ := HJ.out.2.2.2.2.2.1 h;refine ⟨q1,fun x hx hf b' y hb' hy ht => ?_⟩
              by_cases e : b' = b
              · subst e
                exact HFb.out
              · exact q2 x hx hf b' y (by omega) hy ht, HJ.out.2.2.2.2.2.2.trans ((show Below wr.heap.size wr _ from bel).mono HJ.out.2.2.2.2.2.2.size)⟩
             case measure => simp [Go.RowKit.intOf];omega
           | false =>
             obtain ⟨g,c,hv,hgl,r0,r1,r2⟩ := mrow_at (own_kept HA.out.2.2 (grown_below hw4) (by simp)) hp2
             injection hv with hv1 hv2 hv3
             subst hv1 hv3;obtain ⟨g2,c2,hv,hgl2,s0,s1,s2⟩ := mrow_at (own_kept HA.out.2.2 (grown_below hw4) (by simp)) hq
             injection hv with hv1 hv4 hv3
             injection hv1 with hv1
             injection hv1 with hv1
             subst hv1;obtain ⟨A',c',ep,hpt⟩ := ((HA.out.1.tr hw4).pts p2 (List.mem_of_getElem? hp2)).pts;obtain ⟨A2,c2',ep2,hpt2⟩ := ((HA.out.1.tr hw4).pts q (List.mem_of_getElem? hq)).pts;rw [ep] at r2;rw [ep2] at s2;have hpl := (HA.out.1.pts p2 (List.mem_of_getElem? hp2)).1;have hpl2 := (HA.out.1.pts q (List.mem_of_getElem? hq)).1;have htch := fun W (hW : Below wr.heap.size wr W) => rTouch_any wr.heap.size _ c' _ c2' p2.2.ob.kind q.2.ob.kind A' A2 p2.2.ob.pts q.2.ob.pts W (hpt.below hW) (hpt2.below hW) hW.size hpl hpl2
             obtain ⟨tt,htt⟩ : ∃ b,touchS p2.2.ob q.2.ob = b := ⟨_,rfl⟩;have htt' : touchS ⟨p2.2.ob.kind,p2.2.ob.pts⟩ ⟨q.2.ob.kind,q.2.ob.pts⟩ = tt := htt;simp only [htt'] at htch;have HTo := Lib.hid htch;have HX := Lib.hid (And.intro hxa (And.intro hxb htt));simp only [obV] at HTo;have bil := hI.lt;clear hI hS hfi hc1 hc2 hcl hb4 hw4 hM4 hfa hfb hq hp2 hxa hxb ep ep2 hpt hpt2 hpl hpl2 htch htt htt' hv2 hv3 hv4;obtain ⟨po,hpo⟩ : ∃ x,p2.2.ob = x := ⟨_,rfl⟩;obtain ⟨qo,hqo⟩ : ∃ x,q.2.ob = x := ⟨_,rfl⟩;rw [hpo] at r1 r2 HTo HX;rw [hqo] at s1 s2 HTo HX;clear hpo hqo;generalize p2.1 = pid at *;generalize q.1 = qid at *;obtain ⟨pk,hpk⟩ : ∃ x,po.kind = x := ⟨_,rfl⟩;obtain ⟨qk,hqk⟩ : ∃ x,qo.kind = x := ⟨_,rfl⟩;obtain ⟨pn,hpn⟩ : ∃ x,po.pts.length = x := ⟨_,rfl⟩;obtain ⟨qn,hqn⟩ : ∃ x,qo.pts.length = x := ⟨_,rfl⟩;rw [hpk] at r1 HTo;rw [hqk] at s1 HTo;rw [hpn] at r2 HTo;rw [hqn] at s2 HTo;clear hpk hqk hpn hqn
             cases tt with
             | false =>
               go_wp2_with fail;refine wp_region_belowI (by kernel_rfl) (by kernel_rfl) (fun _ _ d _ _ h => by cases d <;> exact h) ?_
               simp only [List.map_cons, List.map_nil, ldz, lds, bare, gslot, lcz, lcs, Option.bind_some]
               repeat' ((try simp only [Act.put,lsi,lsz,lss]);first | (refine lexL_on ?_ ?_;focus (simp only [lta,lcs,lcz,Bool.not_true,Bool.not_false];done)) | (refine lexL_off ?_ ?_ ?_;(focus (simp only [lta,lcs,lcz,Bool.not_true,Bool.not_false];done));(focus (exact bel))) | (refine lexL_splitS (X := ?_) ?_ ?_ (fun hg => ?_) (fun hg => ?_);rotate_left;(focus (simp only [lta,lcs,lcz];with_reducible rfl));(focus (exact bel));all_goals (try simp only [Bool.not_true,Bool.not_false] at hg)) | (refine lexL_quiet (v := ?_) wantB_none rfl ?_ ?_;rotate_left;focus (intro wq hq;obtain ⟨hcq,hfq⟩ := bcell hq;go_simp;try with_reducible rfl)) | (refine lexL_loud wantB_none rfl (fun K hK => ?_);go_simp;((first |  (go_at_call 28;(refine (HTo.out _ bel).mono ?_);rintro e wt ⟨rfl,hbt⟩;obtain ⟨hct,hft⟩ := bcell hbt;have hzt := hbt.size;(try simp at hzt)) | skip) <;> (refine hK.out _ _ bel ?_;clear hK K))))
               (all_goals try simp only [Act.put,lsi,lsz,lss]);all_goals (refine lexL_nil ?_)
               go_wp2_with fail
               go_roundw
               case rel => exact ⟨b + 1, f', gr, by omega, by go_num, rfl, HJ.out.1.tr (by exact bel), HJ.out.2.1, HJ.out.2.2.1, HJ.out.2.2.2.1, HJ.out.2.2.2.2.1, fun h => by
                obtain ⟨q1,q2⟩ := HJ.out.2.2.2.2.2.1 h;refine ⟨q1,fun x hx hf b' y hb' hy ht => ?_⟩
                by_cases e : b' = b
                · subst e
                  rw [HX.out.1] at hx;rw [HX.out.2.1] at hy
                  cases hx
                  cases hy
                  rw [HX.out.2.2] at ht;exact absurd ht (by simp)
                · exact q2 x hx hf b' y (by omega) hy ht, HJ.out.2.2.2.2.2.2.trans ((show Below wr.heap.size wr _ from bel).mono HJ.out.2.2.2.2.2.2.size)⟩
               case measure => simp [Go.RowKit.intOf];omega
             | true =>
               go_wp2_with fail;refine wp_region_belowI (by kernel_rfl) (by kernel_rfl) (fun _ _ d _ _ h => by cases d <;> exact h) ?_
               simp only [List.map_cons, List.map_nil, ldz, lds, bare, gslot, lcz, lcs, Option.bind_some]
               repeat' ((try simp only [Act.put,lsi,lsz,lss]);first | (refine lexL_on ?_ ?_;focus (simp only [lta,lcs,lcz,Bool.not_true,Bool.not_false];done)) | (refine lexL_off ?_ ?_ ?_;(focus (simp only [lta,lcs,lcz,Bool.not_true,Bool.not_false];done));(focus (exact bel))) | (refine lexL_splitS (X := ?_) ?_ ?_ (fun hg => ?_) (fun hg => ?_);rotate_left;(focus (simp only [lta,lcs,lcz];with_reducible rfl));(focus (exact bel));all_goals (try simp only [Bool.not_true,Bool.not_false] at hg)) | (refine lexL_quiet (v := ?_) wantB_none rfl ?_ ?_;rotate_left;focus (intro wq hq;obtain ⟨hcq,hfq⟩ := bcell hq;go_simp;try with_reducible rfl)) | (refine lexL_loud wantB_none rfl (fun K hK => ?_);go_simp;((first |  (go_at_call 28;(refine (HTo.out _ bel).mono ?_);rintro e wt ⟨rfl,hbt⟩;obtain ⟨hct,hft⟩ := bcell hbt;have hzt := hbt.size;(try simp at hzt)) | skip) <;> (refine hK.out _ _ bel ?_;clear hK K))))
               (all_goals try simp only [Act.put,lsi,lsz,lss]);all_goals (refine lexL_nil ?_)
               refine gen_w (Φ := fun W => Exit.then _ _ Exit.normal _ W) (fun W => Below wr.heap.size wr W) bel ?_
               clear hct hft hbt hzt;rintro w10 hb10;have HB10 := Lib.hid hb10;have hI10 := HJ.out.1.tr hb10;have j0 := (hI10.cell b).trans (List.getElem?_toArray.trans (ocl_at hlb));rw [HFb.out] at j0;have j1 := hI10.frozen b;have j2 := hI10.lt;clear r0 r1 r2 s0 s1 s2 hgl hgl2 m0 ml ia ib il ibf bil hb10 hI10;go_wp2_with fail
               go_roundw
               case rel =>
                refine ⟨b + 1,fun j => f' j || decide (j = b),true,by omega,by go_num,rfl,((HJ.out.1.tr HB10.out).set_ b (.bool true)).eq_ (ocl_set hlb),HJ.out.2.1.mark HX.out.1 HX.out.2.1 HFa.out HX.out.2.2,by show (f' i || _) = true;rw [HJ.out.2.2.1];rfl,Nat.le_trans (cntF_le _ _ _) HJ.out.2.2.2.1,fun _ => Nat.lt_of_lt_of_le (cntF_lt HFb.out hlb) HJ.out.2.2.2.1,fun h => absurd h (by simp),?_⟩
                have hx := HJ.out.2.2.2.2.2.2.trans (HB10.out.mono HJ.out.2.2.2.2.2.2.size);exact hx.setCell (by rw [HNe.out.2];exact Nat.le_refl _) _
               case measure => simp [Go.RowKit.intOf];omega
     | false =>
       have hclo := HI.out.2.1.closed HR.out HSt.out.2.1 HI.out.2.2.1 (fun a b x y hx hy hf ht => HI.out.2.2.2.1 rfl a x hx hf b y hy ht)
       have HCl := Lib.hid (show ∀ k y,l[k]? = some y → (f k = true ↔ tchC l y.1 = r) from hclo)
       have HT0 := Lib.hid ((TurnF.refl (fun b => b = bd) wS).below hb2)
       have HD2 := Lib.hid (HDb.out.tr hb2);clear hb2 hclo;go_wp2_with fail
       go_loopw [10, 11] (fun v10 v11 w3 => ∃ (a c10 : Nat) (A10 : Option Addr) (ds' : Nat → Bool), a ≤ n ∧ v11 = .int .i64 a ∧ v10 = .slice A10 (memT (tchC l) ids r a).length c10 ∧ w3.ownsRow bi 3 1 v10 (memT (tchC l) ids r a).length (idcs (memT (tchC l) ids r a)) ∧ Blk w3 bi 4 (ocl f n).toArray ∧ Blk w3 bd 4 (ocl ds' n).toArray ∧ (∀ k y, l[k]? = some y → (ds' k = true ↔ ds k = true ∨ (k < a ∧ tchC l y.1 = r))) ∧ TurnF (fun b => b = bd) wS w3) (fun _ v11 _ => n - (Go.RowKit.intOf v11).toNat)
       case atStart => exact ⟨0,0,none,ds,Nat.zero_le _,rfl,rfl,World.ownsRow_nil _ _ _ _,HI.out.1,HD2.out,fun k y _ => ⟨.inl,fun h => by rcases h with h | ⟨h,_⟩;exact h;omega⟩,HT0.out⟩
       case round =>
        clear HI HT0 HD2;obtain ⟨a,c10,A10,ds',han,rfl,rfl,hrow,hI,hD,hdd,ht⟩ := hrel;have HJ := Lib.hid (And.intro hrow (And.intro hI (And.intro hD (And.intro hdd ht))));have hw3 : Below w.heap.size w wr := HBw.out.trans (turn_belowM ht (fun k q => by rw [q];exact Nat.le_of_eq HBd.out) (by have := HBw.out.size;omega))
        have HW3 := Lib.hid hw3;have hM3 := HA.out.2.1.tr hw3;have m0 := hM3.cell 0;have ml := hM3.lt;have hbs := ht.size;simp only [lta,lcz] at m0
        by_cases hla : a < n
        case pos =>
         have hlaI : (a : Int) < (n : Int) := by omega
         obtain ⟨q,hq⟩ : ∃ q,La[a]? = some q := ⟨La[a]'(by rw [HLn.out.1];exact hla),List.getElem?_eq_getElem _⟩
         have hxa : l[a]? = some (q.1,q.2.ob) := by rw [← HLn.out.2.1];unfold obsM;rw [List.getElem?_map,hq];rfl
         have hida : ids[a]? = some q.1 := by rw [← HIds.out.1];exact ids_at hxa
         have hmst := memT_step (c := tchC l) hida r;have hfa := HCl.out a _ hxa;have ia : wr.cell? ⟨bi,a,none⟩ = some (Value.bool (f a)) := (hI.cell a).trans (List.getElem?_toArray.trans (ocl_at hla));have il := hI.lt;obtain ⟨g,c,hv,hgl,r0,r1,r2⟩ := mrow_at (own_kept HA.out.2.2 (grown_below hw3) (by simp)) hq
         injection hv with hv1 hv2 hv3
         subst hv1 hv3;obtain ⟨fa,hfa'⟩ : ∃ x,f a = x := ⟨_,rfl⟩;rw [hfa'] at ia hfa;have hml := memT_len (c := tchC l) (ids := ids) r a;obtain ⟨mt,hmt⟩ : ∃ x,memT (tchC l) ids r a = x := ⟨_,rfl⟩;rw [hmt] at hmst hml HJ;have HX := Lib.hid hxa
         simp only at hfa
         obtain ⟨qid,hqid⟩ : ∃ x,q.1 = x := ⟨_,rfl⟩;rw [hqid] at r0 hmst hfa HX;have dbl := hD.lt;have dc := (hD.cell a).trans (List.getElem?_toArray.trans (ocl_at hla));have dfz := hD.frozen a
         cases fa with
         | false =>
           have hne : tchC l qid ≠ r := fun e => absurd (hfa.2 e) (by simp)
           rw [if_neg hne,List.append_nil] at hmst;have HMs := Lib.hid (And.intro hmst hne)
           rw [hmt]
           clear hrow hI hD hdd ht hw3 hM3 hq hxa hida hmst hfa hv2 hfa' hmt hqid hne dc dfz;go_wp2_with fail
           go_roundw
           case rel => exact ⟨a + 1,c10,A10,ds',by omega,by go_num,by rw [HMs.out.1],by rw [HMs.out.1];exact HJ.out.1,HJ.out.2.1,HJ.out.2.2.1,fun k y hy => by
            rw [HJ.out.2.2.2.1 k y hy]
            constructor
            · rintro (h | ⟨h1, h2⟩)
              · exact .inl h
              · exact .inr ⟨by omega, h2⟩
            · rintro (h | ⟨h1, h2⟩)
              · exact .inl h
              · by_cases e : k = a
                · subst e
                  rw [HX.out] at hy
                  cases hy
                  exact absurd h2 HMs.out.2
                · exact .inr ⟨by omega, h2⟩, HJ.out.2.2.2.2⟩
           case measure => simp [Go.RowKit.intOf];omega
         | true =>
           have heq : tchC l qid = r := hfa.1 rfl;rw [if_pos heq] at hmst;have HMs := Lib.hid (And.intro hmst heq);have hmx : mt.length + 1 ≤ maxLen := by unfold maxLen;omega
           have hmb : (mt.length + 1) * 8 ≤ 140737488355328 := by omega
           have hDs := (hD.set_ a (.bool true)).eq_ (ocl_set hla);have hts : TurnF (fun b => b = bd) wS (wr.setCell ⟨bd,a,none⟩ (.bool true)) := ht.set_ (.inl rfl) _
           have hrs : (wr.setCell ⟨bd,a,none⟩ (.bool true)).ownsRow bi 3 1 (.slice A10 mt.length c10) mt.length (idcs mt) := by
            rw [hmt] at hrow;exact own_kept hrow (grown_set wr ⟨bd,a,none⟩ (.bool true)) fun g e => by injection e with e;subst e;exact own_ne hrow hD (by decide)
           have hIs : Blk (wr.setCell ⟨bd,a,none⟩ (.bool true)) bi 4 (ocl f n).toArray := Blk.kept hI (grown_set wr ⟨bd,a,none⟩ (.bool true)) (by have := HNe.out.1;simp;omega)
           have HK := Lib.hid (And.intro hDs (And.intro hts (And.intro hrs hIs)));have m0' := m0;have HM0 := Lib.hid (HA.out.2.1.tr (show Below w.heap.size w (wr.setCell ⟨bd,a,none⟩ (.bool true)) from hw3.setCell (Nat.le_of_eq HBd.out) _))
           have hro' := own_kept HA.out.2.2 (grown_below (show Below w.heap.size w (wr.setCell ⟨bd,a,none⟩ (.bool true)) from hw3.setCell (Nat.le_of_eq HBd.out) _)) (by simp)
           obtain ⟨g3,c3,hv,hgl3,t0,t1,t2⟩ := mrow_at hro' hq;injection hv with hv1 hv4 hv3
           injection hv1 with hv1
           injection hv1 with hv1
           subst hv1;rw [hqid] at t0;have n0 := HM0.out.cell 0;have nl := HM0.out.lt;simp only [lta,lcz] at n0;have hsz : (wr.setCell ⟨bd,a,none⟩ (.bool true)).heap.size = wr.heap.size := by simp
           have hlo2 : bi ≤ wr.heap.size := Nat.le_of_lt il
           rw [hmt]
           clear hrow hI hD hdd ht hw3 hM3 hq hxa hida hmst hfa hv2 hfa' hmt hqid heq hDs hts hrs hIs hro' hv3 hv4 r0 r1 r2 m0' t1 t2
           go_wp2_with (at_builtin;go_must (refine wpList_append_own _ rfl _ _ 40 rfl bi 3 i0 (.int .i64 0) 1 8 Tryz.underlying40 hi iz0 iz1 iz2 rfl Nat.one_pos _ _ _ rfl (own_kept HK.out.2.2.1 (grown_below bel) (by simp)) _ _ _ _ rfl rfl ?c1 (idcs_one [qid]) hmx hmb ?c5 ?_))
           case c1 => exact fun j u h => h
           case c5 => first | omega | (simp;omega)
           intro v8 w8 hown8 hg8 _;obtain ⟨A8,c8,rfl,_,_,_⟩ := row_form hown8;have hbt : Below (wr.setCell ⟨bd,a,none⟩ (.bool true)).heap.size (wr.setCell ⟨bd,a,none⟩ (.bool true)) ((wr.setCell ⟨bd,a,none⟩ (.bool true)).alloc (.cells #[.int .i64 qid] 3)) := bel;have hrt := own_kept HK.out.2.2.1 (grown_below hbt) (by simp)
           have H8 := Lib.hid (show w8.ownsRow bi 3 1 (.slice A8 (mt.length + 1) c8) (mt.length + 1) (idcs (mt ++ [qid])) ∧ Blk w8 bi 4 (ocl f n).toArray ∧ Blk w8 bd 4 (ocl (fun j => ds' j || decide (j = a)) n).toArray ∧ TurnF (fun b => b = bd) wS w8 from
            ⟨by unfold idcs at hown8 ⊢;rw [List.map_append];exact hown8,Blk.kept (HK.out.2.2.2.tr hbt) hg8 (own_ne hrt (HK.out.2.2.2.tr hbt) (by decide)),Blk.kept (HK.out.1.tr hbt) hg8 (own_ne hrt (HK.out.1.tr hbt) (by decide)),(HK.out.2.1.below hbt).grown hg8 fun k e => .inr (by rw [HNe.out.2];exact (hrt.lt k e).1)⟩)
           clear hown8 hg8 hbt hrt;go_wp2_with fail
           go_roundw
           case rel =>
            refine ⟨a + 1,c8,A8,fun j => ds' j || decide (j = a),by omega,by go_num,by rw [HMs.out.1,List.length_append];rfl,by rw [HMs.out.1,List.length_append];exact H8.out.1,H8.out.2.1,H8.out.2.2.1,fun k y hy => ?_,H8.out.2.2.2⟩
            rw [Bool.or_eq_true, HJ.out.2.2.2.1 k y hy, decide_eq_true_eq]
            constructor
            · rintro ((h | ⟨h1, h2⟩) | h)
              · exact .inl h
              · exact .inr ⟨by omega, h2⟩
              · subst h
                rw [HX.out] at hy
                cases hy
                exact .inr ⟨by omega,HMs.out.2⟩
            · rintro (h | ⟨h1, h2⟩)
              · exact .inl (.inl h)
              · by_cases e : k = a
                · exact .inr e
                · exact .inl (.inr ⟨by omega, h2⟩)
           case measure => simp [Go.RowKit.intOf];omega
        case neg =>
         obtain rfl : n = a := by omega
         have hmn : memT (tchC l) ids r n = memS (tchC l) ids r := by rw [← HIds.out.2];exact memT_all r
         rw [hmn] at HJ hrow ⊢
         have hgn := grpT_len (c := tchC l) (ids := ids) i;obtain ⟨vs,q1,q2⟩ := HRo.out.turn ht (fun b hb e => by omega)
         generalize memS (tchC l) ids r = gm at *;obtain ⟨gl,hgl⟩ : ∃ x,grpT (tchC l) ids i = x := ⟨_,rfl⟩;rw [hgl] at hgn q1 q2 HSt
         rw [hgl]
         have HQ := Lib.hid (And.intro q1 q2);have HG := Lib.hid hgl;have hmx : gl.length + 1 ≤ maxLen := by unfold maxLen;omega
         have hmb : (gl.length + 1) * 24 ≤ 140737488355328 := by omega
         have hone : ∀ u ∈ [Value.slice A10 gm.length c10],u.oneCell' = true := by simp [Value.oneCell']
         have hlo3 : bd + 1 ≤ wr.heap.size := by have := HNe.out.1;have := HNe.out.2;omega
         clear hrow hI hD hdd hw3 hM3 hmn q1 q2 hgl
         go_wp2_with (at_builtin;go_must (refine wpList_append_own _ rfl _ _ 34 rfl (bd + 1) 40 j0 (.slice none 0 0) 1 24 Tryz.underlying34 hj jz0 jz1 jz2 rfl Nat.one_pos _ _ _ rfl (own_kept HQ.out.1 (grown_below bel) (by simp)) _ _ _ _ rfl rfl ?c1 hone hmx hmb ?c5 ?_))
         case c1 => exact one_atG (by simp)
         case c5 => first | omega | (simp;omega)
         intro v8 w8 hown8 hg8 _;have hbt : Below wr.heap.size wr (wr.alloc (.cells #[.slice A10 gm.length c10] 40)) := bel;have hrt := own_kept HQ.out.1 (grown_below hbt) (by simp)
         have H8 := Lib.hid (show RowsJ w8 (bd + 1) v8 (gl ++ [gm]) ∧ Blk w8 bd 4 (ocl ds' n).toArray ∧ Below bd w w8 from
          ⟨RowsJ.snoc hrt (fun k g hk => by obtain ⟨u,hu,ho⟩ := HQ.out.2 k g hk;exact ⟨u,hu,own_kept ho (grown_below hbt) (by simp)⟩) (own_kept (own_lower HJ.out.1 (by have := HNe.out.1;omega)) (grown_below hbt) (by simp)) hown8 hg8,
           Blk.kept (HJ.out.2.2.1.tr hbt) hg8 (own_ne hrt (HJ.out.2.2.1.tr hbt) (by decide)), by
            have h1 := HW3.out.trans (hbt.mono HW3.out.size);rw [HBd.out] at h1
            exact h1.grown hg8 (by simp;omega) fun k e => by have := (hrt.lt k e).1;omega⟩)
         clear hown8 hg8 hbt hrt ht;go_wp2_with fail
         go_roundw
         case rel => exact ⟨i + 1,ds',by omega,by go_num,by rw [HSt.out.1];exact H8.out.1,H8.out.2.1,HDs.out.more HSt.out.2.1 HSt.out.2.2.1 fun k y hy => by
          rw [HJ.out.2.2.2.1 k y hy]
          have hk : k < n := by have := (List.getElem?_eq_some_iff.1 hy).1;rw [HLn.out.2.2] at this;exact this
          constructor
          · rintro (h | ⟨_, h⟩)
            · exact .inl h
            · exact .inr h
          · rintro (h | h)
            · exact .inl h
            · exact .inr ⟨hk, h⟩, H8.out.2.2⟩
         case measure => simp [Go.RowKit.intOf];omega
end Go.Proofs.YtcbjmcnebmhgpaaGreat
