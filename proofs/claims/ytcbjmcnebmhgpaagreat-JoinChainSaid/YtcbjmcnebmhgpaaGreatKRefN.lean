/-
  The document's map: its items in memory;place,CheckChange,Apply.
  The document's map: Apply of an item that is put in.
-/
import Derived.Test.YtcbjmcnebmhgpaaGreatKGisB
import Derived.Test.YtcbjmcnebmhgpaaGreatKRef3
import Derived.Test.YtcbjmcnebmhgpaaGreatKGisT
set_option linter.unusedVariables false
set_option linter.unusedSimpArgs false
set_option maxHeartbeats 8000000
set_option maxRecDepth 20000
namespace Pg
open Go Go.RowKit
structure Mi where
 ob : Ob
 ov : Value
section
variable {α : Type}
theorem insK_end {id : Int} {v : α} : ∀ {m : List (Int × α)},(∀ p ∈ m,¬ id < p.1) → insK id v m = m ++ [(id,v)]
 | [],_ => rfl
 | p :: r,h => by
   rw [insK, if_neg (h p (by simp)), insK_end fun q hq => h q (by simp [hq])]
   rfl
theorem insK_snoc_in {id : Int} {v : α} {p : Int × α} : ∀ {m : List (Int × α)},(∃ q ∈ m,id < q.1) → insK id v (m ++ [p]) = insK id v m ++ [p]
 | [],h => by obtain ⟨q,hq,_⟩ := h;cases hq
 | q :: r,h => by
   by_cases hq : id < q.1
   · simp [insK, hq]
   · have : ∃ x ∈ r, id < x.1 := by
      obtain ⟨x,hx,hl⟩ := h
      rcases List.mem_cons.1 hx with e | e
      · rw [e] at hl;exact absurd hl hq
      · exact ⟨x, e, hl⟩
     simp only [List.cons_append, insK, if_neg hq]
     rw [insK_snoc_in this]
theorem insK_snoc_here {id : Int} {v : α} {p : Int × α} : ∀ {m : List (Int × α)},(∀ q ∈ m,¬ id < q.1) → id < p.1 → insK id v (m ++ [p]) = m ++ [(id,v),p]
 | [],_,h => by simp [insK,h]
 | q :: r,h,hp => by
   simp only [List.cons_append, insK, if_neg (h q (by simp))]
   rw [insK_snoc_here (fun x hx => h x (by simp [hx])) hp]
theorem delK_none {id : Int} {m : List (Int × α)} (h : getK id m = none) : delK id m = m := by
 unfold delK
 rw [List.filter_eq_self]
 intro p hp
 simp [getK_none.1 h p hp]
def putG (id : Int) (v : α) (m : List (Int × α)) : List (Int × α) := if m.any fun p => decide (id < p.1) then insK id v m else m
theorem putG_snoc {id : Int} {v : α} {p : Int × α} {m : List (Int × α)} : putG id v (m ++ [p]) = if (m.any fun p => decide (id < p.1)) = true then putG id v m ++ [p] else if id < p.1 then m ++ [(id,v)] ++ [p] else m ++ [p] := by
 unfold putG
 rw [List.any_append]
 by_cases h : (m.any fun p => decide (id < p.1)) = true
 · rw [if_pos h,if_pos h,h]
   simp only [Bool.true_or, if_true]
   refine insK_snoc_in ?_;obtain ⟨q,hq,hl⟩ := List.any_eq_true.1 h;exact ⟨q,hq,by simpa using hl⟩
 · have hn : ∀ q ∈ m,¬ id < q.1 := fun q hq hl => h (List.any_eq_true.2 ⟨q,hq,by simpa using hl⟩)
   rw [if_neg h]
   have h' : (m.any fun p => decide (id < p.1)) = false := by simpa using h
   rw [h']
   by_cases hp : id < p.1
   · rw [if_pos hp, if_pos (by simp [hp]), insK_snoc_here hn hp]
     simp
   · rw [if_neg hp, if_neg (by simp [hp])]
theorem putG_end {id : Int} {v : α} {m : List (Int × α)} : (if (m.any fun p => decide (id < p.1)) = true then putG id v m else putG id v m ++ [(id,v)]) = insK id v m := by
 unfold putG
 by_cases h : (m.any fun p => decide (id < p.1)) = true
 · rw [if_pos h,if_pos h]
 · rw [if_neg h,if_neg h,insK_end fun q hq hl => h (List.any_eq_true.2 ⟨q,hq,by simpa using hl⟩)]
end
end Pg
namespace Go.Proofs.YtcbjmcnebmhgpaaGreat
open Go Go.RowKit Pg
def PtsZ (w : World) (Z : Nat → Prop) (v : Value) (l : List Pt) : Prop := l.length ≤ 1000000 ∧ ∃ A c,v = .slice A l.length c ∧ CellsIn w Z A (ptcells l)
theorem PtsZ.turn {w w' : World} {Z F : Nat → Prop} {v : Value} {l : List Pt} (h : PtsZ w Z v l) (ht : TurnF F w w') (hF : ∀ b,Z b → ¬ F b) : PtsZ w' Z v l := by
 obtain ⟨h2,A,c,e,h5⟩ := h;refine ⟨h2,A,c,e,fun hn => ?_⟩
 obtain ⟨b,off,ea,hz,hb,hc⟩ := h5 hn;exact ⟨b,off,ea,hz,Nat.lt_of_lt_of_le hb ht.size,fun k u hk => (ht.cell (p := ⟨b,off + k,none⟩) hb (hF b hz)).trans (hc k u hk)⟩
theorem PtsZ.more {w : World} {Z Z' : Nat → Prop} {v : Value} {l : List Pt} (h : PtsZ w Z v l) (hZ : ∀ b,b < w.heap.size → Z b → Z' b) : PtsZ w Z' v l := by
 obtain ⟨h2,A,c,e,h5⟩ := h;exact ⟨h2,A,c,e,h5.more hZ⟩
theorem PtsZ.pts {w : World} {Z : Nat → Prop} {v : Value} {l : List Pt} (h : PtsZ w Z v l) : ∃ A c,v = .slice A l.length c ∧ PtsAt w w.heap.size A l.length l := by
 obtain ⟨h2,A,c,e,h5⟩ := h;refine ⟨A,c,e,rfl,fun hn => ?_⟩
 obtain ⟨b,off,ea,_,hb,hc⟩ := h5 (by rw [ptcells_len];omega)
 refine ⟨b,off,ea,hb,fun k p hk => ?_⟩
 obtain ⟨c0,c1⟩ := ptcells_at l k p hk;exact ⟨hc _ _ c0,by rw [Nat.add_assoc];exact hc _ _ c1⟩
def mcell (p : Int × Mi) : List Value := [.int .i64 p.1,.int .i64 p.2.ob.kind,p.2.ov]
def mcells (l : List (Int × Mi)) : List Value := l.flatMap mcell
structure MrAt (w : World) (Y Z : Nat → Prop) (mb : Nat) (L : List (Int × Mi)) : Prop where
 rw : ∃ sv,Blk w mb 64 #[sv] ∧ w.ownsRow 0 52 3 sv L.length (mcells L) ∧ ∀ g,sv.ownBlock = some g → Z g
 zm : Z mb
 ny : ¬ Y mb
 pts : ∀ p ∈ L,PtsZ w Y p.2.ov p.2.ob.pts
 rise : Rising L
 lim : ∀ b,Y b ∨ Z b → b < w.heap.size
theorem MrAt.turn {w w' : World} {Y Z F : Nat → Prop} {mb : Nat} {L : List (Int × Mi)} (h : MrAt w Y Z mb L) (ht : TurnF F w w') (hF : ∀ b,Y b ∨ Z b → ¬ F b) : MrAt w' Y Z mb L := by
 obtain ⟨sv,h1,h2,h3⟩ := h.rw;refine ⟨⟨sv,ht.blk h1 (hF _ (.inr h.zm)),?_,h3⟩,h.zm,h.ny,fun p hp => (h.pts p hp).turn ht fun b hb => hF b (.inl hb),h.rise,fun b hb => Nat.lt_of_lt_of_le (h.lim b hb) ht.size⟩
 refine ⟨h2.1,?_⟩
 rcases h2.2 with q | ⟨g,cap,cur,rfl,r1,r2,r3⟩
 · exact .inl q
 · exact .inr ⟨g,cap,cur,rfl,r1,(ht.block g (Array.getElem?_eq_some_iff.1 r2).1 (hF g (.inr (h3 g rfl)))).trans r2,r3⟩
theorem MrAt.tr {w w' : World} {Y Z : Nat → Prop} {mb : Nat} {L : List (Int × Mi)} (h : MrAt w Y Z mb L) (hb : Below w.heap.size w w') : MrAt w' Y Z mb L := h.turn ((TurnF.refl (fun _ => False) w).below hb) (fun _ _ q => q)
theorem mcells_append (l m : List (Int × Mi)) : mcells (l ++ m) = mcells l ++ mcells m := by unfold mcells;rw [List.flatMap_append]
theorem mcells_at {l : List (Int × Mi)} : ∀ {k : Nat} {p : Int × Mi},l[k]? = some p → (mcells l)[k * 3]? = some (.int .i64 p.1) ∧ (mcells l)[k * 3 + 1]? = some (.int .i64 p.2.ob.kind) ∧ (mcells l)[k * 3 + 2]? = some p.2.ov := by
 induction l with
 | nil => intro k p h;simp at h
 | cons x r ih =>
   intro k p h
   rw [show mcells (x :: r) = mcell x ++ mcells r from rfl]
   cases k with
   | zero =>
     simp at h
     subst h;exact ⟨rfl,rfl,rfl⟩
   | succ k =>
     obtain ⟨h0,h1,h2⟩ := ih (k := k) (p := p) (by simpa using h)
     have e : ∀ j,(mcell x ++ mcells r)[(k + 1) * 3 + j]? = (mcells r)[k * 3 + j]? := fun j => by
      rw [List.getElem?_append_right (by simp [mcell];omega)]
      congr 1
      simp [mcell]
      omega
     exact ⟨by rw [show (k + 1) * 3 = (k + 1) * 3 + 0 by omega,e 0];exact h0,by rw [e 1];exact h1,by rw [e 2];exact h2⟩
theorem mrow_at {w : World} {v : Value} {l : List (Int × Mi)} (h : w.ownsRow 0 52 3 v l.length (mcells l)) {k : Nat} {p : Int × Mi} (hk : l[k]? = some p) :
 ∃ g c,v = .slice (some ⟨g,0,none⟩) l.length c ∧ g < w.heap.size ∧ w.cell? ⟨g,k * 3,none⟩ = some (.int .i64 p.1) ∧ w.cell? ⟨g,k * 3 + 1,none⟩ = some (.int .i64 p.2.ob.kind) ∧ w.cell? ⟨g,k * 3 + 2,none⟩ = some p.2.ov := by
 have hkl : k < l.length := (List.getElem?_eq_some_iff.1 hk).1;have h2 := h
 rcases h2.2 with ⟨_,h0⟩ | ⟨g,cap,cur,rfl,_,hg,_⟩
 · omega
 · obtain ⟨c0,c1,c2⟩ := mcells_at hk
   refine ⟨g,cap,rfl,(Array.getElem?_eq_some_iff.1 hg).1,?_,?_,?_⟩
   · rw [h.cellAt _ (by omega)];exact c0
   · rw [h.cellAt _ (by omega)];exact c1
   · rw [h.cellAt _ (by omega)];exact c2
theorem Tryz.infoMiM : (Tryz.prog.info? 52).map (fun i => (i.zero,i.size,i.bytes)) = some (some (.agg #[.int .i64 0,.int .i64 0,.slice none 0 0]),3,40) := by kernel_rfl
section
variable {w : World} {Y Z : Nat → Prop} {mb : Nat} {L : List (Int × Mi)}
theorem mplace_any (h : MrAt w Y Z mb L) (hn : L.length ≤ 1000000) (id : Int) :
 Calls Tryz.prog 43 #[gP mb,.int .i64 id] w fun e w' => ∃ r : Int,e = .returned (.int .i64 r) ∧ ((getK id L = none ∧ r = -1) ∨ ∃ (k : Nat) (p : Int × Mi),L[k]? = some p ∧ p.1 = id ∧ r = (k : Int)) ∧ Below w.heap.size w w' := by
 obtain ⟨sv,hB,hrow,_⟩ := h.rw;obtain ⟨A,c,rfl,hnc,hAn,hAb⟩ := row_form hrow;have HR := Lib.hid hrow;have b0 := hB.cell 0;simp only [lta,lcz] at b0;have bl := hB.lt;clear h hrow hnc hAn hAb hB;obtain ⟨n,hl⟩ : ∃ n,L.length = n := ⟨_,rfl⟩;have HL := Lib.hid hl;rw [hl] at hn b0 HR;clear hl
 simp only [gP]
 go_enter Tryz.func43,Tryz.ntmps43
 go_wp2_with fail
 go_loopw [5] (fun vi wr => ∃ i : Nat,i ≤ n ∧ vi = .int .i64 i ∧ (∀ j p,j < i → L[j]? = some p → p.1 ≠ id) ∧ Below w.heap.size w wr) (fun vi _ => n - (Go.RowKit.intOf vi).toNat)
 case atStart => exact ⟨0,by omega,rfl,fun j p hj => by omega,bel⟩
 case round =>
  obtain ⟨i,hi,rfl,hno,hb⟩ := hrel;have HNO := Lib.hid hno;obtain ⟨hc,hf⟩ := bcell hb;have hz := hb.size;have b0' := (hc mb _ bl).trans b0;have bl' : mb < wr.heap.size := by omega
  clear hno hf
  by_cases hlt : i < n
  case neg =>
   obtain rfl : n = i := by omega
   clear hc;go_wp2_with fail;go_ret;refine ⟨-1,rfl,.inl ⟨?_,rfl⟩,bel⟩;refine getK_none.2 fun p hp => ?_
   obtain ⟨j,hj⟩ := List.mem_iff_getElem?.1 hp;exact HNO.out j p (by have := (List.getElem?_eq_some_iff.1 hj).1;rw [HL.out] at this;exact this) hj
  have hi1 : (i : Int) < (n : Int) := by omega
  obtain ⟨p,hp⟩ : ∃ p,L[i]? = some p := ⟨L[i]'(by rw [HL.out];omega),List.getElem?_eq_getElem _⟩
  have hr := HR.out;rw [← HL.out] at hr;obtain ⟨g,c',hv,hgl,r0,_,_⟩ := mrow_at hr hp;rw [HL.out] at hv;injection hv with hv1 hv2 hv3
  subst hv1 hv3;rw [← hc g _ hgl] at r0;have hgw : g < wr.heap.size := by omega
  have HP := Lib.hid hp;clear hr hv2 hc hp;obtain ⟨pid,pmi⟩ := p
  simp only at r0
  by_cases he : pid = id
  · subst he
    go_wp2_with fail;go_ret;exact ⟨i,rfl,.inr ⟨i,_,⟨_,HP.out⟩,rfl,rfl⟩,bel⟩
  · have he' : (pid == id) = false := by rw [beq_eq_false_iff_ne];exact he
    have HE := Lib.hid he;clear he;go_wp2_with fail
    go_roundw
    case rel =>
     refine ⟨i + 1,by omega,by go_num,fun j q hj hq => ?_,bel⟩
     by_cases e : j = i
     · subst e
       rw [HP.out] at hq
       cases hq
       exact HE.out
     · exact HNO.out j q (by omega) hq
    case measure => simp [Go.RowKit.intOf];omega
end
def ckPut (id : Int) (o : Ob) : Nat := if ¬ (0 ≤ id ∧ id ≤ 1099511627776) then 1 else ckOb o
theorem ckPut_any (B n c : Nat) (id k : Int) (A : Option Addr) (l : List Pt) (w : World) (hl : PtsAt w B A n l) (hB : B ≤ w.heap.size) (hn : n ≤ 1000000) :
 Calls Tryz.prog 42 #[.agg #[.int .i64 1,.int .i64 id,.int .i64 k,.slice A n c]] w (Ret w (.int .i64 ((ckPut id ⟨k,l⟩ : Nat) : Int))) := by
 have HC := Lib.hid (fun W (hW : Below w.heap.size w W) => rcheck_any B n c k A l W (hl.below (hW.mono hB)) (Nat.le_trans hB hW.size) hn)
 obtain ⟨r,hr⟩ : ∃ r,ckPut id ⟨k,l⟩ = r := ⟨_,rfl⟩
 rw [hr]
 unfold ckPut at hr;rw [ckOb_eq] at hr;clear hl
 by_cases h : 0 ≤ id ∧ id ≤ 1099511627776
 · rw [if_neg (by simpa using h)] at hr
   have h0 : ¬ id < 0 := by omega
   have h1 : ¬ (1099511627776 : Int) < id := by omega
   rw [hr] at HC;clear hr h
   go_enter Tryz.func42, Tryz.ntmps42
   go_wp2_with (go_at_call 67;(refine (HC.out _ bel).mono ?_);rintro e w1 ⟨rfl,hb1⟩;obtain ⟨hc1,hf1⟩ := bcell hb1;have hz1 := hb1.size;(try simp at hz1))
   go_ret;exact ⟨rfl,bel⟩
 · rw [if_pos h] at hr
   subst hr;clear HC
   by_cases h0 : id < 0
   · clear h
     go_enter Tryz.func42, Tryz.ntmps42
     go_wp2;go_ret;exact ⟨rfl,bel⟩
   · have h1 : (1099511627776 : Int) < id := by omega
     clear h
     go_enter Tryz.func42, Tryz.ntmps42
     go_wp2;go_ret;exact ⟨rfl,bel⟩
def putE (L : List (Int × Mi)) (id : Int) (o : Ob) : Nat := if ckPut id o ≠ 0 then ckPut id o else if (getK id L).isSome then 6 else 0
def putL (L : List (Int × Mi)) (id : Int) (o : Ob) (ov : Value) : List (Int × Mi) := if putE L id o = 0 then putK id ⟨o,ov⟩ L else L
def AppM (w w' : World) (Y Z : Nat → Prop) (mb : Nat) (L' : List (Int × Mi)) : Prop := MrAt w' Y (fun x => Z x ∨ (w.heap.size ≤ x ∧ x < w'.heap.size)) mb L' ∧ TurnF (fun x => x = mb) w w'
theorem AppM.same {w w' : World} {Y Z : Nat → Prop} {mb : Nat} {L : List (Int × Mi)} (h : MrAt w Y Z mb L) (hb : Below w.heap.size w w') : AppM w w' Y Z mb L := by
 have h' := h.tr hb;refine ⟨?_,(TurnF.refl _ w).below hb⟩;obtain ⟨sv,h1,h2,h3⟩ := h'.rw
 exact ⟨⟨sv,h1,h2,fun g q => .inl (h3 g q)⟩,.inl h'.zm,h'.ny,h'.pts,h'.rise,fun b q => by
  rcases q with q | q | q
  · exact h'.lim b (.inl q)
  · exact h'.lim b (.inr q)
  · exact q.2⟩
theorem AppM.put {w W w' : World} {Y Z : Nat → Prop} {mb : Nat} {L L' : List (Int × Mi)} {v : Value} (h : MrAt w Y Z mb L) (hb : Below w.heap.size w W) (hrow : W.ownsRow w.heap.size 52 3 v L'.length (mcells L')) (hp : ∀ p ∈ L',PtsZ w Y p.2.ov p.2.ob.pts) (hr : Rising L') (hw : w' = W.setCell ⟨mb,0,none⟩ v) : AppM w w' Y Z mb L' := by
 subst hw;have ht : TurnF (fun x => x = mb) w (W.setCell ⟨mb,0,none⟩ v) := ((TurnF.refl (fun x => x = mb) w).below hb).set_ (F := fun x => x = mb) (p := ⟨mb,0,none⟩) (.inl rfl) v
 obtain ⟨sv,h1,_,_⟩ := h.rw;have hml := h.lim mb (.inr h.zm);have hs : (W.setCell ⟨mb,0,none⟩ v).heap.size = W.heap.size := by simp
 refine ⟨⟨⟨v,?_,?_,?_⟩,.inl h.zm,h.ny,fun p hp' => (hp p hp').turn ht (fun b hb q => h.ny (q ▸ hb)),hr,?_⟩,ht⟩
 · exact ((h1.tr hb).set_ 0 v).eq_ (by simp)
 · exact own_lower (own_kept hrow (grown_set W ⟨mb,0,none⟩ v) (fun g hg q => by
    cases hg
    have := (hrow.lt _ q).1
    simp only at this
    omega)) (Nat.zero_le _)
 · intro g q
   have := hrow.lt g q;exact .inr ⟨this.1,by rw [hs];exact this.2⟩
 · intro b q
   have hz := hb.size
   rw [hs]
   rcases q with q | q | q
   · have := h.lim b (.inl q);omega
   · have := h.lim b (.inr q);omega
   · rw [hs] at q;exact q.2
section
variable {w : World} {Y Z : Nat → Prop} {mb : Nat} {L : List (Int × Mi)}
theorem blk_kept_own {w1 w2 : World} {g base size n : Nat} {t e : TypeId} {cs : Array Value} {v : Value} {xs : List Value} (h : Blk w1 g t cs) (ho : w1.ownsRow base e size v n xs) (hg : w1.grownBy w2 v.ownBlock) (hb : g < base) : Blk w2 g t cs := h.kept hg fun q => by
 have := (ho.lt g q).1
 omega
theorem appM_step {wr W w7 : World} {t e : TypeId} {cs : Array Value} {v : Value} {n size : Nat} {xs : List Value} (hb : Below w.heap.size w wr) (hW : Below wr.heap.size wr W) (hBC : Blk wr w.heap.size t cs) (hro : wr.ownsRow (w.heap.size + 1) e size v n xs) (hg : W.grownBy w7 v.ownBlock) : Blk w7 w.heap.size t cs ∧ Below w.heap.size w w7 := by
 have hz := hb.size;have hz2 := hW.size;exact ⟨blk_kept_own (hBC.tr hW) (own_kept hro (grown_below hW) (by simp)) hg (by omega),(hb.trans (hW.mono hz)).grown hg (by omega) fun k hk => by have := (hro.lt k hk).1;omega⟩
theorem mrow_app {w7 : World} {B : Nat} {v' : Value} {l : List (Int × Mi)} {p : Int × Mi} (h : w7.ownsRow B 52 3 v' (l.length + 1) (mcells l ++ [.int .i64 p.1,.int .i64 p.2.ob.kind,p.2.ov])) : w7.ownsRow B 52 3 v' (l ++ [p]).length (mcells (l ++ [p])) := by
 rw [mcells_append,List.length_append,List.length_singleton]
 exact h
theorem mrow_nil (w : World) (B : Nat) : w.ownsRow B 52 3 (.slice none 0 0) ([] : List (Int × Mi)).length (mcells []) := World.ownsRow_nil _ _ _ _
theorem three_atM {w : World} {a b c : Value} {t : TypeId} : ∀ (j : Nat) (v : Value),[a,b,c][j]? = some v → (w.alloc (.cells #[a,b,c] t)).cell? ((⟨w.heap.size,0,none⟩ : Addr).add j) = some v := three_atG
theorem applyPut_any (h : MrAt w Y Z mb L) (hn : L.length ≤ 100000) (id k : Int) (A : Option Addr) (n c : Nat) (l : List Pt) (hl : l.length = n) (hp : PtsZ w Y (.slice A n c) l) :
 Calls Tryz.prog 20 #[gP mb,.agg #[.int .i64 1,.int .i64 id,.int .i64 k,.slice A n c]] w fun e w' => e = .returned (.int .i64 ((putE L id ⟨k,l⟩ : Nat) : Int)) ∧ AppM w w' Y Z mb (putL L id ⟨k,l⟩ (.slice A n c)) := by
 obtain ⟨i0,hi,iz0,iz1,iz2⟩ := info_parts Tryz.infoMiM;obtain ⟨sv,hB,hrow,hsz⟩ := h.rw;obtain ⟨A',c',rfl,hnc,hAn,hAb⟩ := row_form hrow;have b0 := hB.cell 0;simp only [lta,lcz] at b0;have bl := hB.lt;have fB := hB.frozen;have hn1 : n ≤ 1000000 := by rw [← hl];exact hp.1
 have hpa : PtsAt w w.heap.size A n l := by
  obtain ⟨A1,c1,e,hp1⟩ := hp.pts;injection e with e1 e2 e3
  rw [e1, ← hl]
  exact hp1
 have HC := Lib.hid (fun W (hW : Below w.heap.size w W) => ckPut_any w.heap.size n c id k A l W (hpa.below hW) hW.size hn1)
 have HPl := Lib.hid (fun W (hW : Below w.heap.size w W) => mplace_any (h.tr hW) (by omega) id)
 have HH := Lib.hid h;have HR := Lib.hid hrow;have HP := Lib.hid hp;obtain ⟨m,hm⟩ : ∃ m,L.length = m := ⟨_,rfl⟩;have HM := Lib.hid hm;rw [hm] at b0 HR hn;clear h hB hrow hsz hnc hAn hAb hp hpa hm hl
 by_cases hck : ckPut id ⟨k,l⟩ = 0
 case neg =>
  have he : putE L id ⟨k,l⟩ = ckPut id ⟨k,l⟩ := by unfold putE;rw [if_pos hck]
  have hL' : putL L id ⟨k,l⟩ (.slice A n c) = L := by unfold putL;rw [if_neg (by rw [he];exact hck)]
  rw [he, hL']
  clear he hL';obtain ⟨r,hr⟩ : ∃ r,ckPut id ⟨k,l⟩ = r := ⟨_,rfl⟩
  rw [hr] at hck HC ⊢
  have hck' : ((r : Nat) : Int) ≠ 0 := by omega
  have hck2 : ((r : Int) == 0) = false := by rw [beq_eq_false_iff_ne];exact hck'
  clear hr hck
  simp only [gP]
  go_enter Tryz.func20, Tryz.ntmps20
  go_wp2_with (go_at_call 42;(refine (HC.out _ bel).mono ?_);rintro e w1 ⟨rfl,hb1⟩;obtain ⟨hc1,hf1⟩ := bcell hb1;have hz1 := hb1.size;(try simp at hz1))
  go_ret;exact ⟨rfl,AppM.same HH.out bel⟩
 rw [hck] at HC
 cases hgt : getK id L with
 | some y =>
   have he : putE L id ⟨k,l⟩ = 6 := by unfold putE;rw [if_neg (by simpa using hck),hgt];rfl
   have hL' : putL L id ⟨k,l⟩ (.slice A n c) = L := by unfold putL;rw [if_neg (by rw [he];decide)]
   rw [he, hL']
   clear he hL' hck;have HG := Lib.hid hgt;clear hgt
   simp only [gP] at *
   go_enter Tryz.func20, Tryz.ntmps20
   go_wp2_with (first | (go_at_call 42;(refine (HC.out _ bel).mono ?_);rintro e w1 ⟨rfl,hb1⟩;obtain ⟨hc1,hf1⟩ := bcell hb1;have hz1 := hb1.size;(try simp at hz1);have hy0 : w.heap.size < w1.heap.size := (by omega)) | (go_at_call 43;(refine (HPl.out _ bel).mono ?_);rintro e w2 ⟨r,rfl,hr,hb2⟩;have hr0 : (0 : Int) ≤ r := (by rcases hr with ⟨q,_⟩ | ⟨j,_,_,_,rfl⟩;rw [HG.out] at q;cases q;omega);clear hr;obtain ⟨hc2,hf2⟩ := bcell hb2;have hz2 := hb2.size;(try simp at hz2);have hy2 : w.heap.size < w2.heap.size := (by omega)))
   go_ret;exact ⟨rfl,AppM.same HH.out bel⟩
 | none =>
   have he : putE L id ⟨k,l⟩ = 0 := by unfold putE;rw [if_neg (by simpa using hck),hgt];rfl
   have hL' : putL L id ⟨k,l⟩ (.slice A n c) = insK id ⟨⟨k,l⟩,.slice A n c⟩ L := by unfold putL putK;rw [if_pos he,delK_none hgt]
   rw [he, hL']
   obtain ⟨x,hx⟩ : ∃ x : Mi,(⟨⟨k,l⟩,.slice A n c⟩ : Mi) = x := ⟨_,rfl⟩;have HX := Lib.hid hx
   rw [hx]
   clear hx;clear he hL' hck;have HG := Lib.hid hgt;clear hgt
   simp only [gP] at *
   go_enter Tryz.func20, Tryz.ntmps20
   go_wp2_with (first | (go_at_call 42;(refine (HC.out _ bel).mono ?_);rintro e w1 ⟨rfl,hb1⟩;obtain ⟨hc1,hf1⟩ := bcell hb1;have hz1 := hb1.size;(try simp at hz1);have hy0 : w.heap.size < w1.heap.size := (by omega)) | (go_at_call 43;(refine (HPl.out _ bel).mono ?_);rintro e w2 ⟨r,rfl,hr,hb2⟩;obtain rfl : r = -1 := (by rcases hr with ⟨_,q⟩ | ⟨j,p,hj,hp,_⟩;exact q;exact absurd hp (getK_none.1 HG.out p (List.mem_of_getElem? hj)));clear hr;obtain ⟨hc2,hf2⟩ := bcell hb2;have hz2 := hb2.size;(try simp at hz2);have hy2 : w.heap.size < w2.heap.size := (by omega)))
   refine wp_genG (fun w3 => Blk w3 w.heap.size 67 #[.int .i64 1,.int .i64 id,.int .i64 k,.slice A n c] ∧ Below w.heap.size w w3) ⟨blkA,bel⟩ ?_
   clear hc2 hf2 hb2 hz2 hy2 hb1 hc1 hf1 hz1 hy0;rintro w3 ⟨hBC3,hb3⟩
   go_loopw [7, 8, 9] (fun vl vd vi wr => ∃ i : Nat, i ≤ m ∧ vi = .int .i64 i ∧ vd = .bool ((L.take i).any fun p => decide (id < p.1)) ∧ wr.ownsRow (w.heap.size + 1) 52 3 vl (putG id x (L.take i)).length (mcells (putG id x (L.take i))) ∧ Blk wr w.heap.size 67 #[.int .i64 1, .int .i64 id, .int .i64 k, .slice A n c] ∧ Below w.heap.size w wr) (fun _ _ vi _ => m - (Go.RowKit.intOf vi).toNat)
   case atStart => exact ⟨0, Nat.zero_le _, rfl, rfl, mrow_nil _ _, hBC3, hb3⟩
   case round =>
    clear hBC3 hb3;obtain ⟨i,him,rfl,rfl,hro,hBC,hb⟩ := hrel
    have hln : (putG id x (L.take i)).length ≤ m + 1 := by
     unfold putG
     split
     · rw [insK_len,List.length_take];omega
     · rw [List.length_take];omega
    have HLn := Lib.hid (And.intro hln hn);obtain ⟨Av,cv,rfl,_,_,_⟩ := row_form hro;have HRO := Lib.hid hro;obtain ⟨hc,hf⟩ := bcell hb;have hz := hb.size;have HZ := Lib.hid hz;have b0' := (hc mb _ bl).trans b0;have fB' := fun o => (hf mb o bl).trans (fB o)
    have bl' : mb < wr.heap.size := by omega
    have q0 := hBC.cell;have ql := hBC.lt;clear hro hln
    by_cases hlt : i < m
    case neg =>
     obtain rfl : m = i := by omega
     have htk : L.take m = L := List.take_of_length_le (by rw [HM.out];omega)
     have hend := putG_end (id := id) (v := x) (m := L);rw [htk] at HRO HLn
     rw [htk]
     have HEND := Lib.hid hend
     have hput : Hid (∀ W w' (v : Value),Below w.heap.size w W → W.ownsRow w.heap.size 52 3 v (insK id x L).length (mcells (insK id x L)) → w' = W.setCell ⟨mb,0,none⟩ v → AppM w w' Y Z mb (insK id x L)) := fun W w' v hW hro hw => AppM.put HH.out hW hro (fun p hp => by
      rcases mem_insK.1 hp with q | q
      · rw [q,← HX.out];exact HP.out
      · exact HH.out.pts p q) (insK_rising HH.out.rise (getK_none.1 HG.out)) hw
     clear htk hend
     cases hd : L.any fun p => decide (id < p.1) with
     | true =>
       have hpe : putG id x L = insK id x L := by have := HEND.out;rw [if_pos hd] at this;exact this
       rw [hpe] at HRO HLn
       rw [hpe]
       clear hpe hd;go_wp2_with fail;go_ret;exact ⟨rfl,hput.out wr _ _ hb (own_lower HRO.out (by omega)) rfl⟩
     | false =>
       have hpe : putG id x L ++ [(id,x)] = insK id x L := by have := HEND.out;rw [if_neg (by rw [hd];decide)] at this;exact this
       have HPE := Lib.hid hpe;clear hpe hd
       go_wp2_with (at_builtin;go_must (refine wpList_append_own _ rfl _ _ 22 rfl (w.heap.size + 1) 52 i0 (.agg #[.int .i64 0,.int .i64 0,.slice none 0 0]) 3 40 Tryz.underlying22 hi iz0 iz1 iz2 rfl (by decide) _ _ _ rfl (own_kept HRO.out (grown_below bel) (by simp)) _ _ _ _ rfl rfl three_atM ?c2 ?c3 ?c4 ?c5 ?_))
       case c2 => simp [Value.oneCell']
       case c3 => have := HLn.out;try simp;unfold maxLen;omega
       case c4 => have := HLn.out;try simp;omega
       case c5 => have := HZ.out;simp;omega
       intro v7 w7 hown hgrow _;obtain ⟨hBC7,hb7⟩ := appM_step hb bel hBC HRO.out hgrow;have HRO7 := Lib.hid (mrow_app (p := (id,x)) (by rw [← HX.out];exact hown))
       clear hown hgrow;rw [HPE.out] at HRO7;obtain ⟨A7,c7,rfl,_,_,_⟩ := row_form HRO7.out;have m7 : mb < w7.heap.size := Nat.lt_of_lt_of_le bl hb7.size;have b7 := ((bcell hb7).1 mb _ bl).trans b0;have f7 := fun o => ((bcell hb7).2 mb o bl).trans (fB o)
       clear b0' fB' bl' q0 ql hc hf hBC hBC7;go_wp2_with fail;go_ret;exact ⟨rfl,hput.out w7 _ _ hb7 (own_lower HRO7.out (by omega)) rfl⟩
    have hi1 : (i : Int) < (m : Int) := by omega
    have hi2 : ((i : Int) != -1) = true := by first | (simp;done) | (simp;omega)
    obtain ⟨p,hp⟩ : ∃ p,L[i]? = some p := ⟨L[i]'(by rw [HM.out];omega),List.getElem?_eq_getElem _⟩
    have hr := HR.out;rw [← HM.out] at hr;obtain ⟨g,c9,hv,hgl,r0,r1,r2⟩ := mrow_at hr hp;rw [HM.out] at hv;injection hv with hv1 hv2 hv3
    subst hv1 hv3;have HR0 := Lib.hid (And.intro r0 (And.intro r1 r2));rw [← hc g _ hgl] at r0 r1 r2;have hgw : g < wr.heap.size := by omega
    obtain ⟨_,Ap,cp,ep,_⟩ := HH.out.pts p (List.mem_of_getElem? hp);rw [ep] at r2;have HEP := Lib.hid ep;have hsn := putG_snoc (id := id) (v := x) (p := p) (m := L.take i);have htk : L.take (i + 1) = L.take i ++ [p] := by rw [List.take_add_one,hp];rfl
    have HTK := Lib.hid htk;have hany : ((L.take (i + 1)).any fun p => decide (id < p.1)) = (((L.take i).any fun p => decide (id < p.1)) || decide (id < p.1)) := by rw [htk,List.any_append];simp
    have HANY := Lib.hid hany;rw [← htk] at hsn;have HSN := Lib.hid hsn;clear hr hv2 hp ep hc hf hsn htk hany
    cases hd : (L.take i).any fun p => decide (id < p.1) with
    | true =>
      have HD := Lib.hid hd;clear hd;go_wp2_with fail;refine wp_region_belowI (by kernel_rfl) (by kernel_rfl) (fun _ _ d _ _ h => by cases d <;> exact h) ?_
      simp only [List.map_cons, List.map_nil, ldz, lds, bare, gslot, lcz, lcs, Option.bind_some]
      repeat' ((try simp only [Act.put,lsi,lsz,lss]);first | (refine lexL_on ?_ ?_;focus (simp only [lta,lcs,lcz,Bool.not_true,Bool.not_false];done)) | (refine lexL_off ?_ ?_ ?_;(focus (simp only [lta,lcs,lcz,Bool.not_true,Bool.not_false];done));(focus (exact bel))) | (refine lexL_splitS (X := ?_) ?_ ?_ (fun hg => ?_) (fun hg => ?_);rotate_left;(focus (simp only [lta,lcs,lcz];with_reducible rfl));(focus (exact bel));all_goals (try simp only [Bool.not_true,Bool.not_false] at hg)) | (refine lexL_quiet (v := ?_) wantB_none rfl ?_ ?_;rotate_left;focus (intro wq hq;obtain ⟨hcq,hfq⟩ := bcell hq;go_simp;try with_reducible rfl)) | (refine lexL_loud wantB_none rfl (fun K hK => ?_);go_simp;((first |  fail | skip) <;> (refine hK.out _ _ bel ?_;clear hK K))))
      (all_goals try simp only [Act.put,lsi,lsz,lss]);all_goals (refine lexL_nil ?_)
      go_wp2_with (at_builtin;go_must (refine wpList_append_own _ rfl _ _ 22 rfl (w.heap.size + 1) 52 i0 (.agg #[.int .i64 0,.int .i64 0,.slice none 0 0]) 3 40 Tryz.underlying22 hi iz0 iz1 iz2 rfl (by decide) _ _ _ rfl (own_kept HRO.out (grown_below bel) (by simp)) _ _ _ _ rfl rfl three_atM ?c2 ?c3 ?c4 ?c5 ?_))
      case c2 => simp [Value.oneCell']
      case c3 => have := HLn.out;try simp;unfold maxLen;omega
      case c4 => have := HLn.out;try simp;omega
      case c5 => have := HZ.out;simp;omega
      intro v7 w7 hown hgrow _;obtain ⟨hBC7,hb7⟩ := appM_step hb bel hBC HRO.out hgrow;have HRO7 := Lib.hid (mrow_app (p := p) (by rw [HEP.out];exact hown))
      clear hown hgrow;go_wp2
      go_roundw
      case rel =>
       refine ⟨i + 1,by omega,by go_num,by rw [HANY.out,HD.out];rfl,?_,hBC7,hb7⟩
       rw [HSN.out, if_pos HD.out]
       exact HRO7.out
      case measure => simp [Go.RowKit.intOf];omega
    | false =>
      have HD := Lib.hid hd;clear hd
      by_cases hlp : id < p.1
      · have hlp' : decide (id < p.1) = true := decide_eq_true hlp
        have HLP := Lib.hid hlp;go_wp2_with fail;refine wp_region_belowI (by kernel_rfl) (by kernel_rfl) (fun _ _ d _ _ h => by cases d <;> exact h) ?_
        simp only [List.map_cons, List.map_nil, ldz, lds, bare, gslot, lcz, lcs, Option.bind_some]
        repeat' ((try simp only [Act.put,lsi,lsz,lss]);first | (refine lexL_on ?_ ?_;focus (simp only [lta,lcs,lcz,Bool.not_true,Bool.not_false];done)) | (refine lexL_off ?_ ?_ ?_;(focus (simp only [lta,lcs,lcz,Bool.not_true,Bool.not_false];done));(focus (exact bel))) | (refine lexL_splitS (X := ?_) ?_ ?_ (fun hg => ?_) (fun hg => ?_);rotate_left;(focus (simp only [lta,lcs,lcz];with_reducible rfl));(focus (exact bel));all_goals (try simp only [Bool.not_true,Bool.not_false] at hg)) | (refine lexL_quiet (v := ?_) wantB_none rfl ?_ ?_;rotate_left;focus (intro wq hq;obtain ⟨hcq,hfq⟩ := bcell hq;go_simp;try with_reducible rfl)) | (refine lexL_loud wantB_none rfl (fun K hK => ?_);go_simp;((first |  fail | skip) <;> (refine hK.out _ _ bel ?_;clear hK K))))
        (all_goals try simp only [Act.put,lsi,lsz,lss]);all_goals (refine lexL_nil ?_)
        go_wp2_with (at_builtin;go_must (refine wpList_append_own _ rfl _ _ 22 rfl (w.heap.size + 1) 52 i0 (.agg #[.int .i64 0,.int .i64 0,.slice none 0 0]) 3 40 Tryz.underlying22 hi iz0 iz1 iz2 rfl (by decide) _ _ _ rfl (own_kept HRO.out (grown_below bel) (by simp)) _ _ _ _ rfl rfl three_atM ?c2 ?c3 ?c4 ?c5 ?_))
        case c2 => simp [Value.oneCell']
        case c3 => have := HLn.out;try simp;unfold maxLen;omega
        case c4 => have := HLn.out;try simp;omega
        case c5 => have := HZ.out;simp;omega
        intro v7 w7 hown hgrow _;obtain ⟨hBC7,hb7⟩ := appM_step hb bel hBC HRO.out hgrow;have HRO7 := Lib.hid (mrow_app (p := (id,x)) (by rw [← HX.out];exact hown))
        clear hown hgrow;have hl7 : (putG id x (L.take i) ++ [(id,x)]).length = (putG id x (L.take i)).length + 1 := by simp
        have HL7 := Lib.hid hl7;rw [hl7] at HRO7;clear hl7;obtain ⟨A7,c7,rfl,_,_,_⟩ := row_form HRO7.out;obtain ⟨hc7,hf7⟩ := bcell hb7;have hz7 := hb7.size;have HZ7 := Lib.hid hz7;have b7 := (hc7 mb _ bl).trans b0;have m7 : mb < w7.heap.size := by omega
        obtain ⟨r07,r17,r27⟩ := HR0.out;rw [HEP.out,← hc7 g _ hgl] at r27;rw [← hc7 g _ hgl] at r07 r17;have g7 : g < w7.heap.size := by omega
        have q7 := hBC7.cell;have ql7 := hBC7.lt;clear r0 r1 r2 b0' fB' bl' hgw q0 ql hBC hb hz hc7 hf7
        go_wp2_with (at_builtin;go_must (refine wpList_append_own _ rfl _ _ 22 rfl (w.heap.size + 1) 52 i0 (.agg #[.int .i64 0,.int .i64 0,.slice none 0 0]) 3 40 Tryz.underlying22 hi iz0 iz1 iz2 rfl (by decide) _ _ _ rfl (own_kept HRO7.out (grown_below bel) (by simp)) _ _ _ _ rfl rfl three_atM ?c2 ?c3 ?c4 ?c5 ?_))
        case c2 => simp [Value.oneCell']
        case c3 => have := HLn.out;simp;unfold maxLen;omega
        case c4 => have := HLn.out;simp;omega
        case c5 => have := HZ7.out;have := ql7;simp;omega
        intro v8 w8 hown hgrow _;obtain ⟨hBC8,hb8⟩ := appM_step hb7 bel hBC7 HRO7.out hgrow;have HRO8 := Lib.hid (mrow_app (l := putG id x (L.take i) ++ [(id,x)]) (p := p) (by rw [HEP.out,HL7.out];exact hown))
        clear hown hgrow;go_wp2
        go_roundw
        case rel =>
         refine ⟨i + 1,by omega,by go_num,by rw [HANY.out,HD.out,decide_eq_true HLP.out];rfl,?_,hBC8,hb8⟩
         rw [HSN.out,if_neg (by rw [HD.out];decide),if_pos HLP.out]
         have := HRO8.out;unfold putG at this
         rw [if_neg (by rw [HD.out];decide)] at this
         exact this
        case measure => simp [Go.RowKit.intOf];omega
      · have HLP := Lib.hid hlp
        go_wp2_with fail;refine wp_region_belowI (by kernel_rfl) (by kernel_rfl) (fun _ _ d _ _ h => by cases d <;> exact h) ?_
        simp only [List.map_cons, List.map_nil, ldz, lds, bare, gslot, lcz, lcs, Option.bind_some]
        repeat' ((try simp only [Act.put,lsi,lsz,lss]);first | (refine lexL_on ?_ ?_;focus (simp only [lta,lcs,lcz,Bool.not_true,Bool.not_false];done)) | (refine lexL_off ?_ ?_ ?_;(focus (simp only [lta,lcs,lcz,Bool.not_true,Bool.not_false];done));(focus (exact bel))) | (refine lexL_splitS (X := ?_) ?_ ?_ (fun hg => ?_) (fun hg => ?_);rotate_left;(focus (simp only [lta,lcs,lcz];with_reducible rfl));(focus (exact bel));all_goals (try simp only [Bool.not_true,Bool.not_false] at hg)) | (refine lexL_quiet (v := ?_) wantB_none rfl ?_ ?_;rotate_left;focus (intro wq hq;obtain ⟨hcq,hfq⟩ := bcell hq;go_simp;try with_reducible rfl)) | (refine lexL_loud wantB_none rfl (fun K hK => ?_);go_simp;((first |  fail | skip) <;> (refine hK.out _ _ bel ?_;clear hK K))))
        (all_goals try simp only [Act.put,lsi,lsz,lss]);all_goals (refine lexL_nil ?_)
        go_wp2_with (at_builtin;go_must (refine wpList_append_own _ rfl _ _ 22 rfl (w.heap.size + 1) 52 i0 (.agg #[.int .i64 0,.int .i64 0,.slice none 0 0]) 3 40 Tryz.underlying22 hi iz0 iz1 iz2 rfl (by decide) _ _ _ rfl (own_kept HRO.out (grown_below bel) (by simp)) _ _ _ _ rfl rfl three_atM ?c2 ?c3 ?c4 ?c5 ?_))
        case c2 => simp [Value.oneCell']
        case c3 => have := HLn.out;try simp;unfold maxLen;omega
        case c4 => have := HLn.out;try simp;omega
        case c5 => have := HZ.out;simp;omega
        intro v7 w7 hown hgrow _;obtain ⟨hBC7,hb7⟩ := appM_step hb bel hBC HRO.out hgrow;have HRO7 := Lib.hid (mrow_app (p := p) (by rw [HEP.out];exact hown))
        clear hown hgrow;go_wp2
        go_roundw
        case rel =>
         refine ⟨i + 1,by omega,by go_num,by rw [HANY.out,HD.out,decide_eq_false (Int.not_lt.2 HLP.out)];rfl,?_,hBC7,hb7⟩
         rw [HSN.out,if_neg (by rw [HD.out];decide),if_neg (Int.not_lt.2 HLP.out)]
         have := HRO7.out;unfold putG at this
         rw [if_neg (by rw [HD.out];decide)] at this
         rw [← HTK.out] at this;exact this
        case measure => simp [Go.RowKit.intOf];omega
end
end Go.Proofs.YtcbjmcnebmhgpaaGreat
