/-
  The verifier's classes, as a tree uses them: Penalty, and Make's error.
  Items that are handed in;a tree and the document's map side by side.
  pergolalaw18: made.
  pergolalaw22: made.
-/
import Derived.Test.YtcbjmcnebmhgpaaGreatKClsA
import Derived.Test.YtcbjmcnebmhgpaaGreatKGisJ
import Derived.Test.YtcbjmcnebmhgpaaGreatKRefN
set_option linter.unusedVariables false
set_option linter.unusedSimpArgs false
set_option maxHeartbeats 4000000
set_option maxRecDepth 20000
namespace Go.Proofs.YtcbjmcnebmhgpaaGreat
open Go Go.RowKit Pg
theorem cMakeP (v : Value) (w : World) : (Go.method 337 62 v "Penalty").run Tryz.prog w = .ok (159,v) w := by kernel_rfl
theorem cEntP (args : Array Value) (w : World) : (callFunc 159 args).run Tryz.prog w = .ok (.enter 159 args) w := by kernel_rfl
theorem penAt_cls (kd : Int) (bits : Nat) (one : Bool) (brk : Int) : PenAt 62 (clV kd bits one brk) 159 where
 mP := cMakeP _
 eP := cEntP
 pen := by
  intro W B n c n2 c2 A A2 l l2 hl h256 hl2 h2562 hB hn hnc hn2 hnc2 hA hA2;have HP := Lib.hid (fun W' (hW : Below W.heap.size W W') => rPen_any B n c n2 c2 A A2 l l2 W' (hl.tr hW hB) h256 (hl2.tr hW hB) h2562 (Nat.le_trans hB hW.size) hn hnc hn2 hnc2 hA hA2)
  clear hl h256 hl2 h2562
  by_cases h0 : kd = 0
  · subst h0
    go_enter Tryz.func159, Tryz.ntmps159
    go_wp2;go_ret;exact ⟨_,rfl,bel⟩
  · have h0' : (kd == 0) = false := by rw [beq_eq_false_iff_ne];exact h0
    clear h0
    go_enter Tryz.func159, Tryz.ntmps159
    go_wp2_with (go_at_call 164;(refine (HP.out _ bel).mono ?_);rintro e w1 ⟨rfl,hb1⟩;obtain ⟨hc1,hf1⟩ := bcell hb1;have hz1 := hb1.size;(try simp at hz1))
    go_ret;exact ⟨_,rfl,bel⟩
theorem makeE_cls (kd : Int) (bits : Nat) (one : Bool) (brk : Int) (hb : bits ≤ 20) : MakeE (clV kd bits one brk) (clsC kd bits one brk) 157 where
 make := by
  intro W B m c k A l hl hB hm hck;refine ((clAt_cls kd bits one brk hb).make W B m c k A l hl hB hm).mono ?_;rintro e w' ⟨s,v,rfl,h1,h2,_,h4⟩;have h0 : ((clsC kd bits one brk).make ⟨k,l⟩).1 = 0 := hck;exact ⟨s,v,rfl,h1,by rw [h0,h2 h0];exact .inl ⟨rfl,rfl⟩,h4⟩
theorem insE_cls (kd : Int) (bits : Nat) (one : Bool) (brk : Int) (t : Tr) (id : Int) (o : Ob) : insE (clsC kd bits one brk) t id o = if ckPut id o ≠ 0 then ckPut id o else if (getK id t.items).isSome then 6 else 0 := by
 unfold insE ckPut;have h0 : ((clsC kd bits one brk).make o).1 = ckOb o := rfl
 rw [h0]
 by_cases h : 0 ≤ id ∧ id ≤ 1099511627776
 · by_cases h1 : ckOb o = 0 <;> simp [h,h1]
 · simp [h]
def ItmsAt (w : World) (B : Nat) (A : Option Addr) (n : Nat) (l : List (Int × Ob)) : Prop :=
 l.length = n ∧ (0 < n → ∃ b off,A = some ⟨b,off,none⟩ ∧ b < B) ∧ ∀ (b off k : Nat) (p : Int × Ob),A = some ⟨b,off,none⟩ → l[k]? = some p → ∃ A' n' c',w.cell? ⟨b,off + k * 3,none⟩ = some (.int .i64 p.1) ∧ w.cell? ⟨b,off + k * 3 + 1,none⟩ = some (.int .i64 p.2.kind) ∧ w.cell? ⟨b,off + k * 3 + 2,none⟩ = some (.slice A' n' c') ∧ PtsAt w B A' n' p.2.pts
theorem ItmsAt.below {w w' : World} {B n : Nat} {A : Option Addr} {l : List (Int × Ob)} (h : ItmsAt w B A n l) (hb : Below B w w') : ItmsAt w' B A n l := by
 refine ⟨h.1,h.2.1,fun b off k p hA hp => ?_⟩
 obtain ⟨A',n',c',h1,h2,h3,h4⟩ := h.2.2 b off k p hA hp;have hk : k < l.length := (List.getElem?_eq_some_iff.1 hp).1;obtain ⟨b0,off0,e,hb0⟩ := h.2.1 (by rw [← h.1];omega)
 rw [hA] at e;injection e with e
 injection e with e1 e2
 subst e1;exact ⟨A',n',c',(hb.cell (p := ⟨b,off + k * 3,none⟩) hb0).trans h1,(hb.cell (p := ⟨b,off + k * 3 + 1,none⟩) hb0).trans h2,(hb.cell (p := ⟨b,off + k * 3 + 2,none⟩) hb0).trans h3,h4.below hb⟩
theorem ItmsAt.at_ {w : World} {B n : Nat} {A : Option Addr} {l : List (Int × Ob)} (h : ItmsAt w B A n l) {k : Nat} (hk : k < n) : ∃ b off p A' n' c',A = some ⟨b,off,none⟩ ∧ b < B ∧ l[k]? = some p ∧ w.cell? ⟨b,off + k * 3,none⟩ = some (.int .i64 p.1) ∧ w.cell? ⟨b,off + k * 3 + 1,none⟩ = some (.int .i64 p.2.kind) ∧ w.cell? ⟨b,off + k * 3 + 2,none⟩ = some (.slice A' n' c') ∧ PtsAt w B A' n' p.2.pts := by
 obtain ⟨b,off,e,hb⟩ := h.2.1 (by omega)
 have hk' : k < l.length := by rw [h.1];exact hk
 obtain ⟨A',n',c',h1,h2,h3,h4⟩ := h.2.2 b off k _ e (List.getElem?_eq_getElem hk');exact ⟨b,off,_,A',n',c',e,hb,List.getElem?_eq_getElem hk',h1,h2,h3,h4⟩
theorem turn_grown {w w' : World} {b : Nat} (h : TurnF (fun x => x = b) w w') : w.grownBy w' (some b) := ⟨h.os,h.tape,h.output,h.size,fun k hk hne => h.block k hk fun e => hne (by rw [e])⟩
theorem AppM.from {w W w' : World} {Y Z : Nat → Prop} {mb : Nat} {L : List (Int × Mi)} (h : AppM W w' Y Z mb L) (hW : Below w.heap.size w W) : AppM w w' Y Z mb L := by
 have hz := hW.size;obtain ⟨sv,h1,h2,h3⟩ := h.1.rw;refine ⟨⟨⟨sv,h1,h2,fun g q => (h3 g q).elim .inl fun k => .inr ⟨by omega,k.2⟩⟩,h.1.zm.elim .inl (fun k => .inr ⟨by omega,k.2⟩),h.1.ny,h.1.pts,h.1.rise,fun b q => ?_⟩,((TurnF.refl (fun x => x = mb) w).below hW).trans h.2 fun x q => .inl q⟩
 rcases q with q | q | q
 · exact h.1.lim b (.inl q)
 · exact h.1.lim b (.inr (.inl q))
 · exact q.2
theorem InsG.from {C : Cl} {cl : Value} {w W w' : World} {own imm : Nat → Prop} {tb mb : Nat} {t : Tr} {id : Int} {o : Ob} (h : InsG C cl W w' own imm tb mb t id o) (hW : Below w.heap.size w W) : InsG C cl w w' own imm tb mb t id o := by
 obtain ⟨t',own',imm',hA,hG,h3⟩ := h;exact ⟨t',own',imm',hA,(Grow.of_below hW).trans hG,h3⟩
theorem ptsZ_of {w : World} {B n c : Nat} {A : Option Addr} {l : List Pt} (h : PtsAt w B A n l) (hB : B ≤ w.heap.size) (hn : n ≤ 1000000) : PtsZ w (fun b => b < B) (.slice A n c) l := by
 refine ⟨by rw [h.1];exact hn,A,c,by rw [h.1],fun hp => ?_⟩
 have hn0 : 0 < n := by rw [ptcells_len,h.1] at hp;omega
 obtain ⟨b,off,rfl,hb,hc⟩ := h.2 hn0;refine ⟨b,off,rfl,hb,Nat.lt_of_lt_of_le hb hB,fun k u hk => ?_⟩
 have := pts_cells h hn0 k u hk
 rwa [show ((⟨b,off,none⟩ : Addr).add k) = ⟨b,off + k,none⟩ by unfold Addr.add;split <;> simp_all] at this
def obsT (m : List (Int × It)) : List (Int × Ob) := m.map fun p => (p.1,p.2.ob)
def obsM (m : List (Int × Mi)) : List (Int × Ob) := m.map fun p => (p.1,p.2.ob)
theorem delK_map {α β : Type} (f : α → β) (id : Int) (m : List (Int × α)) : delK id (m.map fun p => (p.1,f p.2)) = (delK id m).map fun p => (p.1,f p.2) := by
 unfold delK
 rw [List.filter_map]
 rfl
theorem putK_map {α β : Type} (f : α → β) (id : Int) (v : α) (m : List (Int × α)) : putK id (f v) (m.map fun p => (p.1,f p.2)) = (putK id v m).map fun p => (p.1,f p.2) := by
 unfold putK
 rw [delK_map,insK_map]
theorem getK_map {α β : Type} (f : α → β) (id : Int) (m : List (Int × α)) : getK id (m.map fun p => (p.1,f p.2)) = (getK id m).map f := by
 induction m with
 | nil => rfl
 | cons p r ih =>
   rw [List.map_cons, getK_cons, getK_cons, ih]
   split <;> rfl
def putP (m : List (Int × Ob)) (p : Int × Ob) : List (Int × Ob) := if ckPut p.1 p.2 = 0 ∧ (getK p.1 m).isSome = false then putK p.1 p.2 m else m
def madeP (l : List (Int × Ob)) : List (Int × Ob) := l.foldl putP []
theorem madeP_take {l : List (Int × Ob)} {k : Nat} {p : Int × Ob} (h : l[k]? = some p) : madeP (l.take (k + 1)) = putP (madeP (l.take k)) p := by
 unfold madeP
 rw [List.take_add_one,h,List.foldl_append]
 rfl
theorem putP_len (m : List (Int × Ob)) (p : Int × Ob) : (putP m p).length ≤ m.length + 1 := by
 unfold putP
 split
 · exact putK_len _ _ _
 · omega
theorem madeP_len (l : List (Int × Ob)) : (madeP l).length ≤ l.length := by
 unfold madeP
 suffices ∀ m,(l.foldl putP m).length ≤ m.length + l.length by simpa using this []
 induction l with
 | nil => simp
 | cons a r ih =>
   intro m;have := ih (putP m a);have := putP_len m a
   simp only [List.foldl_cons, List.length_cons]
   omega
theorem putE_obs {L : List (Int × Mi)} {m : List (Int × Ob)} (h : obsM L = m) (id : Int) (o : Ob) : putE L id o = if ckPut id o ≠ 0 then ckPut id o else if (getK id m).isSome then 6 else 0 := by
 unfold putE
 rw [← h,obsM,getK_map]
 simp
theorem putL_obs {L : List (Int × Mi)} {m : List (Int × Ob)} (h : obsM L = m) (id : Int) (o : Ob) (ov : Value) : obsM (putL L id o ov) = putP m (id,o) := by
 unfold putL putP
 rw [putE_obs h]
 by_cases h1 : ckPut id o = 0
 · by_cases h2 : (getK id m).isSome = true
   · simp [h1, h2, h]
   · simp only [Bool.not_eq_true] at h2
     simp only [h1, h2, ne_eq, not_true, not_false_eq_true, if_false, if_true, and_self, Bool.false_eq_true]
     rw [← h]
     exact (putK_map (fun x : Mi => x.ob) id ⟨o,ov⟩ L).symm
 · simp [h1,h]
structure Side (C : Cl) (cl : Value) (w : World) (Y own imm Z : Nat → Prop) (tb mb mm : Nat) (t : Tr) (L : List (Int × Mi)) (m : List (Int × Ob)) : Prop where
 g : GAt C cl w own imm tb mb t
 r : MrAt w Y Z mm L
 ot : obsT t.items = m
 om : obsM L = m
 sep : ∀ b,own b ∨ imm b → ¬ (Y b ∨ Z b)
theorem GAt.kept {C : Cl} {cl : Value} {w w' : World} {own imm : Nat → Prop} {tb mb : Nat} {t : Tr} {row : Option Nat} (h : GAt C cl w own imm tb mb t) (hg : w.grownBy w' row) (hne : ∀ g,row = some g → ¬ own g ∧ ¬ imm g) : GAt C cl w' own imm tb mb t := ⟨h.lay.kept hg hne,h.shape,h.fill,h.keyed,h.fan4,h.fan16,h.its⟩
theorem Side.app {C : Cl} {cl : Value} {w w' : World} {Y own imm Z : Nat → Prop} {tb mb mm : Nat} {t : Tr} {L L' : List (Int × Mi)} {m : List (Int × Ob)} (h : Side C cl w Y own imm Z tb mb mm t L m) (ha : AppM w w' Y Z mm L') : GAt C cl w' own imm tb mb t ∧ MrAt w' Y (fun x => Z x ∨ (w.heap.size ≤ x ∧ x < w'.heap.size)) mm L' ∧ ∀ b,own b ∨ imm b → ¬ (Y b ∨ (Z b ∨ (w.heap.size ≤ b ∧ b < w'.heap.size))) := by
 refine ⟨h.g.kept (turn_grown ha.2) (fun g e => by cases e;exact ⟨fun q => h.sep _ (.inl q) (.inr h.r.zm),fun q => h.sep _ (.inr q) (.inr h.r.zm)⟩),ha.1,fun b hb q => ?_⟩
 have := h.g.lay.lim b hb
 rcases q with q | q | q
 · exact h.sep b hb (.inl q)
 · exact h.sep b hb (.inr q)
 · omega
theorem turn_belowM {F : Nat → Prop} {a b : World} {B : Nat} (h : TurnF F a b) (hF : ∀ k,F k → B ≤ k) (hB : B ≤ a.heap.size) : Below B a b :=
 ⟨h.os,h.tape,h.output,h.size,fun k hk => h.block k (Nat.lt_of_lt_of_le hk hB) fun q => by have := hF k q;omega⟩
section
variable {C : Cl} {cl : Value} {w w5 w6 : World} {Y own imm Z : Nat → Prop} {tb mb mm : Nat} {t : Tr} {L : List (Int × Mi)} {m : List (Int × Ob)} {id : Int} {o : Ob} {ov : Value}
theorem Side.step (h : Side C cl w Y own imm Z tb mb mm t L m) (ha : AppM w w5 Y Z mm (putL L id o ov)) (hE : putE L id o = 0) (hI : InsG C cl w5 w6 own imm tb mb t id o) (hins : insE C t id o = 0) :
 ∃ own' imm' Z' t',Side C cl w6 Y own' imm' Z' tb mb mm t' (putL L id o ov) (putP m (id,o)) ∧ t'.fan = t.fan ∧ (∀ b,own' b ∨ imm' b ∨ Z' b → own b ∨ imm b ∨ Z b ∨ w.heap.size ≤ b) ∧ TurnF (fun b => own b ∨ b = mm) w w6 := by
 obtain ⟨hg5,hr5,hs5⟩ := h.app ha;obtain ⟨t6,own6,imm6,hA6,hG6,hf6,_,hs6⟩ := hI;obtain ⟨x,hxo,hxi⟩ := hs6 hins;have hz5 := ha.2.size;have hz6 := hG6.size;have hr6 := hr5.turn hG6.turn (fun b hb q => hs5 b (.inl q) hb)
 refine ⟨own6,imm6,_,t6,⟨hA6,hr6,?_,putL_obs h.om id o ov,?_⟩,hf6,?_,?_⟩
 · rw [hxi,obsT,← putK_map (fun x : It => x.ob),hxo]
   have e1 : (t.items.map fun p => (p.1,p.2.ob)) = m := h.ot
   rw [e1]
   have e2 := putE_obs h.om id o;rw [hE] at e2;unfold putP
   by_cases h1 : ckPut id o = 0
   · by_cases h2 : (getK id m).isSome = true
     · simp [h1, h2] at e2
     · simp only [Bool.not_eq_true] at h2
       rw [if_pos ⟨h1, h2⟩]
   · rw [if_pos h1] at e2
     exact absurd e2.symm h1
 · intro b hb q
   have hlim : b < w5.heap.size := hr5.lim b q
   rcases hb with hb | hb
   · rcases hG6.oo b hb with k | k
     · exact hs5 b (.inl k) q
     · omega
   · rcases hG6.ii b hb with k | k
     · exact hs5 b (.inr k) q
     · omega
 · intro b hb
   rcases hb with hb | hb | hb
   · rcases hG6.oo b hb with k | k
     · exact .inl k
     · exact .inr (.inr (.inr (by omega)))
   · rcases hG6.ii b hb with k | k
     · exact .inr (.inl k)
     · exact .inr (.inr (.inr (by omega)))
   · rcases hb with k | k
     · exact .inr (.inr (.inl k))
     · exact .inr (.inr (.inr k.1))
 · have h1 : TurnF (fun b => own b ∨ b = mm) w w5 := (TurnF.refl (fun b => own b ∨ b = mm) w).trans ha.2 (fun x q => .inl (.inr q))
   exact h1.trans hG6.turn (fun x q => .inl (.inl q))
theorem Side.skip (h : Side C cl w Y own imm Z tb mb mm t L m) (ha : AppM w w5 Y Z mm (putL L id o ov)) (hE : putE L id o ≠ 0) :
 ∃ Z',Side C cl w5 Y own imm Z' tb mb mm t L (putP m (id,o)) ∧ (∀ b,Z' b → Z b ∨ w.heap.size ≤ b) ∧ TurnF (fun b => own b ∨ b = mm) w w5 := by
 obtain ⟨hg5,hr5,hs5⟩ := h.app ha;have hL : putL L id o ov = L := by unfold putL;rw [if_neg hE]
 have hm : putP m (id,o) = m := by
  have e := putL_obs h.om id o ov;rw [hL,h.om] at e;exact e.symm
 rw [hL] at hr5
 rw [hm]
 exact ⟨_,⟨hg5,hr5,h.ot,h.om,hs5⟩,fun b q => q.elim .inl fun k => .inr k.1,(TurnF.refl (fun b => own b ∨ b = mm) w).trans ha.2 (fun x q => .inl (.inr q))⟩
end
theorem ins_put {w : World} {Y own imm Z : Nat → Prop} {tb mb mm : Nat} {t : Tr} {L : List (Int × Mi)} {m : List (Int × Ob)} {cl : Value} {kd : Int} {bits : Nat} {one : Bool} {brk : Int} (h : Side (clsC kd bits one brk) cl w Y own imm Z tb mb mm t L m) (id : Int) (o : Ob) : insE (clsC kd bits one brk) t id o = putE L id o := by
 rw [insE_cls,putE_obs h.om]
 have e : getK id m = (getK id t.items).map It.ob := by rw [← h.ot,obsT,getK_map]
 rw [e]
 simp
theorem gAt_new {C : Cl} {cl : Value} {w : World} {own imm : Nat → Prop} {tb mb fan r : Nat} (h : Lay w own imm tb mb cl (newT fan r) (fun _ => False) fun _ => False) (h4 : 4 ≤ fan) (h16 : fan ≤ 16) : GAt C cl w own imm tb mb (newT fan r) := by
 refine ⟨h,newT_shape fan r,?_,?_,h4,h16,?_⟩
 · intro b l hb _
   simp only [newT] at hb ⊢
   split at hb
   · rename_i e
     cases hb
     exact ⟨by simp,fun q => absurd e q,fun _ q => by omega⟩
   · cases hb
 · intro b l u e hb hu
   simp [newT] at hu
 · intro id x hx
   simp [newT, getK_nil] at hx
theorem mrAt_new {w : World} {Y : Nat → Prop} {mm : Nat} (h : Blk w mm 64 #[.slice none 0 0]) (hY : ¬ Y mm) (hl : ∀ b,Y b → b < w.heap.size) : MrAt w Y (fun b => b = mm) mm [] :=
 ⟨⟨_,h,World.ownsRow_nil _ _ _ _,by simp [Value.ownBlock]⟩,rfl,hY,by simp,List.Pairwise.nil,fun b q => q.elim (hl b) fun q => by rw [q];exact h.lt⟩
def clJ (kd : Int) : Value := .iface 62 (clV kd 3 false 0)
def MadeJ (kd : Int) (w w' : World) (tb mm : Nat) (m : List (Int × Ob)) : Prop := ∃ mb own imm Z t L,Side (clsC kd 3 false 0) (clJ kd) w' (fun b => b < w.heap.size) own imm Z tb mb mm t L m ∧ t.fan = 4 ∧ ∀ b,own b ∨ imm b ∨ Z b → w.heap.size ≤ b
theorem made22_any (A : Option Addr) (n c : Nat) (l : List (Int × Ob)) (z : Int) (w : World) (hl : ItmsAt w w.heap.size A n l) (hn : n ≤ 1000) (hpts : ∀ p ∈ l,p.2.pts.length ≤ 1000000) :
 Calls Tryz.prog 9 #[.slice A n c,.int .i64 z] w fun e w' => ∃ tb mm,e = .returned (.tuple #[gP tb,gP mm,.bool true]) ∧ MadeJ (roundS z 4 : Nat) w w' tb mm (madeP l) ∧ Below w.heap.size w w' := by
 have HRo := Lib.hid (fun W => round_any z 4 (by decide) (by decide) W)
 generalize roundS z 4 = kn at *;obtain ⟨kd,hkd⟩ : ∃ kd : Int,(kn : Int) = kd := ⟨_,rfl⟩
 rw [hkd] at HRo ⊢
 clear hkd;simp only [show ((4 : Nat) : Int) = 4 from rfl] at HRo
 have HN := Lib.hid (fun W => new_any 62 (clV kd 3 false 0) 4 (by decide) (by decide) W)
 have HI := Lib.hid hl;have HP := Lib.hid hpts;have hlen := hl.1;have HLEN := Lib.hid hlen;clear hl hpts hlen
 go_enter Tryz.func9,Tryz.ntmps9
 go_wp2_with (first | (go_at_call 16;(with_reducible refine (HRo.out _).mono ?_);rintro e wz ⟨rfl,hbz⟩;obtain ⟨hcz,hfz⟩ := bcell hbz;have hzz := hbz.size;(try simp at hzz)) | (go_at_call 19;(refine (HN.out _).mono ?_);rintro e w1 ⟨tb,mb,r,own1,rfl,hL1,hown1,hb1⟩;have HL1 := Lib.hid (And.intro hL1 hown1);clear hL1 hown1;obtain ⟨hc1,hf1⟩ := bcell hb1;have hz1 : w.heap.size ≤ w1.heap.size := (show Below w.heap.size w w1 from bel).size;have hzz : w.heap.size ≤ wz.heap.size := (show Below w.heap.size w wz from bel).size;have HZZ := Lib.hid hzz;clear hzz))
 refine wp_genG (fun w2 => ∃ mm own imm Z t L,Side (clsC kd 3 false 0) (clJ kd) w2 (fun b => b < w.heap.size) own imm Z tb mb mm t L (madeP (l.take 0)) ∧ t.fan = 4 ∧ (∀ b,own b ∨ imm b ∨ Z b → w.heap.size ≤ b) ∧ mm = w1.heap.size ∧ Below w.heap.size w w2) ?_ ?_
 · have hLn := HL1.out.1
   have hs1 : w.heap.size ≤ w1.heap.size := hz1;refine ⟨w1.heap.size,own1,fun _ => False,fun b => b = w1.heap.size,newT 4 r,[],⟨gAt_new (hLn.tr bel) (by decide) (by decide),mrAt_new (Blk.new (by simp) rfl) (by omega) (fun b q => by simp;omega),rfl,rfl,?_⟩,rfl,?_,rfl,bel⟩
   · intro b hb q
     rcases hb with hb | hb
     · have h1 := HL1.out.2 b hb
       have hzz := HZZ.out;have h2 := hLn.lim b (.inl hb)
       rcases q with q | q <;> omega
     · exact hb
   · intro b hb
     rcases hb with hb | hb | hb
     · exact Nat.le_trans HZZ.out (HL1.out.2 b hb)
     · exact hb.elim
     · omega
 clear hc1 hf1 HL1;rintro w2 ⟨mm,own,imm,Z,t,L,hS,hf,hfr,hmm,hb2⟩
 rw [← hmm]
 clear hmm hb1 hz1
 simp only [gP]
 go_loopw [10] (fun vi wr => ∃ (i : Nat) (own imm Z : Nat → Prop) (t : Tr) (L : List (Int × Mi)),i ≤ n ∧ vi = .int .i64 i ∧ Side (clsC kd 3 false 0) (clJ kd) wr (fun b => b < w.heap.size) own imm Z tb mb mm t L (madeP (l.take i)) ∧ t.fan = 4 ∧ (∀ b,own b ∨ imm b ∨ Z b → w.heap.size ≤ b) ∧ Below w.heap.size w wr) (fun vi _ => n - (Go.RowKit.intOf vi).toNat)
 case atStart => exact ⟨0,own,imm,Z,t,L,Nat.zero_le _,rfl,hS,hf,hfr,hb2⟩
 case round =>
  clear hS hf hfr hb2;obtain ⟨i,own,imm,Z,t,L,hi,rfl,hS,hf,hfr,hb⟩ := hrel
  by_cases hlt : i < n
  case neg =>
   obtain rfl : n = i := by omega
   rw [List.take_of_length_le (by rw [HLEN.out];omega)] at hS
   have HS := Lib.hid (And.intro hS (And.intro hf hfr));clear hS hf hfr;go_wp2_with fail
   go_ret3
   exact ⟨_,_,rfl,⟨mb,own,imm,Z,t,L,HS.out.1,HS.out.2.1,HS.out.2.2⟩,bel⟩
  have hi1 : (i : Int) < (n : Int) := by omega
  have hz := hb.size;obtain ⟨b,off,p,A',n',c',rfl,hbw,hp,c0,c1,c2,hpt⟩ := (HI.out.below hb).at_ hlt;have hpn : n' ≤ 1000000 := by rw [← hpt.1];exact HP.out p (List.mem_of_getElem? hp)
  have hml : L.length ≤ 1000 := by
   have h1 : L.length = (madeP (l.take i)).length := by rw [← hS.om,obsM,List.length_map]
   have h2 := madeP_len (l.take i);rw [List.length_take] at h2
   omega
  have htl : t.items.length ≤ 1000 := by
   have h1 : t.items.length = (madeP (l.take i)).length := by rw [← hS.ot,obsT,List.length_map]
   have h2 : L.length = (madeP (l.take i)).length := by rw [← hS.om,obsM,List.length_map]
   omega
  obtain ⟨pid,ob⟩ := p;obtain ⟨pk,pl⟩ := ob
  simp only at c0 c1 c2 hpt
  have hb' : b < wr.heap.size := by omega
  have htake := madeP_take hp;have HTK := Lib.hid htake;have HS := Lib.hid (And.intro hS (And.intro hf hfr));have hap := fun W (hW : Below wr.heap.size wr W) => applyPut_any (hS.r.tr hW) (by omega) pid pk A' n' c' pl hpt.1 (ptsZ_of (hpt.below (hW.mono hz)) (Nat.le_trans hz hW.size) hpn)
  have HPT := Lib.hid hpt
  by_cases hE : putE L pid ⟨pk, pl⟩ = 0
  · have hin : insE (clsC kd 3 false 0) t pid ⟨pk,pl⟩ = 0 := by rw [ins_put hS];exact hE
    rw [hE] at hap;have HAp := Lib.hid hap;have HE := Lib.hid hE;have HIN := Lib.hid hin;clear hS hf hfr hap hpt hp htake hE hin
    simp only [gP, clJ] at *
    go_wp2_with fail;refine wp_region_belowB (w.heap.size) [0,1,2,3,4,5,6,7,8,9,10,11,12,13,14,15,16,17,18,19,20,21,22] (by kernel_rfl) (by kernel_rfl) (fun _ _ d _ _ h => by cases d <;> exact h) ?_
    simp only [List.map_cons, List.map_nil, ldz, lds, bare, gslot, lcz, lcs, Option.bind_some]
    repeat' ((try simp only [Act.put,lsi,lsz,lss]);first | (refine lexL_on ?_ ?_;focus (simp only [lta,lcs,lcz,Bool.not_true,Bool.not_false];done)) | (refine lexL_off ?_ ?_ ?_;(focus (simp only [lta,lcs,lcz,Bool.not_true,Bool.not_false];done));(focus (exact (by first | with_reducible exact swapB1 | with_reducible exact Below.drew swapB1 | exact bel)))) | (refine lexL_splitS (X := ?_) ?_ ?_ (fun hg => ?_) (fun hg => ?_);rotate_left;(focus (simp only [lta,lcs,lcz];with_reducible rfl));(focus (exact (by first | with_reducible exact swapB1 | with_reducible exact Below.drew swapB1 | exact bel)));all_goals (try simp only [Bool.not_true,Bool.not_false] at hg)) | (refine lexL_quiet (v := ?_) wantB_none rfl ?_ ?_;rotate_left;focus (intro wq hq;obtain ⟨hcq,hfq⟩ := bcellB hq;go_simp;try with_reducible rfl)) | (refine lexL_loud wantB_none rfl (fun K hK => ?_);go_simp;((first |  (go_at_call 20;(with_reducible refine (HAp.out _ bel).mono ?_);rintro e w5 ⟨rfl,ha5⟩;have hx5 : Below w.heap.size wr w5 := (Below.trans bel (turn_belowM ha5.2 (fun k q => by rw [q];exact HS.out.2.2 _ (.inr (.inr HS.out.1.r.zm))) (by first | exact hz | (simp;exact hz))));have HA5 := Lib.hid (ha5.from (show Below wr.heap.size wr _ from bel));have HIn := Lib.hid (fun W (hW : Below w5.heap.size w5 W) => Insert_any (clAt_cls kd 3 false 0 (by decide)) (penAt_cls kd 3 false 0) (makeE_cls kd 3 false 0 (by decide)) ((HS.out.1.app HA5.out).1.tr hW) (by omega) pid w.heap.size n' c' pk A' pl ((HPT.out.below hx5).below (hW.mono (Nat.le_trans hz hx5.size))) (Nat.le_trans (Nat.le_trans hz hx5.size) hW.size) hpn);clear ha5) | (go_at_call 21;(with_reducible refine (HIn.out _ bel).mono ?_);rintro e w6 ⟨v6,rfl,hx6,hI6⟩;rw [HIN.out] at hx6;obtain rfl := ErrX.zero hx6;have hI6' := hI6;have HI6 := Lib.hid (hI6.from (show Below w5.heap.size w5 _ from bel));obtain ⟨t7,own7,imm7,_,hG7,_⟩ := hI6';have hx6' : Below w.heap.size wr w6 := (Below.trans hx5 (Below.trans bel (turn_belowM hG7.turn (fun k q => HS.out.2.2 _ (.inl q)) (by first | exact Nat.le_trans hz hx5.size | (simp;exact Nat.le_trans hz hx5.size)))));clear hx6 hI6 hG7) | skip) <;> (refine hK.out _ _ (by first | with_reducible exact swapB1 | with_reducible exact Below.drew swapB1 | exact bel) ?_;clear hK K))))
    (all_goals try simp only [Act.put,lsi,lsz,lss]);all_goals (refine lexL_nil ?_)
    obtain ⟨own',imm',Z',t',hS',hf',hfr',_⟩ := HS.out.1.step HA5.out HE.out HI6.out HIN.out;have HS' := Lib.hid (And.intro hS' (And.intro hf' hfr'));have hbn : Below w.heap.size w w6 := hb.trans hx6';have HBN := Lib.hid hbn;clear hS' hf' hfr' hbn;go_wp2_with fail
    go_roundw
    case rel =>
     refine ⟨i + 1,own',imm',Z',t',_,by omega,by go_num,by rw [HTK.out];exact HS'.out.1,by rw [HS'.out.2.1];exact HS.out.2.1,fun b hb => ?_,HBN.out⟩
     rcases HS'.out.2.2 b hb with q | q | q | q
     · exact HS.out.2.2 b (.inl q)
     · exact HS.out.2.2 b (.inr (.inl q))
     · exact HS.out.2.2 b (.inr (.inr q))
     · omega
    case measure => simp [Go.RowKit.intOf];omega
  · obtain ⟨r, hr⟩ : ∃ r, putE L pid ⟨pk, pl⟩ = r := ⟨_, rfl⟩
    rw [hr] at hap;have hr0 : r ≠ 0 := by rw [← hr];exact hE
    have hr1 : ((r : Int) == 0) = false := by rw [beq_eq_false_iff_ne];omega
    have HAp := Lib.hid hap;have HE : Hid (r ≠ 0 ∧ putE L pid ⟨pk,pl⟩ = r) := ⟨hr0,hr⟩;clear hS hf hfr hap hpt hp htake hE hr hr0;simp only [gP] at HAp;go_wp2_with fail;refine wp_region_belowB (w.heap.size) [0,1,2,3,4,5,6,7,8,9,10,11,12,13,14,15,16,17,18,19,20,21,22] (by kernel_rfl) (by kernel_rfl) (fun _ _ d _ _ h => by cases d <;> exact h) ?_
    simp only [List.map_cons, List.map_nil, ldz, lds, bare, gslot, lcz, lcs, Option.bind_some]
    repeat' ((try simp only [Act.put,lsi,lsz,lss]);first | (refine lexL_on ?_ ?_;focus (simp only [lta,lcs,lcz,Bool.not_true,Bool.not_false];done)) | (refine lexL_off ?_ ?_ ?_;(focus (simp only [lta,lcs,lcz,Bool.not_true,Bool.not_false];done));(focus (exact (by first | with_reducible exact swapB1 | with_reducible exact Below.drew swapB1 | exact bel)))) | (refine lexL_splitS (X := ?_) ?_ ?_ (fun hg => ?_) (fun hg => ?_);rotate_left;(focus (simp only [lta,lcs,lcz];with_reducible rfl));(focus (exact (by first | with_reducible exact swapB1 | with_reducible exact Below.drew swapB1 | exact bel)));all_goals (try simp only [Bool.not_true,Bool.not_false] at hg)) | (refine lexL_quiet (v := ?_) wantB_none rfl ?_ ?_;rotate_left;focus (intro wq hq;obtain ⟨hcq,hfq⟩ := bcellB hq;go_simp;try with_reducible rfl)) | (refine lexL_loud wantB_none rfl (fun K hK => ?_);go_simp;((first |  (go_at_call 20;(with_reducible refine (HAp.out _ bel).mono ?_);rintro e w5 ⟨rfl,ha5⟩;have hx5 : Below w.heap.size wr w5 := (Below.trans bel (turn_belowM ha5.2 (fun k q => by rw [q];exact HS.out.2.2 _ (.inr (.inr HS.out.1.r.zm))) (by first | exact hz | (simp;exact hz))));have HA5 := Lib.hid (ha5.from (show Below wr.heap.size wr _ from bel));clear ha5) | skip) <;> (refine hK.out _ _ (by first | with_reducible exact swapB1 | with_reducible exact Below.drew swapB1 | exact bel) ?_;clear hK K))))
    (all_goals try simp only [Act.put,lsi,lsz,lss]);all_goals (refine lexL_nil ?_)
    obtain ⟨Z',hS',hZ',_⟩ := HS.out.1.skip HA5.out (by rw [HE.out.2];exact HE.out.1)
    have HS' := Lib.hid (And.intro hS' hZ');have hbn : Below w.heap.size w w5 := hb.trans hx5;have HBN := Lib.hid hbn;clear hS' hZ' hbn;go_wp2_with fail
    go_roundw
    case rel =>
     refine ⟨i + 1,own,imm,Z',t,L,by omega,by go_num,by rw [HTK.out];exact HS'.out.1,HS.out.2.1,fun b hb => ?_,HBN.out⟩
     rcases hb with q | q | q
     · exact HS.out.2.2 b (.inl q)
     · exact HS.out.2.2 b (.inr (.inl q))
     · rcases HS'.out.2 b q with k | k
       · exact HS.out.2.2 b (.inr (.inr k))
       · omega
    case measure => simp [Go.RowKit.intOf];omega
end Go.Proofs.YtcbjmcnebmhgpaaGreat
