/-
  gist: Len;what is near in a tree of one.
  pergolaalike.Shape: objects that may be.
  pergolalaw18: awake.
-/
import Derived.Test.YtildgbhliaonnaaGreatQMadS
import Derived.Test.YtildgbhliaonnaaGreatQScaB
import Derived.Test.YtildgbhliaonnaaGreatQLawsC
set_option linter.unusedVariables false
set_option linter.unusedSimpArgs false
set_option maxHeartbeats 1000000
set_option maxRecDepth 20000
namespace Go.Proofs.YtildgbhliaonnaaGreat
open Go Go.RowKit Pg
theorem len_any {w : World} {own imm : Nat → Prop} {tb mb : Nat} {ct : TypeId} {cv : Value} {t : Tr} {H : Nat → Prop} {L : Int → Prop} (h : Lay w own imm tb mb (.iface ct cv) t H L) : Calls Tryz.prog 12 #[gP tb] w (Ret w (.int .i64 (t.items.length : Nat))) := by
 obtain ⟨t0,t1,t2,t3,tlt⟩ := h.c0;have HG := Lib.hid (fun W (hW : Below w.heap.size w W) => gone_any (h.tr hW))
 have HM := Lib.hid h.mp;have hml : (t.items.map fun p => (p.1,gP p.2.blk)).length = t.items.length := List.length_map _
 have HML := Lib.hid hml;clear h hml
 try simp only [gP] at *
 go_enter Tryz.func12,Tryz.ntmps12
 have HLn : Hid (∀ W,Below w.heap.size w W → ∀ ty,(Builtin.len_ #[89] ty #[.map (some mb)]).run Tryz.prog W = .ok (.int .i64 (t.items.length : Nat)) W) := fun W hW ty => by
  have := World.ownsMap.len (show W.ownsMap Tryz.prog 3 RV mb _ (toD (t.items.map fun p => (p.1,gP p.2.blk))) from MapAt.tr HM.out hW) Tryz.underlying89 ty
  rw [toD_size,HML.out] at this;exact this
 go_wp2_with (go_at_call 30;(refine (HG.out _ bel).mono ?_);rintro e w1 ⟨rfl,hb1⟩;obtain ⟨hc1,hf1⟩ := bcell hb1;have hz1 := hb1.size;(try simp at hz1);have hln := HLn.out w1 hb1)
 go_ret;exact ⟨rfl,bel⟩
theorem one_leaf {C : Cl} {cl : Value} {w : World} {own imm : Nat → Prop} {tb mb : Nat} {t : Tr} (h : GAt C cl w own imm tb mb t) {id : Int} {o : Ob} (ho : obsT t.items = [(id,o)]) : t.lv t.root = some 0 ∧ ∃ e,t.es t.root = [e] ∧ e.id = id ∧ ∃ x,getK id t.items = some x ∧ x.ob = o := by
 obtain ⟨x,hx,hxo⟩ : ∃ x,t.items = [(id,x)] ∧ x.ob = o := by
  unfold obsT at ho
  match hm : t.items, ho with
  | [p], ho =>
    simp at ho
    exact ⟨p.2,by rw [← ho.1],ho.2⟩
 have hg : getK id t.items = some x := by rw [hx];simp [getK_cons]
 obtain ⟨l,hl⟩ := Option.isSome_iff_exists.1 h.shape.root.1
 have hl0 : l = 0 := by
  rcases h.shape.level h.fill h.fan4 hl with q | q
  · exact q
  · rw [hx] at q
    have : 2 ^ (l + 1) ≥ 2 := by
     have := Nat.one_le_two_pow (n := l)
     rw [Nat.pow_succ]
     omega
    simp at q
 subst hl0;obtain ⟨h1,e,he,hid⟩ := h.shape.itm id x hg (fun q => q)
 have hlf : t.leaf id = t.root := by
  obtain ⟨q,_,q2,q3⟩ := h.shape.und_lv h1 (h.shape.under h1);rw [hl] at q2
  cases q2
  exact q3 rfl
 rw [hlf] at he;refine ⟨hl,e,?_,hid,x,hg,hxo⟩
 have hall : ∀ e' ∈ t.es t.root,e'.id = id := fun e' he' => by
  obtain ⟨_,it,hit,_⟩ := h.shape.ent _ _ hl he';rw [hx] at hit
  by_cases q : e'.id = id
  · exact q
  · simp [getK_cons, getK_nil] at hit
    omega
 have hnd := h.shape.ids _ hl
 match hm : t.es t.root with
 | [] => rw [hm] at he;cases he
 | [a] => rw [hm] at he;rw [List.mem_singleton.1 he]
 | a :: b :: r =>
   rw [hm] at hnd hall;have ha := hall a (by simp)
   have hb := hall b (by simp)
   simp [ha, hb] at hnd
end Go.Proofs.YtildgbhliaonnaaGreat
namespace Go.Proofs.YtildgbhliaonnaaGreat
open Go.RowKit Pg
theorem post_genG' {P : Program} {f : Func} {Q : Ending → World → Prop} {x : Exit} {a : Act} {w : World} (R : World → Prop) (h : R w) (k : ∀ w2,R w2 → bodyPost P f Q x a w2) : bodyPost P f Q x a w := k w h
theorem two_putG' {W : World} {g : Nat} {t : TypeId} {x y a b : Value} (h : Blk W g t #[x,y]) : Blk ((W.setCell ⟨g,0,none⟩ a).setCell ⟨g,1,none⟩ b) g t #[a,b] := ((h.set_ 0 a).set_ 1 b).eq_ (by simp)
theorem shape0_any (w : World) : Calls Tryz.prog 21 #[.int .i64 0,.int .i64 1,.int .i64 1,.int .i64 1] w fun e w' => ∃ g,e = .returned (obV 1 (some ⟨g,0,none⟩) 1 1) ∧ Blk w' g 24 #[.int .i64 1,.int .i64 1] ∧ w.heap.size < g ∧ Below w.heap.size w w' := by
 have R1 := Lib.hid (fun W => show Calls Tryz.prog 11 #[.int .i64 1,.int .i64 1000] W (Ret W (.int .i64 1)) from round_any 1 1000 (by decide) (by decide) W)
 have R2 := Lib.hid (fun W => show Calls Tryz.prog 11 #[.int .i64 1,.int .i64 50] W (Ret W (.int .i64 1)) from round_any 1 50 (by decide) (by decide) W)
 have R3 := Lib.hid (fun W => show Calls Tryz.prog 11 #[.int .i64 0,.int .i64 4] W (Ret W (.int .i64 0)) from round_any 0 4 (by decide) (by decide) W)
 go_enter Tryz.func21,Tryz.ntmps21
 go_wp2_with (first | (go_at_call 11;have _z := hya0;(with_reducible refine (R1.out _).mono ?_);rintro e wb ⟨rfl,hbb⟩;obtain ⟨hcb,hfb⟩ := bcell hbb;have hzb := hbb.size;(try simp at hzb);have hyb0 : w.heap.size < wb.heap.size := (by omega)) | (go_at_call 11;(with_reducible refine (R1.out _).mono ?_);rintro e wa ⟨rfl,hba⟩;obtain ⟨hca,hfa⟩ := bcell hba;have hza := hba.size;(try simp at hza);have hya0 : w.heap.size < wa.heap.size := (by omega)) | (go_at_call 11;(with_reducible refine (R2.out _).mono ?_);rintro e wc ⟨rfl,hbc⟩;obtain ⟨hcc,hfc⟩ := bcell hbc;have hzc := hbc.size;(try simp at hzc);have hyc0 : w.heap.size < wc.heap.size := (by omega)) | (go_at_call 11;(with_reducible refine (R3.out _).mono ?_);rintro e wd ⟨rfl,hbd⟩;obtain ⟨hcd,hfd⟩ := bcell hbd;have hzd := hbd.size;(try simp at hzd);have hyd0 : w.heap.size < wd.heap.size := (by omega)))
 have hB0 : Blk wd w.heap.size 67 #[.int .i64 0,.slice none 0 0] := blkA;have hbW : Below w.heap.size w wd := bel;clear hba hbb hbc hca hcb hcc hfa hfb hfc;refine post_genG' (fun w2 => Blk w2 w.heap.size 67 #[.int .i64 1,.slice (some ⟨wd.heap.size,0,none⟩) 1 1] ∧ Blk w2 wd.heap.size 24 #[.int .i64 1,.int .i64 1] ∧ Below w.heap.size w w2) ⟨?_,blkA,bel⟩ ?_
 · exact (two_putG' (x := .int .i64 0) (y := .slice none 0 0) hB0).alloc _
 rintro w2 ⟨HR,HP,hb2⟩;have r0 := HR.cell 0;have r1 := HR.cell 1;simp only [lta,lcz,lcs] at r0 r1;exact bodyPost_ret (v := .agg #[.int .i64 1,.slice (some ⟨wd.heap.size,0,none⟩) 1 1]) (by simp [results,Tryz.results21,go_sem,r0,r1]) rfl ⟨_,rfl,HP,by omega,hb2⟩
open Go
theorem near18_d : distF ⟨1,[⟨1,1⟩]⟩ ⟨1,2⟩ = ⟨1,1⟩ := by decide +kernel
theorem made18_one : madeP [(3,⟨1,[⟨1,1⟩]⟩)] = [(3,⟨1,[⟨1,1⟩]⟩)] := by
 have : ckPut 3 ⟨1,[⟨1,1⟩]⟩ = 0 := by decide +kernel
 simp [madeP,putP,this,getK_nil,putK,delK,insK]
theorem near18_any {C : Cl} {ct : TypeId} {cv : Value} {w : World} {own imm : Nat → Prop} {tb mb : Nat} {t : Tr} (h : GAt C (.iface ct cv) w own imm tb mb t) (ho : obsT t.items = [(3,⟨1,[⟨1,1⟩]⟩)]) :
 Calls Tryz.prog 27 #[gP tb,ptV 1 2,.int .i64 1] w fun e w' => ∃ v,e = .returned v ∧ w'.ownsRow 0 60 4 v 1 (nrVs [(3,⟨1,1⟩)]) ∧ Below w.heap.size w w' := by
 obtain ⟨hr,e,he,hid,x,hx,hxo⟩ := one_leaf h ho
 have h1 : heOf t ⟨1,2⟩ e = ⟨3,⟨1,1⟩,true,0⟩ := by
  unfold heOf
  rw [hid, hx]
  simp [hxo, near18_d]
 have hN : popsK 1 (nearH t ⟨1,2⟩ (t.es t.root) [] 0) = [(⟨3,⟨1,1⟩,true,0⟩,1)] := by
  rw [he]
  simp only [nearH, h1]
  rfl
 have := nearLeaf_any h.lay hr (by rw [he];simp) 1 2 (by decide +kernel) (by
  intro e' he'
  rw [he] at he'
  rw [List.mem_singleton.1 he', hid]
  exact ⟨by decide,by decide,x,hx,by rw [hxo,near18_d];unfold FrOk;decide⟩) 1 (by decide) (by decide)
 rw [hN] at this;exact this
theorem awake18_any (w : World) : Calls Tryz.prog 7 #[] w (Ret w (.bool true)) := by
 have HSh := Lib.hid shape0_any
 have HMd : Hid (∀ W b g,Blk W b 70 #[.int .i64 3,.int .i64 1,.slice (some ⟨g,0,none⟩) 1 1] → Blk W g 24 #[.int .i64 1,.int .i64 1] → Calls Tryz.prog 8 #[.slice (some ⟨b,0,none⟩) 1 1] W fun e w' => ∃ tb mm,e = .returned (.tuple #[gP tb,gP mm,.bool true]) ∧ MadeAt W w' tb mm [(3,⟨1,[⟨1,1⟩]⟩)] ∧ Below W.heap.size W w') := fun W b g hb hg => by
  have := made18_any (some ⟨b,0,none⟩) 1 1 [(3,⟨1,[⟨1,1⟩]⟩)] W ⟨rfl,fun _ => ⟨b,0,rfl,hb.lt⟩,fun b' off k p e hk => by
   injection e with e
   injection e with e1 e2
   subst e1 e2
   cases k with
   | succ k => simp at hk
   | zero =>
     simp at hk
     subst hk;refine ⟨some ⟨g,0,none⟩,1,1,?_,?_,?_,(pts1E (p := ⟨1,1⟩) hg)⟩
     · simpa using hb.cell 0
     · simpa using hb.cell 1
     · simpa using hb.cell 2⟩ (by decide) (by intro p hp;simp at hp;subst hp;simp)
  rw [made18_one] at this;exact this
 go_enter Tryz.func7,Tryz.ntmps7
 go_wp2_with (first
  | (go_at_call 21;(with_reducible refine (HSh.out _).mono ?_);rintro e w1 ⟨g1,rfl,hB1,hg1,hb1⟩;obtain ⟨hc1,hf1⟩ := bcell hb1;have hz1 := hb1.size;(try simp at hz1))
  | (go_at_call 8;(refine (HMd.out _ _ _ blkA blkA).mono ?_);rintro e w2 ⟨tb,mm,rfl,hm2,hb2⟩;obtain ⟨mb,own,imm,Z,t,L,hS,hf,hfr⟩ := hm2;have hg2 : GAt (clsC 3 0 false 0) (.iface 74 (clV 3 0 false 0)) w2 own imm tb mb t := hS.g;have hot := hS.ot;have hil : t.items.length = 1 := (by have := congrArg List.length hot;simpa [obsT] using this);have HNr := Lib.hid (fun W (hW : Below w2.heap.size w2 W) => near_of (some ⟨tb,0,none⟩) 1 2 (by decide +kernel) 1 [(3,⟨1,1⟩)] W (fun W' hW' => by have := len_any ((hg2.tr hW).tr hW').lay;rw [hil] at this;exact this) (fun W' hW' => near18_any ((hg2.tr hW).tr hW') hot));clear hS hf hfr hg2 hot hil;obtain ⟨hc2,hf2⟩ := bcell hb2;have hz2 := hb2.size;(try simp at hz2))
  | (go_at_call 9;(refine (HNr.out _ bel).mono ?_);rintro e w3 ⟨cb,v3,rfl,hC3,hcb,hb3⟩;have HC3 := Lib.hid (show Calls Tryz.prog 18 #[gP cb] w3 fun e w' => e = .returned (.tuple #[.agg #[.int .i64 3,.int .u64 0,.int .u64 1,.int .u64 1],.nilIface]) ∧ CurAt w' _ cb _ 1 true ∧ TurnF (fun b => b = cb) w3 w' from next_more hC3 (by decide) rfl);clear hC3;obtain ⟨hc3,hf3⟩ := bcell hb3;have hz3 := hb3.size;(try simp at hz3))
  | (go_at_call 18;(refine HC3.out.mono ?_);rintro e w4 ⟨rfl,_,ht4⟩;have hb4 : Below w.heap.size w3 w4 := turn_belowM ht4 (fun k q => by omega) (by omega);clear ht4))
 go_ret;have h3 : Below w.heap.size w w3 := by clear hb4;exact bel
 have h4 : Below w.heap.size w w4 := h3.trans hb4;exact ⟨rfl,bel⟩
end Go.Proofs.YtildgbhliaonnaaGreat
