/-pergolalaw17: what awake asks, in plain Lean.-/
import Derived.Test.YtjopdlmbgidigaaGreatAGisF
set_option linter.unusedVariables false
set_option linter.unusedSimpArgs false
set_option maxHeartbeats 1000000
set_option maxRecDepth 20000
namespace Pg
open Go Go.RowKit
theorem qvg:qbu ⟨1,[⟨0,0⟩]⟩ ⟨3,3⟩=⟨18,1⟩:=by decide+kernel
theorem qvf:qbu ⟨1,[⟨3,4⟩]⟩ ⟨3,3⟩=⟨1,1⟩:=by decide+kernel
end Pg
namespace Go.Proofs.YtjopdlmbgidigaaGreat
open Go Go.RowKit Pg
theorem q6t (t:Tr) (x1 x2:It) (l:List En) (h1:x1.ob=⟨1,[⟨0,0⟩]⟩) (h2:x2.ob=⟨1,[⟨3,4⟩]⟩) (hl:t.items=putK 2 x2 (putK 1 x1 [])):ql6 1 (qf2 t ⟨3,3⟩ ([]++ [entG x1 1]++ [entG x2 2]) [] 0)= [(⟨2,⟨1,1⟩,true,0⟩,2)]:=by
 have e1:heOf t ⟨3,3⟩ (entG x1 1)=⟨1,⟨18,1⟩,true,0⟩:=by
  unfold heOf
  rw [hl]
  simp [entG,putK,getK,insK,delK,h1,qvg]
 have e2:heOf t ⟨3,3⟩ (entG x2 2)=⟨2,⟨1,1⟩,true,0⟩:=by
  unfold heOf
  rw [hl]
  simp [entG,putK,getK,insK,delK,h2,qvf]
 simp only [List.nil_append,List.cons_append,qf2,e1,e2]
 rfl
theorem q17 {w:World} {e:TypeId} {v:Value} {a b c d:Value} (h:w.ownsRow 0 e 4 v 1 [a,b,c,d]):∃g cc,v=.slice (some ⟨g,0,none⟩) 1 cc/\w.cell? ⟨g,0,none⟩=some a/\w.cell? ⟨g,1,none⟩=some b/\w.cell? ⟨g,2,none⟩=some c/\w.cell? ⟨g,3,none⟩=some d:=by
 rcases h.2 with ⟨_,h0⟩|⟨g,cap,cur,rfl,_,hg,_⟩
 · cases h0
 · refine⟨g,cap,rfl,?_,?_,?_,?_⟩
   · rw [h.cellAt 0 dE];rfl
   · rw [h.cellAt 1 dE];rfl
   · rw [h.cellAt 2 dE];rfl
   · rw [h.cellAt 3 dE];rfl
theorem ins1 {w:World} {own imm:Nat->Prop} {tb mb r g:Nat} (h:Lay w own imm tb mb (.iface 121 (.agg #[.int .i64 1])) (newT 4 r) (fun _=>False) fun _=>False) (hB:Blk w g 24 #[.int .i64 0,.int .i64 0]):
 C9 15 #[gP tb,.int .i64 1,obV 1 (some ⟨g,0,none⟩) 1 1] w fun e w' =>e=.returned .nilIface/\q3x (boxM 1) w w' own imm tb mb (.iface 121 (.agg #[.int .i64 1])) (newT 4 r) 1 1 [⟨0,0⟩]:=by
 have hg:∀i,getK i (newT 4 r).items=none:=fun i=>by simp [newT,getK]
 exact qmr (qvh 1) h (qn4 4 r) (by simp [newT]) (by simp [newT]) (by simp [newT]) (fun i x hx=>by rw [hg] at hx;cases hx) (by simp [newT]) dE dE (hg 1) w.heap.size 1 1 1 _ _ (q6o (p:=⟨0,0⟩) hB) (zhy _) dE dE (by decide+kernel) (by decide+kernel)
theorem ins2 {w:World} {own imm:Nat->Prop} {tb mb g:Nat} {t:Tr} {x:It} (h:Lay w own imm tb mb (.iface 121 (.agg #[.int .i64 1])) t (fun _=>False) fun _=>False) (hs:Shape t fun _=>False) (hr:t.lv t.root=some 0) (he:(t.es t.root).length=1) (hf:t.fan=4) (hi:t.items=putK 1 x []) (hB:Blk w g 24 #[.int .i64 3,.int .i64 4]):
 C9 15 #[gP tb,.int .i64 2,obV 1 (some ⟨g,0,none⟩) 1 1] w fun e w' =>e=.returned .nilIface/\q3x (boxM 1) w w' own imm tb mb (.iface 121 (.agg #[.int .i64 1])) t 2 1 [⟨3,4⟩]:=by
 have hg:∀i y,getK i t.items=some y->i=1:=fun i y hy=>by
  rw [hi] at hy
  by_cases q:i=1
  · exact q
  · simp [putK,getK,insK,delK] at hy
    omega
 exact qmr (qvh 1) h hs hr oQ oQ (fun i x hx=>by have:=hg i x hx;omega) (by rw [hi];simp [putK,insK,delK]) dE dE (by rw [hi];simp [putK,getK,insK,delK]) w.heap.size 1 1 1 _ _ (q6o (p:=⟨3,4⟩) hB) (zhy _) dE dE (by decide+kernel) (by decide+kernel)
theorem qg6 (w:World):C9 7 #[] w (Ret w (.bool true)):=by
 have HB:=hdQ (fun W=>q3y 1 W dE dE)
 have HN:=hdQ (fun W=>qpl 121 (.agg #[.int .i64 1]) 4 dE dE W)
 go_enter Tryz.func7,Tryz.ntmps7
 have HNr:Hid (∀(W:World) (own imm:Nat->Prop) (tb mb:Nat) (t:Tr) (x1 x2:It),Lay W own imm tb mb (.iface 121 (.agg #[.int .i64 1])) t (fun _=>False) (fun _=>False)->t.lv t.root=some 0->t.es t.root= []++ [entG x1 1]++ [entG x2 2]->t.items=putK 2 x2 (putK 1 x1 [])->x1.ob=⟨1,[⟨0,0⟩]⟩->x2.ob=⟨1,[⟨3,4⟩]⟩->
  C9 10 #[gP tb,ptV 3 3,.int .i64 1] W fun e w' =>∃v,e=.returned v/\w'.ownsRow 0 50 4 v 1 [.int .i64 2,.int .u64 0,.int .u64 1,.int .u64 1]/\Below W.heap.size W w'):=by
  intro W own imm tb mb t x1 x2 hL hr he hi h1 h2;have hN:=q6t t x1 x2 [] h1 h2 hi
  have hC:=qq9 hL hr (by rw [he];simp) 3 3 (by decide+kernel) (by
   intro e hm;rw [he] at hm
   rw [hi]
   simp at hm
   rcases hm with rfl|rfl
   · exact⟨by simp [entG],by simp [entG],x1,by simp [entG,putK,getK,insK,delK],by rw [h1,qvg];unfold FrOk;decide⟩
   · exact⟨by simp [entG],by simp [entG],x2,by simp [entG,putK,getK,insK,delK],by rw [h2,qvf];unfold FrOk;decide⟩) 1 dE dE
  rw [he,hN] at hC;exact hC
 go_wp2_with (first|(go_at_call 20;(refine(HB.out _).monoR ?_);rintro wp hbp hcp hfp hzp;(try simp at hzp);have hpp:Below w.heap.size w wp:=bel)|(go_at_call 8;(refine(HN.out _).mono ?_);rintro e w2 ⟨tb,mb,r,own,rfl,hL,hown,hb2⟩;have HL:=hdQ hL;have HO:=hdQ hown;have HB2:=hdQ hb2;clear hL hown hb2;have HI1:=hdQ (fun W g (hW:Below w2.heap.size w2 W) (hB:Blk W g 24 #[.int .i64 0,.int .i64 0])=>show C9 15 #[.pointer (some ⟨tb,0,none⟩),.int .i64 1,.agg #[.int .i64 1,.slice (some ⟨g,0,none⟩) 1 1]] W _ from ins1 (HL.out.tr hW) hB);simp only [gP])|(go_at_call 15;(with_reducible refine(HI1.out _ _ bel blkA).mono ?_);rintro e w3 ⟨rfl,own3,imm3,x1,v1,lf1,ho1,hk1,hL3,hS3,hG3⟩;have hX3:Below wp.heap.size w2 w3:=((show Below w2.heap.size w2 (w2.alloc (.cells #[.int .i64 0,.int .i64 0] 24)) from bel).mono HB2.out.size).trans (qdi hG3.turn HO.out (zcy HB2.out.size sI));have HO3:Hid (∀b,own3 b->wp.heap.size<=b):=(fun b hb=>(hG3.oo b hb).elim (HO.out b) (fun q=>zcy (zcy HB2.out.size sI) q));have HX3:=hdQ (HB2.out.trans hX3);have HL3:=hdQ hL3;have HS3:=hdQ hS3;have HO1:=hdQ ho1;clear hL3 hS3 hG3 hX3 hk1 ho1;have HI2:=hdQ (fun W g (hW:Below w3.heap.size w3 W) (hB:Blk W g 24 #[.int .i64 3,.int .i64 4])=>show C9 15 #[.pointer (some ⟨tb,0,none⟩),.int .i64 2,.agg #[.int .i64 1,.slice (some ⟨g,0,none⟩) 1 1]] W _ from ins2 (HL3.out.tr hW) HS3.out (by simp [newT]) (by simp [newT,updT]) rfl rfl hB))|(go_at_call 15;(with_reducible refine(HI2.out _ _ bel blkA).mono ?_);rintro e w4 ⟨rfl,own4,imm4,x2,v2,lf2,ho2,hk2,hL4,hS4,hG4⟩;have HX4:=hdQ (HX3.out.trans (((show Below w3.heap.size w3 (w3.alloc (.cells #[.int .i64 3,.int .i64 4] 24)) from bel).mono HX3.out.size).trans (qdi hG4.turn HO3.out (zcy HX3.out.size sI))));have HN3:=hdQ (show C9 10 #[.pointer (some ⟨tb,0,none⟩),.agg #[.int .i64 3,.int .i64 3],.int .i64 1] w4 _ from HNr.out w4 own4 imm4 tb mb _ x1 x2 hL4 (by simp [newT]) (by simp [newT,updT]) rfl HO1.out ho2);clear hL4 hS4 hG4 hk2 ho2)|(go_at_call 10;(with_reducible refine HN3.out.mono ?_);rintro e w5 ⟨v5,rfl,ho5,hb5⟩;obtain⟨g5,c5,rfl,c0,c1,c2,c3⟩:=q17 ho5;have HB5:=hdQ hb5;clear ho5 hb5))
 go_ret;exact⟨rfl,hpp.trans ((HX4.out.mono hpp.size).trans (HB5.out.mono (zcy hpp.size HX4.out.size)))⟩
end Go.Proofs.YtjopdlmbgidigaaGreat
