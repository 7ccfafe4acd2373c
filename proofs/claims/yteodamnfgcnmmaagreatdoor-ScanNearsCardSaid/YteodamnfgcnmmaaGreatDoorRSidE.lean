/-Cursors of what matches;cursors that are refused.-/
import Derived.Test.YteodamnfgcnmmaaGreatDoorRRefK
import Derived.Shelf.SlIterI.Nil
import Derived.Shelf.SortM.Plain
import Derived.Shelf.SortM.SortNone
import Derived.Test.YteodamnfgcnmmaaGreatDoorProg
import Derived.Shelf.AbstractIn
import Derived.RangeFuncBox
import Derived.RangeFuncLeaves
import Derived.OwnWalkIn
import Derived.TacticsInMore
import Derived.RegionIn
import Derived.LoopNIn
import Derived.LoopIn
set_option linter.unusedVariables false
set_option linter.unusedSimpArgs false
set_option maxRecDepth 20000
namespace Go.Proofs.YteodamnfgcnmmaaGreatDoor
open Go Go.RowKit Pg
theorem qsn (p:Option Addr) (x y:Int) (hp:okPt ⟨x,y⟩=false) (w:World):
 C9 8 #[.pointer p,ptV x y] w fun e w' =>∃v,e=.returned (.tuple #[.pointer none,v])/\ErrX w' v 2 ⟨#[115,99,97,110]⟩ 0/\Below w.heap.size w w' :=by
 have HCP:Hid (∀W,C9 22 #[ptV x y] W (Ret W (.iface 105 (.int .i64 2)))):=fun W=>by
  have:=qa0 x y W;rw [hp] at this;exact this
 have HF:=hdQ (fun W=>qiz ⟨#[115,99,97,110]⟩ 0 (.iface 105 (.int .i64 ((2:Nat):Int))) 2 W (.inr ⟨by decide,0,rfl⟩))
 clear hp
 go_enter Tryz.func8,Tryz.ntmps8
 go_wp2_with (first|(go_at_call 22;(refine(HCP.out _).monoR ?_);rintro wp hbp hcp hfp hzp;(try simp at hzp);have hyp0:=ol1 w wp)|(go_at_call 23;(refine(HF.out _).mono ?_);rintro x w2 ⟨v,rfl,hx,hb2⟩;have HX:=hdQ hx;clear hx))
 go_ret2
 exact⟨_,rfl,HX.out,bel⟩
section
variable {w:World} {own imm:Nat->Prop} {tb mb:Nat} {t:Tr}
end
theorem qw8 {w:World} {Z:Nat->Prop} {cb k:Nat} {S:List Nr} (h:CurAt w Z cb S k true):C9 30 #[gP cb] w fun e w' =>e=.returned .nilIface/\CurAt w' Z cb S k false/\TurnF (fun b=>b=cb) w w' :=by
 obtain⟨A,c,h1,h2,h3,h4⟩:=h.hd;have c2:=h1.cell 2;have cl:=h1.lt;have fC:=h1.frozen;simp only [lAq] at c2;have HH:=hdQ (And.intro h h1);have HR:=hdQ (And.intro h2 (And.intro h3 h4));clear h h1 h2 h3 h4
 simp only [gP]
 go_enter Tryz.func30,Tryz.ntmps30
 go_wp2;go_ret;have ht:TurnF (fun b=>b=cb) w (w.setCell ⟨cb,2,none⟩ (.bool false)):=(TurnF.refl (fun b=>b=cb) w).set_ (F:=fun b=>b=cb) (p:=⟨cb,2,none⟩) (.inl rfl) _
 exact⟨rfl,⟨⟨A,c,(HH.out.2.set_ 2 (.bool false)).eq_ sI,HR.out.1,HR.out.2.1,HR.out.2.2.turn ht fun b hb q=>HH.out.1.no (q ▸ hb)⟩,HH.out.1.le,HH.out.1.no,fun b hb=>zky (HH.out.1.lim b hb) ht.size⟩,ht⟩
theorem qo0 {w:World} {Z:Nat->Prop} {cb k:Nat} {S:List Nr} (h:CurAt w Z cb S k false):C9 30 #[gP cb] w fun x w' =>∃v,x=.returned v/\ErrX w' v 12 ⟨#[99,117,114,115,111,114]⟩ k/\Below w.heap.size w w' :=by
 have HB:=hdQ (fun W (hW:Below w.heap.size w W)=>qo5 (some ⟨cb,0,none⟩) k W (.iface 105 (.int .i64 12)) 12 (fun W' hW' =>qdb ((h.tr hW).tr hW')) (qow W 12 dE))
 obtain⟨A,c,h1,h2,h3,h4⟩:=h.hd;have c2:=h1.cell 2;have cl:=h1.lt;simp only [lAq] at c2;clear h h1 h2 h3 h4
 simp only [gP]
 go_enter Tryz.func30,Tryz.ntmps30
 go_wp2_with (go_at_call 42;(refine(HB.out _ bel).mono ?_);rintro x w2 ⟨v,rfl,hx,hb2⟩;have HX:=hdQ hx;clear hx)
 go_ret;exact⟨_,rfl,HX.out,bel⟩
theorem qjr {w:World} {Z:Nat->Prop} {cb k:Nat} {S:List Nr} (h:CurAt w Z cb S k false) (n:Int):C9 28 #[gP cb,.int .i64 n] w fun x w' =>∃v,x=.returned (.tuple #[.slice none 0 0,v])/\ErrX w' v 12 ⟨#[99,117,114,115,111,114]⟩ k/\Below w.heap.size w w' :=by
 have HB:=hdQ (fun W (hW:Below w.heap.size w W)=>qo5 (some ⟨cb,0,none⟩) k W (.iface 105 (.int .i64 12)) 12 (fun W' hW' =>qdb ((h.tr hW).tr hW')) (qow W 12 dE))
 obtain⟨A,c,h1,h2,h3,h4⟩:=h.hd;have c2:=h1.cell 2;have cl:=h1.lt;simp only [lAq] at c2;clear h h1 h2 h3 h4
 simp only [gP]
 go_enter Tryz.func28,Tryz.ntmps28
 go_wp2_with (go_at_call 42;(refine(HB.out _ bel).mono ?_);rintro x w2 ⟨v,rfl,hx,hb2⟩;have HX:=hdQ hx;clear hx)
 go_ret2
 exact⟨_,rfl,HX.out,bel⟩
theorem qqk {w:World} {Z:Nat->Prop} {cb k:Nat} {S:List Nr} (h:CurAt w Z cb S k false):C9 18 #[gP cb] w fun x w' =>∃v,x=.returned (.tuple #[nr0,v])/\ErrX w' v 12 ⟨#[99,117,114,115,111,114]⟩ k/\Below w.heap.size w w' :=by
 have HT:=hdQ (fun W (hW:Below w.heap.size w W)=>qjr (h.tr hW) 1)
 have hcl:cb<w.heap.size:=by obtain⟨A,c,h1,_⟩:=h.hd;exact h1.lt
 clear h
 simp only [gP] at*
 go_enter Tryz.func18,Tryz.ntmps18
 go_wp2_with (go_at_call 28;(refine(HT.out _ bel).mono ?_);rintro x w1 ⟨v1,rfl,hx1,hb1⟩;obtain⟨te,ue,rfl⟩:=ErrX.succ hx1 dE;have HX1:=hdQ hx1;clear hx1;obtain⟨hc1,hf1,hz1⟩:=bc3 hb1;(try simp at hz1);have hy1:=ol1 w w1)
 have hB0:Blk w1 w.heap.size 58 #[.int .i64 0,.int .u64 0,.int .u64 0,.int .u64 0]:=blkA;refine qio (fun w2=>Blk w2 w.heap.size 58 #[.int .i64 0,.int .u64 0,.int .u64 0,.int .u64 0]/\ErrX w2 (.iface te ue) 12 ⟨#[99,117,114,115,111,114]⟩ k/\Below w.heap.size w w2) ⟨qep (x:=.int .i64 0) (y:=.int .u64 0) (z:=.int .u64 0) (u:=.int .u64 0) hB0,?_,bel⟩ ?_
 · exact qrd HX1.out hB0
 rintro w2 ⟨HR,hx2,hb2⟩;obtain⟨r0,r1,r2,r3⟩:=ce4 HR;exact bodyPost_ret (v:=.tuple #[nr0,.iface te ue]) (by simp [nr0,results,Tryz.results18,go_sem,r0,r1,r2,r3]) rfl ⟨_,rfl,hx2,hb2⟩
section
variable {C:Cl} {cl:Value} {w:World} {Y own imm Z:Nat->Prop} {tb mb mm:Nat} {t:Tr} {L:List (Int×Mi)} {m:List (Int×Ob)}
theorem Side.len (h:Side C cl w Y own imm Z tb mb mm t L m):L.length=t.items.length:=by
 have h1:=congrArg List.length (h.om.trans h.ot.symm);unfold obsM obsT at h1
 simpa using h1
theorem Side.of (h:Side C cl w Y own imm Z tb mb mm t L m) {p:Int×Mi} (hp:p∈L):(0<=p.1/\p.1<=1099511627776)/\ckOb p.2.ob=0:=by
 have h1:(p.1,p.2.ob)∈obsT t.items:=by
  rw [h.ot,<-h.om]
  exact zty.2 ⟨p,hp,rfl⟩
 obtain⟨⟨i,it⟩,hm,e⟩:=zty.1 h1;injection e with e1 e2
 obtain⟨h2,h3,_⟩:=h.g.its i it (qhh h.g.shape.rise hm)
 simp only at e1 e2
 rw [<-e1,<-e2]
 exact⟨h2,h3⟩
theorem Side.near (h:Side C cl w Y own imm Z tb mb mm t L m) (hcount:t.items.length<=100000) (x y:Int) (hp:okPt ⟨x,y⟩=true):
 C9 12 #[gP mm,ptV x y,.int .i64 (t.items.length:Nat)] w fun e w' =>∃v,e=.returned v/\w'.ownsRow w.heap.size 58 4 v t.items.length (nrVs (qqn t x y))/\Below w.heap.size w w' :=by
 have h1:=qqs h.r (by rw [h.len];exact hcount) x y hp (t.items.length:Nat) (by rw [h.len];omega) (fun p q=>qrg (h.of q).2 hp) (fun p q=>(h.of q).1)
 rw [h.om,<-h.ot,h.len] at h1;exact h1
end
section
variable {w w' :World} {Za Zb Zn Zi:Nat->Prop} {ca cb:Nat} {An Ai:Option Addr} {S:List Nr} {I:List Int} {x y x' y' :Nat}
end
end Go.Proofs.YteodamnfgcnmmaaGreatDoor
