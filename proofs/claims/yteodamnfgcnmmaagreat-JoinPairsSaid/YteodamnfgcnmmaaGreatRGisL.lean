/-gist: Len;what is near in a tree of one.-/
import Derived.Test.YteodamnfgcnmmaaGreatRMadJ
import Derived.Test.YteodamnfgcnmmaaGreatRScaB
set_option linter.unusedVariables false
set_option linter.unusedSimpArgs false
set_option maxRecDepth 20000
namespace Go.Proofs.YteodamnfgcnmmaaGreat
open Go Go.RowKit Pg
theorem qr4 {w:World} {own imm:Nat->Prop} {tb mb:Nat} {ct:TypeId} {cv:Value} {t:Tr} {H:Nat->Prop} {L:Int->Prop} (h:Lay w own imm tb mb (.iface ct cv) t H L):C9 48 #[gP tb] w (Ret w (.int .i64 (t.items.length:Nat))):=by
 obtain⟨t0,t1,t2,t3,tlt⟩:=h.c0;have HG:=hdQ (fun W (hW:Below w.heap.size w W)=>qlf (h.tr hW))
 have HM:=hdQ h.mp;have hml:(t.items.map fun p=>(p.1,gP p.2.blk)).length=t.items.length:=zyy _
 have HML:=hdQ hml;clear h hml
 try simp only [gP] at*
 go_enter Tryz.func48,Tryz.ntmps48
 have HLn:Hid (∀W,Below w.heap.size w W->∀ty,(Builtin.len_ #[93] ty #[.map (some mb)]).run Tryz.prog W=.ok (.int .i64 (t.items.length:Nat)) W):=fun W hW ty=>by
  have:=World.ownsMap.len (show W.ownsMap Tryz.prog 3 RV mb _ (toD (t.items.map fun p=>(p.1,gP p.2.blk))) from qbo.tr HM.out hW) Tryz.underlying93 ty
  rw [qig,HML.out] at this;exact this
 go_wp2_with (go_at_call 34;(refine(HG.out _ bel).monoR ?_);rintro w1 hb1 hc1 hf1 hz1;(try simp at hz1);have hln:=HLn.out w1 hb1)
 go_ret;exact⟨rfl,bel⟩
end Go.Proofs.YteodamnfgcnmmaaGreat
