/-errors.Is by contracts,at an error that is nothing,a number,or one or -/
import Derived.Test.YteodamnfgcnmmaaGreatDoorTRef3
import Derived.LaidEql
import Derived.Stop.Asserts
import Derived.Lib.IfaceEq
import Derived.RowKitTokens
set_option linter.unusedVariables false
set_option linter.unusedSimpArgs false
set_option maxHeartbeats 4000000
namespace Go.Proofs.YteodamnfgcnmmaaGreatDoor
open Go.RowKit Pg Go.Extern.Stop Go.Stop Go.Extern
theorem q2m (v:Value) (w:World):(Extern.ReflectliteType.typeOf #[.iface 105 v]).run Tryz.prog w=.ok (.iface 191 (.agg #[.pointer (some ⟨3,105,none⟩)])) w:=by kernel_rfl
def q6z : Array Value -> Sem Value := Extern.ReflectliteType.method fun t => do Rtype.noPackHeld "Comparable" t;pure (.bool (<- typeInfo t).comparable)
theorem qqj (w:World):(q6z #[.agg #[.pointer (some ⟨3,105,none⟩)]]).run Tryz.prog w=.ok (.bool true) w:=by kernel_rfl
theorem qi3 (v : Value) (w : World) : (Go.method 454 191 v "Comparable").run Tryz.prog w = .ok (270,v) w := by kernel_rfl
theorem q7r (v:Value) (xT:TypeId) (w:World):(Instr.typeAssert (.iface 105 v) xT 238 true).run Tryz.prog w=.ok (.tuple #[.nilIface,.bool false]) w:=run_typeAssert_lacksB Tryz.underlying238 kr kr v xT w
theorem q7q (v:Value) (xT:TypeId) (w:World):(Instr.typeAssert (.iface 82 v) xT 238 true).run Tryz.prog w=.ok (.tuple #[.nilIface,.bool false]) w:=run_typeAssert_lacksB Tryz.underlying238 kr kr v xT w
theorem qy0 (v:Value) (xT:TypeId) (w:World):(Instr.typeAssert (.iface 105 v) xT 198 true).run Tryz.prog w=.ok (.tuple #[.nilIface,.bool false]) w:=run_typeAssert_lacksB Tryz.underlying198 kr kr v xT w
theorem qwm (v:Value) (xT:TypeId) (w:World):(Instr.typeAssert (.iface 82 v) xT 198 true).run Tryz.prog w=.ok (.tuple #[.iface 82 v,.bool true]) w:=run_typeAssert_hasB Tryz.underlying198 kr v xT w
theorem qvz (v:Value) (xT:TypeId) (w:World):(Instr.typeAssert (.iface 105 v) xT 199 true).run Tryz.prog w=.ok (.tuple #[.nilIface,.bool false]) w:=run_typeAssert_lacksB Tryz.underlying199 kr kr v xT w
theorem qqc (v : Value) (w : World) : (Go.method 454 82 v "Unwrap").run Tryz.prog w = .ok (263,v) w := by kernel_rfl
theorem qzs:(Tryz.prog.info? 105).map (·.comparable)=some true:=by kernel_rfl
theorem qxa (t:Addr) (w:World):(ReflectliteValue.unpack (.iface 84 (.pointer (some t)))).run Tryz.prog w
 =.ok (.agg #[.pointer (some ⟨3,84,none⟩),.pointer (some ⟨w.heap.size,0,none⟩),.int .u64 150]) (w.alloc (.cells #[.pointer (some t)] 84)):=by kernel_rfl
theorem q5m (a : Addr) (w : World) : (ReflectliteValue.methodAny (ReflectliteValue.valueError "reflectlite.Value.Type" 0) (fun t _ _ _ => ReflectliteType.toType t) #[.agg #[.pointer (some ⟨3,84,none⟩),.pointer (some a),.int .u64 150]]).run Tryz.prog w
 =.ok (.iface 191 (.agg #[.pointer (some ⟨3,84,none⟩)])) w:=by kernel_rfl
theorem qrb (h : Value) (w : World) : (Go.method 454 191 (.agg #[h]) "Kind").run Tryz.prog w = .ok (233,h) w := by kernel_rfl
theorem q5n (w:World):((ReflectliteType.abiMethod fun t=>(fun a:Nat=>Value.int IntKind.u8 (a:Int))<$>Rtype.kind t) #[.pointer (some ⟨3,84,none⟩)]).run Tryz.prog w=.ok (.int .u8 22) w:=by kernel_rfl
theorem q5o (w:World):((ReflectliteType.abiMethod fun t=>(fun a:Nat=>Value.int IntKind.u8 (a:Int))<$>Rtype.kind t) #[.pointer (some ⟨3,82,none⟩)]).run Tryz.prog w=.ok (.int .u8 22) w:=by kernel_rfl
theorem q7c (z:Sem Value) (f:TypeId->Addr->Nat->Nat->Sem Value) (v:Value):
 ReflectliteValue.method z f #[v]=(do match<-ReflectliteValue.parts v with|none=>z|some (t,a,fl)=>f t a fl (fl%32)):=rfl
theorem qu1 (a:Addr) (w:World):(ReflectliteValue.parts (.agg #[.pointer (some ⟨3,84,none⟩),.pointer (some a),.int .u64 150])).run Tryz.prog w=.ok (some (84,a,150)) w:=by kernel_rfl
theorem q5p (a p:Addr) (W:World) (ha:W.cell? a=some (.pointer (some p))):
 (ReflectliteValue.method (ReflectliteValue.valueError "reflectlite.Value.IsNil" 0) ReflectliteValue.isNil #[.agg #[.pointer (some ⟨3,84,none⟩),.pointer (some a),.int .u64 150]]).run Tryz.prog W = .ok (.bool false) W := by
 rw [q7c]
 simp only [Sem.run_bind,qu1,Result.andThen]
 simp [ReflectliteValue.isNil,loadVar,isAgg,underlying,Tryz.underlying84,ha,Result.andThen]
theorem qrc (h : Value) (w : World) : (Go.method 454 191 (.agg #[h]) "Elem").run Tryz.prog w = .ok (271,.agg #[h]) w := by kernel_rfl
theorem qhu (h : Value) (w : World) : (Go.method 454 191 (.agg #[h]) "AssignableTo").run Tryz.prog w = .ok (269,.agg #[h]) w := by kernel_rfl
theorem qja (h : Value) (w : World) : (Go.method 454 191 (.agg #[h]) "Implements").run Tryz.prog w = .ok (272,.agg #[h]) w := by kernel_rfl
theorem q5q (w:World):(ReflectliteType.method ReflectliteType.elem #[.agg #[.pointer (some ⟨3,84,none⟩)]]).run Tryz.prog w=.ok (.iface 191 (.agg #[.pointer (some ⟨3,82,none⟩)])) w:=by kernel_rfl
theorem qo1 (w : World) : (ReflectliteType.relation "Implements" ReflectliteType.implements_ #[.agg #[.pointer (some ⟨3,82,none⟩)],.iface 191 (.agg #[.pointer (some ⟨3,34,none⟩)])]).run Tryz.prog w = .ok (.bool true) w := by kernel_rfl
theorem q0k (v:Value) (w:World):(ReflectliteType.typeOf #[.iface 82 v]).run Tryz.prog w=.ok (.iface 191 (.agg #[.pointer (some ⟨3,82,none⟩)])) w:=by kernel_rfl
theorem qo2 (w : World) : (ReflectliteType.relation "AssignableTo" ReflectliteType.assignableTo #[.agg #[.pointer (some ⟨3,82,none⟩)],.iface 191 (.agg #[.pointer (some ⟨3,82,none⟩)])]).run Tryz.prog w = .ok (.bool true) w := by kernel_rfl
theorem qxb (e:Addr) (w:World):(ReflectliteValue.unpack (.iface 82 (.pointer (some e)))).run Tryz.prog w
 =.ok (.agg #[.pointer (some ⟨3,82,none⟩),.pointer (some ⟨w.heap.size,0,none⟩),.int .u64 150]) (w.alloc (.cells #[.pointer (some e)] 82)):=by kernel_rfl
theorem q0m (w:World):(Rtype.elem? 84).run Tryz.prog w=.ok (some 82) w:=by kernel_rfl
theorem q78 (p:Addr) (w:World):(ReflectliteValue.mk 82 p ReflectliteValue.flagAddr).run Tryz.prog w=.ok (.agg #[.pointer (some ⟨3,82,none⟩),.pointer (some p),.int .u64 406]) w:=by kernel_rfl
theorem q3b (a p:Addr) (W:World) (ha:W.cell? a=some (.pointer (some p))):
 (ReflectliteValue.method (ReflectliteValue.valueError "reflectlite.Value.Elem" 0) ReflectliteValue.elem #[.agg #[.pointer (some ⟨3,84,none⟩),.pointer (some a),.int .u64 150]]).run Tryz.prog W
   =.ok (.agg #[.pointer (some ⟨3,82,none⟩),.pointer (some p),.int .u64 406]) W:=by
 rw [q7c]
 simp only [Sem.run_bind,qu1,Result.andThen]
 simp [ReflectliteValue.elem,loadVar,isAgg,underlying,Tryz.underlying84,ha,Result.andThen,q0m,q78]
theorem q77 (v x:Value):ReflectliteValue.set #[v,x]=(do
 let (some (dst,a,fl),some (src,b,_)):=(<-ReflectliteValue.parts v,<-ReflectliteValue.parts x)
  | unsupported (.noEntry "extern/(internal/reflectlite.Value).Set.zeroValue")
 if fl / ReflectliteValue.flagAddr % 2 == 0 then unsupported (.noEntry "extern/(internal/reflectlite.Value).Set.unaddressable")
 let val<-loadVar src b
 if<-Rtype.directlyAssignable dst src then storeVar dst a val
 else if<-Rtype.implements dst src then
  if (<-Rtype.kind src)==20 then
   match val with
   | .nilIface => unsupported (.noEntry "extern/reflectlite: a nil value of one interface type handed on as a value of another")
   | _=>storeVar dst a val
  else storeVar dst a (.iface src val)
 else panicString ("reflectlite.Set: value of type " ++ (<- Rtype.spelt src) ++ " is not assignable to type " ++ (<- Rtype.spelt dst))
 pure (.tuple #[])):=rfl
theorem q0l (a:Addr) (w:World):(ReflectliteValue.parts (.agg #[.pointer (some ⟨3,82,none⟩),.pointer (some a),.int .u64 406])).run Tryz.prog w=.ok (some (82,a,406)) w:=by kernel_rfl
theorem q3a (a:Addr) (w:World):(ReflectliteValue.parts (.agg #[.pointer (some ⟨3,82,none⟩),.pointer (some a),.int .u64 150])).run Tryz.prog w=.ok (some (82,a,150)) w:=by kernel_rfl
theorem q0n (w:World):(Rtype.directlyAssignable 82 82).run Tryz.prog w=.ok true w:=by kernel_rfl
theorem q7b (ta b e:Addr) (old:Value) (W:World) (hb:W.cell? b=some (.pointer (some e))) (ht:W.cell? ta=some old) (hf:W.frozen? ta=false):
 (ReflectliteValue.set #[.agg #[.pointer (some ⟨3,82,none⟩),.pointer (some ta),.int .u64 406],.agg #[.pointer (some ⟨3,82,none⟩),.pointer (some b),.int .u64 150]]).run Tryz.prog W
   =.ok (.tuple #[]) (W.setCell ta (.pointer (some e))):=by
 rw [q77]
 simp only [Sem.run_bind,q0l,q3a,Result.andThen]
 simp [ReflectliteValue.flagAddr,loadVar,isAgg,underlying,Tryz.underlying82,hb,Result.andThen,q0n,storeVar,Value.cells,storeCells,Addr.add]
 rw [run_store Tryz.prog W ta _ _ (by rfl)]
 simp [ht,hf]
def ErrT (w:World):Prop:=w.cell? ⟨0,0,none⟩=some (.iface 191 (.agg #[.pointer (some ⟨3,34,none⟩)]))
theorem q7a (e t:Addr) (old:Value) (w:World) (hg0:ErrT w) (ht0:w.cell? t=some old) (hf0:w.frozen? t=false):
 C9 27 #[.iface 82 (.pointer (some e)),.iface 84 (.pointer (some t))] w fun ev w' =>ev=.returned (.bool true)/\w' =((((w.alloc (.cells #[.pointer (some t)] 84)).alloc (.cells #[.pointer (some ⟨3,84,none⟩),.pointer (some ⟨w.heap.size,0,none⟩),.int .u64 150] 137)).alloc (.cells #[.pointer (some ⟨3,84,none⟩),.pointer (some ⟨w.heap.size,0,none⟩),.int .u64 150] 137)).alloc (.cells #[.pointer (some e)] 82)).setCell t (.pointer (some e)):=by
 have hg:w.cell? ⟨0,0,none⟩=some (.iface 191 (.agg #[.pointer (some ⟨3,34,none⟩)])):=hg0;have h6:= @run_callFunc_extern Tryz.prog 54 _ (fun args=>ReflectliteValue.unpack (args.getD 0 (.tuple #[]))) Tryz.func54 kr kr kr kr
 have h7 := @run_callFunc_extern Tryz.prog 55 _ (ReflectliteValue.methodAny (ReflectliteValue.valueError "reflectlite.Value.Type" 0) (fun t _ _ _ => ReflectliteType.toType t)) Tryz.func55 kr kr kr kr
 have h8 := @run_callFunc_extern Tryz.prog 56 _ (ReflectliteValue.method (ReflectliteValue.valueError "reflectlite.Value.IsNil" 0) ReflectliteValue.isNil) Tryz.func56 kr kr kr kr
 have h27:= @run_callFunc_extern Tryz.prog 233 _ (ReflectliteType.abiMethod fun t=>do pure (.int .u8 (<-Rtype.kind t))) Tryz.func233 kr kr kr kr
 have h37:= @run_callFunc_extern Tryz.prog 271 _ (ReflectliteType.method ReflectliteType.elem) Tryz.func271 kr kr kr kr
 have h38 := @run_callFunc_extern Tryz.prog 272 _ (ReflectliteType.relation "Implements" ReflectliteType.implements_) Tryz.func272 kr kr kr kr
 have h10:= @run_callFunc_extern Tryz.prog 96 _ ReflectliteType.typeOf Tryz.func96 kr kr kr kr
 have h35 := @run_callFunc_extern Tryz.prog 269 _ (ReflectliteType.relation "AssignableTo" ReflectliteType.assignableTo) Tryz.func269 kr kr kr kr
 have h11 := @run_callFunc_extern Tryz.prog 98 _ (ReflectliteValue.method (ReflectliteValue.valueError "reflectlite.Value.Elem" 0) ReflectliteValue.elem) Tryz.func98 kr kr kr kr
 have h12:= @run_callFunc_extern Tryz.prog 99 _ ReflectliteValue.set Tryz.func99 kr kr kr kr
 have tO:=q0k;have mA:=qhu;have a25:=qo2;have v25:=qxb;have f6:=qxa;have f7:=q5m;have mK:=qrb;have mE:=qrc;have mI:=qja;have k27:=q5n;have k25:=q5o;have e27:=q5q;have i25:=qo1;have n8:=q5p ⟨w.heap.size,0,none⟩ t ((w.alloc (.cells #[.pointer (some t)] 84)).alloc (.cells #[.pointer (some ⟨3,84,none⟩),.pointer (some ⟨w.heap.size,0,none⟩),.int .u64 150] 137)) sI
 have hlt:0<w.heap.size:=by
  rcases zry 0 w.heap.size with h|h
  · exact h
  · simp [World.cell?,zxy h] at hg
 have hg2:((w.alloc (.cells #[.pointer (some t)] 84)).alloc (.cells #[.pointer (some ⟨3,84,none⟩),.pointer (some ⟨w.heap.size,0,none⟩),.int .u64 150] 137)).cell? ⟨0,0,none⟩=some (.iface 191 (.agg #[.pointer (some ⟨3,34,none⟩)])):=by
  rw [World.cell?_alloc_lt _ _ ⟨0,0,none⟩ (by first|(simp;done)|(simp;omega)),World.cell?_alloc_lt _ _ ⟨0,0,none⟩ hlt];exact hg
 have htl:t.block<w.heap.size:=by
  rcases zry t.block w.heap.size with h|h
  · exact h
  · simp [World.cell?,zxy h] at ht0
 have el:=q3b ⟨w.heap.size,0,none⟩ t (((w.alloc (.cells #[.pointer (some t)] 84)).alloc (.cells #[.pointer (some ⟨3,84,none⟩),.pointer (some ⟨w.heap.size,0,none⟩),.int .u64 150] 137)).alloc (.cells #[.pointer (some ⟨3,84,none⟩),.pointer (some ⟨w.heap.size,0,none⟩),.int .u64 150] 137)) (by rw [World.cell?_alloc_lt _ _ ⟨w.heap.size,0,none⟩ (by simp;omega)];simp)
 have st:=q7b t ⟨w.heap.size+1+1+1,0,none⟩ e old ((((w.alloc (.cells #[.pointer (some t)] 84)).alloc (.cells #[.pointer (some ⟨3,84,none⟩),.pointer (some ⟨w.heap.size,0,none⟩),.int .u64 150] 137)).alloc (.cells #[.pointer (some ⟨3,84,none⟩),.pointer (some ⟨w.heap.size,0,none⟩),.int .u64 150] 137)).alloc (.cells #[.pointer (some e)] 82))
  (by rw [World.cell?_alloc_at _ _ _ _ sI];rfl)
  (by rw [World.cell?_alloc_lt _ _ t (by simp;omega),World.cell?_alloc_lt _ _ t (by simp;omega),World.cell?_alloc_lt _ _ t (by simp;omega),World.cell?_alloc_lt _ _ t htl];exact ht0)
  (by rw [World.frozen?_alloc_old _ _ t (by simp;omega),World.frozen?_alloc_old _ _ t (by simp;omega),World.frozen?_alloc_old _ _ t (by simp;omega),World.frozen?_alloc_old _ _ t (Nat.ne_of_lt htl)];exact hf0)
 clear hg0
 go_enter Tryz.func27,Tryz.ntmps27
 go_wp2;refine wp_loop_rounds 1 ?_
 rw [rounds_succ]
 go_wp2;go_ret;exact⟨rfl,rfl⟩
end Go.Proofs.YteodamnfgcnmmaaGreatDoor
namespace Go.Proofs.YteodamnfgcnmmaaGreatDoor
open Go.RowKit Pg
def q7i (w:World) (v:Value) (k:Nat):Prop:=
 (k=0/\v=.nilIface)\/(k≠0/\k<=15/\(∃t u,v=.iface t u)/\∀b:Nat,1<=b->C9 53 #[v,.iface 105 (.int .i64 b)] w fun e w' =>e=.returned (.bool (decide (k=b)))/\w=w')
theorem q21 (v:Value) (k:Nat) (w:World) (hv:q7i w v k):
 C9 26 #[v] w fun e w' =>e=.returned (.int .i64 k)/\w=w' :=by
 rcases hv with ⟨h0,rfl⟩|⟨h0,hk,⟨t,u,rfl⟩,hi⟩
 · subst h0
   go_enter Tryz.func26,Tryz.ntmps26
   go_wp2;go_ret;exact⟨rfl,rfl⟩
 · have HI:=hdQ hi
   clear hi
   go_enter Tryz.func26,Tryz.ntmps26
   go_wp2
   go_loop [3] (fun i=>∃m:Nat,1<=m/\m<=k/\i=.int .i64 m) (fun i=>16-(intOf i).toNat)
   case atStart=>exact ⟨1,by omega,by omega,rfl⟩
   case round=>
    obtain⟨m,hm1,hmk,rfl⟩:=hrel;have hm15:(m:Int)<=15:=oQ
    by_cases e:k=m
    · have HE:Hid (decide (k=m)=true):=by simp [Hid,e]
      have HK:=hdQ e;clear e
      go_wp2_with (go_at_call 53;refine(HI.out m hm1).mono ?_;rw [HE.out];rintro e w1 ⟨rfl,rfl⟩)
      go_ret;exact⟨qfu (by rw [HK.out]),rfl⟩
    · have HE:Hid (decide (k=m)=false):=by simp [Hid,e]
      have hlt:m<k:=oQ
      clear e
      go_wp2_with (go_at_call 53;refine(HI.out m hm1).mono ?_;rw [HE.out];rintro e w1 ⟨rfl,rfl⟩)
      go_round
      case rel=>exact ⟨m+1,by omega,by omega,by go_num⟩
      case measure=>simp [intOf];omega
theorem ErrT.lt {w:World} (h:ErrT w):0<w.heap.size:=by
 unfold ErrT at h
 rcases zry 0 w.heap.size with k|k
 · exact k
 · simp [World.cell?,zxy k] at h
theorem ErrT.below {w w' :World} {B:Nat} (h:ErrT w) (hb:Below B w w') (hB:0<B):ErrT w' :=by
 unfold ErrT at*
 rw [<-h]
 exact hb.cell (p:=⟨0,0,none⟩) hB
theorem ErrT.tr {w w' :World} (h:ErrT w) (hb:Below w.heap.size w w'):ErrT w' :=h.below hb h.lt
theorem q5l (e:Addr) (tb:Nat) (old:Value) (w:World) (hg:ErrT w) (ht:w.cell? ⟨tb,0,none⟩=some old) (hf:w.frozen? ⟨tb,0,none⟩=false):
 C9 27 #[.iface 82 (.pointer (some e)),.iface 84 (.pointer (some ⟨tb,0,none⟩))] w fun ev w' =>ev=.returned (.bool true)/\w'.cell? ⟨tb,0,none⟩=some (.pointer (some e))/\(∀b o,b<w.heap.size->b≠tb->w'.cell? ⟨b,o,none⟩=w.cell? ⟨b,o,none⟩)/\Below tb w w' :=by
 have htl:tb<w.heap.size:=by
  rcases zry tb w.heap.size with h|h
  · exact h
  · simp [World.cell?,zxy h] at ht
 refine(q7a e ⟨tb,0,none⟩ old w hg ht hf).mono ?_;rintro ev w' ⟨rfl,rfl⟩;obtain⟨w4,hw4⟩:∃w4,((((w.alloc (.cells #[.pointer (some ⟨tb,0,none⟩)] 84)).alloc (.cells #[.pointer (some ⟨3,84,none⟩),.pointer (some ⟨w.heap.size,0,none⟩),.int .u64 150] 137)).alloc (.cells #[.pointer (some ⟨3,84,none⟩),.pointer (some ⟨w.heap.size,0,none⟩),.int .u64 150] 137)).alloc (.cells #[.pointer (some e)] 82))=w4:=⟨_,rfl⟩;have hb:Below w.heap.size w w4:=by subst hw4;exact bel
 rw [hw4]
 have h0:w4.cell? ⟨tb,0,none⟩=some old:=(hb.cell (p:=⟨tb,0,none⟩) htl).trans ht;refine⟨rfl,?_,fun b o hb1 hne=> ?_,(hb.mono (Nat.le_of_lt htl)).setCell (zhy _) _⟩
 · rw [World.cell?_setCell_same _ _ _ h0]
 · rw [World.cell?_setCell_other]
   · exact hb.cell (p:=⟨b,o,none⟩) hb1
   · intro e;injection e with e1;exact hne e1.symm
end Go.Proofs.YteodamnfgcnmmaaGreatDoor
