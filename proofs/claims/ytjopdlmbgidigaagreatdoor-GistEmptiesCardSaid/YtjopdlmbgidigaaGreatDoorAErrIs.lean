/-errors.Is by contracts,at an error that is nothing,a number,or one or -/
import Derived.Test.YtjopdlmbgidigaaGreatDoorARef3
import Derived.LaidEql
import Derived.Stop.Asserts
import Derived.Lib.IfaceEq
import Derived.RowKitTokens
set_option linter.unusedVariables false
set_option linter.unusedSimpArgs false
set_option maxHeartbeats 4000000
namespace Go.Proofs.YtjopdlmbgidigaaGreatDoor
open Go.RowKit Pg Go.Extern.Stop Go.Stop Go.Extern
theorem q23 (v:Value) (w:World):(Extern.ReflectliteType.typeOf #[.iface 65 v]).run Tryz.prog w=.ok (.iface 171 (.agg #[.pointer (some ⟨3,65,none⟩)])) w:=by kernel_rfl
def q7k : Array Value -> Sem Value := Extern.ReflectliteType.method fun t => do Rtype.noPackHeld "Comparable" t;pure (.bool (<- typeInfo t).comparable)
theorem qqm (w:World):(q7k #[.agg #[.pointer (some ⟨3,65,none⟩)]]).run Tryz.prog w=.ok (.bool true) w:=by kernel_rfl
theorem qi6 (v : Value) (w : World) : (Go.method 449 171 v "Comparable").run Tryz.prog w = .ok (280,v) w := by kernel_rfl
theorem q76 (v:Value) (xT:TypeId) (w:World):(Instr.typeAssert (.iface 65 v) xT 218 true).run Tryz.prog w=.ok (.tuple #[.nilIface,.bool false]) w:=run_typeAssert_lacksB Tryz.underlying218 kr kr v xT w
theorem q75 (v:Value) (xT:TypeId) (w:World):(Instr.typeAssert (.iface 94 v) xT 218 true).run Tryz.prog w=.ok (.tuple #[.nilIface,.bool false]) w:=run_typeAssert_lacksB Tryz.underlying218 kr kr v xT w
theorem qy7 (v:Value) (xT:TypeId) (w:World):(Instr.typeAssert (.iface 65 v) xT 178 true).run Tryz.prog w=.ok (.tuple #[.nilIface,.bool false]) w:=run_typeAssert_lacksB Tryz.underlying178 kr kr v xT w
theorem qwl (v:Value) (xT:TypeId) (w:World):(Instr.typeAssert (.iface 94 v) xT 178 true).run Tryz.prog w=.ok (.tuple #[.iface 94 v,.bool true]) w:=run_typeAssert_hasB Tryz.underlying178 kr v xT w
theorem qv7 (v:Value) (xT:TypeId) (w:World):(Instr.typeAssert (.iface 65 v) xT 180 true).run Tryz.prog w=.ok (.tuple #[.nilIface,.bool false]) w:=run_typeAssert_lacksB Tryz.underlying180 kr kr v xT w
theorem qqh (v : Value) (w : World) : (Go.method 449 94 v "Unwrap").run Tryz.prog w = .ok (240,v) w := by kernel_rfl
theorem qz7:(Tryz.prog.info? 65).map (·.comparable)=some true:=by kernel_rfl
theorem qxc (t:Addr) (w:World):(ReflectliteValue.unpack (.iface 96 (.pointer (some t)))).run Tryz.prog w
 =.ok (.agg #[.pointer (some ⟨3,96,none⟩),.pointer (some ⟨w.heap.size,0,none⟩),.int .u64 150]) (w.alloc (.cells #[.pointer (some t)] 96)):=by kernel_rfl
theorem q55 (a : Addr) (w : World) : (ReflectliteValue.methodAny (ReflectliteValue.valueError "reflectlite.Value.Type" 0) (fun t _ _ _ => ReflectliteType.toType t) #[.agg #[.pointer (some ⟨3,96,none⟩),.pointer (some a),.int .u64 150]]).run Tryz.prog w
 =.ok (.iface 171 (.agg #[.pointer (some ⟨3,96,none⟩)])) w:=by kernel_rfl
theorem qrg (h : Value) (w : World) : (Go.method 449 171 (.agg #[h]) "Kind").run Tryz.prog w = .ok (180,h) w := by kernel_rfl
theorem q56 (w:World):((ReflectliteType.abiMethod fun t=>(fun a:Nat=>Value.int IntKind.u8 (a:Int))<$>Rtype.kind t) #[.pointer (some ⟨3,96,none⟩)]).run Tryz.prog w=.ok (.int .u8 22) w:=by kernel_rfl
theorem q57 (w:World):((ReflectliteType.abiMethod fun t=>(fun a:Nat=>Value.int IntKind.u8 (a:Int))<$>Rtype.kind t) #[.pointer (some ⟨3,94,none⟩)]).run Tryz.prog w=.ok (.int .u8 22) w:=by kernel_rfl
theorem q7w (z:Sem Value) (f:TypeId->Addr->Nat->Nat->Sem Value) (v:Value):
 ReflectliteValue.method z f #[v]=(do match<-ReflectliteValue.parts v with|none=>z|some (t,a,fl)=>f t a fl (fl%32)):=rfl
theorem qvd (a:Addr) (w:World):(ReflectliteValue.parts (.agg #[.pointer (some ⟨3,96,none⟩),.pointer (some a),.int .u64 150])).run Tryz.prog w=.ok (some (96,a,150)) w:=by kernel_rfl
theorem q58 (a p:Addr) (W:World) (ha:W.cell? a=some (.pointer (some p))):
 (ReflectliteValue.method (ReflectliteValue.valueError "reflectlite.Value.IsNil" 0) ReflectliteValue.isNil #[.agg #[.pointer (some ⟨3,96,none⟩),.pointer (some a),.int .u64 150]]).run Tryz.prog W = .ok (.bool false) W := by
 rw [q7w]
 simp only [Sem.run_bind,qvd,Result.andThen]
 simp [ReflectliteValue.isNil,loadVar,isAgg,underlying,Tryz.underlying96,ha,Result.andThen]
theorem qrh (h : Value) (w : World) : (Go.method 449 171 (.agg #[h]) "Elem").run Tryz.prog w = .ok (281,.agg #[h]) w := by kernel_rfl
theorem qhx (h : Value) (w : World) : (Go.method 449 171 (.agg #[h]) "AssignableTo").run Tryz.prog w = .ok (279,.agg #[h]) w := by kernel_rfl
theorem qjd (h : Value) (w : World) : (Go.method 449 171 (.agg #[h]) "Implements").run Tryz.prog w = .ok (282,.agg #[h]) w := by kernel_rfl
theorem q59 (w:World):(ReflectliteType.method ReflectliteType.elem #[.agg #[.pointer (some ⟨3,96,none⟩)]]).run Tryz.prog w=.ok (.iface 171 (.agg #[.pointer (some ⟨3,94,none⟩)])) w:=by kernel_rfl
theorem qpe (w : World) : (ReflectliteType.relation "Implements" ReflectliteType.implements_ #[.agg #[.pointer (some ⟨3,94,none⟩)],.iface 171 (.agg #[.pointer (some ⟨3,30,none⟩)])]).run Tryz.prog w = .ok (.bool true) w := by kernel_rfl
theorem q0y (v:Value) (w:World):(ReflectliteType.typeOf #[.iface 94 v]).run Tryz.prog w=.ok (.iface 171 (.agg #[.pointer (some ⟨3,94,none⟩)])) w:=by kernel_rfl
theorem qpf (w : World) : (ReflectliteType.relation "AssignableTo" ReflectliteType.assignableTo #[.agg #[.pointer (some ⟨3,94,none⟩)],.iface 171 (.agg #[.pointer (some ⟨3,94,none⟩)])]).run Tryz.prog w = .ok (.bool true) w := by kernel_rfl
theorem qxd (e:Addr) (w:World):(ReflectliteValue.unpack (.iface 94 (.pointer (some e)))).run Tryz.prog w
 =.ok (.agg #[.pointer (some ⟨3,94,none⟩),.pointer (some ⟨w.heap.size,0,none⟩),.int .u64 150]) (w.alloc (.cells #[.pointer (some e)] 94)):=by kernel_rfl
theorem q00 (w:World):(Rtype.elem? 96).run Tryz.prog w=.ok (some 94) w:=by kernel_rfl
theorem q8m (p:Addr) (w:World):(ReflectliteValue.mk 94 p ReflectliteValue.flagAddr).run Tryz.prog w=.ok (.agg #[.pointer (some ⟨3,94,none⟩),.pointer (some p),.int .u64 406]) w:=by kernel_rfl
theorem q3o (a p:Addr) (W:World) (ha:W.cell? a=some (.pointer (some p))):
 (ReflectliteValue.method (ReflectliteValue.valueError "reflectlite.Value.Elem" 0) ReflectliteValue.elem #[.agg #[.pointer (some ⟨3,96,none⟩),.pointer (some a),.int .u64 150]]).run Tryz.prog W
   =.ok (.agg #[.pointer (some ⟨3,94,none⟩),.pointer (some p),.int .u64 406]) W:=by
 rw [q7w]
 simp only [Sem.run_bind,qvd,Result.andThen]
 simp [ReflectliteValue.elem,loadVar,isAgg,underlying,Tryz.underlying96,ha,Result.andThen,q00,q8m]
theorem q8l (v x:Value):ReflectliteValue.set #[v,x]=(do
 let (some (dst,a,fl),some (src,b,_)):=(<-ReflectliteValue.parts v,<-ReflectliteValue.parts x)
  | unsupported (.noEntry "extern/(internal/reflectlite.Value).Set.zeroValue")
 if fl / ReflectliteValue.flagAddr % 2 == 0 then unsupported (.noEntry "extern/(internal/reflectlite.Value).Set.unaddressable")
 let val<-loadVar src b
 if<-Rtype.directlyAssignable dst src then storeVar dst a val
 else if<-Rtype.implements dst src then
  if (<-Rtype.kind src)==20 then
   match val with
   | .nilIface => unsupported (.noEntry "extern/reflectlite: a nil value of one interface type handed on as a value of another")
   | _=>storeVar dst a val
  else storeVar dst a (.iface src val)
 else panicString ("reflectlite.Set: value of type " ++ (<- Rtype.spelt src) ++ " is not assignable to type " ++ (<- Rtype.spelt dst))
 pure (.tuple #[])):=rfl
theorem q0z (a:Addr) (w:World):(ReflectliteValue.parts (.agg #[.pointer (some ⟨3,94,none⟩),.pointer (some a),.int .u64 406])).run Tryz.prog w=.ok (some (94,a,406)) w:=by kernel_rfl
theorem q3n (a:Addr) (w:World):(ReflectliteValue.parts (.agg #[.pointer (some ⟨3,94,none⟩),.pointer (some a),.int .u64 150])).run Tryz.prog w=.ok (some (94,a,150)) w:=by kernel_rfl
theorem q01 (w:World):(Rtype.directlyAssignable 94 94).run Tryz.prog w=.ok true w:=by kernel_rfl
theorem q7v (ta b e:Addr) (old:Value) (W:World) (hb:W.cell? b=some (.pointer (some e))) (ht:W.cell? ta=some old) (hf:W.frozen? ta=false):
 (ReflectliteValue.set #[.agg #[.pointer (some ⟨3,94,none⟩),.pointer (some ta),.int .u64 406],.agg #[.pointer (some ⟨3,94,none⟩),.pointer (some b),.int .u64 150]]).run Tryz.prog W
   =.ok (.tuple #[]) (W.setCell ta (.pointer (some e))):=by
 rw [q8l]
 simp only [Sem.run_bind,q0z,q3n,Result.andThen]
 simp [ReflectliteValue.flagAddr,loadVar,isAgg,underlying,Tryz.underlying94,hb,Result.andThen,q01,storeVar,Value.cells,storeCells,Addr.add]
 rw [run_store Tryz.prog W ta _ _ (by rfl)]
 simp [ht,hf]
def ErrT (w:World):Prop:=w.cell? ⟨0,0,none⟩=some (.iface 171 (.agg #[.pointer (some ⟨3,30,none⟩)]))
theorem q7u (e t:Addr) (old:Value) (w:World) (hg0:ErrT w) (ht0:w.cell? t=some old) (hf0:w.frozen? t=false):
 C9 38 #[.iface 94 (.pointer (some e)),.iface 96 (.pointer (some t))] w fun ev w' =>ev=.returned (.bool true)/\w' =((((w.alloc (.cells #[.pointer (some t)] 96)).alloc (.cells #[.pointer (some ⟨3,96,none⟩),.pointer (some ⟨w.heap.size,0,none⟩),.int .u64 150] 134)).alloc (.cells #[.pointer (some ⟨3,96,none⟩),.pointer (some ⟨w.heap.size,0,none⟩),.int .u64 150] 134)).alloc (.cells #[.pointer (some e)] 94)).setCell t (.pointer (some e)):=by
 have hg:w.cell? ⟨0,0,none⟩=some (.iface 171 (.agg #[.pointer (some ⟨3,30,none⟩)])):=hg0;have h6:= @run_callFunc_extern Tryz.prog 61 _ (fun args=>ReflectliteValue.unpack (args.getD 0 (.tuple #[]))) Tryz.func61 kr kr kr kr
 have h7 := @run_callFunc_extern Tryz.prog 62 _ (ReflectliteValue.methodAny (ReflectliteValue.valueError "reflectlite.Value.Type" 0) (fun t _ _ _ => ReflectliteType.toType t)) Tryz.func62 kr kr kr kr
 have h8 := @run_callFunc_extern Tryz.prog 63 _ (ReflectliteValue.method (ReflectliteValue.valueError "reflectlite.Value.IsNil" 0) ReflectliteValue.isNil) Tryz.func63 kr kr kr kr
 have h27:= @run_callFunc_extern Tryz.prog 180 _ (ReflectliteType.abiMethod fun t=>do pure (.int .u8 (<-Rtype.kind t))) Tryz.func180 kr kr kr kr
 have h37:= @run_callFunc_extern Tryz.prog 281 _ (ReflectliteType.method ReflectliteType.elem) Tryz.func281 kr kr kr kr
 have h38 := @run_callFunc_extern Tryz.prog 282 _ (ReflectliteType.relation "Implements" ReflectliteType.implements_) Tryz.func282 kr kr kr kr
 have h10:= @run_callFunc_extern Tryz.prog 81 _ ReflectliteType.typeOf Tryz.func81 kr kr kr kr
 have h35 := @run_callFunc_extern Tryz.prog 279 _ (ReflectliteType.relation "AssignableTo" ReflectliteType.assignableTo) Tryz.func279 kr kr kr kr
 have h11 := @run_callFunc_extern Tryz.prog 83 _ (ReflectliteValue.method (ReflectliteValue.valueError "reflectlite.Value.Elem" 0) ReflectliteValue.elem) Tryz.func83 kr kr kr kr
 have h12:= @run_callFunc_extern Tryz.prog 84 _ ReflectliteValue.set Tryz.func84 kr kr kr kr
 have tO:=q0y;have mA:=qhx;have a25:=qpf;have v25:=qxd;have f6:=qxc;have f7:=q55;have mK:=qrg;have mE:=qrh;have mI:=qjd;have k27:=q56;have k25:=q57;have e27:=q59;have i25:=qpe;have n8:=q58 ⟨w.heap.size,0,none⟩ t ((w.alloc (.cells #[.pointer (some t)] 96)).alloc (.cells #[.pointer (some ⟨3,96,none⟩),.pointer (some ⟨w.heap.size,0,none⟩),.int .u64 150] 134)) sI
 have hlt:0<w.heap.size:=by
  rcases zry 0 w.heap.size with h|h
  · exact h
  · simp [World.cell?,zxy h] at hg
 have hg2:((w.alloc (.cells #[.pointer (some t)] 96)).alloc (.cells #[.pointer (some ⟨3,96,none⟩),.pointer (some ⟨w.heap.size,0,none⟩),.int .u64 150] 134)).cell? ⟨0,0,none⟩=some (.iface 171 (.agg #[.pointer (some ⟨3,30,none⟩)])):=by
  rw [World.cell?_alloc_lt _ _ ⟨0,0,none⟩ (by first|(simp;done)|(simp;omega)),World.cell?_alloc_lt _ _ ⟨0,0,none⟩ hlt];exact hg
 have htl:t.block<w.heap.size:=by
  rcases zry t.block w.heap.size with h|h
  · exact h
  · simp [World.cell?,zxy h] at ht0
 have el:=q3o ⟨w.heap.size,0,none⟩ t (((w.alloc (.cells #[.pointer (some t)] 96)).alloc (.cells #[.pointer (some ⟨3,96,none⟩),.pointer (some ⟨w.heap.size,0,none⟩),.int .u64 150] 134)).alloc (.cells #[.pointer (some ⟨3,96,none⟩),.pointer (some ⟨w.heap.size,0,none⟩),.int .u64 150] 134)) (by rw [World.cell?_alloc_lt _ _ ⟨w.heap.size,0,none⟩ (by simp;omega)];simp)
 have st:=q7v t ⟨w.heap.size+1+1+1,0,none⟩ e old ((((w.alloc (.cells #[.pointer (some t)] 96)).alloc (.cells #[.pointer (some ⟨3,96,none⟩),.pointer (some ⟨w.heap.size,0,none⟩),.int .u64 150] 134)).alloc (.cells #[.pointer (some ⟨3,96,none⟩),.pointer (some ⟨w.heap.size,0,none⟩),.int .u64 150] 134)).alloc (.cells #[.pointer (some e)] 94))
  (by rw [World.cell?_alloc_at _ _ _ _ sI];rfl)
  (by rw [World.cell?_alloc_lt _ _ t (by simp;omega),World.cell?_alloc_lt _ _ t (by simp;omega),World.cell?_alloc_lt _ _ t (by simp;omega),World.cell?_alloc_lt _ _ t htl];exact ht0)
  (by rw [World.frozen?_alloc_old _ _ t (by simp;omega),World.frozen?_alloc_old _ _ t (by simp;omega),World.frozen?_alloc_old _ _ t (by simp;omega),World.frozen?_alloc_old _ _ t (Nat.ne_of_lt htl)];exact hf0)
 clear hg0
 go_enter Tryz.func38,Tryz.ntmps38
 go_wp2;refine wp_loop_rounds 1 ?_
 rw [rounds_succ]
 go_wp2;go_ret;exact⟨rfl,rfl⟩
end Go.Proofs.YtjopdlmbgidigaaGreatDoor
namespace Go.Proofs.YtjopdlmbgidigaaGreatDoor
open Go.RowKit Pg
def q71 (w:World) (v:Value) (k:Nat):Prop:=
 (k=0/\v=.nilIface)\/(k≠0/\k<=15/\(∃t u,v=.iface t u)/\∀b:Nat,1<=b->C9 60 #[v,.iface 65 (.int .i64 b)] w fun e w' =>e=.returned (.bool (decide (k=b)))/\w=w')
theorem q3g (v:Value) (k:Nat) (w:World) (hv:q71 w v k):
 C9 37 #[v] w fun e w' =>e=.returned (.int .i64 k)/\w=w' :=by
 rcases hv with ⟨h0,rfl⟩|⟨h0,hk,⟨t,u,rfl⟩,hi⟩
 · subst h0
   go_enter Tryz.func37,Tryz.ntmps37
   go_wp2;go_ret;exact⟨rfl,rfl⟩
 · have HI:=hdQ hi
   clear hi
   go_enter Tryz.func37,Tryz.ntmps37
   go_wp2
   go_loop [3] (fun i=>∃m:Nat,1<=m/\m<=k/\i=.int .i64 m) (fun i=>16-(intOf i).toNat)
   case atStart=>exact ⟨1,by omega,by omega,rfl⟩
   case round=>
    obtain⟨m,hm1,hmk,rfl⟩:=hrel;have hm15:(m:Int)<=15:=oQ
    by_cases e:k=m
    · have HE:Hid (decide (k=m)=true):=by simp [Hid,e]
      have HK:=hdQ e;clear e
      go_wp2_with (go_at_call 60;refine(HI.out m hm1).mono ?_;rw [HE.out];rintro e w1 ⟨rfl,rfl⟩)
      go_ret;exact⟨qfq (by rw [HK.out]),rfl⟩
    · have HE:Hid (decide (k=m)=false):=by simp [Hid,e]
      have hlt:m<k:=oQ
      clear e
      go_wp2_with (go_at_call 60;refine(HI.out m hm1).mono ?_;rw [HE.out];rintro e w1 ⟨rfl,rfl⟩)
      go_round
      case rel=>exact ⟨m+1,by omega,by omega,by go_num⟩
      case measure=>simp [intOf];omega
theorem ErrT.lt {w:World} (h:ErrT w):0<w.heap.size:=by
 unfold ErrT at h
 rcases zry 0 w.heap.size with k|k
 · exact k
 · simp [World.cell?,zxy k] at h
theorem ErrT.below {w w' :World} {B:Nat} (h:ErrT w) (hb:Below B w w') (hB:0<B):ErrT w' :=by
 unfold ErrT at*
 rw [<-h]
 exact hb.cell (p:=⟨0,0,none⟩) hB
theorem ErrT.tr {w w' :World} (h:ErrT w) (hb:Below w.heap.size w w'):ErrT w' :=h.below hb h.lt
theorem q54 (e:Addr) (tb:Nat) (old:Value) (w:World) (hg:ErrT w) (ht:w.cell? ⟨tb,0,none⟩=some old) (hf:w.frozen? ⟨tb,0,none⟩=false):
 C9 38 #[.iface 94 (.pointer (some e)),.iface 96 (.pointer (some ⟨tb,0,none⟩))] w fun ev w' =>ev=.returned (.bool true)/\w'.cell? ⟨tb,0,none⟩=some (.pointer (some e))/\(∀b o,b<w.heap.size->b≠tb->w'.cell? ⟨b,o,none⟩=w.cell? ⟨b,o,none⟩)/\Below tb w w' :=by
 have htl:tb<w.heap.size:=by
  rcases zry tb w.heap.size with h|h
  · exact h
  · simp [World.cell?,zxy h] at ht
 refine(q7u e ⟨tb,0,none⟩ old w hg ht hf).mono ?_;rintro ev w' ⟨rfl,rfl⟩;obtain⟨w4,hw4⟩:∃w4,((((w.alloc (.cells #[.pointer (some ⟨tb,0,none⟩)] 96)).alloc (.cells #[.pointer (some ⟨3,96,none⟩),.pointer (some ⟨w.heap.size,0,none⟩),.int .u64 150] 134)).alloc (.cells #[.pointer (some ⟨3,96,none⟩),.pointer (some ⟨w.heap.size,0,none⟩),.int .u64 150] 134)).alloc (.cells #[.pointer (some e)] 94))=w4:=⟨_,rfl⟩;have hb:Below w.heap.size w w4:=by subst hw4;exact bel
 rw [hw4]
 have h0:w4.cell? ⟨tb,0,none⟩=some old:=(hb.cell (p:=⟨tb,0,none⟩) htl).trans ht;refine⟨rfl,?_,fun b o hb1 hne=> ?_,(hb.mono (Nat.le_of_lt htl)).setCell (zhy _) _⟩
 · rw [World.cell?_setCell_same _ _ _ h0]
 · rw [World.cell?_setCell_other]
   · exact hb.cell (p:=⟨b,o,none⟩) hb1
   · intro e;injection e with e1;exact hne e1.symm
end Go.Proofs.YtjopdlmbgidigaaGreatDoor
