/-gist-/
import Derived.Test.YtfnhnjbkkggbeaaGreatHGisX
import Derived.Test.YtfnhnjbkkggbeaaGreatHGisZ
import Derived.Test.YtfnhnjbkkggbeaaGreatHAlkI
import Derived.Test.YtfnhnjbkkggbeaaGreatHSndC
import Derived.Deep.CutBlock
import Derived.Deep.DeepCutAuto
set_option linter.unusedVariables false
set_option linter.unusedSimpArgs false
set_option maxHeartbeats 2000000
namespace Go.Proofs.YtfnhnjbkkggbeaaGreat
open Go Go.RowKit Pg
theorem qx0 {q:Qu} (hq:ckQu q≠0) (I:List (Int×Ob)):qhp q I= []:=by
 unfold qhp
 rw [List.map_eq_nil_iff,List.filter_eq_nil_iff]
 intro p _;unfold qbu
 rw [if_neg (fun h=>hq h.2)]
 simp
def qmu (p:Pt) (k:Int) (I:List (Int×Ob)):List Nr:=if okPt p=true then(qp9 (fun o=>qcf o p) I).take k.toNat else []
section
variable {w:World} {own imm:Nat->Prop} {tb mb:Nat} {t:Tr}
theorem qn8 {C:Cl} {ct:TypeId} {cv:Value} (h:GAt C (.iface ct cv) w own imm tb mb t) (q:Qu) (hq:ckQu q≠0) (A:Option Addr) (m c:Nat) (hm:m<=1000000) (hr:qak w w.heap.size A m q.ring):
 C9 13 #[gP tb,quV q.kind q.box A m c] w (Ret w (.slice none 0 0)):=by
 obtain⟨k,hk⟩:∃k,ckQu q=k:=⟨_,rfl⟩;have HG:=hdQ (fun W (hW:Below w.heap.size w W)=>qdq (h.lay.tr hW))
 have HCQ:=hdQ (fun W (hW:Below w.heap.size w W)=>show C9 27 #[quV q.kind q.box A m c] W (RetW W k ⟨#[113,117,101,114,121]⟩ q.kind) from by
  have:=qhz w.heap.size m c q.kind q.box A q.ring W (hr.below hW) hW.size hm;rw [show (⟨q.kind,q.box,q.ring⟩:Qu)=q from rfl,hk] at this
  exact this)
 rw [hk] at hq;have HK:=hdQ hq;clear hr hk hq h;obtain⟨qk,⟨⟨x0,y0⟩,x1,y1⟩,ring⟩:=q
 simp only [gP,quV] at*
 go_enter Tryz.func13,Tryz.ntmps13
 go_wp2_with (first|(go_at_call 25;(refine(HG.out _ bel).monoR ?_);rintro wp hbp hcp hfp hzp;(try simp at hzp);have hyp0:=ol1 w wp)|(go_at_call 27;((refine(HCQ.out _ bel).mono ?_);rintro e w2 ⟨v2,rfl,hv2,hb2⟩;obtain⟨te,ue,rfl⟩:=ErrX.succ (ErrW.x hv2) HK.out;clear hv2;obtain⟨hc2,hf2,hz2⟩:=bc3 hb2;(try simp at hz2))))
 go_ret;exact⟨rfl,bel⟩
theorem qmt {C:Cl} {ct:TypeId} {cv:Value} (h:GAt C (.iface ct cv) w own imm tb mb t) (x y:Int) (hp:okPt ⟨x,y⟩=false) (k:Int):
 C9 15 #[gP tb,ptV x y,.int .i64 k] w (Ret w (.slice none 0 0)):=by
 have HG:=hdQ (fun W (hW:Below w.heap.size w W)=>qdq (h.lay.tr hW))
 have HCP:Hid (∀W,C9 32 #[ptV x y] W (Ret W (.iface 75 (.int .i64 2)))):=fun W=>by
  have:=qay x y W;rw [hp] at this;exact this
 clear hp h
 simp only [gP,ptV] at*
 go_enter Tryz.func15,Tryz.ntmps15
 go_wp2_with (first|(go_at_call 25;(refine(HG.out _ bel).monoR ?_);rintro wg hbg hcg hfg hzg;(try simp at hzg);have hyg0:=ol1 w wg)|(go_at_call 32;(refine(HCP.out _).monoR ?_);rintro wp hbp hcp hfp hzp;(try simp at hzp);have hyp0:=ol1 w wp))
 go_ret;exact⟨rfl,bel⟩
end
structure AnsT (w:World) (tb:Nat) (I:List (Int×Ob)):Prop where
 srch:∀W,Below w.heap.size w W->∀(q:Qu) (A:Option Addr) (m c:Nat),m<=1000000->qak W W.heap.size A m q.ring->C9 13 #[gP tb,quV q.kind q.box A m c] W fun e w' =>∃v,e=.returned v/\w'.ownsRow W.heap.size 3 1 v (qhp q I).length (idcs (qhp q I))/\Below W.heap.size W w'
 near:∀W,Below w.heap.size w W->∀(x y k:Int),C9 15 #[gP tb,ptV x y,.int .i64 k] W fun e w' =>∃v,e=.returned v/\w'.ownsRow W.heap.size 73 4 v (qmu ⟨x,y⟩ k I).length (nrVs (qmu ⟨x,y⟩ k I))/\Below W.heap.size W w'
 rise:qcq I
 ok:∀p∈I,(0<=p.1/\p.1<=1099511627776)/\ckOb p.2=0
theorem ansT {C:Cl} {ct:TypeId} {cv:Value} {w:World} {own imm:Nat->Prop} {tb mb:Nat} {t:Tr} {fM fC fD fU fS:Nat} {cov:List Nat->Ob->Prop} {good:List Nat->Prop} (hC:ClAt ct cv C fM fC fD fU fS) (hLw:Lawful C cov good) (h:GAt C (.iface ct cv) w own imm tb mb t) (hcount:t.items.length<=40000):AnsT w tb (obsT t.items) where
 srch W hW q A m c hm hr:=by
  by_cases hq:ckQu q=0
  · exact qxh hC hLw W (h.tr hW) oQ q hq A m c hm hr
  · rw [qx0 hq]
    exact(qn8 (h.tr hW) q hq A m c hm hr).mono fun e w' ⟨he,hb⟩=>⟨_,he,World.ownsRow_nil _ _ _ _,hb⟩
 near W hW x y k:=by
  unfold qmu
  cases hp:okPt ⟨x,y⟩ with
  | true=>exact q2q hC hLw (h.tr hW) hcount x y hp k
  | false=>exact (qmt (h.tr hW) x y hp k).mono fun e w' ⟨he,hb⟩=>⟨_,he,World.ownsRow_nil _ _ _ _,hb⟩
 rise:=by unfold obsT qcq;rw [List.pairwise_map];exact h.shape.rise
 ok p hp:=by
  obtain⟨⟨i,it⟩,hm,rfl⟩:=zty.1 hp;have:=h.its i it (qfl h.shape.rise hm);exact⟨this.1,this.2.1⟩
theorem q2o (id:Int) (x:It) (m:List (Int×It)):obsT (putK id x m)=putK id x.ob (obsT m):=(qt9 (fun x:It=>x.ob) id x m).symm
theorem qge (m:List (Int×It)):(obsT m).length=m.length:=by unfold obsT;rw [zyy]
structure ClOk (ct:TypeId) (cv:Value) (C:Cl) (fM fC fD fU fS fP:Nat):Prop where
 c:ClAt ct cv C fM fC fD fU fS
 p:PenAt ct cv fP
 e:MakeE cv C fM
def TreS (C:Cl) (cl:Value) (B:Nat) (F:Nat->Prop) (w:World) (tb fan:Nat) (I:List (Int×Ob)):Prop:=
 ∃own imm mb t,GAt C cl w own imm tb mb t/\t.fan=fan/\obsT t.items=I/\∀b,own b\/imm b->B<=b/\¬ F b
section
variable {C:Cl} {ct:TypeId} {cv cl:Value} {B:Nat} {F F' :Nat->Prop} {w w' :World} {tb fan:Nat} {I:List (Int×Ob)} {fM fC fD fU fS fP:Nat} {cov:List Nat->Ob->Prop} {good:List Nat->Prop}
theorem TreS.ans (h:TreS C (.iface ct cv) B F w tb fan I) (hC:ClAt ct cv C fM fC fD fU fS) (hLw:Lawful C cov good) (hI:I.length<=40000):AnsT w tb I:=by
 obtain⟨own,imm,mb,t,hG,hf,rfl,hs⟩:=h;exact ansT hC hLw hG (by rw [<-qge];exact hI)
theorem TreS.len (h:TreS C (.iface ct cv) B F w tb fan I):∀W,Below w.heap.size w W->C9 10 #[gP tb] W (Ret W (.int .i64 (I.length:Nat))):=fun W hW=>by
 obtain⟨own,imm,mb,t,hG,hf,rfl,hs⟩:=h
 rw [qge]
 exact q5h (hG.tr hW).lay
def bldO (C:Cl) (I l:List (Int×Ob)):Nat×Int:=if I.length=0 then bldR C [] l else(1,0)
theorem TreS.its (h:TreS C (.iface ct cv) B F w tb fan I) (hI:I.length<=100000) {n:Nat} (hn:I.length=n):∀W,Below w.heap.size w W->C9 18 #[gP tb] W fun e w' =>∃A c L,e=.returned (.slice A n c)/\obsM L=I/\L.length=n/\MisZ w' (fun b=>w.heap.size<=b/\b<w'.heap.size) (.slice A n c) L/\Below W.heap.size W w' :=fun W hW=>by
 obtain⟨own,imm,mb,t,hG,hf,rfl,hs⟩:=h;rw [qge] at hn hI;exact qxi hG hI hn W hW
theorem TreS.snd (h:TreS C (.iface ct cv) B F w tb fan I) (hC:ClAt ct cv C fM fC fD fU fS) (hLw:Lawful C cov good) (hI:I.length<=100000):∀W,Below w.heap.size w W->C9 19 #[gP tb] W (Ret W (.bool true)):=fun W hW=>by
 obtain⟨own,imm,mb,t,hG,hf,rfl,hs⟩:=h;exact q04 hC hLw W (hG.tr hW) (by rw [<-qge];exact hI)
end
theorem qz9 {w:World} {v:Value} {k:Nat} {s:ByteArray} {id:Int} (h:ErrX w v k s id):(k=0/\v=.nilIface)\/(k≠0/\∃t u,v=.iface t u):=by
 rcases h with h|⟨h0,g,d,inner,hv,_,_⟩
 · exact .inl h
 · exact .inr ⟨h0,_,_,hv⟩
theorem qu7 (kd:Int) (bits:Nat) (one:Bool) (brk:Int) (hb:bits<=20):∃fM fC fD fU fS fP,ClOk 34 (clV kd bits one brk) (clsC kd bits one brk) fM fC fD fU fS fP:=⟨_,_,_,_,_,_,qu8 kd bits one brk hb,qyr kd bits one brk,qzm kd bits one brk hb⟩
def cl17:Value:=.iface 34 (clV 3 0 false 0)
theorem qn4 {B:Nat} {F:Nat->Prop} {w W W' :World} (hW:Below w.heap.size w W) (ht:TurnF (fun b=>B<=b/\¬ F b) W W') (hB:w.heap.size<=B):Below w.heap.size w W' :=hW.trans (qh0 ht (fun k q=>zcy hB q.1) hW.size)
end Go.Proofs.YtfnhnjbkkggbeaaGreat
