/-Classes that keep the laws-/
import Derived.Test.YtfnhnjbkkggbeaaGreatKClsA
import Derived.Test.YtfnhnjbkkggbeaaGreatKGisJ
set_option linter.unusedVariables false
set_option linter.unusedSimpArgs false
set_option maxRecDepth 20000
namespace Go.Proofs.YtfnhnjbkkggbeaaGreat
open Go.RowKit Pg
structure Lawful (C:Cl) (cv:List Nat->Ob->Prop) (good:List Nat->Prop):Prop where
 made:∀o,(C.make o).1=0->ckOb o=0/\good (C.make o).2/\cv (C.make o).2 o
 un:∀K,K≠ []->(∀k∈K,good k)->good (C.un K)/\∀k∈K,∀o,cv k o->cv (C.un K) o
 cons:∀k o q,cv k o->qer o q=true->C.cons k q=true
 far:∀k o p,cv k o->ckOb o=0->okPt p=true->cmpF (C.far k p) (qci o p)<=0
open Go
theorem q3m (v : Value) (w : World) : (Go.method 408 34 v "Penalty").run Tryz.prog w = .ok (180,v) w := by kernel_rfl
theorem q4b (args:Array Value) (w:World):(callFunc 180 args).run Tryz.prog w=.ok (.enter 180 args) w:=by kernel_rfl
theorem qv1 (kd:Int) (bits:Nat) (one:Bool) (brk:Int):PenAt 34 (clV kd bits one brk) 180 where
 mP:=q3m _
 eP:=q4b
 pen:=by
  intro W B n c n2 c2 A A2 l l2 hl h256 hl2 h2562 hB hn hnc hn2 hnc2 hA hA2;have HP:=hdQ (fun W' (hW:Below W.heap.size W W')=>qys B n c n2 c2 A A2 l l2 W' (hl.tr hW hB) h256 (hl2.tr hW hB) h2562 (zcy hB hW.size) hn hnc hn2 hnc2 hA hA2)
  clear hl h256 hl2 h2562
  by_cases h0:kd=0
  · subst h0
    go_enter Tryz.func180,Tryz.ntmps180
    go_wp2;go_ret;exact⟨_,rfl,bel⟩
  · have h0' :(kd==0)=false:=by rw [beq_eq_false_iff_ne];exact h0
    clear h0
    go_enter Tryz.func180,Tryz.ntmps180
    go_wp2_with (go_at_call 188;(refine(HP.out _ bel).monoR ?_);rintro w1 hb1 hc1 hf1 hz1;(try simp at hz1))
    go_ret;exact⟨_,rfl,bel⟩
theorem qwv (kd:Int) (bits:Nat) (one:Bool) (brk:Int) (hb:bits<=20):MakeE (clV kd bits one brk) (clsC kd bits one brk) 178 where
 make:=by
  intro W B m c k A l hl hB hm hck;refine((qss kd bits one brk hb).make W B m c k A l hl hB hm).mono ?_;rintro e w' ⟨s,v,rfl,h1,h2,_,h4⟩;have h0:((clsC kd bits one brk).make ⟨k,l⟩).1=0:=hck;exact⟨s,v,rfl,h1,by rw [h0,h2 h0];exact .inl ⟨rfl,rfl⟩,h4⟩
def qe4 (w:World) (B:Nat) (A:Option Addr) (n:Nat) (l:List (Int×Ob)):Prop:=
 l.length=n/\(0<n->∃b off,A=some ⟨b,off,none⟩/\b<B)/\∀(b off k:Nat) (p:Int×Ob),A=some ⟨b,off,none⟩->l[k]? =some p->∃A' n' c',w.cell? ⟨b,off+k*3,none⟩=some (.int .i64 p.1)/\w.cell? ⟨b,off+k*3+1,none⟩=some (.int .i64 p.2.kind)/\w.cell? ⟨b,off+k*3+2,none⟩=some (.slice A' n' c')/\qal w B A' n' p.2.pts
theorem qe4.below {w w' :World} {B n:Nat} {A:Option Addr} {l:List (Int×Ob)} (h:qe4 w B A n l) (hb:Below B w w'):qe4 w' B A n l:=by
 refine⟨h.1,h.2.1,fun b off k p hA hp=> ?_⟩
 obtain⟨A',n',c',h1,h2,h3,h4⟩:=h.2.2 b off k p hA hp;have hk:k<l.length:=(zsy.1 hp).1;obtain⟨b0,off0,e,hb0⟩:=h.2.1 (by rw [<-h.1];omega)
 rw [hA] at e;injection e with e
 injection e with e1 e2
 subst e1;exact⟨A',n',c',(hb.cell (p:=⟨b,off+k*3,none⟩) hb0).trans h1,(hb.cell (p:=⟨b,off+k*3+1,none⟩) hb0).trans h2,(hb.cell (p:=⟨b,off+k*3+2,none⟩) hb0).trans h3,h4.below hb⟩
theorem qe4.at_ {w:World} {B n:Nat} {A:Option Addr} {l:List (Int×Ob)} (h:qe4 w B A n l) {k:Nat} (hk:k<n):∃b off p A' n' c',A=some ⟨b,off,none⟩/\b<B/\l[k]? =some p/\w.cell? ⟨b,off+k*3,none⟩=some (.int .i64 p.1)/\w.cell? ⟨b,off+k*3+1,none⟩=some (.int .i64 p.2.kind)/\w.cell? ⟨b,off+k*3+2,none⟩=some (.slice A' n' c')/\qal w B A' n' p.2.pts:=by
 obtain⟨b,off,e,hb⟩:=h.2.1 oQ
 have hk' :k<l.length:=by rw [h.1];exact hk
 obtain⟨A',n',c',h1,h2,h3,h4⟩:=h.2.2 b off k _ e (zby hk');exact⟨b,off,_,A',n',c',e,hb,zby hk',h1,h2,h3,h4⟩
theorem InsG.from {C:Cl} {cl:Value} {w W w' :World} {own imm:Nat->Prop} {tb mb:Nat} {t:Tr} {id:Int} {o:Ob} (h:InsG C cl W w' own imm tb mb t id o) (hW:Below w.heap.size w W):InsG C cl w w' own imm tb mb t id o:=by
 obtain⟨t',own',imm',hA,hG,h3⟩:=h;exact⟨t',own',imm',hA,(Grow.of_below hW).trans hG,h3⟩
def obsT (m:List (Int×It)):List (Int×Ob):=m.map fun p=>(p.1,p.2.ob)
theorem qz5 {α β:Type} (f:α->β) (id:Int) (m:List (Int×α)):delK id (m.map fun p=>(p.1,f p.2))=(delK id m).map fun p=>(p.1,f p.2):=by
 unfold delK
 rw [List.filter_map]
 rfl
theorem qry {α β:Type} (f:α->β) (id:Int) (v:α) (m:List (Int×α)):putK id (f v) (m.map fun p=>(p.1,f p.2))=(putK id v m).map fun p=>(p.1,f p.2):=by
 unfold putK
 rw [qz5,qnc]
theorem qsl {α β:Type} (f:α->β) (id:Int) (m:List (Int×α)):getK id (m.map fun p=>(p.1,f p.2))=(getK id m).map f:=by
 induction m with
 | nil=>rfl
 | cons p r ih=>
   rw [zdy,qfk,qfk,ih]
   split<;>rfl
theorem qek {F:Nat->Prop} {a b:World} {B:Nat} (h:TurnF F a b) (hF:∀k,F k->B<=k) (hB:B<=a.heap.size):Below B a b:=
 ⟨h.os,h.tape,h.output,h.size,fun k hk=>h.block k (zky hk hB) fun q=>by have:=hF k q;omega⟩
theorem qw8 {C:Cl} {cl:Value} {w:World} {own imm:Nat->Prop} {tb mb fan r:Nat} (h:Lay w own imm tb mb cl (newT fan r) (fun _=>False) fun _=>False) (h4:4<=fan) (h16:fan<=16):GAt C cl w own imm tb mb (newT fan r):=by
 refine⟨h,ql0 fan r,?_,?_,h4,h16,?_⟩
 · intro b l hb _
   simp only [newT] at hb ⊢
   split at hb
   · rename_i e
     cases hb
     exact⟨by simp,fun q=>absurd e q,fun _ q=>by omega⟩
   · cases hb
 · intro b l u e hb hu
   simp [newT] at hu
 · intro id x hx
   simp [newT,qgr] at hx
end Go.Proofs.YtfnhnjbkkggbeaaGreat
