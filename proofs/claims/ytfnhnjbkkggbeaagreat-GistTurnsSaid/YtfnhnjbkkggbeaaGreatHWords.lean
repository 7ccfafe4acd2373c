/-Words for memory-/
import Derived.Test.YtfnhnjbkkggbeaaGreatHPlainSplit
import Derived.Lib.Hide
import Derived.Laws.OwnMore
import Derived.Deep.Draws
import Derived.Calls
import Derived.Test.YtfnhnjbkkggbeaaGreatProg
set_option linter.unusedVariables false
set_option linter.unusedSimpArgs false
namespace Pg
open Go Go.RowKit
abbrev ptV (x y:Int):Value:=.agg #[.int .i64 x,.int .i64 y]
abbrev bxV (a b c d:Int):Value:=.agg #[.int .i64 a,.int .i64 b,.int .i64 c,.int .i64 d]
abbrev Ret (w:World) (v:Value):Ending->World->Prop:=fun e w' =>e=.returned v/\Below w.heap.size w w'
theorem qbb {W w1:World} (hb:Below W.heap.size W w1):(∀b o,b<W.heap.size->w1.cell? ⟨b,o,none⟩=W.cell? ⟨b,o,none⟩)/\(∀b o,b<W.heap.size->w1.frozen? ⟨b,o,none⟩=W.frozen? ⟨b,o,none⟩):=
 ⟨fun b o h=>hb.cell (p:=⟨b,o,none⟩) h,fun b o h=>hb.frozen (p:=⟨b,o,none⟩) h⟩
theorem bc3 {W w1:World} (hb:Below W.heap.size W w1):(∀b o,b<W.heap.size->w1.cell? ⟨b,o,none⟩=W.cell? ⟨b,o,none⟩)/\(∀b o,b<W.heap.size->w1.frozen? ⟨b,o,none⟩=W.frozen? ⟨b,o,none⟩)/\W.heap.size<=w1.heap.size:=⟨(qbb hb).1,(qbb hb).2,hb.size⟩
theorem ol1 (w w1:World) (h:w.heap.size<w1.heap.size:=by omega):w.heap.size<w1.heap.size:=h
theorem ol2 (w w1:World) (h:w.heap.size+1<w1.heap.size:=by omega):w.heap.size<w1.heap.size/\w.heap.size+1<w1.heap.size:=by omega
theorem ol3 (w w1:World) (h:w.heap.size+2<w1.heap.size:=by omega):w.heap.size<w1.heap.size/\w.heap.size+1<w1.heap.size/\w.heap.size+1+1<w1.heap.size:=by omega
theorem ol4 (w w1:World) (h:w.heap.size+3<w1.heap.size:=by omega):w.heap.size<w1.heap.size/\w.heap.size+1<w1.heap.size/\w.heap.size+1+1<w1.heap.size/\w.heap.size+1+1+1<w1.heap.size:=by omega
abbrev _root_.C9:=Go.Calls Go.Proofs.Tryz.prog
theorem _root_.hdQ {p:Prop} (h:p):Go.RowKit.Hid p:=Go.Lib.hid h
theorem _root_.Go.Calls.monoR {P:Program} {f:FuncId} {args:Array Value} {W:World} {v:Value} {Q:Ending->World->Prop} (h:Calls P f args W (Ret W v)) (k:∀w1,Below W.heap.size W w1->(∀b o,b<W.heap.size->w1.cell? ⟨b,o,none⟩=W.cell? ⟨b,o,none⟩)->(∀b o,b<W.heap.size->w1.frozen? ⟨b,o,none⟩=W.frozen? ⟨b,o,none⟩)->W.heap.size<=w1.heap.size->Q (.returned v) w1):Calls P f args W Q:=h.mono fun e w1 ⟨a,b⟩=>by subst a;exact k w1 b (qbb b).1 (qbb b).2 b.size
def qak (w:World) (B:Nat) (A:Option Addr) (n:Nat) (l:List Pt):Prop:=
 l.length=n/\(0<n->∃b off,A=some ⟨b,off,none⟩/\b<B/\∀k (p:Pt),l[k]? =some p->w.cell? ⟨b,off+k*2,none⟩=some (.int .i64 p.x)/\w.cell? ⟨b,off+k*2+1,none⟩=some (.int .i64 p.y))
theorem qak.keep {w w' :World} {B n:Nat} {A:Option Addr} {l:List Pt} (h:qak w B A n l) (hk:∀p:Addr,p.block<B->w'.cell? p=w.cell? p):qak w' B A n l:=
 ⟨h.1,fun hn=>by
  obtain⟨b,off,e,hb,hc⟩:=h.2 hn
  exact⟨b,off,e,hb,fun k p hp=>⟨(hk _ hb).trans (hc k p hp).1,(hk _ hb).trans (hc k p hp).2⟩⟩⟩
theorem qak.below {w w' :World} {B n:Nat} {A:Option Addr} {l:List Pt} (h:qak w B A n l) (hb:Below B w w'):qak w' B A n l:=h.keep fun _ hp=>hb.cell hp
theorem qak.more {w:World} {B B' n:Nat} {A:Option Addr} {l:List Pt} (h:qak w B A n l) (hB:B<=B'):qak w B' A n l:=
 ⟨h.1,fun hn=>by
  obtain⟨b,off,e,hb,hc⟩:=h.2 hn
  exact⟨b,off,e,by omega,hc⟩⟩
theorem qak.at_ {w:World} {B n:Nat} {A:Option Addr} {l:List Pt} (h:qak w B A n l) {k:Nat} (hk:k<n):
 ∃b off,A=some ⟨b,off,none⟩/\b<B/\w.cell? ⟨b,off+k*2,none⟩=some (.int .i64 (pt l k).x)/\w.cell? ⟨b,off+k*2+1,none⟩=some (.int .i64 (pt l k).y):=by
 obtain⟨b,off,e,hb,hc⟩:=h.2 oQ
 have hl:k<l.length:=by rw [h.1];exact hk
 have:=hc k (pt l k) (by rw [pt,zpy,zby hl];rfl)
 exact⟨b,off,e,hb,this⟩
theorem qd9 {w:World} {g:Nat} {t:TypeId} {fr:Nat×Nat} {cs:Array Value} {B:Nat} (l:List Pt) {n:Nat} (hg:w.heap[g]? =some (.cells cs t fr)) (hB:g<B) (hn:l.length=n)
 (hc:∀k,k<n->cs[k*2]? =some (.int .i64 (pt l k).x)/\cs[k*2+1]? =some (.int .i64 (pt l k).y)):qak w B (some ⟨g,0,none⟩) n l:=by
 refine⟨hn,fun _=>⟨g,0,rfl,hB,fun k p hp=> ?_⟩⟩
 have hk:k<n:=by
  rw [<-hn]
  rcases zry k l.length with h|h
  · exact h
  · rw [zoy h] at hp;cases hp
 have e:pt l k=p:=by rw [pt,zpy,hp];rfl
 have h2:=hc k hk;rw [e] at h2;exact⟨by rw [cell_of_row w g _ cs t fr hg];simpa using h2.1,by rw [cell_of_row w g _ cs t fr hg];simpa using h2.2⟩
theorem qbc {α:Type} (f:α->Bool) (l:List α) (k:Nat) (x:α) (h:l[k]? =some x):(l.take (k+1)).all f=((l.take k).all f&&f x):=by
 rw [zwy,h]
 simp
theorem qej {α:Type} (f:α->Bool) (l:List α) (k:Nat) (x:α) (h:l[k]? =some x) (hf:f x=false):l.all f=false:=by
 rw [List.all_eq_false]
 exact⟨x,zjy h,by simp [hf]⟩
theorem qb8 (n:Nat) (f:Nat->Bool) (k:Nat) (hk:k<n) (h:f k=true):(List.range n).any f=true:=by
 rw [List.any_eq_true]
 exact⟨k,List.mem_range.2 hk,h⟩
theorem qb1 (n:Nat) (f:Nat->Bool) (h:∀k,k<n->f k=false):(List.range n).any f=false:=by
 rw [List.any_eq_false]
 intro k hk
 simp [h k (List.mem_range.1 hk)]
theorem qkd {l:List Pt} {k:Nat} (h:k<l.length):l[k]? =some (pt l k):=by
 rw [pt,zpy,zby h];rfl
theorem al {a w:World} (h:Below a.heap.size a w) (o:Obj):Below a.heap.size a (w.alloc o):=h.alloc h.size o
theorem tr {a b c:World} (h:Below a.heap.size a b) (k:Below b.heap.size b c):Below a.heap.size a c:=h.trans (k.mono h.size)
theorem qan {W:World} {o:Obj} {g:Nat} (h:g=W.heap.size):(W.alloc o).heap[g]? =some o:=by subst h;exact heap_alloc_new _ _
def Blk (w:World) (g:Nat) (t:TypeId) (cs:Array Value):Prop:=w.heap[g]? =some (.cells cs t (0,0))
section
variable {w w' :World} {g:Nat} {t:TypeId} {cs:Array Value}
theorem Blk.lt (h:Blk w g t cs):g<w.heap.size:=by
 rcases zry g w.heap.size with hlt|hge
 · exact hlt
 · unfold Blk at h;rw [zxy hge] at h;cases h
theorem Blk.cell (h:Blk w g t cs) (i:Nat):w.cell? ⟨g,i,none⟩=cs[i]? :=cell_of_row w g i cs t (0,0) h
theorem Blk.frozen (h:Blk w g t cs) (i:Nat):w.frozen? ⟨g,i,none⟩=false:=by
 unfold Blk at h
 simp [World.frozen?,h]
theorem Blk.new {o:Obj} {W:World} (hg:g=W.heap.size) (ho:o=.cells cs t (0,0)):Blk (W.alloc o) g t cs:=by subst hg ho;exact heap_alloc_new W _
theorem Blk.drew (h:Blk w g t cs):Blk w.drew g t cs:=h
theorem Blk.alloc (h:Blk w g t cs) (o:Obj):Blk (w.alloc o) g t cs:=(Below.heap_alloc w o g h.lt).trans h
theorem Blk.set_ (h:Blk w g t cs) (i:Nat) (u:Value):Blk (w.setCell ⟨g,i,none⟩ u) g t (cs.setIfInBounds i u):=by
 unfold Blk at h ⊢
 simp [World.setCell,Array.getElem?_modify,h]
theorem Blk.far (h:Blk w g t cs) {p:Addr} (hp:g≠p.block) (u:Value):Blk (w.setCell p u) g t cs:=(Below.heap_setCell w p u g hp).trans h
theorem Blk.below (h:Blk w g t cs) {B:Nat} (hb:Below B w w') (hg:g<B):Blk w' g t cs:=(hb.block g hg).trans h
theorem Blk.eq_ {cs' :Array Value} (h:Blk w g t cs) (e:cs=cs'):Blk w g t cs' :=e ▸ h
end
theorem retB {P:Program} {f:FuncId} {args:Array Value} {w:World} {X:Bool} (h:Calls P f args w (Ret w (.bool X))):
 Calls P f args w (fun e w' =>∃b:Bool,Hid (X=b)/\e=.returned (.bool b)/\Below w.heap.size w w'):=h.mono fun _ _ ⟨he,hb⟩=>⟨X,rfl,he,hb⟩
theorem qaf {a b:Bool} (h:a=b):Ending.returned (.bool a)=.returned (.bool b):=by rw [h]
theorem qgb {k:IntKind} {a b:Int} (h:a=b):Ending.returned (.int k a)=.returned (.int k b):=by rw [h]
theorem Blk.tr {W w1:World} {g:Nat} {t:TypeId} {cs:Array Value} (h:Blk W g t cs) (hb:Below W.heap.size W w1):Blk w1 g t cs:=h.below hb h.lt
theorem qak.tr {W w1:World} {B n:Nat} {A:Option Addr} {l:List Pt} (h:qak W B A n l) (hb:Below W.heap.size W w1) (hB:B<=W.heap.size):qak w1 B A n l:=h.below (hb.mono hB)
theorem bel {B:Nat} {a w:World} (h:Below B a w:=by repeat(first|with_reducible exact Below.refl _ _|with_reducible assumption|with_reducible refine al ?_ _|with_reducible refine Below.drew ?_|with_reducible refine Below.setCell ?_ (by first|(simp;done)|(simp;omega)) _|with_reducible refine tr ?_ (by with_reducible assumption))):Below B a w:=h
theorem bsz (w:World) {B:Nat} {W:World} (hB:B<=w.heap.size) (h:Below w.heap.size w W:=by exact bel):B<=W.heap.size:=Nat.le_trans hB h.size
theorem bsy (w:World) {W:World} (h:Below w.heap.size w W:=by exact bel):w.heap.size<=W.heap.size:=h.size
theorem ce2 {w:World} {g:Nat} {t:TypeId} {a0 a1:Value} {l:List Value} (h:Blk w g t (List.toArray (a0::a1::l))):w.cell? ⟨g,0,none⟩=some a0/\w.cell? ⟨g,1,none⟩=some a1:=⟨h.cell 0,h.cell 1⟩
theorem ce3 {w:World} {g:Nat} {t:TypeId} {a0 a1 a2:Value} {l:List Value} (h:Blk w g t (List.toArray (a0::a1::a2::l))):w.cell? ⟨g,0,none⟩=some a0/\w.cell? ⟨g,1,none⟩=some a1/\w.cell? ⟨g,2,none⟩=some a2:=⟨h.cell 0,h.cell 1,h.cell 2⟩
theorem ce4 {w:World} {g:Nat} {t:TypeId} {a0 a1 a2 a3:Value} {l:List Value} (h:Blk w g t (List.toArray (a0::a1::a2::a3::l))):w.cell? ⟨g,0,none⟩=some a0/\w.cell? ⟨g,1,none⟩=some a1/\w.cell? ⟨g,2,none⟩=some a2/\w.cell? ⟨g,3,none⟩=some a3:=⟨h.cell 0,h.cell 1,h.cell 2,h.cell 3⟩
theorem ce5 {w:World} {g:Nat} {t:TypeId} {a0 a1 a2 a3 a4:Value} {l:List Value} (h:Blk w g t (List.toArray (a0::a1::a2::a3::a4::l))):w.cell? ⟨g,0,none⟩=some a0/\w.cell? ⟨g,1,none⟩=some a1/\w.cell? ⟨g,2,none⟩=some a2/\w.cell? ⟨g,3,none⟩=some a3/\w.cell? ⟨g,4,none⟩=some a4:=⟨h.cell 0,h.cell 1,h.cell 2,h.cell 3,h.cell 4⟩
theorem ce6 {w:World} {g:Nat} {t:TypeId} {a0 a1 a2 a3 a4 a5:Value} {l:List Value} (h:Blk w g t (List.toArray (a0::a1::a2::a3::a4::a5::l))):w.cell? ⟨g,0,none⟩=some a0/\w.cell? ⟨g,1,none⟩=some a1/\w.cell? ⟨g,2,none⟩=some a2/\w.cell? ⟨g,3,none⟩=some a3/\w.cell? ⟨g,4,none⟩=some a4/\w.cell? ⟨g,5,none⟩=some a5:=⟨h.cell 0,h.cell 1,h.cell 2,h.cell 3,h.cell 4,h.cell 5⟩
theorem ce7 {w:World} {g:Nat} {t:TypeId} {a0 a1 a2 a3 a4 a5 a6:Value} {l:List Value} (h:Blk w g t (List.toArray (a0::a1::a2::a3::a4::a5::a6::l))):w.cell? ⟨g,0,none⟩=some a0/\w.cell? ⟨g,1,none⟩=some a1/\w.cell? ⟨g,2,none⟩=some a2/\w.cell? ⟨g,3,none⟩=some a3/\w.cell? ⟨g,4,none⟩=some a4/\w.cell? ⟨g,5,none⟩=some a5/\w.cell? ⟨g,6,none⟩=some a6:=⟨h.cell 0,h.cell 1,h.cell 2,h.cell 3,h.cell 4,h.cell 5,h.cell 6⟩
theorem ce8 {w:World} {g:Nat} {t:TypeId} {a0 a1 a2 a3 a4 a5 a6 a7:Value} {l:List Value} (h:Blk w g t (List.toArray (a0::a1::a2::a3::a4::a5::a6::a7::l))):w.cell? ⟨g,0,none⟩=some a0/\w.cell? ⟨g,1,none⟩=some a1/\w.cell? ⟨g,2,none⟩=some a2/\w.cell? ⟨g,3,none⟩=some a3/\w.cell? ⟨g,4,none⟩=some a4/\w.cell? ⟨g,5,none⟩=some a5/\w.cell? ⟨g,6,none⟩=some a6/\w.cell? ⟨g,7,none⟩=some a7:=⟨h.cell 0,h.cell 1,h.cell 2,h.cell 3,h.cell 4,h.cell 5,h.cell 6,h.cell 7⟩
theorem blkA {w:World} {g:Nat} {t:TypeId} {cs:Array Value} (h:Blk w g t cs:=by repeat(first|with_reducible assumption|with_reducible exact Blk.new sI rfl|with_reducible refine Blk.alloc ?_ _|with_reducible refine Blk.drew ?_|with_reducible refine Blk.far ?_ (by first|(simp;done)|(simp;omega)) _|with_reducible refine Blk.tr ?_ (by with_reducible assumption))):Blk w g t cs:=h
end Pg
