/-The document's map-/
import Derived.Test.YtfnhnjbkkggbeaaGreatHGisP
set_option linter.unusedVariables false
set_option linter.unusedSimpArgs false
namespace Pg
open Go Go.RowKit
structure Mi where
 ob:Ob
 ov:Value
end Pg
namespace Go.Proofs.YtfnhnjbkkggbeaaGreat
open Go Go.RowKit Pg
def PtsZ (w:World) (Z:Nat->Prop) (v:Value) (l:List Pt):Prop:=l.length<=1000000/\∃A c,v=.slice A l.length c/\qbl w Z A (qbj l)
theorem PtsZ.turn {w w' :World} {Z F:Nat->Prop} {v:Value} {l:List Pt} (h:PtsZ w Z v l) (ht:TurnF F w w') (hF:∀b,Z b->¬ F b):PtsZ w' Z v l:=by
 obtain⟨h2,A,c,e,h5⟩:=h;refine⟨h2,A,c,e,fun hn=> ?_⟩
 obtain⟨b,off,ea,hz,hb,hc⟩:=h5 hn;exact⟨b,off,ea,hz,zky hb ht.size,fun k u hk=>(ht.cell (p:=⟨b,off+k,none⟩) hb (hF b hz)).trans (hc k u hk)⟩
theorem PtsZ.more {w:World} {Z Z' :Nat->Prop} {v:Value} {l:List Pt} (h:PtsZ w Z v l) (hZ:∀b,b<w.heap.size->Z b->Z' b):PtsZ w Z' v l:=by
 obtain⟨h2,A,c,e,h5⟩:=h;exact⟨h2,A,c,e,h5.more hZ⟩
theorem PtsZ.pts {w:World} {Z:Nat->Prop} {v:Value} {l:List Pt} (h:PtsZ w Z v l):∃A c,v=.slice A l.length c/\qak w w.heap.size A l.length l:=by
 obtain⟨h2,A,c,e,h5⟩:=h;refine⟨A,c,e,rfl,fun hn=> ?_⟩
 obtain⟨b,off,ea,_,hb,hc⟩:=h5 (by rw [qcb];omega)
 refine⟨b,off,ea,hb,fun k p hk=> ?_⟩
 obtain⟨c0,c1⟩:=qhg l k p hk;exact⟨hc _ _ c0,by rw [Nat.add_assoc];exact hc _ _ c1⟩
def qke (p:Int×Mi):List Value:= [.int .i64 p.1,.int .i64 p.2.ob.kind,p.2.ov]
def qa2 (l:List (Int×Mi)):List Value:=l.flatMap qke
theorem qci (l:List (Int×Mi)):(qa2 l).length=l.length*3:=by
 induction l with
 | nil=>rfl
 | cons x r ih=>rw [show qa2 (x::r)=qke x++qa2 r from rfl,zny,ih];simp [qke];omega
theorem qdi (l m:List (Int×Mi)):qa2 (l++m)=qa2 l++qa2 m:=by unfold qa2;rw [List.flatMap_append]
theorem qzk {l:List (Int×Mi)}:∀{k:Nat} {p:Int×Mi},l[k]? =some p->(qa2 l)[k*3]? =some (.int .i64 p.1)/\(qa2 l)[k*3+1]? =some (.int .i64 p.2.ob.kind)/\(qa2 l)[k*3+2]? =some p.2.ov:=by
 induction l with
 | nil=>intro k p h;simp at h
 | cons x r ih=>
   intro k p h
   rw [show qa2 (x::r)=qke x++qa2 r from rfl]
   cases k with
   | zero=>
     simp at h
     subst h;exact⟨rfl,rfl,rfl⟩
   | succ k=>
     obtain⟨h0,h1,h2⟩:=ih (k:=k) (p:=p) (by simpa using h)
     have e:∀j,(qke x++qa2 r)[(k+1)*3+j]? =(qa2 r)[k*3+j]? :=fun j=>by
      rw [zdx (by simp [qke];omega)]
      congr 1
      simp [qke]
      omega
     exact⟨by rw [show (k+1)*3=(k+1)*3+0 by omega,e 0];exact h0,by rw [e 1];exact h1,by rw [e 2];exact h2⟩
theorem qsh {w:World} {v:Value} {l:List (Int×Mi)} (h:w.ownsRow 0 42 3 v l.length (qa2 l)) {k:Nat} {p:Int×Mi} (hk:l[k]? =some p):
 ∃g c,v=.slice (some ⟨g,0,none⟩) l.length c/\g<w.heap.size/\w.cell? ⟨g,k*3,none⟩=some (.int .i64 p.1)/\w.cell? ⟨g,k*3+1,none⟩=some (.int .i64 p.2.ob.kind)/\w.cell? ⟨g,k*3+2,none⟩=some p.2.ov:=by
 have hkl:k<l.length:=(zsy.1 hk).1;have h2:=h
 rcases h2.2 with ⟨_,h0⟩|⟨g,cap,cur,rfl,_,hg,_⟩
 · omega
 · obtain⟨c0,c1,c2⟩:=qzk hk
   refine⟨g,cap,rfl,(zqy.1 hg).1,?_,?_,?_⟩
   · rw [h.cellAt _ oQ];exact c0
   · rw [h.cellAt _ oQ];exact c1
   · rw [h.cellAt _ oQ];exact c2
theorem Tryz.infoMiM:(Tryz.prog.info? 42).map (fun i=>(i.zero,i.size,i.bytes))=some (some (.agg #[.int .i64 0,.int .i64 0,.slice none 0 0]),3,40):=by kernel_rfl
section
variable {w:World} {Y Z:Nat->Prop} {mb:Nat} {L:List (Int×Mi)}
theorem qxy {w:World} {a b c:Value} {t:TypeId}:∀(j:Nat) (v:Value),[a,b,c][j]? =some v->(w.alloc (.cells #[a,b,c] t)).cell? ((⟨w.heap.size,0,none⟩:Addr).add j)=some v:=qe2
end
end Go.Proofs.YtfnhnjbkkggbeaaGreat
