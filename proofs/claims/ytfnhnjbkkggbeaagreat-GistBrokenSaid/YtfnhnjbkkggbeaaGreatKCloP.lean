/-Own rows of points;slices.Clone at points.-/
import Derived.Test.YtfnhnjbkkggbeaaGreatKEncA
import Derived.Lib.SliceRun
set_option linter.unusedVariables false
set_option linter.unusedSimpArgs false
set_option maxHeartbeats 2000000
set_option maxRecDepth 20000
namespace Pg
open Go Go.RowKit
def ptcs (p:Pt):List Value:= [.int .i64 p.x,.int .i64 p.y]
def qbp (l:List Pt):List Value:=l.flatMap ptcs
theorem qb9 (l:List Pt):(qbp l).length=l.length*2:=by
 unfold qbp
 induction l with
 | nil=>rfl
 | cons a r ih=>simp [ptcs] at ih ⊢;omega
theorem qig (l:List Pt):∀(k:Nat) (b:Pt),l[k]? =some b->(qbp l)[k*2]? =some (.int .i64 b.x)/\(qbp l)[k*2+1]? =some (.int .i64 b.y):=by
 induction l with
 | nil=>intro k b h;simp at h
 | cons c r ih=>
   intro k b h
   cases k with
   | zero=>
     simp at h
     subst h
     simp [qbp,ptcs]
   | succ k=>
     have:=ih k b (by simpa using h)
     simp only [qbp,zvy] at this ⊢
     rw [zdx (by simp [ptcs];omega),zdx (by simp [ptcs];omega)]
     simp only [ptcs,zax,List.length_nil]
     rw [show (k+1)*2-(0+1+1)=k*2 by omega,show (k+1)*2+1-(0+1+1)=k*2+1 by omega]
     exact this
end Pg
namespace Go.Proofs.YtfnhnjbkkggbeaaGreat
open Go.RowKit Pg
theorem Tryz.infoPtH:(Tryz.prog.info? 46).map (fun i=>(i.zero,i.size,i.bytes))=some (some (.agg #[.int .i64 0,.int .i64 0]),2,16):=by kernel_rfl
theorem q2w {l:List Pt}:∀v∈qbp l,v.oneCell' =true:=by
 intro v hv;unfold qbp at hv;obtain⟨p,_,hv⟩:=List.mem_flatMap.1 hv
 simp [ptcs] at hv
 rcases hv with rfl|rfl<;>rfl
theorem qvw {w:World} {B n b off:Nat} {l:List Pt} (h:qal w B (some ⟨b,off,none⟩) n l) (hn:0<n):∀(j:Nat) (u:Value),(qbp l)[j]? =some u->w.cell? ((⟨b,off,none⟩:Addr).add j)=some u:=by
 obtain⟨b',off',e,hb,hc⟩:=h.2 hn;injection e with e
 injection e with e1 e2
 subst e1 e2;intro j u hu
 have hj:j<l.length*2:=by
  rcases zry j (l.length*2) with h|h
  · exact h
  · rw [zoy (by rw [qb9];exact h)] at hu;cases hu
 have hk:j/2<l.length:=oQ
 obtain⟨h1,h2⟩:=qig l (j/2) l[j/2] (zby hk);obtain⟨c1,c2⟩:=hc (j/2) l[j/2] (zby hk);have hp:(⟨b,off,none⟩:Addr).add j=⟨b,off+j,none⟩:=by unfold Addr.add;split<;>simp_all
 rw [hp]
 have hm:j%2=0\/j%2=1:=oQ
 rcases hm with hm|hm
 · have e:j/2*2=j:=oQ
   rw [e] at h1 c1
   rw [c1,<-h1,hu]
 · have e:j/2*2+1=j:=oQ
   rw [e] at h2;rw [show off+j/2*2+1=off+j by omega] at c2
   rw [c2,<-h2,hu]
theorem qme (B n c:Nat) (A:Option Addr) (l:List Pt) (w:World) (hl:qal w B A n l) (hB:B<=w.heap.size) (hn:0<n) (hn2:n<=1000000):
 C9 28 #[.slice A n c] w fun e w' =>∃g c',e=.returned (.slice (some ⟨g,0,none⟩) n c')/\w'.ownsRow w.heap.size 46 2 (.slice (some ⟨g,0,none⟩) n c') n (qbp l)/\Below w.heap.size w w' :=by
 obtain⟨i0,hi,iz0,iz1,iz2⟩:=info_parts Tryz.infoPtH;obtain⟨b,off,rfl,hb,hc⟩:=hl.2 hn;have q22:∀(w:World) (a:Option Addr) (n c n' c' :Nat),(binOp .eql 24 (.slice a n c) (.slice none n' c')).run Tryz.prog w=.ok (.bool a.isNone) w:=fun w a n c n' c' =>Lib.run_eql_slice_nil w _ _ a n c n' c' Tryz.underlying24
 have HL:=hdQ hl;clear hl hc
 go_enter Tryz.func28,Tryz.ntmps28
 go_wp2_with (at_builtin;refine wpList_append_own _ rfl _ _ 24 rfl w.heap.size 46 i0 (.agg #[.int .i64 0,.int .i64 0]) 2 16 Tryz.underlying24 hi iz0 iz1 iz2 rfl dE _ _ _ rfl (World.ownsRow_made w #[] 0 (zhy _) (zly _) rfl) ⟨b,off,none⟩ n c (qbp l) rfl ?qc1 ?qc2 ?qc3 ?qc4 ?qc5 ?qc6 ?_)
 case qc1=>rw [qb9,HL.out.1]
 case qc2=>
  intro j u hj;have:=qvw HL.out hn j u hj;have hp:((⟨b,off,none⟩:Addr).add j)=⟨b,off+j,none⟩:=by unfold Addr.add;split<;>simp_all
  rw [hp] at this ⊢
  exact Lib.cell?_alloc_some _ this
 case qc3=>exact q2w
 case qc4=>unfold maxLen;omega
 case qc5=>omega
 case qc6=>simp
 intro v' w1 hown hgrow hnil;obtain⟨h1,⟨rfl,h0⟩|⟨g,c',cur,rfl,r⟩⟩:=hown
 · omega
 go_wp2;go_ret;exact⟨g,c',rfl,⟨h1,.inr ⟨g,c',cur,rfl,r⟩⟩,((Below.refl _ w).alloc (zhy _) _).grown hgrow sI (by intro k hk;simp [Value.ownBlock] at hk;omega)⟩
theorem qy6 {w:World} {base g n cap:Nat} {t:TypeId} {l:List Pt} (h:w.ownsRow base t 2 (.slice (some ⟨g,0,none⟩) n cap) n (qbp l)) {k:Nat} (hk:k<n):
 w.cell? ⟨g,k*2,none⟩=some (.int .i64 (pt l k).x)/\w.cell? ⟨g,k*2+1,none⟩=some (.int .i64 (pt l k).y)/\w.frozen? ⟨g,k*2,none⟩=false/\w.frozen? ⟨g,k*2+1,none⟩=false:=by
 have hl:l.length=n:=by have:=h.1;rw [qb9] at this;omega
 have h2:=qig l k (pt l k) (qi8 (by rw [hl];exact hk))
 obtain⟨h1,⟨h3,_⟩|⟨g',cap',cur,hv,hg,hh,hnc,hcm,hcs,ht⟩⟩:=id h
 · cases h3
 · injection hv with e1 e2 e3
   injection e1 with e1
   injection e1 with e1
   subst e1;refine⟨(h.cellAt (k*2) oQ).trans h2.1,(h.cellAt (k*2+1) oQ).trans h2.2,?_,?_⟩<;>exact Blk.frozen (show Blk w g t cur from hh) _
theorem q1g {w:World} {base g n cap:Nat} {t:TypeId} {l:List Pt} (h:w.ownsRow base t 2 (.slice (some ⟨g,0,none⟩) n cap) n (qbp l)):qal w w.heap.size (some ⟨g,0,none⟩) n l:=by
 have hl:l.length=n:=by have:=h.1;rw [qb9] at this;omega
 refine⟨hl,fun _=>⟨g,0,rfl,(h.lt g rfl).2,fun k p hp=> ?_⟩⟩
 have hk:k<n:=by
  rcases zry k l.length with h|h
  · omega
  · rw [zoy h] at hp;cases hp
 obtain⟨h1,h2,_⟩:=qy6 h hk
 rw [Nat.zero_add]
 have e:pt l k=p:=by
  have:=qi8 (l:=l) (k:=k) oQ
  rw [hp] at this;exact(zjx this).symm
 rw [e] at h1 h2;exact⟨h1,h2⟩
end Go.Proofs.YtfnhnjbkkggbeaaGreat
