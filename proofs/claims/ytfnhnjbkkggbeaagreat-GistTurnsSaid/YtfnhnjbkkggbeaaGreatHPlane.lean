/-Contracts of package plane-/
import Derived.Test.YtfnhnjbkkggbeaaGreatHWords
import Derived.Test.YtfnhnjbkkggbeaaGreatRows
import Derived.WalkKit
import Derived.WalkSpells
import Derived.WalkLawsBesides
set_option linter.unusedVariables false
set_option linter.unusedSimpArgs false
set_option maxHeartbeats 400000
namespace Go.Proofs.YtfnhnjbkkggbeaaGreat
open Go.RowKit Pg
theorem qz7 (n:Int) (w:World):
 C9 85 #[.int .i64 n] w fun e w' =>e=.returned (.bool (farB n))/\w=w' :=by
 by_cases h:n< -1073741823
 all_goals
  go_enter Tryz.func85,Tryz.ntmps85
  go_wp2;go_ret;exact⟨by simp [farB];omega,rfl⟩
theorem qsl (B n c:Nat) (A:Option Addr) (l:List Pt) (w:World) (hl:qak w B A n l) (hB:B<=w.heap.size) (hn:n<=maxLen):
 C9 57 #[.slice A n c] w (Ret w (.bool (l.all okPt))):=by
 unfold maxLen at hn
 go_enter Tryz.func57,Tryz.ntmps57
 go_wp2
 go_loopw [7] (fun i wr=>∃k:Nat,k<=n/\i=.int .i64 k/\(l.take k).all okPt=true/\Below w.heap.size w wr) (fun i _=>n-(intOf i).toNat)
 case atStart=>exact ⟨0,zly _,rfl,by simp,Below.refl _ _⟩
 case round=>
  obtain⟨k,hk,rfl,hall,hb⟩:=hrel
  by_cases hlt:k<n
  · obtain⟨b,off,rfl,hab,c0,c1⟩:=(hl.below (hb.mono hB)).at_ hlt
    have Hp:=hdQ (qbc okPt l k _ (qkd (by rw [hl.1];exact hlt)))
    have Hf:=hdQ (qej okPt l k _ (qkd (by rw [hl.1];exact hlt)))
    have Ha:=hdQ hall;clear hall
    cases hx:farB (pt l k).x<;>cases hy:farB (pt l k).y
    case false.false=>
     have Hxy:Hid (okPt (pt l k)=true):=by simp [Hid,okPt,hx,hy]
     go_wp2_with (go_at_call 85;refine(qz7 _ _).mono ?_;rintro e w' ⟨rfl,rfl⟩)
     go_roundw
     case rel=>exact ⟨k+1,by omega,by go_num,by rw [Hp.out,Ha.out,Hxy.out];rfl,hb.alloc hb.size _⟩
     case measure=>simp [intOf];omega
    all_goals
     have Hxy:Hid (okPt (pt l k)=false):=by simp [Hid,okPt,hx,hy]
     go_wp2_with (go_at_call 85;refine(qz7 _ _).mono ?_;rintro e w' ⟨rfl,rfl⟩)
     go_ret;exact⟨qaf (Hf.out Hxy.out).symm,hb.alloc hb.size _⟩
  · have hkn:l.length<=k:=by rw [hl.1];omega
    rw [zmy hkn] at hall;have Ha:=hdQ hall;clear hall;go_wp2;go_ret;exact⟨qaf Ha.out.symm,hb⟩
theorem may1 (ax ay:Int) (g:Nat) (w:World) (hg:w.heap[g]? =some (.cells #[.int .i64 ax,.int .i64 ay] 46 (0,0))):
 C9 57 #[.slice (some ⟨g,0,none⟩) 1 1] w (Ret w (.bool (okPt ⟨ax,ay⟩))):=by
 have h:=qsl w.heap.size 1 1 _ [⟨ax,ay⟩] w (qd9 [⟨ax,ay⟩] hg (by rcases zry g w.heap.size with h|h;exact h;rw [zxy h] at hg;cases hg) rfl (by intro k hk;match k,hk with|0,_=>exact ⟨rfl,rfl⟩)) (zhy _) dE
 simpa using h
theorem may2 (ax ay bx by_:Int) (g:Nat) (w:World) (hg:w.heap[g]? =some (.cells #[.int .i64 ax,.int .i64 ay,.int .i64 bx,.int .i64 by_] 46 (0,0))):
 C9 57 #[.slice (some ⟨g,0,none⟩) 2 2] w (Ret w (.bool (okPt ⟨ax,ay⟩&&okPt ⟨bx,by_⟩))):=by
 have h:=qsl w.heap.size 2 2 _ [⟨ax,ay⟩,⟨bx,by_⟩] w (qd9 [⟨ax,ay⟩,⟨bx,by_⟩] hg (by rcases zry g w.heap.size with h|h;exact h;rw [zxy h] at hg;cases hg) rfl (by intro k hk;match k,hk with|0,_=>exact ⟨rfl,rfl⟩|1,_=>exact ⟨rfl,rfl⟩)) (zhy _) dE
 simpa using h
theorem may3 (ax ay bx by_ cx cy:Int) (g:Nat) (w:World) (hg:w.heap[g]? =some (.cells #[.int .i64 ax,.int .i64 ay,.int .i64 bx,.int .i64 by_,.int .i64 cx,.int .i64 cy] 46 (0,0))):
 C9 57 #[.slice (some ⟨g,0,none⟩) 3 3] w (Ret w (.bool (okPt ⟨ax,ay⟩&&okPt ⟨bx,by_⟩&&okPt ⟨cx,cy⟩))):=by
 have h:=qsl w.heap.size 3 3 _ [⟨ax,ay⟩,⟨bx,by_⟩,⟨cx,cy⟩] w (qd9 [⟨ax,ay⟩,⟨bx,by_⟩,⟨cx,cy⟩] hg (by rcases zry g w.heap.size with h|h;exact h;rw [zxy h] at hg;cases hg) rfl (by intro k hk;match k,hk with|0,_=>exact ⟨rfl,rfl⟩|1,_=>exact ⟨rfl,rfl⟩|2,_=>exact ⟨rfl,rfl⟩)) (zhy _) dE
 simpa [Bool.and_assoc] using h
def errV (k:Nat):Value:=match k with|0=> .nilIface|k+1=> .iface 75 (.int .i64 ((k+1:Nat):Int))
theorem qay (x y:Int) (w:World):
 C9 32 #[ptV x y] w (Ret w (errV (if okPt ⟨x,y⟩ then 0 else 2))):=by
 cases h:okPt ⟨x,y⟩
 all_goals
  go_enter Tryz.func32,Tryz.ntmps32
  go_wp2_with (go_at_call 57;refine(may1 x y _ _ ?_).mono ?_;exact qan sI;rintro e w1 ⟨rfl,hb1⟩;obtain⟨hc1,hf1,hz1⟩:=bc3 hb1;(try simp at hz1))
  go_ret;exact⟨rfl,bel⟩
theorem qbd (b:Bx):okBx b=true↔qa4 b=0:=by simp [okBx]
theorem qcn (a b c d:Int) (w:World):
 C9 77 #[bxV a b c d] w (Ret w (errV (qa4 ⟨⟨a,b⟩,⟨c,d⟩⟩))):=by
 cases h:(okPt ⟨a,b⟩&&okPt ⟨c,d⟩)
 · have H:Hid (qa4 ⟨⟨a,b⟩,⟨c,d⟩⟩=2):=by simp [Hid,qa4,h]
   go_enter Tryz.func77,Tryz.ntmps77
   go_wp2_with (go_at_call 57;refine(may2 a b c d _ _ ?_).mono ?_;exact qan sI;rintro e w1 ⟨rfl,hb1⟩;obtain⟨hc1,hf1,hz1⟩:=bc3 hb1;(try simp at hz1))
   go_ret;exact⟨by rw [H.out];rfl,bel⟩
 · by_cases h1:c<a
   · have H:Hid (qa4 ⟨⟨a,b⟩,⟨c,d⟩⟩=1):=by simp [Hid,qa4,h,h1]
     go_enter Tryz.func77,Tryz.ntmps77
     go_wp2_with (go_at_call 57;refine(may2 a b c d _ _ ?_).mono ?_;exact qan sI;rintro e w1 ⟨rfl,hb1⟩;obtain⟨hc1,hf1,hz1⟩:=bc3 hb1;(try simp at hz1))
     go_ret;exact⟨by rw [H.out];rfl,bel⟩
   · by_cases h2:d<b
     · have H:Hid (qa4 ⟨⟨a,b⟩,⟨c,d⟩⟩=1):=by simp [Hid,qa4,h,h2]
       go_enter Tryz.func77,Tryz.ntmps77
       go_wp2_with (go_at_call 57;refine(may2 a b c d _ _ ?_).mono ?_;exact qan sI;rintro e w1 ⟨rfl,hb1⟩;obtain⟨hc1,hf1,hz1⟩:=bc3 hb1;(try simp at hz1))
       go_ret;exact⟨by rw [H.out];rfl,bel⟩
     · have H:Hid (qa4 ⟨⟨a,b⟩,⟨c,d⟩⟩=0):=by simp [Hid,qa4,h,h1,h2]
       go_enter Tryz.func77,Tryz.ntmps77
       go_wp2_with (go_at_call 57;refine(may2 a b c d _ _ ?_).mono ?_;exact qan sI;rintro e w1 ⟨rfl,hb1⟩;obtain⟨hc1,hf1,hz1⟩:=bc3 hb1;(try simp at hz1))
       go_ret;exact⟨by rw [H.out];rfl,bel⟩
def qij (w:World) (B:Nat) (A:Option Addr) (n:Nat) (l:List Bx):Prop:=
 l.length=n/\(0<n->∃b off,A=some ⟨b,off,none⟩/\b<B/\∀k (p:Bx),l[k]? =some p->w.cell? ⟨b,off+k*4,none⟩=some (.int .i64 p.lo.x)/\w.cell? ⟨b,off+k*4+1,none⟩=some (.int .i64 p.lo.y)/\w.cell? ⟨b,off+k*4+2,none⟩=some (.int .i64 p.hi.x)/\w.cell? ⟨b,off+k*4+3,none⟩=some (.int .i64 p.hi.y))
def bx (l:List Bx) (k:Nat):Bx:=l.getD k qcu
theorem q0l {l:List Bx} {k:Nat} (h:k<l.length):l[k]? =some (bx l k):=by
 rw [bx,zpy,zby h];rfl
theorem qij.keep {w w' :World} {B n:Nat} {A:Option Addr} {l:List Bx} (h:qij w B A n l) (hk:∀p:Addr,p.block<B->w'.cell? p=w.cell? p):qij w' B A n l:=
 ⟨h.1,fun hn=>by
  obtain⟨b,off,e,hb,hc⟩:=h.2 hn
  exact⟨b,off,e,hb,fun k p hp=>⟨(hk _ hb).trans (hc k p hp).1,(hk _ hb).trans (hc k p hp).2.1,(hk _ hb).trans (hc k p hp).2.2.1,(hk _ hb).trans (hc k p hp).2.2.2⟩⟩⟩
theorem qij.below {w w' :World} {B n:Nat} {A:Option Addr} {l:List Bx} (h:qij w B A n l) (hb:Below B w w'):qij w' B A n l:=h.keep fun _ hp=>hb.cell hp
theorem qij.at_ {w:World} {B n:Nat} {A:Option Addr} {l:List Bx} (h:qij w B A n l) {k:Nat} (hk:k<n):
 ∃b off,A=some ⟨b,off,none⟩/\b<B/\w.cell? ⟨b,off+k*4,none⟩=some (.int .i64 (bx l k).lo.x)/\w.cell? ⟨b,off+k*4+1,none⟩=some (.int .i64 (bx l k).lo.y)/\w.cell? ⟨b,off+k*4+2,none⟩=some (.int .i64 (bx l k).hi.x)/\w.cell? ⟨b,off+k*4+3,none⟩=some (.int .i64 (bx l k).hi.y):=by
 obtain⟨b,off,e,hb,hc⟩:=h.2 oQ
 exact⟨b,off,e,hb,hc k (bx l k) (q0l (by rw [h.1];exact hk))⟩
theorem qid {w:World} {g:Nat} {t:TypeId} {fr:Nat×Nat} {cs:Array Value} {B:Nat} (l:List Bx) {n:Nat} (hg:w.heap[g]? =some (.cells cs t fr)) (hB:g<B) (hn:l.length=n)
 (hc:∀k,k<n->cs[k*4]? =some (.int .i64 (bx l k).lo.x)/\cs[k*4+1]? =some (.int .i64 (bx l k).lo.y)/\cs[k*4+2]? =some (.int .i64 (bx l k).hi.x)/\cs[k*4+3]? =some (.int .i64 (bx l k).hi.y)):qij w B (some ⟨g,0,none⟩) n l:=by
 refine⟨hn,fun _=>⟨g,0,rfl,hB,fun k p hp=> ?_⟩⟩
 have hk:k<n:=by
  rw [<-hn]
  rcases zry k l.length with h|h
  · exact h
  · rw [zoy h] at hp;cases hp
 have e:bx l k=p:=by rw [bx,zpy,hp];rfl
 have h2:=hc k hk;rw [e] at h2
 simp only [cell_of_row w g _ cs t fr hg,Nat.zero_add]
 exact h2
theorem ql8 {k:Nat} (h:k=0):errV k=.nilIface:=by subst h;rfl
theorem qhk {k:Nat} (h:k≠0):errV k=.iface 75 (.int .i64 k):=by
 cases k with
 | zero=>exact absurd rfl h
 | succ n=>rfl
theorem qq8 (B n c:Nat) (A:Option Addr) (l:List Bx) (w:World) (hl:qij w B A n l) (hB:B<=w.heap.size) (hn:n<=maxLen):
 C9 91 #[.slice A n c] w (Ret w (.bool (l.all okBx))):=by
 unfold maxLen at hn
 go_enter Tryz.func91,Tryz.ntmps91
 go_wp2
 go_loopw [7] (fun i wr=>∃k:Nat,k<=n/\i=.int .i64 k/\(l.take k).all okBx=true/\Below w.heap.size w wr) (fun i _=>n-(intOf i).toNat)
 case atStart=>exact ⟨0,zly _,rfl,by simp,Below.refl _ _⟩
 case round=>
  obtain⟨k,hk,rfl,hall,hb⟩:=hrel
  by_cases hlt:k<n
  · obtain⟨b,off,rfl,hab,c0,c1,c2,c3⟩:=(hl.below (hb.mono hB)).at_ hlt
    have Hp:=hdQ (qbc okBx l k _ (q0l (by rw [hl.1];exact hlt)))
    have Hf:=hdQ (qej okBx l k _ (q0l (by rw [hl.1];exact hlt)))
    have Ha:=hdQ hall;clear hall
    rcases Nat.eq_zero_or_pos (qa4 (bx l k)) with hz|hz
    · have HE:=hdQ (ql8 hz)
      have Hk:=hdQ ((qbd _).2 hz);clear hz
      go_wp2_with (go_at_call 77;refine(qcn _ _ _ _ _).mono ?_;rw [HE.out];rintro e w1 ⟨rfl,hb1⟩;obtain⟨hc1,hf1,hz1⟩:=bc3 hb1;(try simp at hz1))
      go_roundw
      case rel=>exact ⟨k+1,by omega,by go_num,by rw [Hp.out,Ha.out,Hk.out];rfl,bel⟩
      case measure=>simp [intOf];omega
    · have HE:=hdQ (qhk (k:=qa4 (bx l k)) oQ)
      have Hk:Hid (okBx (bx l k)=false):=by simp [Hid,okBx];omega
      go_wp2_with (go_at_call 77;refine(qcn _ _ _ _ _).mono ?_;rw [HE.out];rintro e w1 ⟨rfl,hb1⟩;obtain⟨hc1,hf1,hz1⟩:=bc3 hb1;(try simp at hz1))
      go_ret;exact⟨qaf (Hf.out Hk.out).symm,bel⟩
  · have hkn:l.length<=k:=by rw [hl.1];omega
    rw [zmy hkn] at hall;have Ha:=hdQ hall;clear hall;go_wp2;go_ret;exact⟨qaf Ha.out.symm,hb⟩
theorem lt_of_block {w:World} {g:Nat} {o:Obj} (hg:w.heap[g]? =some o):g<w.heap.size:=by
 rcases zry g w.heap.size with h|h
 · exact h
 · rw [zxy h] at hg;cases hg
theorem qra (a b c d:Int) (g:Nat) (w:World) (hg:w.heap[g]? =some (.cells #[.int .i64 a,.int .i64 b,.int .i64 c,.int .i64 d] 48 (0,0))):
 C9 91 #[.slice (some ⟨g,0,none⟩) 1 1] w (Ret w (.bool (okBx ⟨⟨a,b⟩,⟨c,d⟩⟩))):=by
 have h:=qq8 w.heap.size 1 1 _ [⟨⟨a,b⟩,⟨c,d⟩⟩] w (qid [⟨⟨a,b⟩,⟨c,d⟩⟩] hg (lt_of_block hg) rfl (by intro k hk;match k,hk with|0,_=>exact ⟨rfl,rfl,rfl,rfl⟩)) (zhy _) dE
 simpa using h
theorem q7q (a b c d e f i j:Int) (g:Nat) (w:World) (hg:w.heap[g]? =some (.cells #[.int .i64 a,.int .i64 b,.int .i64 c,.int .i64 d,.int .i64 e,.int .i64 f,.int .i64 i,.int .i64 j] 48 (0,0))):
 C9 91 #[.slice (some ⟨g,0,none⟩) 2 2] w (Ret w (.bool (okBx ⟨⟨a,b⟩,⟨c,d⟩⟩&&okBx ⟨⟨e,f⟩,⟨i,j⟩⟩))):=by
 have h:=qq8 w.heap.size 2 2 _ [⟨⟨a,b⟩,⟨c,d⟩⟩,⟨⟨e,f⟩,⟨i,j⟩⟩] w (qid [⟨⟨a,b⟩,⟨c,d⟩⟩,⟨⟨e,f⟩,⟨i,j⟩⟩] hg (lt_of_block hg) rfl (by intro k hk;match k,hk with|0,_=>exact ⟨rfl,rfl,rfl,rfl⟩|1,_=>exact ⟨rfl,rfl,rfl,rfl⟩)) (zhy _) dE
 simpa using h
theorem qo2 {a b c:Pt} (h:(okPt a&&okPt b&&okPt c)=true):
 (-2147483646<=b.x-a.x/\b.x-a.x<=2147483646)/\(-2147483646<=c.y-a.y/\c.y-a.y<=2147483646)/\(-2147483646<=b.y-a.y/\b.y-a.y<=2147483646)/\(-2147483646<=c.x-a.x/\c.x-a.x<=2147483646):=by
 simp only [okPt,farB,ziy,Bool.not_eq_true',Bool.or_eq_false_iff,decide_eq_false_iff_not] at h
 omega
theorem qgy {p q m n:Int} (h1: -m<=p) (h2:p<=m) (h3: -n<=q) (h4:q<=n): -(m*n)<=p*q/\p*q<=m*n:=by
 have ha:p.natAbs<=m.natAbs:=oQ
 have hb:q.natAbs<=n.natAbs:=oQ
 have hm:=Nat.mul_le_mul ha hb;rw [<-Int.natAbs_mul,<-Int.natAbs_mul] at hm;have:0<=m*n:=Int.mul_nonneg oQ oQ
 omega
theorem qmb (ax ay bx by_ cx cy:Int) (w:World):
 C9 102 #[ptV ax ay,ptV bx by_,ptV cx cy] w (Ret w (.int .i64 (qdn ⟨ax,ay⟩ ⟨bx,by_⟩ ⟨cx,cy⟩))):=by
 cases h:(okPt ⟨ax,ay⟩&&okPt ⟨bx,by_⟩&&okPt ⟨cx,cy⟩)
 · have H:Hid (qdn ⟨ax,ay⟩ ⟨bx,by_⟩ ⟨cx,cy⟩=0):=by simp [Hid,qdn,h]
   go_enter Tryz.func102,Tryz.ntmps102
   go_wp2_with (go_at_call 57;refine(may3 ax ay bx by_ cx cy _ _ ?_).mono ?_;exact qan sI;rintro e w1 ⟨rfl,hb1⟩;obtain⟨hc1,hf1,hz1⟩:=bc3 hb1;(try simp at hz1))
   go_ret;exact⟨by rw [H.out];rfl,bel⟩
 · have H:Hid (qdn ⟨ax,ay⟩ ⟨bx,by_⟩ ⟨cx,cy⟩=(bx-ax)*(cy-ay)-(by_-ay)*(cx-ax)):=by simp [Hid,qdn,h,qae]
   obtain⟨⟨a1,a2⟩,⟨a3,a4⟩,⟨a5,a6⟩,⟨a7,a8⟩⟩:=qo2 h;have b1:=qgy (m:=2147483646) (n:=2147483646) a1 a2 a3 a4;have b2:=qgy (m:=2147483646) (n:=2147483646) a5 a6 a7 a8
   simp only at a1 a2 a3 a4 a5 a6 a7 a8 b1 b2
   obtain⟨b1,b3⟩:=b1;obtain⟨b2,b4⟩:=b2
   go_enter Tryz.func102,Tryz.ntmps102
   go_wp2_with (go_at_call 57;refine(may3 ax ay bx by_ cx cy _ _ ?_).mono ?_;exact qan sI;rintro e w1 ⟨rfl,hb1⟩;obtain⟨hc1,hf1,hz1⟩:=bc3 hb1;(try simp at hz1))
   go_ret;exact⟨by rw [H.out];rfl,bel⟩
theorem qfq (a b:Int) (w:World):
 C9 88 #[.int .i64 a,.int .i64 b] w fun e w' =>e=.returned (.int .i64 (sgn (a-b)))/\w=w' :=by
 rcases Int.lt_trichotomy a b with h|h|h
 · have H:Hid (sgn (a-b)= -1):=by unfold Hid sgn;rw [if_pos oQ]
   go_enter Tryz.func88,Tryz.ntmps88
   go_wp2;go_ret;exact⟨qgb H.out.symm,rfl⟩
 · have H:Hid (sgn (a-b)=0):=by unfold Hid sgn;rw [if_neg oQ,if_neg oQ]
   subst h
   go_enter Tryz.func88,Tryz.ntmps88
   go_wp2;go_ret;exact⟨qgb H.out.symm,rfl⟩
 · have H:Hid (sgn (a-b)=1):=by unfold Hid sgn;rw [if_neg oQ,if_pos oQ]
   go_enter Tryz.func88,Tryz.ntmps88
   go_wp2;go_ret;exact⟨qgb H.out.symm,rfl⟩
theorem qjq (ax ay bx by_ cx cy:Int) (w:World):
 C9 96 #[ptV ax ay,ptV bx by_,ptV cx cy] w (Ret w (.int .i64 (qbz ⟨ax,ay⟩ ⟨bx,by_⟩ ⟨cx,cy⟩))):=by
 go_enter Tryz.func96,Tryz.ntmps96
 go_wp2_with (first|(go_at_call 102;refine(qmb _ _ _ _ _ _ _).monoR ?_;rintro w1 hb1 hc1 hf1 hz1;(try simp at hz1))|(go_at_call 88;refine(qfq _ _ _).mono ?_;rintro e w' ⟨rfl,rfl⟩))
 go_ret;exact⟨by simp [qbz],bel⟩
theorem qsv (a b c d x y:Int) (w:World):
 C9 124 #[bxV a b c d,ptV x y] w (Ret w (.bool (bhas ⟨⟨a,b⟩,⟨c,d⟩⟩ ⟨x,y⟩))):=by
 go_enter Tryz.func124,Tryz.ntmps124
 go_wp2_with (first|(go_at_call 91;refine(qra a b c d _ _ ?_).mono ?_;exact qan sI;rintro e w1 ⟨rfl,hb1⟩;obtain⟨hc1,hf1,hz1⟩:=bc3 hb1;(try simp at hz1);obtain⟨hy0,hy1⟩:=ol2 w w1)|(go_at_call 57;refine(may1 x y _ _ ?_).mono ?_;exact qan sI;rintro e w1 ⟨rfl,hb1⟩;obtain⟨hc1,hf1,hz1⟩:=bc3 hb1;(try simp at hz1);obtain⟨hy0,hy1⟩:=ol2 w w1))
 all_goals go_ret
 all_goals exact⟨qaf (by first|(simp [bhas,qo8, *];done)|(simp [bhas,qo8, *];omega)),bel⟩
theorem qlx (a b c d x y z t:Int) (w:World):
 C9 121 #[bxV a b c d,bxV x y z t] w (Ret w (.bool (qcd ⟨⟨a,b⟩,⟨c,d⟩⟩ ⟨⟨x,y⟩,⟨z,t⟩⟩))):=by
 go_enter Tryz.func121,Tryz.ntmps121
 go_wp2_with (go_at_call 91;refine(q7q a b c d x y z t _ _ ?_).mono ?_;exact qan sI;rintro e w1 ⟨rfl,hb1⟩;obtain⟨hc1,hf1,hz1⟩:=bc3 hb1;(try simp at hz1);obtain⟨hy0,hy1⟩:=ol2 w w1)
 all_goals go_ret
 all_goals exact⟨qaf (by first|(simp [qcd,qie, *];done)|(simp [qcd,qie, *];omega)),bel⟩
theorem qwn (a b c d x y z t:Int) (w:World):
 C9 83 #[bxV a b c d,bxV x y z t] w (Ret w (.bool (qg6 ⟨⟨a,b⟩,⟨c,d⟩⟩ ⟨⟨x,y⟩,⟨z,t⟩⟩))):=by
 go_enter Tryz.func83,Tryz.ntmps83
 go_wp2_with (first|(go_at_call 91;refine(qra a b c d _ _ ?_).mono ?_;exact qan sI;rintro e w1 ⟨rfl,hb1⟩;obtain⟨hc1,hf1,hz1⟩:=bc3 hb1;(try simp at hz1);obtain⟨hy0,hy1⟩:=ol2 w w1)|(go_at_call 124;refine(qsv _ _ _ _ _ _ _).monoR ?_;rintro w1 hb1 hc1 hf1 hz1;(try simp at hz1);obtain⟨hy0,hy1⟩:=ol2 w w1))
 all_goals go_ret
 all_goals exact⟨qaf (by first|(simp [qg6, *];done)|(simp [qg6, *];omega)),bel⟩
end Go.Proofs.YtfnhnjbkkggbeaaGreat
