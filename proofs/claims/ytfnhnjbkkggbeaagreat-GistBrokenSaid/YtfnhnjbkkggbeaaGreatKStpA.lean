/-pergolalaw17: a row of steps in memory.-/
import Derived.Test.YtfnhnjbkkggbeaaGreatKAlkI
set_option linter.unusedVariables false
set_option linter.unusedSimpArgs false
set_option maxHeartbeats 2000000
set_option maxRecDepth 20000
namespace Go.Proofs.YtfnhnjbkkggbeaaGreat
open Go Go.RowKit Pg
structure Stp where
 kd:Int
 id:Int
 ob:Ob
 its:List (Int×Ob)
def qgh (w:World) (B:Nat) (A:Option Addr) (n:Nat) (l:List Stp):Prop:=
 l.length=n/\(0<n->∃b off,A=some ⟨b,off,none⟩/\b<B)/\∀(b off k:Nat) (p:Stp),A=some ⟨b,off,none⟩->l[k]? =some p->∃A1 n1 c1 A2 n2 c2,w.cell? ⟨b,off+k*5,none⟩=some (.int .i64 p.kd)/\w.cell? ⟨b,off+k*5+1,none⟩=some (.int .i64 p.id)/\w.cell? ⟨b,off+k*5+2,none⟩=some (.int .i64 p.ob.kind)/\w.cell? ⟨b,off+k*5+3,none⟩=some (.slice A1 n1 c1)/\w.cell? ⟨b,off+k*5+4,none⟩=some (.slice A2 n2 c2)/\qal w B A1 n1 p.ob.pts/\qe4 w B A2 n2 p.its/\n2<=9223372036854775807
theorem qgh.below {w w' :World} {B n:Nat} {A:Option Addr} {l:List Stp} (h:qgh w B A n l) (hb:Below B w w'):qgh w' B A n l:=by
 refine⟨h.1,h.2.1,fun b off k p hA hp=> ?_⟩
 obtain⟨A1,n1,c1,A2,n2,c2,h0,h1,h2,h3,h4,h5,h6,h7⟩:=h.2.2 b off k p hA hp;have hk:k<l.length:=(zsy.1 hp).1;obtain⟨b0,off0,e,hb0⟩:=h.2.1 (by rw [<-h.1];omega)
 rw [hA] at e;injection e with e
 injection e with e1 e2
 subst e1;exact⟨A1,n1,c1,A2,n2,c2,(hb.cell (p:=⟨b,off+k*5,none⟩) hb0).trans h0,(hb.cell (p:=⟨b,off+k*5+1,none⟩) hb0).trans h1,(hb.cell (p:=⟨b,off+k*5+2,none⟩) hb0).trans h2,(hb.cell (p:=⟨b,off+k*5+3,none⟩) hb0).trans h3,(hb.cell (p:=⟨b,off+k*5+4,none⟩) hb0).trans h4,h5.below hb,h6.below hb,h7⟩
theorem qgh.at_ {w:World} {B n:Nat} {A:Option Addr} {l:List Stp} (h:qgh w B A n l) {k:Nat} (hk:k<n):∃b off p A1 n1 c1 A2 n2 c2,A=some ⟨b,off,none⟩/\b<B/\l[k]? =some p/\w.cell? ⟨b,off+k*5,none⟩=some (.int .i64 p.kd)/\w.cell? ⟨b,off+k*5+1,none⟩=some (.int .i64 p.id)/\w.cell? ⟨b,off+k*5+2,none⟩=some (.int .i64 p.ob.kind)/\w.cell? ⟨b,off+k*5+3,none⟩=some (.slice A1 n1 c1)/\w.cell? ⟨b,off+k*5+4,none⟩=some (.slice A2 n2 c2)/\qal w B A1 n1 p.ob.pts/\qe4 w B A2 n2 p.its/\n2<=9223372036854775807:=by
 obtain⟨b,off,e,hb⟩:=h.2.1 oQ
 have hk' :k<l.length:=by rw [h.1];exact hk
 obtain⟨A1,n1,c1,A2,n2,c2,r⟩:=h.2.2 b off k _ e (zby hk');exact⟨b,off,_,A1,n1,c1,A2,n2,c2,e,hb,zby hk',r⟩
theorem qvc (g n x y:Nat) (t:TypeId) (w:World) (hg:Blk w g t #[.int .i64 (x:Int),.int .i64 (y:Int),.int .i64 1]) (hn:n<=1099511627776):
 C9 22 #[.int .i64 n,.slice (some ⟨g,0,none⟩) 3 3] w fun e w' =>e=.returned (.int .i64 (sumS n [x,y,1]:Nat))/\w=w' :=qvd g n 3 t [x,y,1] w hg rfl dE hn
def q04 (p:Stp):Prop:=p.ob.pts.length<=2000/\p.its.length<=2000/\∀q∈p.its,q.2.pts.length<=2000
theorem qj5 (B n c:Nat) (A:Option Addr) (L:List Stp) (w:World) (hl:qgh w B A n L) (hB:B<=w.heap.size) (hn:n<=9223372036854775807):
 C9 20 #[.slice A n c] w fun e w' =>∃s:Bool,e=.returned (.bool s)/\(s=true->n<=150/\∀p∈L,q04 p)/\Below w.heap.size w w' :=by
 have HL:=hdQ hl;clear hl;obtain⟨b1,d1⟩:∃b,decide ((n:Int)<=150)=b:=⟨_,rfl⟩;have D1:=hdQ d1
 go_enter Tryz.func20,Tryz.ntmps20
 go_wp2_with fail
 go_loopw [3,4] (fun vn vi wr=>∃k m:Nat,k<=n/\vi=.int .i64 k/\vn=.int .i64 m/\m<=2000/\(∀p∈L.take k,q04 p)/\Below w.heap.size w wr) (fun _ vi _=>n-(Go.RowKit.intOf vi).toNat)
 case atStart=>exact ⟨0,0,by omega,rfl,rfl,by omega,fun p hp=>by simp at hp,bel⟩
 case round=>
  obtain⟨k,m,hk,rfl,rfl,hm,hs,hb⟩:=hrel
  by_cases hlt:k<n
  case neg=>
   obtain rfl:n=k:=oQ
   rw [zmy (by rw [HL.out.1];exact zhy _)] at hs
   have HS:=hdQ hs;have HB:=hdQ hb;clear hs hb
   cases b1
   all_goals(
    go_wp2_with fail;go_ret;refine⟨_,rfl,fun hh=> ?_,HB.out⟩
    first
     | (cases hh;done)
     | exact⟨by have:=of_decide_eq_true D1.out;omega,HS.out⟩)
  have hk1:(k:Int)<(n:Int):=oQ
  obtain⟨b,off,p,A1,n1,c1,A2,n2,c2,rfl,hab,hx,q0,q1,q2,q3,q4,hpt,hit,hn2⟩:=(HL.out.below (hb.mono hB)).at_ hlt;have hbw:b<wr.heap.size:=by have:=hb.size;omega
  have HS:=hdQ (And.intro hs (And.intro hx (And.intro hpt.1 hit.1)));have HM:=hdQ hm;have HIt:=hdQ (fun W (hW:Below wr.heap.size wr W)=>qw2 B n2 c2 2000 A2 p.its W (hit.below (hW.mono (by have:=hb.size;omega))) (by have:=hb.size;have:=hW.size;omega) hn2 dE)
  have HSS:=hdQ (fun(t:Nat) g ty w hg=>qvc g m n1 t ty w hg oQ)
  have HB:=hdQ hb;clear hs hm hpt hit hx q0 q1 q2 hb;go_wp2_with fail;refine qac kr kr pq ?_
  simp only [zdy,zey,ldz,lds,bare,qak,lcz,lcs,zay]
  repeat' ((try simp only [Act.put,lsi,lsz,lss]);first|(refine lqx ?_)|(refine qab qaa rfl (fun K hK=> ?_);go_simp;((first |  (go_at_call 5;(refine(HIt.out _ bel).mono ?_);rintro e w1 ⟨t1,rfl,ht1,hb1⟩;have HT1:=hdQ ht1;clear ht1;obtain⟨hc1,hf1,hz1⟩:=bc3 hb1;(try simp at hz1))|(go_at_call 22;(with_reducible refine(HSS.out t1 _ 3 _ ?_).mono ?_);(focus exact blkA);rintro e w2 ⟨rfl,rfl⟩)|skip)<;>(refine hK.out _ _ bel ?_;clear hK K))))
  (all_goals try simp only [Act.put,lsi,lsz,lss]);all_goals(refine qad ?_)
  have HSm:=hdQ (qfc [n1,t1,1] m (by have:=HM.out;omega))
  generalize sumS m [n1,t1,1]=m' at*
  by_cases hgt:2000<m'
  · have hgt1:(2000:Int)<(m' :Int):=oQ
    go_wp2_with fail;go_ret;exact⟨false,rfl,fun h=>(by cases h),HB.out.trans ((show Below wr.heap.size wr _ from bel).mono HB.out.size)⟩
  have hgt1:¬ (2000:Int)<(m' :Int):=oQ
  go_wp2_with fail
  go_roundw
  case rel=>
   refine⟨k+1,m',by omega,by go_num,rfl,by omega,fun z hz=> ?_,HB.out.trans ((show Below wr.heap.size wr _ from bel).mono HB.out.size)⟩
   obtain⟨h1,h2,h3,h4⟩:=HS.out;have h5:=HSm.out oQ
   simp at h5
   rw [zwy,h2] at hz
   rcases List.mem_append.1 hz with hz|hz
   · exact h1 z hz
   · simp at hz
     subst hz;obtain⟨g1,g2⟩:=HT1.out oQ
     exact⟨by omega,by omega,g2⟩
  case measure=>simp [Go.RowKit.intOf];omega
end Go.Proofs.YtfnhnjbkkggbeaaGreat
