/-pergolaalike.Items and Round-/
import Derived.Test.YteodamnfgcnmmaaGreatRJoiB
set_option linter.unusedVariables false
set_option linter.unusedSimpArgs false
set_option maxHeartbeats 2000000
set_option maxRecDepth 20000
namespace Go.Proofs.YteodamnfgcnmmaaGreat
open Go Go.RowKit Pg
theorem qr8 (B n c top:Nat) (A:Option Addr) (L:List (Int×Ob)) (w:World) (hl:qdw w B A n L) (hB:B<=w.heap.size) (hn:n<=1000000) (ht:top<1099511627776):
 C9 21 #[.slice A n c,.int .i64 top] w fun e w' =>∃t:Nat,e=.returned (.int .i64 t)/\(t<=top->∀p∈L,p.2.pts.length<=top)/\Below w.heap.size w w' :=by
 have hLn:=hl.1;have HL:=hdQ hl;clear hl
 go_enter Tryz.func21,Tryz.ntmps21
 go_wp2_with (go_at_call 44;(with_reducible refine(qtb _ n 3 _ ?_).mono ?_);(focus exact blkA);rintro e w1 ⟨rfl,rfl⟩)
 go_loopw [5,6] (fun vn vi wr=>∃k m:Nat,k<=n/\vi=.int .i64 k/\vn=.int .i64 m/\m<=1099511627776/\(m<=top->∀l∈L.take k,l.2.pts.length<=top)/\Below w.heap.size w wr) (fun _ vi _=>n-(Go.RowKit.intOf vi).toNat)
 case atStart=>exact ⟨0,_,by omega,rfl,rfl,(qnb _ _ dE).2,fun _ l hl=>by simp at hl,bel⟩
 case round=>
  obtain⟨k,m,hk,rfl,rfl,hm,hs,hb⟩:=hrel
  by_cases hlt:k<n
  · have hk1:(k:Int)<(n:Int):=oQ
    by_cases hmt:m<=top
    · have hmt1:(m:Int)<=(top:Int):=oQ
      obtain⟨b,off,p,A',n',c',rfl,hab,hx,q0,q1,q2,hpt⟩:=(HL.out.below (hb.mono hB)).at_ hlt;have hbw:b<wr.heap.size:=by have:=hb.size;omega
      have hS:=hdQ (And.intro (hs hmt) (And.intro hx hpt.1));have hM:=hdQ hm;obtain⟨m',hm'⟩:∃m',sumS m [n']=m' :=⟨_,rfl⟩;have HM' :=hdQ hm';have HSS:=hdQ (fun g t w hg=>qq2 g m n' t w hg hm)
      rw [hm'] at HSS;clear hs hm hm' hpt hx
      go_wp2_with (go_at_call 44;(with_reducible refine(HSS.out _ 3 _ ?_).mono ?_);(focus exact blkA);rintro e w1 ⟨rfl,rfl⟩)
      go_roundw
      case rel=>
       refine⟨k+1,m',by omega,by go_num,rfl,by rw [<-HM'.out];exact(qnb _ _ hM.out).2,fun h l hl=> ?_,bel⟩
       obtain⟨h1,h2,h3⟩:=hS.out;rw [zwy,h2] at hl
       rcases List.mem_append.1 hl with hl|hl
       · exact h1 l hl
       · simp at hl
         subst hl;have:=qj6 [n'] m hM.out (by rw [HM'.out];omega)
         rw [HM'.out] at this
         simp at this
         omega
      case measure=>simp [Go.RowKit.intOf];omega
    · have hmt1:¬ (m:Int)<=(top:Int):=oQ
      clear hs;go_wp2_with fail;go_ret;exact⟨m,rfl,fun h=>absurd h hmt,hb⟩
  · obtain rfl:n=k:=oQ
    rw [zmy oQ] at hs
    have HS:=hdQ hs;clear hs;go_wp2_with fail;go_ret;exact⟨m,rfl,HS.out,hb⟩
theorem qi0 (B n c:Nat) (A:Option Addr) (L:List (Int×Ob)) (w:World) (hl:qdw w B A n L) (hB:B<=w.heap.size) (hn:n<=9223372036854775807):
 C9 8 #[.slice A n c] w fun e w' =>∃s:Bool,e=.returned (.bool s)/\(s=true->n<=50/\∀p∈L,p.2.pts.length<=600)/\Below w.heap.size w w' :=by
 have HL:=hdQ hl;clear hl
 by_cases h80:n<=50
 · have h1:(n:Int)<=50:=oQ
   have HI:=hdQ (fun W (hW:Below w.heap.size w W)=>qr8 B n c 600 A L W (HL.out.below (hW.mono hB)) (zcy hB hW.size) oQ dE)
   go_enter Tryz.func8,Tryz.ntmps8
   go_wp2_with (go_at_call 21;(refine(HI.out _ bel).mono ?_);rintro e w1 ⟨t,rfl,hs,hb1⟩;have HS:=hdQ hs;clear hs;obtain⟨hc1,hf1,hz1⟩:=bc3 hb1;(try simp at hz1))
   go_ret;refine⟨_,rfl,fun h=>⟨h80,?_⟩,bel⟩
   have:t<=600:=by simp at h;omega
   exact HS.out this
 · have h1:¬ (n:Int)<=50:=oQ
   go_enter Tryz.func8,Tryz.ntmps8
   go_wp2;go_ret;refine⟨rfl,?_⟩;exact bel
def ob4:Ob:=⟨3,[⟨0,0⟩,⟨2,2⟩]⟩
def ob7:Ob:=⟨3,[⟨2,2⟩,⟨3,3⟩]⟩
theorem qp5:qgy [(4,ob4),(7,ob7)]= [(4,ob4),(7,ob7)]:=by
 have h1:qfh 4 ob4=0:=by decide+kernel
 have h2:qfh 7 ob7=0:=by decide+kernel
 simp [qgy,putP,h1,h2,getK,putK,delK,insK]
theorem qnq:upJ (qb6 [(4,ob4),(7,ob7)] [(4,ob4),(7,ob7)])= [(4,7)]:=by decide+kernel
theorem qw0 {W:World} {b g g' :Nat} (hb:Blk W b 57 #[.int .i64 4,.int .i64 3,.slice (some ⟨g,0,none⟩) 2 2,.int .i64 7,.int .i64 3,.slice (some ⟨g',0,none⟩) 2 2]) (hg:Blk W g 52 #[.int .i64 0,.int .i64 0,.int .i64 2,.int .i64 2]) (hg' :Blk W g' 52 #[.int .i64 2,.int .i64 2,.int .i64 3,.int .i64 3]):qdw W W.heap.size (some ⟨b,0,none⟩) 2 [(4,ob4),(7,ob7)]:=by
 refine⟨rfl,fun _=>⟨b,0,rfl,hb.lt⟩,fun b' off k p e hk=> ?_⟩
 injection e with e
 injection e with e1 e2
 subst e1 e2
 match k,hk with
 | 0,hk=>
   simp at hk
   subst hk;refine⟨some ⟨g,0,none⟩,2,2,?_,?_,?_,(pts2 (p:=⟨0,0⟩) (q:=⟨2,2⟩) hg)⟩
   · simpa using hb.cell 0
   · simpa [ob4] using hb.cell 1
   · simpa using hb.cell 2
 | 1,hk=>
   simp at hk
   subst hk;refine⟨some ⟨g',0,none⟩,2,2,?_,?_,?_,(pts2 (p:=⟨2,2⟩) (q:=⟨3,3⟩) hg')⟩
   · simpa using hb.cell 3
   · simpa [ob7] using hb.cell 4
   · simpa using hb.cell 5
theorem qwj {k:Int} {W w2:World} {tb mm:Nat} (h:qsz k W w2 tb mm [(4,ob4),(7,ob7)]):∀W',Below w2.heap.size w2 W' ->C9 12 #[gP tb] W' fun e w' =>∃g c,e=.returned (.tuple #[.slice (some ⟨g,0,none⟩) 1 c,.nilIface])/\g<w'.heap.size/\w'.cell? ⟨g,0,none⟩=some (.int .i64 4)/\w'.cell? ⟨g,1,none⟩=some (.int .i64 7)/\Below W'.heap.size W' w' :=fun W' hW=>by
 obtain⟨mb,own,imm,Z,t,L,hS,_⟩:=h
 have hil:t.items.length=2:=by
  have:=congrArg List.length hS.ot
  simpa [obsT] using this
 have hsf:=qm5 (hS.g.tr hW) (by rw [hil];decide)
 rw [hS.ot,qnq] at hsf;refine hsf.mono ?_;rintro e w' ⟨v,rfl,ho,hb⟩
 rcases ho.2 with ⟨_,h0⟩|⟨g,cap,cur,rfl,_,hg,_⟩
 · simp at h0
 · refine⟨g,cap,rfl,(zqy.1 hg).1,?_,?_,hb⟩
   · rw [ho.cellAt _ dE];rfl
   · rw [ho.cellAt _ dE];rfl
theorem qoe (w:World):C9 9 #[] w (Ret w (.bool true)):=by
 have HMd:Hid (∀W b g g',Blk W b 57 #[.int .i64 4,.int .i64 3,.slice (some ⟨g,0,none⟩) 2 2,.int .i64 7,.int .i64 3,.slice (some ⟨g',0,none⟩) 2 2]->Blk W g 52 #[.int .i64 0,.int .i64 0,.int .i64 2,.int .i64 2]->Blk W g' 52 #[.int .i64 2,.int .i64 2,.int .i64 3,.int .i64 3]->C9 10 #[.slice (some ⟨b,0,none⟩) 2 2,.int .i64 3] W fun e w' =>∃tb mm,e=.returned (.tuple #[gP tb,gP mm,.bool true])/\qsz (qg7 3 4:Nat) W w' tb mm [(4,ob4),(7,ob7)]/\Below W.heap.size W w'):=fun W b g g' hb hg hg' =>by
  have:=qh3 (some ⟨b,0,none⟩) 2 2 [(4,ob4),(7,ob7)] 3 W (qw0 hb hg hg') dE (by intro p hp;simp at hp;rcases hp with rfl|rfl<;>simp [ob4,ob7])
  rw [qp5] at this;exact this
 go_enter Tryz.func9,Tryz.ntmps9
 go_wp2_with (first
  | (go_at_call 10;(refine(HMd.out _ _ _ _ blkA blkA blkA).mono ?_);rintro e w2 ⟨tb,mm,rfl,hm2,hb2⟩;have HSf:=hdQ (qwj hm2);clear hm2;obtain⟨hc2,hf2,hz2⟩:=bc3 hb2;(try simp at hz2))
  | (go_at_call 12;(refine(HSf.out _ bel).mono ?_);rintro e w3 ⟨g3,k3,rfl,gl,c0,c1,hb3⟩;obtain⟨hc3,hf3,hz3⟩:=bc3 hb3;(try simp at hz3)))
 go_ret;exact⟨rfl,bel⟩
end Go.Proofs.YteodamnfgcnmmaaGreat
