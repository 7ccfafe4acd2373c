/-Contracts of slices.Grow and slices.Concat at bytes;rows of rows of by-/
import Derived.Test.YteodamnfgcnmmaaGreatDoorTEncA
import Derived.Test.YteodamnfgcnmmaaGreatDoorTErrIs
import Derived.Lib.AppendZeros
import Derived.Laws.AppendOwnNone
set_option linter.unusedVariables false
set_option linter.unusedSimpArgs false
set_option maxHeartbeats 4000000
set_option maxRecDepth 20000
namespace Go.Proofs.YteodamnfgcnmmaaGreatDoor
open Go.RowKit Pg
theorem qdd {w w' :World} {base:Nat} {e:TypeId} {size:Nat} {v:Value} {n:Nat} {xs:List Value} (h:w.ownsRow base e size v n xs) (hb:Below w.heap.size w w'):w'.ownsRow base e size v n xs:=by
 obtain⟨h1,h2|⟨g,cap,cur,hv,hg,hh,r⟩⟩:=h
 · exact⟨h1,.inl h2⟩
 · exact⟨h1,.inr ⟨g,cap,cur,hv,hg,(hb.block g (lt_of_block hh)).trans hh,r⟩⟩
theorem qfd {w:World} {base base' :Nat} {e:TypeId} {size:Nat} {v:Value} {n:Nat} {xs:List Value} (h:w.ownsRow base e size v n xs) (hb:base' <=base):w.ownsRow base' e size v n xs:=by
 obtain⟨h1,h2|⟨g,cap,cur,hv,hg,hh,r⟩⟩:=h
 · exact⟨h1,.inl h2⟩
 · exact⟨h1,.inr ⟨g,cap,cur,hv,zcy hb hg,hh,r⟩⟩
def qgf (w:World) (B:Nat) (A:Option Addr) (m:Nat) (L:List (List Nat)):Prop:=
 L.length=m/\(0<m->∃b off,A=some ⟨b,off,none⟩/\b<B/\∀k l,L[k]? =some l->∃A' n c,w.cell? ⟨b,off+k,none⟩=some (.slice A' n c)/\qch w B A' n l/\(A' =none->c=0)/\n<=c)
theorem qgf.keep {w w' :World} {B m:Nat} {A:Option Addr} {L:List (List Nat)} (h:qgf w B A m L) (hk:∀p:Addr,p.block<B->w'.cell? p=w.cell? p):qgf w' B A m L:=
 ⟨h.1,fun hn=>by
  obtain⟨b,off,e,hb,hc⟩:=h.2 hn;refine⟨b,off,e,hb,fun k l hl=> ?_⟩
  obtain⟨A',n,c,h1,h2,h3⟩:=hc k l hl
  exact⟨A',n,c,(hk _ hb).trans h1,h2.keep hk,h3⟩⟩
theorem qgf.below {w w' :World} {B m:Nat} {A:Option Addr} {L:List (List Nat)} (h:qgf w B A m L) (hb:Below B w w'):qgf w' B A m L:=h.keep fun _ hp=>hb.cell hp
theorem qgf.tr {W w1:World} {B m:Nat} {A:Option Addr} {L:List (List Nat)} (h:qgf W B A m L) (hb:Below W.heap.size W w1) (hB:B<=W.heap.size):qgf w1 B A m L:=h.below (hb.mono hB)
theorem qgf.at_ {w:World} {B m:Nat} {A:Option Addr} {L:List (List Nat)} (h:qgf w B A m L) {k:Nat} (hk:k<m):
 ∃b off A' n c,A=some ⟨b,off,none⟩/\b<B/\w.cell? ⟨b,off+k,none⟩=some (.slice A' n c)/\qch w B A' n (L.getD k [])/\L[k]? =some (L.getD k [])/\(A' =none->c=0)/\n<=c:=by
 obtain⟨b,off,e,hb,hc⟩:=h.2 oQ
 have hl:k<L.length:=by rw [h.1];exact hk
 have he:L[k]? =some (L.getD k []):=by rw [zpy,zby hl];rfl
 obtain⟨A',n,c,h1,h2,h3⟩:=hc k _ he;exact⟨b,off,A',n,c,e,hb,h1,h2,he,h3⟩
theorem qch.news {w:World} {B n:Nat} {ad:Addr} {l:List Nat} (h:qch w B (some ad) n l) (hn:0<n):∀(j:Nat) (u:Value),(qaw l)[j]? =some u->w.cell? (ad.add j)=some u:=by
 obtain⟨b,off,e,hb,hc⟩:=h.2 hn;injection e with e
 subst e;intro j u hu;have hp:(⟨b,off,none⟩:Addr).add j=⟨b,off+j,none⟩:=by unfold Addr.add;split<;>simp_all
 unfold qaw at hu;rw [zpx] at hu
 cases hl:l[j]? with
 | none=>rw [hl] at hu;cases hu
 | some c=>
   rw [hl] at hu;simp only [Option.map_some,Option.some.injEq] at hu;subst hu
   rw [hp]
   exact hc j c hl
theorem qfy (l:List Nat):∀u∈qaw l,u.oneCell' =true:=by
 intro u hu;unfold qaw at hu;rw [zty] at hu;obtain⟨c,_,rfl⟩:=hu
 rfl
theorem qb2 {w:World} {base:Nat} {e:TypeId} {v:Value} {n:Nat} {l:List Nat} (h:w.ownsRow base e 1 v n (qaw l)):
 ∃A c,v=.slice A n c/\qch w w.heap.size A n l/\l.length=n/\(A=none->c=0)/\n<=c:=by
 obtain⟨A,c,rfl,h1,h2⟩:=qjv h;obtain⟨_,⟨h3,_⟩|⟨g,cap,cur,h3,_,_,h4,_⟩⟩:=h
 · injection h3 with h5 h6 h7
   subst h5 h6 h7;exact⟨none,_,rfl,h1,h2,fun _=>rfl,zhy _⟩
 · injection h3 with h5 h6 h7
   subst h5 h7;exact⟨_,_,rfl,h1,h2,(fun e=>by cases e),h4⟩
theorem qlf {w:World} {base n:Nat} {e:TypeId} {v:Value} {l:List Nat} (h:w.ownsRow base e 1 v n (qaw l)) (hn:0<n):
 ∃g c,v=.slice (some ⟨g,0,none⟩) n c/\(∀(j:Nat) (u:Value),(qaw l)[j]? =some u->w.cell? ((⟨g,0,none⟩:Addr).add j)=some u)/\l.length=n/\g<w.heap.size:=by
 obtain⟨A,c,rfl,hB,hl⟩:=qjv h;obtain⟨b,off,e1,hb,hc⟩:=hB.2 hn;subst e1;obtain⟨_,⟨h3,_⟩|⟨g,cap,cur,h3,_⟩⟩:=h
 · cases h3
 · injection h3 with h4 h5 h6
   injection h4 with h4
   injection h4 with h4 h7
   subst h4 h7;exact⟨b,c,rfl,hB.news hn,hl,hb⟩
theorem qn0 (a b c d:Int) (h:inBx ⟨⟨a,b⟩,⟨c,d⟩⟩) (w:World):C9 247 #[bxV a b c d] w (RetB w (keyL ⟨⟨a,b⟩,⟨c,d⟩⟩)):=by
 obtain⟨ha,hb,hc,hd⟩:=h
 simp only at ha hb hc hd
 obtain⟨i0,hi,hz0,hz1,hz2⟩:=info_parts Tryz.infoByte;have hK:keyL ⟨⟨a,b⟩,⟨c,d⟩⟩=sint a++sint b++sint c++sint d:=by simp [keyL]
 obtain⟨K,eK⟩:∃K,keyL ⟨⟨a,b⟩,⟨c,d⟩⟩=K:=⟨_,rfl⟩
 rw [eK] at hK ⊢
 clear eK;obtain⟨a1,a2⟩:=qed ha;obtain⟨b1,b2⟩:=qed hb;obtain⟨c1,c2⟩:=qed hc;obtain⟨d1,d2⟩:=qed hd;have HA:=hdQ (qgj a ha);have HB:=hdQ (qgj b hb);have HC:=hdQ (qgj c hc);have HD:=hdQ (qgj d hd);clear ha hb hc hd;generalize sint a=la at*;generalize sint b=lb at*;generalize sint c=lc at*;generalize sint d=ld at*;have HK:=hdQ hK;clear hK
 go_enter Tryz.func247,Tryz.ntmps247
 go_wp2_with fail;refine qkv (fun W0=>Below w.heap.size w W0/\Blk W0 w.heap.size 46 #[.int .i64 a,.int .i64 b,.int .i64 c,.int .i64 d]/\W0.heap.size=w.heap.size+1) ⟨bel,blkA,by simp⟩ ?_
 rintro W0 ⟨hbW,hX,hs0⟩;have cX:=hX.cell;refine qaq [0,1,2,4,5,6,3,7,8,9] kr kr pq ?_
 simp only [zdy,zey,ldz,lds,bare,qak,lcz,lcs,zay]
 repeat' ((try simp only [Act.put,lsi,lsz,lss]);first|(refine lqx ?_)|(refine qab qaa rfl (fun K hK=> ?_);(refine wp_append_own _ _ _ 120 rfl (w.heap.size+1) 5 i0 (.int .u8 0) 1 1 Tryz.underlying120 hi hz0 (by assumption) (by assumption) rfl dE _ _ _ rfl (qfd (qdd HO1.out hb2) (by(try simp);omega)) ⟨g2,0,none⟩ _ _ (qaw lb) rfl (by rw [qjc];omega) HN2.out (qfy _) ?_ ?_ ?_ ?_);(focus(unfold maxLen;omega));(focus omega);(focus omega);intro v3 w3 ho3 hg3 _;have hb3:Below W0.heap.size W0 w3:=(Below.grown (w:=w2) bel hg3 oQ (fun j e=>by have:=((qfd (qdd HO1.out hb2) (base' :=w.heap.size+1) (by(try simp);omega)).lt j e).1;omega));have HO3:=hdQ ho3;refine hK.out _ _ bel ?_;clear hK K)|(refine qab qaa rfl (fun K hK=> ?_);go_simp;((first|(go_at_call 253;(with_reducible refine(HA.out _).mono ?_);rintro e w1 ⟨s1,rfl,ho1,hb1⟩;have HO1:=hdQ ho1;clear ho1;obtain⟨hc1,hf1,hz1⟩:=bc3 hb1;(try simp at hz1);have hy1:=ol1 w w1)|(go_at_call 253;(with_reducible refine(HB.out _).mono ?_);rintro e w2 ⟨s2,rfl,ho2,hb2⟩;obtain⟨g2,e2,rfl,hnw2,hl2,hg2⟩:=qlf ho2 oQ;have HN2:=hdQ hnw2;clear hnw2 ho2;obtain⟨hc2,hf2,hz2⟩:=bc3 hb2;(try simp at hz2);have hy2:=ol1 w w2)  | skip)<;>(refine hK.out _ _ bel ?_;clear hK K))))
 (all_goals try simp only [Act.put,lsi,lsz,lss]);all_goals(refine qae ?_)
 have hX3:=hX.tr hb3;have hbw3:Below w.heap.size w w3:=bel;have hz3:=hb3.size;have hlt3:=HO3.out.lt;clear ho3 hg3 hb3 hb2 hb1 HO1 HN2 hc1 hf1 hc2 hf2 hz2 hy1 hy2 hg2 cX hX hbW;have cX:=hX3.cell;go_wp2_with fail;refine qbe (w.heap.size+1) [0,1,2,3,6,7,8,4,5,9,10,11] kr kr pq ?_
 simp only [zdy,zey,ldz,lds,bare,qak,lcz,lcs,zay]
 repeat' ((try simp only [Act.put,lsi,lsz,lss]);first|(refine lqy ?_)|(refine qab qaa rfl (fun K hK=> ?_);(first|((refine wp_append_own _ _ _ 120 rfl (w.heap.size+1) 5 i0 (.int .u8 0) 1 1 Tryz.underlying120 hi hz0 (by assumption) (by assumption) rfl dE _ _ _ rfl (qdd HO5.out hb6) ⟨g6,0,none⟩ _ _ (qaw ld) rfl (by rw [qjc];omega) HN6.out (qfy _) ?_ ?_ ?_ ?_);(focus(unfold maxLen;omega));(focus omega);(focus omega);intro v7 w7 ho7 hg7 _;have hbB7:Below (w.heap.size+1) w3 w7:=(hbB6.grown hg7 oQ (fun j e=>((qdd HO5.out hb6).lt j e).1));have hbw7:Below w.heap.size w w7:=(hbw3.trans (hbB7.mono oQ));have HO7:=hdQ ho7)|((refine wp_append_own _ _ _ 120 rfl (w.heap.size+1) 5 i0 (.int .u8 0) 1 1 Tryz.underlying120 hi hz0 (by assumption) (by assumption) rfl dE _ _ _ rfl (qdd (qf7 HO3.out) hb4) ⟨g4,0,none⟩ _ _ (qaw lc) rfl (by rw [qjc];omega) HN4.out (qfy _) ?_ ?_ ?_ ?_);(focus(unfold maxLen;omega));(focus omega);(focus omega);intro v5 w5 ho5 hg5 _;have hbB5:Below (w.heap.size+1) w3 w5:=(hbB4.grown hg5 oQ (fun j e=>((qdd (qf7 HO3.out) hb4).lt j e).1));have HO5:=hdQ ho5;have hz5:=hbB5.size;clear ho5));refine hK.out _ _ (by first|with_reducible exact qb1|with_reducible exact Below.drew qb1|exact bel) ?_;clear hK K)|(refine qab qaa rfl (fun K hK=> ?_);go_simp;((first|(go_at_call 253;(with_reducible refine(HC.out _).mono ?_);rintro e w4 ⟨s4,rfl,ho4,hb4⟩;obtain⟨g4,e4,rfl,hnw4,hl4,hg4⟩:=qlf ho4 oQ;have HN4:=hdQ hnw4;clear hnw4 ho4;obtain⟨hc4,hf4,hz4⟩:=bc3 hb4;(try simp at hz4);have hy4:=ol1 w w4;have hbB4:Below (w.heap.size+1) w3 w4:=((Below.refl _ _).drew.trans (hb4.mono (by(try simp);omega))))|(go_at_call 253;(with_reducible refine(HD.out _).mono ?_);rintro e w6 ⟨s6,rfl,ho6,hb6⟩;obtain⟨g6,e6,rfl,hnw6,hl6,hg6⟩:=qlf ho6 oQ;have HN6:=hdQ hnw6;clear hnw6 ho6;obtain⟨hc6,hf6,hz6⟩:=bc3 hb6;(try simp at hz6);have hy6:=ol1 w w6;have hbB6:Below (w.heap.size+1) w3 w6:=(hbB5.trans (hb6.mono oQ)))  | skip)<;>(refine hK.out _ _ (by first|with_reducible exact qb1|with_reducible exact Below.drew qb1|exact bel) ?_;clear hK K))))
 (all_goals try simp only [Act.put,lsi,lsz,lss]);all_goals(refine qae ?_)
 go_wp2;go_ret;refine⟨_,rfl,?_,bel⟩;have h:=qfd HO7.out (Nat.le_succ w.heap.size)
 rw [HK.out]
 simp only [zny,qu2]
 exact h
def rdS (l:List Nat) (k:Nat) (a b c d:Int) (r:List Nat):Prop:=
 match k with
 | 0=>r=l
 | 1=>dec l=some (a,r)
 | 2=>∃l1,dec l=some (a,l1)/\dec l1=some (b,r)
 | 3=>∃l1 l2,dec l=some (a,l1)/\dec l1=some (b,l2)/\dec l2=some (c,r)
 | _=>∃l1 l2 l3,dec l=some (a,l1)/\dec l1=some (b,l2)/\dec l2=some (c,l3)/\dec l3=some (d,r)
theorem qkg {l r:List Nat} {k:Nat} {a b c d:Int} (hk:k<4) (h:rdS l k a b c d r) (hd:dec r=none):qbt l=none:=by
 have:k=0\/k=1\/k=2\/k=3:=oQ
 rcases this with rfl|rfl|rfl|rfl
 · simp only [rdS] at h;subst h;unfold qbt;rw [hd]
 · simp only [rdS] at h;unfold qbt;rw [h];simp only;rw [hd]
 · obtain⟨l1,h1,h2⟩:=h;unfold qbt;rw [h1];simp only;rw [h2];simp only;rw [hd]
 · obtain⟨l1,l2,h1,h2,h3⟩:=h;unfold qbt;rw [h1];simp only;rw [h2];simp only;rw [h3];simp only;rw [hd]
theorem q4c {l r:List Nat} {a b c d:Int} (h:rdS l 4 a b c d r):qbt l=if r= []/\okBx ⟨⟨a,b⟩,⟨c,d⟩⟩=true then some ⟨⟨a,b⟩,⟨c,d⟩⟩ else none:=by
 obtain⟨l1,l2,l3,h1,h2,h3,h4⟩:=h;unfold qbt
 rw [h1];simp only;rw [h2];simp only;rw [h3];simp only;rw [h4]
theorem qkq {l r:List Nat} {x:Int} (hl:∀c∈l,c<256) (h:dec l=some (x,r)):(∀c∈r,c<256)/\r.length<l.length/\r=l.drop (l.length-r.length)/\in64 x:=by
 obtain⟨h1,h2⟩:=qgs hl h;have h3:=(qed h1).1;refine⟨fun c hc=>hl c (by rw [h2];simp [hc]),by rw [h2,zny];omega,?_,h1⟩
 rw [h2,zny,Nat.add_sub_cancel]
 simp
def qef (l:List Nat):Value:=match qbt l with
 | none=> .tuple #[bxV 0 0 0 0,.bool false]
 | some b=> .tuple #[bxV b.lo.x b.lo.y b.hi.x b.hi.y,.bool true]
theorem qd1 {W:World} {g:Nat} {t:TypeId} {x y z u a b c d:Value} (h:Blk W g t #[x,y,z,u]):
 Blk ((((W.setCell ⟨g,0,none⟩ a).setCell ⟨g,1,none⟩ b).setCell ⟨g,2,none⟩ c).setCell ⟨g,3,none⟩ d) g t #[a,b,c,d]:=
 ((((h.set_ 0 a).set_ 1 b).set_ 2 c).set_ 3 d).eq_ sI
theorem q7p {w:World} {g:Nat} {p:Pt} {t:TypeId} (h:Blk w g t #[.int .i64 p.x,.int .i64 p.y]):qan w w.heap.size (some ⟨g,0,none⟩) 1 [p]:=
 ⟨rfl,fun _=>⟨g,0,rfl,h.lt,fun k s hs=>by
  match k,hs with
  | 0,hs=>
    simp at hs
    subst hs
    exact⟨by rw [h.cell];rfl,by rw [h.cell];rfl⟩⟩⟩
def ErrD (w:World) (k:Nat):Nat->Value->Prop
 | 0,v=>v=.iface 105 (.int .i64 k)
 | d+1,v=>∃(g:Nat) (s:ByteArray) (id:Int) (inner:Value),v=qj8 g/\Blk w g 86 #[.string s,.int .i64 id,inner]/\ErrD w k d inner
def depF (w:World):Nat->Value->Nat
 | 0,_=>0
 | n+1,.iface _ (.pointer (some p))=>match w.cell? ⟨p.block,2,none⟩ with
   | some x=>depF w n x+1
   | none=>0
 | _+1,_=>0
theorem qzx {w:World} {k:Nat}:∀(d n:Nat) (v:Value),d<=n->ErrD w k d v->depF w n v=d:=by
 intro d
 induction d with
 | zero=>
   intro n v _ h;obtain rfl:v=_:=h
   cases n<;>rfl
 | succ d ih=>
   intro n v hn h;obtain⟨g,s,id,inner,rfl,hB,hi⟩:=h;obtain⟨m,rfl⟩:∃m,n=m+1:=⟨n-1,by omega⟩
   have c2:w.cell? ⟨g,2,none⟩=some inner:=by rw [hB.cell];rfl
   unfold qj8 depF
   simp only [c2]
   rw [ih m inner oQ hi]
theorem ErrD.keep {w w' :World} {k:Nat} (hk:∀{g:Nat} {cs:Array Value},Blk w g 86 cs->Blk w' g 86 cs):∀(d:Nat) (v:Value),ErrD w k d v->ErrD w' k d v:=by
 intro d
 induction d with
 | zero=>intro v h;exact h
 | succ d ih=>
   intro v h;obtain⟨g,s,id,inner,hv,hB,hi⟩:=h;exact⟨g,s,id,inner,hv,hk hB,ih inner hi⟩
def ErrX (w:World) (v:Value) (k:Nat) (s:ByteArray) (id:Int):Prop:=
 (k=0/\v=.nilIface)\/(k≠0/\∃(g d:Nat) (inner:Value),v=qj8 g/\Blk w g 86 #[.string s,.int .i64 id,inner]/\ErrD w k d inner)
def ErrY (w:World) (v:Value) (k:Nat):Prop:=(k=0/\v=.nilIface)\/(k≠0/\∃d,ErrD w k d v)
theorem ErrX.keep {w w' :World} {v:Value} {k:Nat} {s:ByteArray} {id:Int} (hk:∀{g:Nat} {cs:Array Value},Blk w g 86 cs->Blk w' g 86 cs) (h:ErrX w v k s id):ErrX w' v k s id:=by
 rcases h with h|⟨h0,g,d,inner,hv,hB,hi⟩
 · exact .inl h
 · exact .inr ⟨h0,g,d,inner,hv,hk hB,hi.keep hk d inner⟩
theorem ErrX.tr {w w' :World} {v:Value} {k:Nat} {s:ByteArray} {id:Int} (h:ErrX w v k s id) (hb:Below w.heap.size w w'):ErrX w' v k s id:=h.keep (fun hB=>hB.tr hb)
theorem ErrY.keep {w w' :World} {v:Value} {k:Nat} (hk:∀{g:Nat} {cs:Array Value},Blk w g 86 cs->Blk w' g 86 cs) (h:ErrY w v k):ErrY w' v k:=by
 rcases h with h|⟨h0,d,hi⟩
 · exact .inl h
 · exact .inr ⟨h0,d,hi.keep hk d v⟩
theorem ErrY.tr {w w' :World} {v:Value} {k:Nat} (h:ErrY w v k) (hb:Below w.heap.size w w'):ErrY w' v k:=h.keep (fun hB=>hB.tr hb)
theorem ErrX.y {w:World} {v:Value} {k:Nat} {s:ByteArray} {id:Int} (h:ErrX w v k s id):ErrY w v k:=by
 rcases h with h|⟨h0,g,d,inner,hv,hB,hi⟩
 · exact .inl h
 · exact .inr ⟨h0,d+1,g,s,id,inner,hv,hB,hi⟩
theorem ErrY.zero {w:World} {v:Value} (h:ErrY w v 0):v=.nilIface:=by
 rcases h with ⟨_,h⟩|⟨h,_⟩
 · exact h
 · exact absurd rfl h
theorem ErrX.zero {w:World} {v:Value} {s:ByteArray} {id:Int} (h:ErrX w v 0 s id):v=.nilIface:=h.y.zero
theorem ErrD.some {w:World} {k:Nat}:∀(d:Nat) (v:Value),ErrD w k d v->∃t u,v=.iface t u
 | 0,v,h=>⟨_,_,h⟩
 | d+1,v,⟨g,s,id,inner,hv,_,_⟩=>⟨_,_,hv⟩
theorem ErrY.succ {w:World} {v:Value} {k:Nat} (h:ErrY w v k) (hk:k≠0):∃t u,v=.iface t u:=by
 rcases h with ⟨h,_⟩|⟨_,d,h⟩
 · exact absurd h hk
 · exact h.some
theorem ErrX.succ {w:World} {v:Value} {k:Nat} {s:ByteArray} {id:Int} (h:ErrX w v k s id) (hk:k≠0):∃t u,v=.iface t u:=h.y.succ hk
theorem qqw {w:World} {v:Value} {k:Nat} (h0:k≠0) (h:v=errV k):ErrD w k 0 v:=by rw [h,q5b h0];rfl
theorem ErrC.y {w:World} {v:Value} {k:Nat} (h:ErrC w v k):ErrY w v k:=by
 by_cases h0:k=0
 · subst h0
   exact .inl ⟨rfl,h.zero⟩
 · rcases h with h|⟨h,_⟩|⟨_,g,s,id,hv,hB⟩
   · exact .inr ⟨h0,0,qqw h0 h⟩
   · exact absurd h h0
   · exact .inr ⟨h0,1,g,s,id,_,hv,hB,qqw h0 rfl⟩
theorem ErrC.d {w:World} {v:Value} {k:Nat} (h:ErrC w v k) (h0:k≠0):∃d,ErrD w k d v:=by
 rcases h.y with ⟨h,_⟩|⟨_,h⟩
 · exact absurd h h0
 · exact h
theorem ErrW.x {w:World} {v:Value} {k:Nat} {s:ByteArray} {id:Int} (h:ErrW w v k s id):ErrX w v k s id:=by
 rcases h with h|⟨h0,g,inner,hv,hB,hi⟩
 · exact .inl h
 · obtain⟨d,hd⟩:=hi.d h0
   exact .inr ⟨h0,g,d,inner,hv,hB,hd⟩
theorem qi5 (s:ByteArray) (id:Int) (v:Value) (k:Nat) (w:World) (hv:ErrY w v k):
 C9 23 #[.string s,.int .i64 id,v] w fun e w' =>∃v',e=.returned v' /\ErrX w' v' k s id/\Below w.heap.size w w' :=by
 by_cases hk:k=0
 · subst hk
   have:=hv.zero;subst this
   go_enter Tryz.func23,Tryz.ntmps23
   go_wp2;go_ret;exact⟨_,rfl,.inl ⟨rfl,rfl⟩,bel⟩
 · obtain⟨t,u,rfl⟩:=hv.succ hk
   have HV:=hdQ hv;clear hv
   go_enter Tryz.func23,Tryz.ntmps23
   go_wp2;go_ret;refine⟨_,rfl,?_,bel⟩
   rcases HV.out with ⟨h,_⟩|⟨_,d,hd⟩
   · exact absurd h hk
   · exact .inr ⟨hk,_,d,_,rfl,Blk.new rfl rfl,hd.keep (fun hB=>hB.alloc _) d _⟩
theorem q41 (a b d:Nat) (v:Value) (w:World) (h:ErrD w a d v):
 C9 97 #[v,.iface 105 (.int .i64 b),.bool true] w fun e w' =>e=.returned (.bool (decide (a=b)))/\w=w' :=by
 have nE:=q7r;have uE:=qy0;have vE:=qvz;have nF:=q7q;have uF:=qwm;have mU:=qqc;have heq:=fun w=>Lib.run_eql_iface_int (P:=Tryz.prog) w (k:=.i64) (a:Int) (b:Int) Tryz.underlying34 qzs Tryz.underlying105
 have htyg:=fun g w=>run_eql_iface_types (P:=Tryz.prog) 82 105 (.pointer (some ⟨g,0,none⟩)) (.int .i64 b) Tryz.underlying34 dE w
 have H:=hdQ h;clear h
 have hab:((a:Int)==(b:Int))=decide (a=b):=by
  by_cases e:a=b
  · subst e;simp
  · rw [decide_eq_false e,beq_eq_false_iff_ne];omega
 go_enter Tryz.func97,Tryz.ntmps97
 go_wp2_with fail
 go_loopw [0] (fun v' wr=>wr=w/\∃d',d' <=d/\ErrD w a d' v') (fun v' _=>depF w d v')
 case atStart=>exact ⟨rfl,d,zhy _,H.out⟩
 case round=>
  obtain⟨rfl,d',hd',hE⟩:=hrel
  cases d' with
  | zero=>
    obtain rfl:_=_:=hE
    cases hdec:decide (a=b)
    · rw [hdec] at hab
      have HD:=hdQ hdec;clear hdec;go_wp2;go_ret;exact⟨qad HD.out.symm,rfl⟩
    · rw [hdec] at hab
      have HD:=hdQ hdec;clear hdec;go_wp2;go_ret;exact⟨qad HD.out.symm,rfl⟩
  | succ d' =>
    have hdep:=qzx (d' +1) d _ hd' hE;obtain⟨g,s,id,inner,rfl,hB,hi⟩:=hE;have hdep2:=qzx d' d _ oQ hi
    have c2:wr.cell? ⟨g,2,none⟩=some inner:=by rw [hB.cell];rfl
    obtain⟨t,u,rfl⟩:=hi.some;have HI:=hdQ hi;have HDP:=hdQ (And.intro hdep hdep2);clear hB hi hdep hdep2 hab;unfold qj8 at*;have hg:=htyg g;go_wp2
    go_roundw
    case rel=>exact ⟨trivial,d',by omega,HI.out⟩
    case measure=>rw [HDP.out.1];exact(show depF wr d (.iface t u)<d' +1 by rw [HDP.out.2];omega)
theorem q42 (a b d:Nat) (v:Value) (w:World) (h:ErrD w a d v):
 C9 53 #[v,.iface 105 (.int .i64 b)] w fun e w' =>e=.returned (.bool (decide (a=b)))/\w=w' :=by
 have h8:= @run_callFunc_extern Tryz.prog 96 _ Extern.ReflectliteType.typeOf Tryz.func96 kr kr kr kr
 have h32:= @run_callFunc_extern Tryz.prog 270 _ q6z Tryz.func270 kr kr kr kr
 have tT:=q2m;have cT:=qqj;have mR:=qi3;have HL:=hdQ (q41 a b d v w h);obtain⟨t,u,rfl⟩:=h.some;clear h
 go_enter Tryz.func53,Tryz.ntmps53
 go_wp2_with (go_at_call 97;(with_reducible refine HL.out.mono ?_);rintro e w1 ⟨rfl,rfl⟩)
 go_ret;exact⟨rfl,rfl⟩
theorem ErrY.is {w:World} {v:Value} {k:Nat} (h:ErrY w v k) (hk:k<=15):q7i w v k:=by
 rcases h with h|⟨h0,d,hd⟩
 · exact .inl h
 · exact .inr ⟨h0,hk,hd.some,fun b _=>q42 k b d v w hd⟩
theorem qul (v:Value) (k:Nat) (s:ByteArray) (id:Int) (w:World) (hT:ErrT w) (hv:ErrX w v k s id) (hk:k<=15):
 C9 10 #[v,.int .i64 k,.string s,.int .i64 id] w (Ret w (.bool true)):=by
 have HC:=hdQ (fun w=>q21 v k w)
 have HI:=hdQ (hv.y.is hk)
 rcases hv with ⟨h0,rfl⟩|⟨h0,g,d,inner,rfl,hB,_⟩
 · subst h0
   go_enter Tryz.func10,Tryz.ntmps10
   go_wp2_with (go_at_call 26;refine(HC.out _ HI.out).mono ?_;rintro e w1 ⟨rfl,rfl⟩)
   go_ret;exact⟨rfl,bel⟩
 · have hk0:((k:Int)==0)=false:=by rw [beq_eq_false_iff_ne];omega
   have gl:=hB.lt;have c0:=hB.cell 0;have c1:=hB.cell 1
   simp at c0 c1
   have HB:=hdQ hB;have HT:=hdQ hT;clear hB hT h0;unfold qj8 at*
   go_enter Tryz.func10,Tryz.ntmps10
   go_wp2_with (first|(go_at_call 26;refine(HC.out _ HI.out).mono ?_;rintro e w1 ⟨rfl,rfl⟩)|(go_at_call 27;refine(q5l _ _ (.pointer none) _ (HT.out.tr bel) sI sI).mono ?_;rintro e w1 ⟨rfl,hcp,hco,hb1⟩;have d0:=(hco g 0 (by simp;omega) oQ).trans (World.cell?_alloc_lt _ _ _ gl);rw [c0] at d0;have d1:=(hco g 1 (by simp;omega) oQ).trans (World.cell?_alloc_lt _ _ _ gl);rw [c1] at d1;clear hco))
   go_ret;exact⟨rfl,Below.trans bel hb1⟩
end Go.Proofs.YteodamnfgcnmmaaGreatDoor
namespace Pg
open Go Go.RowKit
theorem qm3 {w w' :World} {base:Nat} {e:TypeId} {size:Nat} {v:Value} {n:Nat} {xs:List Value} (h:w.ownsRow base e size v n xs) (hb:Below w.heap.size w w'):w'.ownsRow base e size v n xs:=by
 obtain⟨h1,h2|⟨g,cap,cur,hv,hg,hh,r⟩⟩:=h
 · exact⟨h1,.inl h2⟩
 · refine⟨h1,.inr ⟨g,cap,cur,hv,hg,(hb.block g ?_).trans hh,r⟩⟩
   rcases zry g w.heap.size with h|h
   · exact h
   · rw [zxy h] at hh;cases hh
theorem qp4 {w w' :World} {base base' :Nat} {e e' :TypeId} {size size' :Nat} {v v' :Value} {n n' :Nat} {xs xs' :List Value} (h:w.ownsRow base e size v n xs) (h' :w.ownsRow base' e' size' v' n' xs') (he:e≠e') (hg:w.grownBy w' v'.ownBlock):w'.ownsRow base e size v n xs:=by
 obtain⟨h1,h2|⟨g,cap,cur,hv,hgb,hh,r⟩⟩:=h
 · exact⟨h1,.inl h2⟩
 · refine⟨h1,.inr ⟨g,cap,cur,hv,hgb,(hg.block g ?_ ?_).trans hh,r⟩⟩
   · rcases zry g w.heap.size with h|h
     · exact h
     · rw [zxy h] at hh;cases hh
   · intro hne
     obtain⟨_,⟨rfl,_⟩|⟨g',_,cur',rfl,_,hh',_⟩⟩:=h'
     · cases hne
     · unfold Value.ownBlock at hne
       injection hne with hne
       subst hne
       rw [hh] at hh'
       injection hh' with hh'
       injection hh' with _ h2 _
       exact he h2
end Pg
namespace Go.Proofs.YteodamnfgcnmmaaGreatDoor
open Go.RowKit Pg
def qh3 (w:World) (base:Nat) (v:Value) (L:List (List Nat)):Prop:=
 ∃cs:List Value,w.ownsRow base 120 1 v L.length cs/\∀(j:Nat) (u:Value),cs[j]? =some u->∃l,L[j]? =some l/\w.ownsRow base 5 1 u l.length (qaw l)
theorem qh3.nil (w:World) (base:Nat):qh3 w base (.slice none 0 0) []:=⟨[],World.ownsRow_nil _ _ _ _,fun j u h=>by simp at h⟩
theorem qh3.below {w w' :World} {base:Nat} {v:Value} {L:List (List Nat)} (h:qh3 w base v L) (hb:Below w.heap.size w w'):qh3 w' base v L:=by
 obtain⟨cs,h1,h2⟩:=h;refine⟨cs,qm3 h1 hb,fun j u hu=> ?_⟩
 obtain⟨l,hl,ho⟩:=h2 j u hu;exact⟨l,hl,qm3 ho hb⟩
theorem qsi {w w' :World} {base:Nat} {v v' s:Value} {L:List (List Nat)} {l:List Nat} {cs:List Value} (h1:w.ownsRow base 120 1 v L.length cs) (h2:∀(j:Nat) (u:Value),cs[j]? =some u->∃l,L[j]? =some l/\w.ownsRow base 5 1 u l.length (qaw l))
 (hs:w.ownsRow base 5 1 s l.length (qaw l)) (h3:w'.ownsRow base 120 1 v' (L.length+1) (cs++ [s])) (hg:w.grownBy w' v.ownBlock):qh3 w' base v' (L++ [l]):=by
 have hcl:cs.length=L.length:=by rw [h1.1];omega
 refine⟨cs++ [s],by rw [zny,List.length_singleton];exact h3,fun j u hu=> ?_⟩
 rcases zry j cs.length with hj|hj
 · rw [zex hj] at hu
   obtain⟨l',hl',ho⟩:=h2 j u hu;exact⟨l',by rw [zex oQ];exact hl',qp4 ho h1 dE hg⟩
 · rw [zdx hj] at hu
   have hj0:j=cs.length:=by
    rcases Nat.eq_or_lt_of_le hj with h|h
    · exact h.symm
    · rw [zoy (by simp;omega)] at hu;cases hu
   subst hj0
   simp at hu
   subst hu;exact⟨l,by rw [hcl,zdx (zhy _)];simp,qp4 hs h1 dE hg⟩
theorem qk9 {w:World} {base:Nat} {v:Value} {L:List (List Nat)} (h:qh3 w base v L):∃A c,v=.slice A L.length c/\qgf w w.heap.size A L.length L:=by
 obtain⟨cs,h1,h2⟩:=h;have h1' :=h1;obtain⟨hlen,⟨rfl,h0⟩|⟨g,cap,cur,rfl,hg,hh,r⟩⟩:=h1
 · rw [h0]
   exact⟨none,0,rfl,h0,fun h=>absurd h oQ⟩
 · refine⟨_,cap,rfl,rfl,fun hn=>⟨g,0,rfl,?_,fun k l hl=> ?_⟩⟩
   · rcases zry g w.heap.size with h|h
     · exact h
     · rw [zxy h] at hh;cases hh
   have hk:k<L.length:=by
    rcases zry k L.length with h|h
    · exact h
    · rw [zoy h] at hl;cases hl
   have hk2:k<cs.length:=oQ
   obtain⟨u,hu⟩:∃u,cs[k]? =some u:=⟨_,zby hk2⟩;obtain⟨l',hl',ho⟩:=h2 k u hu
   rw [hl] at hl'
   injection hl' with hl'
   subst hl';obtain⟨A',c',rfl,hB,hln,hz,hm⟩:=qb2 ho;refine⟨A',l.length,c',?_,hB,hz,hm⟩
   rw [Nat.zero_add,h1'.cellAt k oQ]
   exact hu
end Go.Proofs.YteodamnfgcnmmaaGreatDoor
