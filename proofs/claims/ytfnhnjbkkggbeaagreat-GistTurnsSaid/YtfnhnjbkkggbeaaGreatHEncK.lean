/-Contracts of slices.Grow and slices.Concat at bytes;rows of rows of by-/
import Derived.Test.YtfnhnjbkkggbeaaGreatHEncA
import Derived.Test.YtfnhnjbkkggbeaaGreatHRel8
import Derived.Lib.AppendZeros
import Derived.Laws.AppendOwnNone
set_option linter.unusedVariables false
set_option linter.unusedSimpArgs false
set_option maxHeartbeats 4000000
set_option maxRecDepth 20000
namespace Go.Proofs.YtfnhnjbkkggbeaaGreat
open Go.RowKit Pg
theorem qdh {w w' :World} {base:Nat} {e:TypeId} {size:Nat} {v:Value} {n:Nat} {xs:List Value} (h:w.ownsRow base e size v n xs) (hb:Below w.heap.size w w'):w'.ownsRow base e size v n xs:=by
 obtain⟨h1,h2|⟨g,cap,cur,hv,hg,hh,r⟩⟩:=h
 · exact⟨h1,.inl h2⟩
 · exact⟨h1,.inr ⟨g,cap,cur,hv,hg,(hb.block g (lt_of_block hh)).trans hh,r⟩⟩
theorem qdo {w:World} {base base' :Nat} {e:TypeId} {size:Nat} {v:Value} {n:Nat} {xs:List Value} (h:w.ownsRow base e size v n xs) (hb:base' <=base):w.ownsRow base' e size v n xs:=by
 obtain⟨h1,h2|⟨g,cap,cur,hv,hg,hh,r⟩⟩:=h
 · exact⟨h1,.inl h2⟩
 · exact⟨h1,.inr ⟨g,cap,cur,hv,zcy hb hg,hh,r⟩⟩
def qfd (w:World) (B:Nat) (A:Option Addr) (m:Nat) (L:List (List Nat)):Prop:=
 L.length=m/\(0<m->∃b off,A=some ⟨b,off,none⟩/\b<B/\∀k l,L[k]? =some l->∃A' n c,w.cell? ⟨b,off+k,none⟩=some (.slice A' n c)/\qbs w B A' n l/\(A' =none->c=0)/\n<=c)
theorem qfd.keep {w w' :World} {B m:Nat} {A:Option Addr} {L:List (List Nat)} (h:qfd w B A m L) (hk:∀p:Addr,p.block<B->w'.cell? p=w.cell? p):qfd w' B A m L:=
 ⟨h.1,fun hn=>by
  obtain⟨b,off,e,hb,hc⟩:=h.2 hn;refine⟨b,off,e,hb,fun k l hl=> ?_⟩
  obtain⟨A',n,c,h1,h2,h3⟩:=hc k l hl
  exact⟨A',n,c,(hk _ hb).trans h1,h2.keep hk,h3⟩⟩
theorem qfd.below {w w' :World} {B m:Nat} {A:Option Addr} {L:List (List Nat)} (h:qfd w B A m L) (hb:Below B w w'):qfd w' B A m L:=h.keep fun _ hp=>hb.cell hp
theorem qfd.tr {W w1:World} {B m:Nat} {A:Option Addr} {L:List (List Nat)} (h:qfd W B A m L) (hb:Below W.heap.size W w1) (hB:B<=W.heap.size):qfd w1 B A m L:=h.below (hb.mono hB)
theorem qfd.at_ {w:World} {B m:Nat} {A:Option Addr} {L:List (List Nat)} (h:qfd w B A m L) {k:Nat} (hk:k<m):
 ∃b off A' n c,A=some ⟨b,off,none⟩/\b<B/\w.cell? ⟨b,off+k,none⟩=some (.slice A' n c)/\qbs w B A' n (L.getD k [])/\L[k]? =some (L.getD k [])/\(A' =none->c=0)/\n<=c:=by
 obtain⟨b,off,e,hb,hc⟩:=h.2 oQ
 have hl:k<L.length:=by rw [h.1];exact hk
 have he:L[k]? =some (L.getD k []):=by rw [zpy,zby hl];rfl
 obtain⟨A',n,c,h1,h2,h3⟩:=hc k _ he;exact⟨b,off,A',n,c,e,hb,h1,h2,he,h3⟩
theorem qg5 {α:Type} {L:List (List α)} {k:Nat} {l:List α} (h:L[k]? =some l):(L.take (k+1)).flatten=(L.take k).flatten++l:=by
 rw [zwy,h,List.flatten_append]
 simp
theorem qz6 {α:Type} (L:List (List α)) (k:Nat):(L.take k).flatten.length<=L.flatten.length:=by
 conv=>rhs;rw [<-List.take_append_drop k L,List.flatten_append,zny]
 omega
theorem qbs.news {w:World} {B n:Nat} {ad:Addr} {l:List Nat} (h:qbs w B (some ad) n l) (hn:0<n):∀(j:Nat) (u:Value),(qao l)[j]? =some u->w.cell? (ad.add j)=some u:=by
 obtain⟨b,off,e,hb,hc⟩:=h.2 hn;injection e with e
 subst e;intro j u hu;have hp:(⟨b,off,none⟩:Addr).add j=⟨b,off+j,none⟩:=by unfold Addr.add;split<;>simp_all
 unfold qao at hu;rw [zpx] at hu
 cases hl:l[j]? with
 | none=>rw [hl] at hu;cases hu
 | some c=>
   rw [hl] at hu;simp only [Option.map_some,Option.some.injEq] at hu;subst hu
   rw [hp]
   exact hc j c hl
theorem qd5 (l:List Nat):∀u∈qao l,u.oneCell' =true:=by
 intro u hu;unfold qao at hu;rw [zty] at hu;obtain⟨c,_,rfl⟩:=hu
 rfl
theorem qzy (n:Nat) (hn:n<=1000000) (w:World):C9 250 #[.slice none 0 0,.int .i64 n] w (fun e w' =>∃s,e=.returned s/\w'.ownsRow w.heap.size 5 1 s 0 []/\Below w.heap.size w w'):=by
 obtain⟨i0,hi,hz0,hz1,hz2⟩:=info_parts Tryz.infoByte
 by_cases h0:n=0
 · subst h0
   go_enter Tryz.func250,Tryz.ntmps250
   go_wp2;go_ret;exact⟨_,rfl,World.ownsRow_nil _ _ _ _,bel⟩
 · have hG1:n<=grownCap w n 0 5:=grownCap_ge w _ _ _
   have hG2:grownCap w n 0 5<=maxLen:=grownCap_le_maxLen w _ _ _ (by unfold maxLen;omega)
   have hrz:∀ty,(Builtin.append_ #[94,3] ty #[.slice none 0 0,.int .i64 n]).run Tryz.prog w=.ok (.slice (some ⟨w.heap.size,0,none⟩) n (grownCap w n 0 5)) (w.drew.alloc (.cells (Builtin.zeroCells (Value.int .u8 0).cells n++Builtin.zeroCells (Value.int .u8 0).cells (grownCap w n 0 5-n)) 5)):=fun ty=>
    Lib.run_append_nil_zeros w _ _ ty _ i0 _ .i64 .i64 Tryz.underlying94 Tryz.underlying3 hi hz0 n oQ (by rw [hz1];decide) oQ (by rw [hz2];omega)
   have hsz:(Builtin.zeroCells (Value.int .u8 0).cells n++Builtin.zeroCells (Value.int .u8 0).cells (grownCap w n 0 5-n)).size=grownCap w n 0 5*1:=by
    rw [Array.size_append,size_zeroCells,size_zeroCells]
    have:(Value.int .u8 0).cells.size=1:=rfl
    rw [this]
    omega
   generalize grownCap w n 0 5=G at*;generalize Builtin.zeroCells (Value.int .u8 0).cells n++Builtin.zeroCells (Value.int .u8 0).cells (G-n)=cs at*;have hG3:(G:Int)<=9223372036854775807:=by unfold maxLen at hG2;omega
   have hG4:(n:Int)<=G:=oQ
   have hn0:(0:Int)<(n:Int):=oQ
   go_enter Tryz.func250,Tryz.ntmps250
   go_wp2_with (at_builtin;refine Lib.wpList_append_run _ rfl _ _ _ _ rfl _ _ rfl rfl _ _ (hrz _) ?_)
   all_goals
    go_wp2;go_ret;exact⟨_,rfl,World.ownsRow_made (base:=w.heap.size) (e:=5) (size:=1) w.drew cs G (zhy _) hG2 hsz,bel⟩
theorem qs7 (B m c:Nat) (A:Option Addr) (L:List (List Nat)) (w:World) (hl:qfd w B A m L) (hB:B<=w.heap.size) (hm:m<=1000000) (hL:L.flatten.length<=1000000):
 C9 244 #[.slice A m c] w (RetB w L.flatten):=by
 obtain⟨i0,hi,hz0,hz1,hz2⟩:=info_parts Tryz.infoByte
 go_enter Tryz.func244,Tryz.ntmps244
 go_wp2
 go_loopw [3,11] (fun vs vi wr=>∃k:Nat,k<=m/\vi=.int .i64 k/\vs=.int .i64 ((L.take k).flatten.length:Nat)/\Below w.heap.size w wr) (fun _ vi _=>m-(intOf vi).toNat)
 case atStart=>exact ⟨0,zly _,rfl,rfl,Below.refl _ _⟩
 case round=>
  obtain⟨k,hk,rfl,rfl,hb⟩:=hrel
  by_cases hlt:k<m
  · obtain⟨b,off,A',n,cc,rfl,hab,hcell,hby,he,hz,hnc⟩:=(hl.below (hb.mono hB)).at_ hlt
    have hf:=qg5 he;have h1:=qz6 L (k+1);rw [hf,zny,hby.1] at h1;have HF:=hdQ hf;have hlen:=hby.1;have HB:=hdQ hby;clear hf hby;generalize hq:(L.take k).flatten.length=q at*;go_wp2
    go_roundw
    case rel=>exact ⟨k+1,by omega,by go_num,by rw [HF.out,zny,hq,hlen];go_num,bel⟩
    case measure=>simp [intOf];omega
  · obtain rfl:k=m:=oQ
    have e:L.take k=L:=zmy (by rw [hl.1];exact zhy _)
    rw [e]
    clear e hlt;obtain⟨T,hT⟩:∃T,L.flatten.length=T:=⟨_,rfl⟩;have hT1:T<=1000000:=oQ
    have HT:=hdQ hT
    rw [hT]
    clear hT hL
    go_wp2_with (go_at_call 250;refine(qzy _ hT1 _).mono ?_;rintro e w1 ⟨s,rfl,hown,hb1⟩)
    have hown0:w1.ownsRow w.heap.size 5 1 s ([]:List Nat).length (qao []):=qdo hown hb.size;have hbb:Below w.heap.size w w1:=bel;clear hown hb hb1
    go_loopw [6,27] (fun vs vi wr=>∃j:Nat,j<=k/\vi=.int .i64 j/\wr.ownsRow w.heap.size 5 1 vs (L.take j).flatten.length (qao (L.take j).flatten)/\Below w.heap.size w wr) (fun _ vi _=>k-(intOf vi).toNat)
    case atStart=>exact ⟨0,zly _,rfl,hown0,hbb⟩
    case round=>
     clear hown0 hbb;obtain⟨j,hj,rfl,hown,hb⟩:=hrel
     by_cases hlt:j<k
     · obtain⟨b,off,A',n,cc,rfl,hab,hcell,hby,he,hz,hnc⟩:=(hl.below (hb.mono hB)).at_ hlt
       have hf:=qg5 he;have h1:=qz6 L (j+1);rw [hf,zny,hby.1,HT.out] at h1;have HF:=hdQ hf;have hlen:=hby.1;have hbs:=hb.size;clear he
       by_cases hn:n=0
       · subst hn
         have hnil:L.getD j []= []:=List.length_eq_zero_iff.1 hlen;rw [hnil,List.append_nil] at hf;have HF2:=hdQ hf;clear hf HF hby
         cases A' with
         | none=>
           have hcc:=hz rfl;subst hcc;clear hz hlen hnil
           go_wp2_with (at_builtin;refine wpList_append_own_none rfl _ _ 94 rfl w.heap.size 5 i0 1 Tryz.underlying94 hi _ _ _ rfl hown rfl ?_)
           have HO:=hdQ hown;clear hown;go_wp2
           go_roundw
           case rel=>exact ⟨j+1,by omega,by go_num,by rw [HF2.out];exact HO.out,bel⟩
           case measure=>simp [intOf];omega
         | some ad=>
           clear hz;generalize (L.take j).flatten=pre at*
           go_wp2_with (at_builtin;refine wpList_append_own _ rfl _ _ 94 rfl w.heap.size 5 i0 (.int .u8 0) 1 1 Tryz.underlying94 hi hz0 hz1 hz2 rfl dE _ _ _ rfl hown ad 0 cc [] rfl rfl (fun j u hu=>by cases hu) (fun u hu=>by cases hu) ?c3 ?c4 ?c5 ?_)
           case c3=>unfold maxLen;omega
           case c4=>omega
           case c5=>omega
           intro v' w1 hown' hgrow _;have hnx1:Below w.heap.size w w1:=hb.grown hgrow hbs (fun k hk=>(hown.lt k hk).1)
           have HO:=hdQ hown';have HL:=hdQ hlen;clear hown' hgrow hown hlen hnil;go_wp2
           go_roundw
           case rel=>exact ⟨j+1,by omega,by go_num,by rw [HF2.out];have:=HO.out;simpa using this,bel⟩
           case measure=>simp [intOf];omega
       · obtain⟨b',off',rfl,hb',hc'⟩:=hby.2 oQ
         have hnews:=hby.news oQ
         generalize (L.take j).flatten=pre at*;have HNW:=hdQ hnews;clear hf hby hc' hz hnews
         go_wp2_with (at_builtin;refine wpList_append_own _ rfl _ _ 94 rfl w.heap.size 5 i0 (.int .u8 0) 1 1 Tryz.underlying94 hi hz0 hz1 hz2 rfl dE _ _ _ rfl hown ⟨b',off',none⟩ n cc (qao (L.getD j [])) rfl (by rw [qg8,hlen];omega) HNW.out (qd5 _) ?c3 ?c4 ?c5 ?_)
         case c3=>unfold maxLen;omega
         case c4=>omega
         case c5=>omega
         intro v' w1 hown' hgrow _;have hnx1:Below w.heap.size w w1:=hb.grown hgrow hbs (fun k hk=>(hown.lt k hk).1)
         have HO:=hdQ hown';have HL:=hdQ hlen;clear hown' hgrow hown hlen;go_wp2
         go_roundw
         case rel=>exact ⟨j+1,by omega,by go_num,by rw [HF.out,zny,qm0,HL.out];exact HO.out,bel⟩
         case measure=>simp [intOf];omega
     · obtain rfl:j=k:=oQ
       have e:L.take j=L:=zmy (by rw [hl.1];exact zhy _)
       rw [e] at hown;clear e hlt;go_wp2;go_ret;exact⟨_,rfl,hown,hb⟩
theorem qa7 {w:World} {base:Nat} {e:TypeId} {v:Value} {n:Nat} {l:List Nat} (h:w.ownsRow base e 1 v n (qao l)):
 ∃A c,v=.slice A n c/\qbs w w.heap.size A n l/\l.length=n/\(A=none->c=0)/\n<=c:=by
 obtain⟨A,c,rfl,h1,h2⟩:=qjz h;obtain⟨_,⟨h3,_⟩|⟨g,cap,cur,h3,_,_,h4,_⟩⟩:=h
 · injection h3 with h5 h6 h7
   subst h5 h6 h7;exact⟨none,_,rfl,h1,h2,fun _=>rfl,zhy _⟩
 · injection h3 with h5 h6 h7
   subst h5 h7;exact⟨_,_,rfl,h1,h2,(fun e=>by cases e),h4⟩
theorem q24 (a b c d:Int): [sint a,sint b,sint c,sint d].flatten=keyL ⟨⟨a,b⟩,⟨c,d⟩⟩:=by simp [keyL]
theorem rbs4 {w:World} {g n1 n2 n3 n4 c1 c2 c3 c4:Nat} {t:TypeId} {A1 A2 A3 A4:Option Addr} {l1 l2 l3 l4:List Nat} (h:Blk w g t #[.slice A1 n1 c1,.slice A2 n2 c2,.slice A3 n3 c3,.slice A4 n4 c4])
 (h1:qbs w w.heap.size A1 n1 l1) (h2:qbs w w.heap.size A2 n2 l2) (h3:qbs w w.heap.size A3 n3 l3) (h4:qbs w w.heap.size A4 n4 l4) (z1:A1=none->c1=0) (z2:A2=none->c2=0) (z3:A3=none->c3=0) (z4:A4=none->c4=0) (m1:n1<=c1) (m2:n2<=c2) (m3:n3<=c3) (m4:n4<=c4):
 qfd w w.heap.size (some ⟨g,0,none⟩) 4 [l1,l2,l3,l4]:=by
 refine⟨rfl,fun _=>⟨g,0,rfl,h.lt,fun k l hl=> ?_⟩⟩
 match k,hl with
 | 0,hl=>simp at hl;subst hl;exact⟨A1,n1,c1,by rw [h.cell];rfl,h1,z1,m1⟩
 | 1,hl=>simp at hl;subst hl;exact⟨A2,n2,c2,by rw [h.cell];rfl,h2,z2,m2⟩
 | 2,hl=>simp at hl;subst hl;exact⟨A3,n3,c3,by rw [h.cell];rfl,h3,z3,m3⟩
 | 3,hl=>simp at hl;subst hl;exact⟨A4,n4,c4,by rw [h.cell];rfl,h4,z4,m4⟩
theorem q5k (a b c d:Int) (h:inBx ⟨⟨a,b⟩,⟨c,d⟩⟩) (w:World):C9 239 #[bxV a b c d] w (RetB w (keyL ⟨⟨a,b⟩,⟨c,d⟩⟩)):=by
 have hlen:=(qi4 h).2;obtain⟨ha,hb,hc,hd⟩:=h
 simp only at ha hb hc hd
 rw [<-q24] at hlen ⊢
 have HL:=hdQ hlen;obtain⟨K,hK⟩:∃K,[sint a,sint b,sint c,sint d].flatten=K:=⟨_,rfl⟩
 rw [hK]
 have HK:=hdQ hK;clear hK;have HA:=hdQ ha;have HB:=hdQ hb;have HC:=hdQ hc;have HD:=hdQ hd;clear hlen ha hb hc hd
 go_enter Tryz.func239,Tryz.ntmps239
 go_wp2_with fail;refine qah [0,1,2,4,5,6,8,9,10,12,13,14,3,7,11,15,16,17,18] kr kr pq ?_
 simp only [zdy,zey,ldz,lds,bare,qaj,lcz,lcs,zay]
 repeat' ((try simp only [Act.put,lsi,lsz,lss]);first|(refine lqx ?_)|(refine qab qaa rfl (fun K hK=> ?_);go_simp;((first|(go_at_call 245;(with_reducible refine(qhc a HA.out _).mono ?_);rintro e w1 ⟨s1,rfl,ho1,hb1⟩;obtain⟨A1,c1,rfl,hB1,hl1,hn1,hm1⟩:=qa7 ho1;obtain⟨hc1,hf1,hz1⟩:=bc3 hb1;(try simp at hz1);have hy1:=ol1 w w1;clear ho1)|(go_at_call 245;(with_reducible refine(qhc b HB.out _).mono ?_);rintro e w2 ⟨s2,rfl,ho2,hb2⟩;obtain⟨A2,c2,rfl,hB2,hl2,hn2,hm2⟩:=qa7 ho2;obtain⟨hc2,hf2,hz2⟩:=bc3 hb2;(try simp at hz2);have hy2:=ol1 w w2;clear ho2)|(go_at_call 245;(with_reducible refine(qhc c HC.out _).mono ?_);rintro e w3 ⟨s3,rfl,ho3,hb3⟩;obtain⟨A3,c3,rfl,hB3,hl3,hn3,hm3⟩:=qa7 ho3;obtain⟨hc3,hf3,hz3⟩:=bc3 hb3;(try simp at hz3);have hy3:=ol1 w w3;clear ho3)|(go_at_call 245;(with_reducible refine(qhc d HD.out _).mono ?_);rintro e w4 ⟨s4,rfl,ho4,hb4⟩;obtain⟨A4,c4,rfl,hB4,hl4,hn4,hm4⟩:=qa7 ho4;obtain⟨hc4,hf4,hz4⟩:=bc3 hb4;(try simp at hz4);have hy4:=ol1 w w4;clear ho4)|(go_at_call 244;refine(qs7 _ 4 4 _ [sint a,sint b,sint c,sint d] _ (rbs4 (g:=w4.heap.size) blkA ((hB1.tr bel (zhy _)).more (by simp;omega)) ((hB2.tr bel (zhy _)).more (by simp;omega)) ((hB3.tr bel (zhy _)).more (by simp;omega)) ((hB4.tr bel (zhy _)).more sI) hn1 hn2 hn3 hn4 hm1 hm2 hm3 hm4) (zhy _) dE (zcy HL.out dE)).mono ?_;rintro e w5 ⟨s5,rfl,ho5,hb5⟩;have hz5:=hb5.size;(try simp at hz5);rw [HK.out] at ho5;have HO:=hdQ ho5;clear ho5)|skip)<;>(refine hK.out _ _ bel ?_;clear hK K))))
 (all_goals try simp only [Act.put,lsi,lsz,lss]);all_goals(refine qad ?_)
 go_wp2;go_ret;exact⟨_,rfl,qdo HO.out (by(try simp);omega),bel⟩
theorem qll {w:World} {base n:Nat} {e:TypeId} {v:Value} {l:List Nat} (h:w.ownsRow base e 1 v n (qao l)) (hn:0<n):
 ∃g c,v=.slice (some ⟨g,0,none⟩) n c/\(∀(j:Nat) (u:Value),(qao l)[j]? =some u->w.cell? ((⟨g,0,none⟩:Addr).add j)=some u)/\l.length=n/\g<w.heap.size:=by
 obtain⟨A,c,rfl,hB,hl⟩:=qjz h;obtain⟨b,off,e1,hb,hc⟩:=hB.2 hn;subst e1;obtain⟨_,⟨h3,_⟩|⟨g,cap,cur,h3,_⟩⟩:=h
 · cases h3
 · injection h3 with h4 h5 h6
   injection h4 with h4
   injection h4 with h4 h7
   subst h4 h7;exact⟨b,c,rfl,hB.news hn,hl,hb⟩
theorem qoa (a b c d:Int) (h:inBx ⟨⟨a,b⟩,⟨c,d⟩⟩) (w:World):C9 186 #[bxV a b c d] w (RetB w (keyL ⟨⟨a,b⟩,⟨c,d⟩⟩)):=by
 obtain⟨ha,hb,hc,hd⟩:=h
 simp only at ha hb hc hd
 obtain⟨i0,hi,hz0,hz1,hz2⟩:=info_parts Tryz.infoByte;have hK:keyL ⟨⟨a,b⟩,⟨c,d⟩⟩=sint a++sint b++sint c++sint d:=by simp [keyL]
 obtain⟨K,eK⟩:∃K,keyL ⟨⟨a,b⟩,⟨c,d⟩⟩=K:=⟨_,rfl⟩
 rw [eK] at hK ⊢
 clear eK;obtain⟨a1,a2⟩:=qee ha;obtain⟨b1,b2⟩:=qee hb;obtain⟨c1,c2⟩:=qee hc;obtain⟨d1,d2⟩:=qee hd;have HA:=hdQ (qga a ha);have HB:=hdQ (qga b hb);have HC:=hdQ (qga c hc);have HD:=hdQ (qga d hd);clear ha hb hc hd;generalize sint a=la at*;generalize sint b=lb at*;generalize sint c=lc at*;generalize sint d=ld at*;have HK:=hdQ hK;clear hK
 go_enter Tryz.func186,Tryz.ntmps186
 go_wp2_with fail;refine qkw (fun W0=>Below w.heap.size w W0/\Blk W0 w.heap.size 48 #[.int .i64 a,.int .i64 b,.int .i64 c,.int .i64 d]/\W0.heap.size=w.heap.size+1) ⟨bel,blkA,by simp⟩ ?_
 rintro W0 ⟨hbW,hX,hs0⟩;have cX:=hX.cell;refine qah [0,1,2,4,5,6,3,7,8,9] kr kr pq ?_
 simp only [zdy,zey,ldz,lds,bare,qaj,lcz,lcs,zay]
 repeat' ((try simp only [Act.put,lsi,lsz,lss]);first|(refine lqx ?_)|(refine qab qaa rfl (fun K hK=> ?_);(refine wp_append_own _ _ _ 94 rfl (w.heap.size+1) 5 i0 (.int .u8 0) 1 1 Tryz.underlying94 hi hz0 (by assumption) (by assumption) rfl dE _ _ _ rfl (qdo (qdh HO1.out hb2) (by(try simp);omega)) ⟨g2,0,none⟩ _ _ (qao lb) rfl (by rw [qg8];omega) HN2.out (qd5 _) ?_ ?_ ?_ ?_);(focus(unfold maxLen;omega));(focus omega);(focus omega);intro v3 w3 ho3 hg3 _;have hb3:Below W0.heap.size W0 w3:=(Below.grown (w:=w2) bel hg3 oQ (fun j e=>by have:=((qdo (qdh HO1.out hb2) (base' :=w.heap.size+1) (by(try simp);omega)).lt j e).1;omega));have HO3:=hdQ ho3;refine hK.out _ _ bel ?_;clear hK K)|(refine qab qaa rfl (fun K hK=> ?_);go_simp;((first|(go_at_call 198;(with_reducible refine(HA.out _).mono ?_);rintro e w1 ⟨s1,rfl,ho1,hb1⟩;have HO1:=hdQ ho1;clear ho1;obtain⟨hc1,hf1,hz1⟩:=bc3 hb1;(try simp at hz1);have hy1:=ol1 w w1)|(go_at_call 198;(with_reducible refine(HB.out _).mono ?_);rintro e w2 ⟨s2,rfl,ho2,hb2⟩;obtain⟨g2,e2,rfl,hnw2,hl2,hg2⟩:=qll ho2 oQ;have HN2:=hdQ hnw2;clear hnw2 ho2;obtain⟨hc2,hf2,hz2⟩:=bc3 hb2;(try simp at hz2);have hy2:=ol1 w w2)  | skip)<;>(refine hK.out _ _ bel ?_;clear hK K))))
 (all_goals try simp only [Act.put,lsi,lsz,lss]);all_goals(refine qad ?_)
 have hX3:=hX.tr hb3;have hbw3:Below w.heap.size w w3:=bel;have hz3:=hb3.size;have hlt3:=HO3.out.lt;clear ho3 hg3 hb3 hb2 hb1 HO1 HN2 hc1 hf1 hc2 hf2 hz2 hy1 hy2 hg2 cX hX hbW;have cX:=hX3.cell;go_wp2_with fail;refine qbt (w.heap.size+1) [0,1,2,3,6,7,8,4,5,9,10,11] kr kr pq ?_
 simp only [zdy,zey,ldz,lds,bare,qaj,lcz,lcs,zay]
 repeat' ((try simp only [Act.put,lsi,lsz,lss]);first|(refine lqy ?_)|(refine qab qaa rfl (fun K hK=> ?_);(first|((refine wp_append_own _ _ _ 94 rfl (w.heap.size+1) 5 i0 (.int .u8 0) 1 1 Tryz.underlying94 hi hz0 (by assumption) (by assumption) rfl dE _ _ _ rfl (qdh HO5.out hb6) ⟨g6,0,none⟩ _ _ (qao ld) rfl (by rw [qg8];omega) HN6.out (qd5 _) ?_ ?_ ?_ ?_);(focus(unfold maxLen;omega));(focus omega);(focus omega);intro v7 w7 ho7 hg7 _;have hbB7:Below (w.heap.size+1) w3 w7:=(hbB6.grown hg7 oQ (fun j e=>((qdh HO5.out hb6).lt j e).1));have hbw7:Below w.heap.size w w7:=(hbw3.trans (hbB7.mono oQ));have HO7:=hdQ ho7)|((refine wp_append_own _ _ _ 94 rfl (w.heap.size+1) 5 i0 (.int .u8 0) 1 1 Tryz.underlying94 hi hz0 (by assumption) (by assumption) rfl dE _ _ _ rfl (qdh (qgv HO3.out) hb4) ⟨g4,0,none⟩ _ _ (qao lc) rfl (by rw [qg8];omega) HN4.out (qd5 _) ?_ ?_ ?_ ?_);(focus(unfold maxLen;omega));(focus omega);(focus omega);intro v5 w5 ho5 hg5 _;have hbB5:Below (w.heap.size+1) w3 w5:=(hbB4.grown hg5 oQ (fun j e=>((qdh (qgv HO3.out) hb4).lt j e).1));have HO5:=hdQ ho5;have hz5:=hbB5.size;clear ho5));refine hK.out _ _ (by first|with_reducible exact qdm|with_reducible exact Below.drew qdm|exact bel) ?_;clear hK K)|(refine qab qaa rfl (fun K hK=> ?_);go_simp;((first|(go_at_call 198;(with_reducible refine(HC.out _).mono ?_);rintro e w4 ⟨s4,rfl,ho4,hb4⟩;obtain⟨g4,e4,rfl,hnw4,hl4,hg4⟩:=qll ho4 oQ;have HN4:=hdQ hnw4;clear hnw4 ho4;obtain⟨hc4,hf4,hz4⟩:=bc3 hb4;(try simp at hz4);have hy4:=ol1 w w4;have hbB4:Below (w.heap.size+1) w3 w4:=((Below.refl _ _).drew.trans (hb4.mono (by(try simp);omega))))|(go_at_call 198;(with_reducible refine(HD.out _).mono ?_);rintro e w6 ⟨s6,rfl,ho6,hb6⟩;obtain⟨g6,e6,rfl,hnw6,hl6,hg6⟩:=qll ho6 oQ;have HN6:=hdQ hnw6;clear hnw6 ho6;obtain⟨hc6,hf6,hz6⟩:=bc3 hb6;(try simp at hz6);have hy6:=ol1 w w6;have hbB6:Below (w.heap.size+1) w3 w6:=(hbB5.trans (hb6.mono oQ)))  | skip)<;>(refine hK.out _ _ (by first|with_reducible exact qdm|with_reducible exact Below.drew qdm|exact bel) ?_;clear hK K))))
 (all_goals try simp only [Act.put,lsi,lsz,lss]);all_goals(refine qad ?_)
 go_wp2;go_ret;refine⟨_,rfl,?_,bel⟩;have h:=qdo HO7.out (Nat.le_succ w.heap.size)
 rw [HK.out]
 simp only [zny,qm0]
 exact h
def rdS (l:List Nat) (k:Nat) (a b c d:Int) (r:List Nat):Prop:=
 match k with
 | 0=>r=l
 | 1=>dec l=some (a,r)
 | 2=>∃l1,dec l=some (a,l1)/\dec l1=some (b,r)
 | 3=>∃l1 l2,dec l=some (a,l1)/\dec l1=some (b,l2)/\dec l2=some (c,r)
 | _=>∃l1 l2 l3,dec l=some (a,l1)/\dec l1=some (b,l2)/\dec l2=some (c,l3)/\dec l3=some (d,r)
theorem qki {l r:List Nat} {k:Nat} {a b c d:Int} (hk:k<4) (h:rdS l k a b c d r) (hd:dec r=none):qbw l=none:=by
 have:k=0\/k=1\/k=2\/k=3:=oQ
 rcases this with rfl|rfl|rfl|rfl
 · simp only [rdS] at h;subst h;unfold qbw;rw [hd]
 · simp only [rdS] at h;unfold qbw;rw [h];simp only;rw [hd]
 · obtain⟨l1,h1,h2⟩:=h;unfold qbw;rw [h1];simp only;rw [h2];simp only;rw [hd]
 · obtain⟨l1,l2,h1,h2,h3⟩:=h;unfold qbw;rw [h1];simp only;rw [h2];simp only;rw [h3];simp only;rw [hd]
theorem q41 {l r:List Nat} {a b c d:Int} (h:rdS l 4 a b c d r):qbw l=if r= []/\okBx ⟨⟨a,b⟩,⟨c,d⟩⟩=true then some ⟨⟨a,b⟩,⟨c,d⟩⟩ else none:=by
 obtain⟨l1,l2,l3,h1,h2,h3,h4⟩:=h;unfold qbw
 rw [h1];simp only;rw [h2];simp only;rw [h3];simp only;rw [h4]
theorem qkq {l r:List Nat} {x:Int} (hl:∀c∈l,c<256) (h:dec l=some (x,r)):(∀c∈r,c<256)/\r.length<l.length/\r=l.drop (l.length-r.length)/\in64 x:=by
 obtain⟨h1,h2⟩:=qgh hl h;have h3:=(qee h1).1;refine⟨fun c hc=>hl c (by rw [h2];simp [hc]),by rw [h2,zny];omega,?_,h1⟩
 rw [h2,zny,Nat.add_sub_cancel]
 simp
def qef (l:List Nat):Value:=match qbw l with
 | none=> .tuple #[bxV 0 0 0 0,.bool false]
 | some b=> .tuple #[bxV b.lo.x b.lo.y b.hi.x b.hi.y,.bool true]
theorem qd1 {W:World} {g:Nat} {t:TypeId} {x y z u a b c d:Value} (h:Blk W g t #[x,y,z,u]):
 Blk ((((W.setCell ⟨g,0,none⟩ a).setCell ⟨g,1,none⟩ b).setCell ⟨g,2,none⟩ c).setCell ⟨g,3,none⟩ d) g t #[a,b,c,d]:=
 ((((h.set_ 0 a).set_ 1 b).set_ 2 c).set_ 3 d).eq_ sI
abbrev clsV (k:Int):Value:=.iface 121 (.agg #[.int .i64 k])
theorem q3z (k:Int) (w:World) (h1:1<=k) (h4:k<=4):C9 23 #[.int .i64 k] w (Ret w (.tuple #[clsV k,.nilIface])):=by
 have e1:¬ k<1:=oQ
 have e2:¬ 4<k:=oQ
 go_enter Tryz.func23,Tryz.ntmps23
 go_wp2
 go_ret2
 exact⟨rfl,bel⟩
theorem q59 (B n c:Nat) (k:Int) (A:Option Addr) (l:List Pt) (w:World) (hl:qak w B A n l) (hB:B<=w.heap.size) (hn:n<=1000000) (ho:ckOb ⟨k,l⟩=0) (hb:inBx (qas ⟨k,l⟩)):
 C9 234 #[.agg #[.int .i64 k],obV k A n c] w fun e w' =>∃s,e=.returned (.tuple #[s,.nilIface])/\w'.ownsRow w.heap.size 5 1 s (keyL (qas ⟨k,l⟩)).length (qao (keyL (qas ⟨k,l⟩)))/\Below w.heap.size w w' :=by
 obtain⟨X,hX⟩:∃X,qas ⟨k,l⟩=X:=⟨_,rfl⟩
 have HB:Hid (∀w',Below w.heap.size w w' ->C9 105 #[obV k A n c] w' (Ret w' (.tuple #[bxV X.lo.x X.lo.y X.hi.x X.hi.y,.nilIface]))):=fun w' h=>by
  have:=qri B n c k A l w' (hl.tr h hB) (zcy hB h.size) hn ho;rw [hX] at this;exact this
 rw [hX] at hb ⊢
 have HK:Hid (∀w',C9 239 #[bxV X.lo.x X.lo.y X.hi.x X.hi.y] w' (RetB w' (keyL X))):=fun w' =>q5k _ _ _ _ hb w'
 generalize keyL X=K at*;clear hl ho hb hX
 go_enter Tryz.func234,Tryz.ntmps234
 go_wp2_with (first|(go_at_call 105;(with_reducible refine(HB.out _ ?_).mono ?_);exact bel;rintro e wu ⟨rfl,hbu⟩;obtain⟨hcu,hfu,hzu⟩:=bc3 hbu;(try simp at hzu);obtain⟨hyu0,hyu1⟩:=ol2 w wu)|(go_at_call 239;(with_reducible refine(HK.out _).mono ?_);rintro e w5 ⟨s5,rfl,ho5,hb5⟩;obtain⟨hc5,hf5,hz5⟩:=bc3 hb5;(try simp at hz5)))
 go_ret2
 exact⟨_,rfl,qdo ho5 (by(try simp);omega),bel⟩
theorem q6s {w:World} {g:Nat} {p:Pt} {t:TypeId} (h:Blk w g t #[.int .i64 p.x,.int .i64 p.y]):qak w w.heap.size (some ⟨g,0,none⟩) 1 [p]:=
 ⟨rfl,fun _=>⟨g,0,rfl,h.lt,fun k s hs=>by
  match k,hs with
  | 0,hs=>
    simp at hs
    subst hs
    exact⟨by rw [h.cell];rfl,by rw [h.cell];rfl⟩⟩⟩
def ErrD (w:World) (k:Nat):Nat->Value->Prop
 | 0,v=>v=.iface 75 (.int .i64 k)
 | d+1,v=>∃(g:Nat) (s:ByteArray) (id:Int) (inner:Value),v=qqt g/\Blk w g 124 #[.string s,.int .i64 id,inner]/\ErrD w k d inner
theorem ErrD.keep {w w' :World} {k:Nat} (hk:∀{g:Nat} {cs:Array Value},Blk w g 124 cs->Blk w' g 124 cs):∀(d:Nat) (v:Value),ErrD w k d v->ErrD w' k d v:=by
 intro d
 induction d with
 | zero=>intro v h;exact h
 | succ d ih=>
   intro v h;obtain⟨g,s,id,inner,hv,hB,hi⟩:=h;exact⟨g,s,id,inner,hv,hk hB,ih inner hi⟩
def ErrX (w:World) (v:Value) (k:Nat) (s:ByteArray) (id:Int):Prop:=
 (k=0/\v=.nilIface)\/(k≠0/\∃(g d:Nat) (inner:Value),v=qqt g/\Blk w g 124 #[.string s,.int .i64 id,inner]/\ErrD w k d inner)
def ErrY (w:World) (v:Value) (k:Nat):Prop:=(k=0/\v=.nilIface)\/(k≠0/\∃d,ErrD w k d v)
theorem ErrY.keep {w w' :World} {v:Value} {k:Nat} (hk:∀{g:Nat} {cs:Array Value},Blk w g 124 cs->Blk w' g 124 cs) (h:ErrY w v k):ErrY w' v k:=by
 rcases h with h|⟨h0,d,hi⟩
 · exact .inl h
 · exact .inr ⟨h0,d,hi.keep hk d v⟩
theorem ErrY.tr {w w' :World} {v:Value} {k:Nat} (h:ErrY w v k) (hb:Below w.heap.size w w'):ErrY w' v k:=h.keep (fun hB=>hB.tr hb)
theorem ErrX.y {w:World} {v:Value} {k:Nat} {s:ByteArray} {id:Int} (h:ErrX w v k s id):ErrY w v k:=by
 rcases h with h|⟨h0,g,d,inner,hv,hB,hi⟩
 · exact .inl h
 · exact .inr ⟨h0,d+1,g,s,id,inner,hv,hB,hi⟩
theorem ErrY.zero {w:World} {v:Value} (h:ErrY w v 0):v=.nilIface:=by
 rcases h with ⟨_,h⟩|⟨h,_⟩
 · exact h
 · exact absurd rfl h
theorem ErrX.zero {w:World} {v:Value} {s:ByteArray} {id:Int} (h:ErrX w v 0 s id):v=.nilIface:=h.y.zero
theorem ErrD.some {w:World} {k:Nat}:∀(d:Nat) (v:Value),ErrD w k d v->∃t u,v=.iface t u
 | 0,v,h=>⟨_,_,h⟩
 | d+1,v,⟨g,s,id,inner,hv,_,_⟩=>⟨_,_,hv⟩
theorem ErrY.succ {w:World} {v:Value} {k:Nat} (h:ErrY w v k) (hk:k≠0):∃t u,v=.iface t u:=by
 rcases h with ⟨h,_⟩|⟨_,d,h⟩
 · exact absurd h hk
 · exact h.some
theorem ErrX.succ {w:World} {v:Value} {k:Nat} {s:ByteArray} {id:Int} (h:ErrX w v k s id) (hk:k≠0):∃t u,v=.iface t u:=h.y.succ hk
theorem ql9 {w:World} {v:Value} {k:Nat} (h0:k≠0) (h:v=errV k):ErrD w k 0 v:=by rw [h,q5u h0];rfl
theorem ErrC.y {w:World} {v:Value} {k:Nat} (h:ErrC w v k):ErrY w v k:=by
 by_cases h0:k=0
 · subst h0
   exact .inl ⟨rfl,h.zero⟩
 · rcases h with h|⟨h,_⟩|⟨_,g,s,id,hv,hB⟩
   · exact .inr ⟨h0,0,ql9 h0 h⟩
   · exact absurd h h0
   · exact .inr ⟨h0,1,g,s,id,_,hv,hB,ql9 h0 rfl⟩
theorem ErrC.d {w:World} {v:Value} {k:Nat} (h:ErrC w v k) (h0:k≠0):∃d,ErrD w k d v:=by
 rcases h.y with ⟨h,_⟩|⟨_,h⟩
 · exact absurd h h0
 · exact h
theorem ErrW.x {w:World} {v:Value} {k:Nat} {s:ByteArray} {id:Int} (h:ErrW w v k s id):ErrX w v k s id:=by
 rcases h with h|⟨h0,g,inner,hv,hB,hi⟩
 · exact .inl h
 · obtain⟨d,hd⟩:=hi.d h0
   exact .inr ⟨h0,g,d,inner,hv,hB,hd⟩
theorem qz8 {w:World} {k:Nat}:ErrY w (errV k) k:=by
 by_cases h0:k=0
 · subst h0;exact .inl ⟨rfl,rfl⟩
 · exact .inr ⟨h0,0,ql9 h0 rfl⟩
theorem qfz (s:ByteArray) (id:Int) (v:Value) (k:Nat) (w:World) (hv:ErrY w v k):
 C9 24 #[.string s,.int .i64 id,v] w fun e w' =>∃v',e=.returned v' /\ErrX w' v' k s id/\Below w.heap.size w w' :=by
 by_cases hk:k=0
 · subst hk
   have:=hv.zero;subst this
   go_enter Tryz.func24,Tryz.ntmps24
   go_wp2;go_ret;exact⟨_,rfl,.inl ⟨rfl,rfl⟩,bel⟩
 · obtain⟨t,u,rfl⟩:=hv.succ hk
   have HV:=hdQ hv;clear hv
   go_enter Tryz.func24,Tryz.ntmps24
   go_wp2;go_ret;refine⟨_,rfl,?_,bel⟩
   rcases HV.out with ⟨h,_⟩|⟨_,d,hd⟩
   · exact absurd h hk
   · exact .inr ⟨hk,_,d,_,rfl,Blk.new rfl rfl,hd.keep (fun hB=>hB.alloc _) d _⟩
end Go.Proofs.YtfnhnjbkkggbeaaGreat
namespace Pg
open Go Go.RowKit
theorem qnc {w w' :World} {base:Nat} {e:TypeId} {size:Nat} {v:Value} {n:Nat} {xs:List Value} (h:w.ownsRow base e size v n xs) (hb:Below w.heap.size w w'):w'.ownsRow base e size v n xs:=by
 obtain⟨h1,h2|⟨g,cap,cur,hv,hg,hh,r⟩⟩:=h
 · exact⟨h1,.inl h2⟩
 · refine⟨h1,.inr ⟨g,cap,cur,hv,hg,(hb.block g ?_).trans hh,r⟩⟩
   rcases zry g w.heap.size with h|h
   · exact h
   · rw [zxy h] at hh;cases hh
theorem qp6 {w w' :World} {base base' :Nat} {e e' :TypeId} {size size' :Nat} {v v' :Value} {n n' :Nat} {xs xs' :List Value} (h:w.ownsRow base e size v n xs) (h' :w.ownsRow base' e' size' v' n' xs') (he:e≠e') (hg:w.grownBy w' v'.ownBlock):w'.ownsRow base e size v n xs:=by
 obtain⟨h1,h2|⟨g,cap,cur,hv,hgb,hh,r⟩⟩:=h
 · exact⟨h1,.inl h2⟩
 · refine⟨h1,.inr ⟨g,cap,cur,hv,hgb,(hg.block g ?_ ?_).trans hh,r⟩⟩
   · rcases zry g w.heap.size with h|h
     · exact h
     · rw [zxy h] at hh;cases hh
   · intro hne
     obtain⟨_,⟨rfl,_⟩|⟨g',_,cur',rfl,_,hh',_⟩⟩:=h'
     · cases hne
     · unfold Value.ownBlock at hne
       injection hne with hne
       subst hne
       rw [hh] at hh'
       injection hh' with hh'
       injection hh' with _ h2 _
       exact he h2
end Pg
namespace Go.Proofs.YtfnhnjbkkggbeaaGreat
open Go.RowKit Pg
def qhy (w:World) (base:Nat) (v:Value) (L:List (List Nat)):Prop:=
 ∃cs:List Value,w.ownsRow base 94 1 v L.length cs/\∀(j:Nat) (u:Value),cs[j]? =some u->∃l,L[j]? =some l/\w.ownsRow base 5 1 u l.length (qao l)
theorem qhy.nil (w:World) (base:Nat):qhy w base (.slice none 0 0) []:=⟨[],World.ownsRow_nil _ _ _ _,fun j u h=>by simp at h⟩
theorem qhy.below {w w' :World} {base:Nat} {v:Value} {L:List (List Nat)} (h:qhy w base v L) (hb:Below w.heap.size w w'):qhy w' base v L:=by
 obtain⟨cs,h1,h2⟩:=h;refine⟨cs,qnc h1 hb,fun j u hu=> ?_⟩
 obtain⟨l,hl,ho⟩:=h2 j u hu;exact⟨l,hl,qnc ho hb⟩
theorem qss {w w' :World} {base:Nat} {v v' s:Value} {L:List (List Nat)} {l:List Nat} {cs:List Value} (h1:w.ownsRow base 94 1 v L.length cs) (h2:∀(j:Nat) (u:Value),cs[j]? =some u->∃l,L[j]? =some l/\w.ownsRow base 5 1 u l.length (qao l))
 (hs:w.ownsRow base 5 1 s l.length (qao l)) (h3:w'.ownsRow base 94 1 v' (L.length+1) (cs++ [s])) (hg:w.grownBy w' v.ownBlock):qhy w' base v' (L++ [l]):=by
 have hcl:cs.length=L.length:=by rw [h1.1];omega
 refine⟨cs++ [s],by rw [zny,List.length_singleton];exact h3,fun j u hu=> ?_⟩
 rcases zry j cs.length with hj|hj
 · rw [zex hj] at hu
   obtain⟨l',hl',ho⟩:=h2 j u hu;exact⟨l',by rw [zex oQ];exact hl',qp6 ho h1 dE hg⟩
 · rw [zdx hj] at hu
   have hj0:j=cs.length:=by
    rcases Nat.eq_or_lt_of_le hj with h|h
    · exact h.symm
    · rw [zoy (by simp;omega)] at hu;cases hu
   subst hj0
   simp at hu
   subst hu;exact⟨l,by rw [hcl,zdx (zhy _)];simp,qp6 hs h1 dE hg⟩
theorem qlg {w:World} {base:Nat} {v:Value} {L:List (List Nat)} (h:qhy w base v L):∃A c,v=.slice A L.length c/\qfd w w.heap.size A L.length L:=by
 obtain⟨cs,h1,h2⟩:=h;have h1' :=h1;obtain⟨hlen,⟨rfl,h0⟩|⟨g,cap,cur,rfl,hg,hh,r⟩⟩:=h1
 · rw [h0]
   exact⟨none,0,rfl,h0,fun h=>absurd h oQ⟩
 · refine⟨_,cap,rfl,rfl,fun hn=>⟨g,0,rfl,?_,fun k l hl=> ?_⟩⟩
   · rcases zry g w.heap.size with h|h
     · exact h
     · rw [zxy h] at hh;cases hh
   have hk:k<L.length:=by
    rcases zry k L.length with h|h
    · exact h
    · rw [zoy h] at hl;cases hl
   have hk2:k<cs.length:=oQ
   obtain⟨u,hu⟩:∃u,cs[k]? =some u:=⟨_,zby hk2⟩;obtain⟨l',hl',ho⟩:=h2 k u hu
   rw [hl] at hl'
   injection hl' with hl'
   subst hl';obtain⟨A',c',rfl,hB,hln,hz,hm⟩:=qa7 ho;refine⟨A',l.length,c',?_,hB,hz,hm⟩
   rw [Nat.zero_add,h1'.cellAt k oQ]
   exact hu
end Go.Proofs.YtfnhnjbkkggbeaaGreat
